import Derived.Test.YtmhboloicpieeaaGreatDoorRC5
import Derived.Test.YtmhboloicpieeaaGreatDoorRX10
import Derived.Test.YtmhboloicpieeaaGreatDoorRY14
set_option maxRecDepth 100000
set_option linter.all false
namespace Go.Proofs.YtmhboloicpieeaaGreatDoor
open Go.Ab Go.ChangeShapes Go.WideShapes Go.ChangeAt Go.RowKit
def mS (s : ByteArray) : Nat := s.size + 1
def mP (p : Pat) : Nat := (p.parts.map mS).sum + 2
def mH (x : Etr) : Nat := max (max (mP x.left) (mP x.right)) ((x.holes.map mP).sum + 1)
section
variable {H : Type} {enc : TypeId × Value → H} {w : World} {fuel : Nat} {cs : List Value} {d : DataW H} {p : List MemPlace}
theorem tr_strs (h : tr enc w fuel 77 cs = some (d, p)) : ∃ (l : List ByteArray) (v : Value), cs = [v] ∧ RepD noM w (.ps 1 (l.map encS)) v ∧ (l.map mS).sum + 1 ≤ Rows.uptoBulk d :=
 tr_slice Tryz.underlying77 (by kernel_rfl) (by omega) (fun _ _ _ _ h => by
  obtain ⟨s, e, k⟩ := tr_str Tryz.underlying9 h
  subst e
  exact ⟨s, .cons (.v _ rfl) .nil, by simp only [mS]; omega⟩) h
theorem tr_pat (h : tr enc w fuel 79 cs = some (d, p)) : ∃ (l : List ByteArray) (v : Value) (b : Bool), cs = [v, .bool b] ∧ RepD noM w (.ps 1 (l.map encS)) v ∧ mP ⟨l, b⟩ ≤ Rows.uptoBulk d := by
 obtain ⟨hl, f, xs, hm, rfl⟩ := tr_struct Tryz.underlying79 h
 rw [show Tryz.prog.cellsOf 79 = 2 by kernel_rfl] at hl
 obtain ⟨c0, c1, rfl⟩ : ∃ c0 c1, cs = [c0, c1] := by
  rcases cs with _ | ⟨a0, _ | ⟨a1, _ | ⟨az, cs⟩⟩⟩
  all_goals simp at hl
  exact ⟨_, _, rfl⟩
 obtain ⟨_, hg⟩ := mapM_get hm
 obtain ⟨b0, g0, e0⟩ := hg 0 _ rfl
 rw [show (([c0, c1] : List Value).drop 0).take (Tryz.prog.cellsOf 77) = [c0] by rw [show Tryz.prog.cellsOf 77 = 1 by kernel_rfl]; rfl] at e0
 obtain ⟨b1, g1, e1⟩ := hg 1 _ rfl
 rw [show (([c0, c1] : List Value).drop 1).take (Tryz.prog.cellsOf 4) = [c1] by rw [show Tryz.prog.cellsOf 4 = 1 by kernel_rfl]; rfl] at e1
 obtain ⟨l, v, h0, q0, k0⟩ := tr_strs e0
 simp only [List.cons.injEq, and_true] at h0; subst h0
 have r0 := bulk_part g0
 obtain ⟨b, h1⟩ := tr_bool Tryz.underlying4 e1
 simp only [List.cons.injEq, and_true] at h1; subst h1
 exact ⟨l, _, b, rfl, q0, by simp only [Rows.uptoBulk, mP]; omega⟩
theorem tr_pats (h : tr enc w fuel 80 cs = some (d, p)) : ∃ (l : List Pat) (v : Value), cs = [v] ∧ RepD noM w (.ps 2 (l.map encPat)) v ∧ (l.map mP).sum + 1 ≤ Rows.uptoBulk d :=
 tr_slice Tryz.underlying80 (by kernel_rfl) (by omega) (fun _ _ _ _ h => by
  obtain ⟨l, v, b, e, q, k⟩ := tr_pat h
  subst e
  exact ⟨⟨l, b⟩, .cons q (.cons (.v _ rfl) .nil), k⟩) h
theorem tr_etr (h : tr enc w fuel 82 cs = some (d, p)) : ∃ x : Etr, All2 (RepD noM w) (encEtr x) cs ∧ mH x ≤ Rows.uptoBulk d := by
 obtain ⟨hl, f, xs, hm, rfl⟩ := tr_struct Tryz.underlying82 h
 rw [show Tryz.prog.cellsOf 82 = 5 by kernel_rfl] at hl
 obtain ⟨c0, c1, c2, c3, c4, rfl⟩ : ∃ c0 c1 c2 c3 c4, cs = [c0, c1, c2, c3, c4] := by
  rcases cs with _ | ⟨a0, _ | ⟨a1, _ | ⟨a2, _ | ⟨a3, _ | ⟨a4, _ | ⟨az, cs⟩⟩⟩⟩⟩⟩
  all_goals simp at hl
  exact ⟨_, _, _, _, _, rfl⟩
 obtain ⟨_, hg⟩ := mapM_get hm
 obtain ⟨b0, g0, e0⟩ := hg 0 _ rfl
 rw [show (([c0, c1, c2, c3, c4] : List Value).drop 0).take (Tryz.prog.cellsOf 79) = [c0, c1] by rw [show Tryz.prog.cellsOf 79 = 2 by kernel_rfl]; rfl] at e0
 obtain ⟨b1, g1, e1⟩ := hg 1 _ rfl
 rw [show (([c0, c1, c2, c3, c4] : List Value).drop 2).take (Tryz.prog.cellsOf 79) = [c2, c3] by rw [show Tryz.prog.cellsOf 79 = 2 by kernel_rfl]; rfl] at e1
 obtain ⟨b2, g2, e2⟩ := hg 2 _ rfl
 rw [show (([c0, c1, c2, c3, c4] : List Value).drop 4).take (Tryz.prog.cellsOf 80) = [c4] by rw [show Tryz.prog.cellsOf 80 = 1 by kernel_rfl]; rfl] at e2
 obtain ⟨l0, v0, b0', h0, q0, k0⟩ := tr_pat e0
 simp only [List.cons.injEq, and_true] at h0; obtain ⟨rfl, rfl⟩ := h0
 have r0 := bulk_part g0
 obtain ⟨l1, v1, b1', h1, q1, k1⟩ := tr_pat e1
 simp only [List.cons.injEq, and_true] at h1; obtain ⟨rfl, rfl⟩ := h1
 have r1 := bulk_part g1
 obtain ⟨l2, v2, h2, q2, k2⟩ := tr_pats e2
 simp only [List.cons.injEq, and_true] at h2; subst h2
 have r2 := bulk_part g2
 exact ⟨⟨⟨l0, b0'⟩, ⟨l1, b1'⟩, l2⟩, .cons q0 (.cons (.v _ rfl) (.cons q1 (.cons (.v _ rfl) (.cons q2 .nil)))), by simp only [Rows.uptoBulk, mH]; omega⟩
theorem tr_etrs (h : tr enc w fuel 23 cs = some (d, p)) : ∃ (l : List Etr) (v : Value), cs = [v] ∧ RepD noM w (.ps 5 (l.map encEtr)) v ∧ (l.map mH).sum + 1 ≤ Rows.uptoBulk d :=
 tr_slice Tryz.underlying23 (by kernel_rfl) (by omega) (fun _ _ _ _ h => tr_etr h) h
end
section
variable {H : Type} {enc : TypeId × Value → H} {W : World} {base : Nat} {v : Value} {d : DataW H} {p : List MemPlace}
theorem arg_etrs (h : DataW.Trod enc Tryz.prog W 0 (fun _ => true) true 23 v d p) (ok : Value.okWide Tryz.prog W .any base 23 v) :
  ∃ l : List Etr, RepAV (mkK (X.start bl0 cap0 noM [] W) bl0 cap0 [] W) (aEtrs l) v ∧ (l.map mH).sum + 1 ≤ Rows.uptoBulk d := by
 obtain ⟨fuel, h⟩ := h
 obtain ⟨l, w0, e0, rep0, k0⟩ := tr_etrs h
 rw [okSlice Tryz.underlying23 ok] at e0
 simp only [List.cons.injEq, and_true] at e0
 subst e0
 exact ⟨l, rep_start rep0, k0⟩
theorem mP_PB {n : Nat} {p : Pat} (h : mP p ≤ n) : PB n p := by
 unfold mP at h
 refine ⟨?_, fun s hs => ?_⟩
 ·have := sum_len (m := mS) (fun x => by simp [mS]) p.parts; omega
 ·have := sum_ge (m := mS) hs; simp only [mS] at this h; omega
theorem sum_len2 {α : Type} {m : α → Nat} (hm : ∀ x, 2 ≤ m x) : ∀ l : List α, 2 * l.length ≤ (l.map m).sum
 | [] => by simp
 | y :: l => by
   have := sum_len2 hm l
   have := hm y
   simp only [List.map_cons, List.sum_cons, List.length_cons]; omega
theorem etrs_of {l : List Etr} {n : Nat} (h : (l.map mH).sum ≤ n) : l.length ≤ n ∧ (∀ e ∈ l, EB n e) ∧ ∀ e ∈ l, 2 * e.holes.length ≤ n := by
 refine ⟨?_, fun e he => ?_, fun e he => ?_⟩
 ·have := sum_len (m := mH) (fun x => by simp only [mH]; omega) l; omega
 ·have h1 := Nat.le_trans (sum_ge (m := mH) he) h
  have h2 : mP e.left ≤ n := by simp only [mH] at h1; omega
  have h3 : mP e.right ≤ n := by simp only [mH] at h1; omega
  have h4 : (e.holes.map mP).sum ≤ n := by simp only [mH] at h1; omega
  refine ⟨mP_PB h2, mP_PB h3, ?_, fun x hx => mP_PB (Nat.le_trans (sum_ge (m := mP) hx) h4)⟩
  have := sum_len (m := mP) (fun x => by simp [mP]) e.holes; omega
 ·have h1 := Nat.le_trans (sum_ge (m := mH) he) h
  have h4 : (e.holes.map mP).sum ≤ n := by simp only [mH] at h1; omega
  have := sum_len2 (m := mP) (fun x => by simp only [mP]; omega) e.holes; omega
@[reducible] def encCon (c : Int × Int) : List D := [.v (.int .u64 c.1), .v (.int .i64 c.2)]
theorem arg_con (h : DataW.Trod enc Tryz.prog W 0 (fun _ => true) true 44 v d p) (ok : Value.okWide Tryz.prog W .any base 44 v) :
  ∃ c : Int × Int, RepAV (mkK (X.start bl0 cap0 noM [] W) bl0 cap0 [] W) (.agg ((encCon c).map C.d)) v := by
 obtain ⟨fuel, h⟩ := h
 obtain ⟨a, b, e⟩ := tr_con h
 have rep : All2 (RepD noM W) (encCon (a, b)) v.cells.toList := by
  rw [e]
  exact .cons (.v _ rfl) (.cons (.v _ rfl) .nil)
 refine ⟨(a, b), ?_⟩
 rw [okAgg Tryz.underlying44 ok]
 have := repAgg rep
 simpa using this
end
end Go.Proofs.YtmhboloicpieeaaGreatDoor
namespace Go.Proofs.YtmhboloicpieeaaGreatDoor.stale
open Go.Ab Go.ChangeShapes Go.WideShapes Go.ChangeAt Go.RowKit
theorem contract (H : Type) (enc : TypeId × Value → H) (W : World) (base : Nat) (args : Array Value) (ds gs : List (DataW H)) (before : List MemPlace)
  (hval : ∀ (j : Nat) t v, Tryz.f4.params[j]? = some t → args[j]? = some v → Value.okWide Tryz.prog W .any base t v)
  (hW : DataW.Whole enc Tryz.prog Tryz.f4.params.toList Rows.resolveStaleSpec.vars false W args.toList ds gs before) (hk : Rows.uptoSmall H (ds ++ gs) = true) :
  Calls Tryz.prog 4 args W fun e W' => ∃ v, e = .returned v ∧ Rows.resolveStaleSpec.post enc Tryz.prog Tryz.f4 false true false false W args v W' := by
 have hW' := hW
 have hlt := hW.lt
 obtain ⟨p, q, hA0, hV, rfl, hfz, hnd⟩ := hW
 have hA : DataW.TrodAll enc Tryz.prog W 0 (fun _ => true) true Tryz.f4.params.toList args.toList ds p := hA0
 rw [Tryz.params4] at hA hval
 obtain ⟨v0, vs0, d0, ds0, p0, q0, hargs, rfl, rfl, h0, r0⟩ := trodAll_cons hA
 obtain ⟨v1, vs1, d1, ds1, p1, q1, rfl, rfl, rfl, h1, r1⟩ := trodAll_cons r0
 obtain ⟨v2, vs2, d2, ds2, p2, q2, rfl, rfl, rfl, h2, r2⟩ := trodAll_cons r1
 obtain ⟨v3, vs3, d3, ds3, p3, q3, rfl, rfl, rfl, h3, r3⟩ := trodAll_cons r2
 obtain ⟨rfl, rfl, rfl⟩ := trodAll_nil r3
 obtain rfl : args = #[v0, v1, v2, v3] := by cases args; simp_all
 obtain ⟨rfl, rfl⟩ := trodVars_none hV
 have hb := of_decide_eq_true hk
 simp only [List.cons_append, List.nil_append, Rows.uptoBulkAll] at hb
 obtain ⟨x0, rep0, k0⟩ := arg_chgs h0 (hval 0 22 v0 rfl rfl)
 obtain ⟨x1, rep1, k1⟩ := arg_etrs h1 (hval 1 23 v1 rfl rfl)
 obtain ⟨x2, rep2⟩ := arg_int h2 (hval 2 3 v2 rfl rfl)
 obtain ⟨x3, rep3⟩ := arg_con h3 (hval 3 44 v3 rfl rfl)
 have hc := ResolveStale_ac x0 (few_of (n := 1048576) (by omega) (by omega)) x1 (etrs_of (n := 1048576) (by omega)).1 (fun e he => ⟨(etrs_of (n := 1048576) (by omega)).2.1 e he, by have := (etrs_of (l := x1) (n := 1048576) (by omega)).2.2 e he; omega⟩) x2 x3.1 x3.2
 refine (calls_true hc (us := [v0, v1, v2, v3]) (.cons rep0 (.cons rep1 (.cons rep2 (.cons rep3 .nil))))).mono fun e W' ⟨he, hbel⟩ => ?_
 subst he
 have hl0 : ∀ x ∈ p0, x.block < W.heap.size := fun x hx => hlt x (by simp [hx])
 have hl1 : ∀ x ∈ p1, x.block < W.heap.size := fun x hx => hlt x (by simp [hx])
 have hl2 : ∀ x ∈ p2, x.block < W.heap.size := fun x hx => hlt x (by simp [hx])
 have hl3 : ∀ x ∈ p3, x.block < W.heap.size := fun x hx => hlt x (by simp [hx])
 refine ⟨_, rfl, _, _, _, [], _, [], hW', trodAll_cons_mk (shut_bool Tryz.underlying4 _) trodAll_mk0,
  trodAll_cons_mk (Below.trod laidOut (by kernel_rfl) (of_decide_eq_true (by kernel_rfl)) h0 hbel hl0) (trodAll_cons_mk (Below.trod laidOut (by kernel_rfl) (of_decide_eq_true (by kernel_rfl)) h1 hbel hl1) (trodAll_cons_mk (Below.trod laidOut (by kernel_rfl) (of_decide_eq_true (by kernel_rfl)) h2 hbel hl2) (trodAll_cons_mk (Below.trod laidOut (by kernel_rfl) (of_decide_eq_true (by kernel_rfl)) h3 hbel hl3) (trodAll_mk0)))),
  rfl, hbel.frame _, fun h => by cases h⟩
@[reducible] def wargs : Array Value := #[.slice none 0 0, .slice none 0 0, .int .i64 0, .agg #[.int .u64 0, .int .i64 0]]
theorem laid_met (os : Os) : laidMet Tryz.prog Rows.resolveStaleUptoRow.laid ((laidWorld os).forCall (fun _ _ => 0) ⟨#[], wargs, []⟩).memory :=
 laidMet_of_run' 8 (by kernel_rfl) (by kernel_rfl)
theorem reads (os : Os) {H : Type} (enc : TypeId × Value → H) : ∃ places, DataW.whole enc Tryz.prog ((laidWorld os).forCall (fun _ _ => 0) ⟨#[], wargs, []⟩).memory Tryz.f4.params.toList Rows.resolveStaleSpec.vars false wargs.toList 8 =
  some ([.nil, .nil, .lit (.int .i64 0), .agg [.lit (.int .u64 0), .lit (.int .i64 0)]], [], places) :=
 ⟨[], by kernel_rfl⟩
theorem liftedUpto (os : Os) (started : os.Started) (H : Type) (enc : TypeId × Value → H) (F : Stop.Interp) :
  ReturnsInHanded {} Tryz.checked os 4 .any ((Rows.OpenSpec.upto Rows.resolveStaleSpec).preRow enc Tryz.prog Tryz.f4 Rows.resolveStaleUptoRow.domain false Rows.resolveStaleUptoRow.laid) (((Rows.OpenSpec.upto Rows.resolveStaleSpec).at F).post enc Tryz.prog Tryz.f4 false true false false) := by
 obtain ⟨places, hx⟩ := reads os enc
 refine returnsInHanded_of_row (C := Tryz.checked) (s := Rows.OpenSpec.upto Rows.resolveStaleSpec) own started (by kernel_rfl) Tryz.func4
  (witness_row_at (enc := enc) (C := Tryz.checked) false (laidWorld os) wargs rfl (by kernel_rfl) (by kernel_rfl) (by kernel_rfl)
   (OpenSpec.preRow_of_cond 8 hx (by kernel_rfl) (fun k hk => by cases hk; kernel_rfl) (by kernel_rfl) (laid_met os))) ?_
 intro W base args ds gs before hval hW q1 q2 q3 q4 q5 q6
 have C := contract H enc W base args ds gs before hval hW
 first | exact C (q1 _ rfl) | exact C (q2 _ rfl) | exact C (q4 _ rfl) | exact C (q5 _ rfl) | exact C (q6 _ rfl)
theorem saidUpto : Rows.ResolveStaleUptoSaid :=
 OpenClaim.holds_of_cond 4 Tryz.f4 rfl rfl rfl rfl rfl rfl rfl ⟨rfl, rfl, rfl, rfl, rfl⟩ rfl rfl rfl rfl rfl (by kernel_rfl) Tryz.func4 (by kernel_rfl)
  (of_decide_eq_true (by kernel_rfl)) (by unfold Func.isWrapper; first | (rw [if_pos (by decide +kernel)]; kernel_rfl) | (rw [if_neg (by decide +kernel)]; exact ⟨rfl, rfl⟩))
  (fun os started H enc _ F => by rw [OpenClaim.pre_eq_preRow]; exact liftedUpto os started H enc F)
theorem plain (f : FuncId) (fn : Func) (hf : Tryz.pinned.checked.prog.funcNamed "stockyard/stockyardlaw17.ResolveStale" = some f) (hfn : Tryz.pinned.checked.prog.funcs[f]? = some fn) :
  false = Tryz.pinned.checked.prog.looks [] ∧ ∀ (j : Nat) t, fn.params[j]? = some t → Tryz.pinned.checked.prog.wantsStandIn t = false := by
 obtain rfl : f = 4 := Option.some.inj ((show Tryz.prog.funcNamed "stockyard/stockyardlaw17.ResolveStale" = some 4 by kernel_rfl).symm.trans hf) |>.symm
 obtain rfl : fn = Tryz.f4 := (Option.some.inj (Tryz.func4.symm.trans hfn)).symm
 refine ⟨by kernel_rfl, fun j t ht => ?_⟩
 rw [Tryz.params4] at ht
 have hm : t ∈ #[22, 23, 3, 44] := Array.mem_of_getElem? ht
 simp only [List.mem_toArray, List.mem_cons, List.not_mem_nil, or_false] at hm
 rcases hm with rfl | rfl | rfl | rfl
 ·exact (show Tryz.prog.wantsStandIn 22 = false by kernel_rfl)
 ·exact (show Tryz.prog.wantsStandIn 23 = false by kernel_rfl)
 ·exact (show Tryz.prog.wantsStandIn 3 = false by kernel_rfl)
 ·exact (show Tryz.prog.wantsStandIn 44 = false by kernel_rfl)
end Go.Proofs.YtmhboloicpieeaaGreatDoor.stale
namespace Go.Proofs.YtmhboloicpieeaaGreatDoor
theorem stale_card : Rows.ResolveStaleUptoCardSaid :=
 Claim7.holds_tied_plain_at .later [] _ _ _ _ stale.saidUpto (fun _ h => by cases h) (by kernel_rfl) (fun _ h => by cases h) resolveStaleUpto_row_tie rfl ⟨rfl, rfl⟩ (by kernel_rfl) rfl stale.plain (by kernel_rfl)
end Go.Proofs.YtmhboloicpieeaaGreatDoor
#print axioms Go.Proofs.YtmhboloicpieeaaGreatDoor.stale_card

/- A part of the proof. -/
import Derived.Test.YtbllfnmabmamfaaGreatDoorRBd2
import Derived.Test.YtbllfnmabmamfaaGreatDoorRW18
import Derived.Test.YtbllfnmabmamfaaGreatDoorRW15
import Derived.Test.YtbllfnmabmamfaaGreatDoorRC5
set_option linter.all false
namespace Go.Proofs.YtbllfnmabmamfaaGreatDoor
open Go.Ab Tys
theorem IntegrateExact_ac (l : List Chg) (hf : Few l) (s t : Fil) (hs : s.path.size ≤ 2000000) (ht : t.path.size ≤ 2000000) :
    AC Tryz.prog 6 [.c (.d (.ps 5 (l.map encChg))), aFil s, aFil t] [] (fun r st => r = B true ∧ st = []) :=
  exactL_ac (fun d _ hN hP => listC d hN hP) l hf s t hs ht
end Go.Proofs.YtbllfnmabmamfaaGreatDoor
namespace Go.Proofs.YtbllfnmabmamfaaGreatDoor.exactly
open Go.Ab Go.ChangeShapes Go.WideShapes Go.ChangeAt Go.RowKit
set_option maxRecDepth 100000 in
theorem contract (H : Type) (enc : TypeId × Value → H) (W : World) (base : Nat) (args : Array Value) (ds gs : List (DataW H)) (before : List MemPlace)
    (hval : ∀ (j : Nat) t v, Tryz.f6.params[j]? = some t → args[j]? = some v → Value.okWide Tryz.prog W .any base t v)
    (hW : DataW.Whole enc Tryz.prog Tryz.f6.params.toList Rows.integrateExactSpec.vars false W args.toList ds gs before) (hk : Rows.uptoSmall H (ds ++ gs) = true) :
    Calls Tryz.prog 6 args W fun e W' => ∃ v, e = .returned v ∧ Rows.integrateExactSpec.post enc Tryz.prog Tryz.f6 false true false false W args v W' := by
  have hW' := hW
  have hlt := hW.lt
  obtain ⟨p, q, hA0, hV, rfl, hfz, hnd⟩ := hW
  have hA : DataW.TrodAll enc Tryz.prog W 0 (fun _ => true) true Tryz.f6.params.toList args.toList ds p := hA0
  rw [Tryz.params6] at hA hval
  obtain ⟨v0, vs0, d0, ds0, p0, q0, hargs, rfl, rfl, h0, r0⟩ := trodAll_cons hA
  obtain ⟨v1, vs1, d1, ds1, p1, q1, rfl, rfl, rfl, h1, r1⟩ := trodAll_cons r0
  obtain ⟨v2, vs2, d2, ds2, p2, q2, rfl, rfl, rfl, h2, r2⟩ := trodAll_cons r1
  obtain ⟨rfl, rfl, rfl⟩ := trodAll_nil r2
  obtain rfl : args = #[v0, v1, v2] := by cases args; simp_all
  obtain ⟨rfl, rfl⟩ := trodVars_none hV
  have hb := of_decide_eq_true hk
  simp only [List.cons_append, List.nil_append, Rows.uptoBulkAll] at hb
  obtain ⟨x0, rep0, k0⟩ := arg_chgs h0 (hval 0 22 v0 rfl rfl)
  obtain ⟨x1, rep1, k1⟩ := arg_fil h1 (hval 1 37 v1 rfl rfl)
  obtain ⟨x2, rep2, k2⟩ := arg_fil h2 (hval 2 37 v2 rfl rfl)
  have hc := IntegrateExact_ac x0 (few_of (n := 1048576) (by omega) (by omega)) x1 x2 (by omega) (by omega)
  refine (calls_true hc (us := [v0, v1, v2]) (.cons rep0 (.cons rep1 (.cons rep2 .nil)))).mono fun e W' ⟨he, hbel⟩ => ?_
  subst he
  have hl0 : ∀ x ∈ p0, x.block < W.heap.size := fun x hx => hlt x (by simp [hx])
  have hl1 : ∀ x ∈ p1, x.block < W.heap.size := fun x hx => hlt x (by simp [hx])
  have hl2 : ∀ x ∈ p2, x.block < W.heap.size := fun x hx => hlt x (by simp [hx])
  refine ⟨_, rfl, _, _, _, [], _, [], hW', trodAll_cons_mk (shut_bool Tryz.underlying4 _) trodAll_mk0,
    trodAll_cons_mk (Below.trod laidOut (by kernel_rfl) (of_decide_eq_true (by kernel_rfl)) h0 hbel hl0) (trodAll_cons_mk (Below.trod laidOut (by kernel_rfl) (of_decide_eq_true (by kernel_rfl)) h1 hbel hl1) (trodAll_cons_mk (Below.trod laidOut (by kernel_rfl) (of_decide_eq_true (by kernel_rfl)) h2 hbel hl2) (trodAll_mk0))),
    rfl, hbel.frame _, fun h => by cases h⟩
@[reducible] def wargs : Array Value := #[.slice none 0 0, zF, zF]
set_option maxRecDepth 100000 in
theorem laid_met (os : Os) : laidMet Tryz.prog Rows.integrateExactUptoRow.laid ((laidWorld os).forCall (fun _ _ => 0) ⟨#[], wargs, []⟩).memory :=
  laidMet_of_run' 8 (by kernel_rfl) (by kernel_rfl)
theorem reads (os : Os) {H : Type} (enc : TypeId × Value → H) : ∃ places, DataW.whole enc Tryz.prog ((laidWorld os).forCall (fun _ _ => 0) ⟨#[], wargs, []⟩).memory Tryz.f6.params.toList Rows.integrateExactSpec.vars false wargs.toList 8 =
    some ([.nil, .agg [.lit (.string []), .lit (.int .i64 0)], .agg [.lit (.string []), .lit (.int .i64 0)]], [], places) :=
  ⟨[], by kernel_rfl⟩
set_option maxRecDepth 100000 in
theorem liftedUpto (os : Os) (started : os.Started) (H : Type) (enc : TypeId × Value → H) (F : Stop.Interp) :
    ReturnsInHanded {} Tryz.checked os 6 .any ((Rows.OpenSpec.upto Rows.integrateExactSpec).preRow enc Tryz.prog Tryz.f6 Rows.integrateExactUptoRow.domain false Rows.integrateExactUptoRow.laid) (((Rows.OpenSpec.upto Rows.integrateExactSpec).at F).post enc Tryz.prog Tryz.f6 false true false false) := by
  obtain ⟨places, hx⟩ := reads os enc
  refine returnsInHanded_of_row (C := Tryz.checked) (s := Rows.OpenSpec.upto Rows.integrateExactSpec) own started (by kernel_rfl) Tryz.func6
    (witness_row_at (enc := enc) (C := Tryz.checked) false (laidWorld os) wargs rfl (by kernel_rfl) (by kernel_rfl) (by kernel_rfl)
      (OpenSpec.preRow_of_cond 8 hx (by kernel_rfl) (fun k hk => by cases hk; kernel_rfl) (by kernel_rfl) (laid_met os))) ?_
  intro W base args ds gs before hval hW q1 q2 q3 q4 q5 q6
  first | exact contract H enc W base args ds gs before hval hW (q1 _ rfl) | exact contract H enc W base args ds gs before hval hW (q2 _ rfl) | exact contract H enc W base args ds gs before hval hW (q4 _ rfl) | exact contract H enc W base args ds gs before hval hW (q5 _ rfl) | exact contract H enc W base args ds gs before hval hW (q6 _ rfl)
theorem saidUpto : Rows.IntegrateExactUptoSaid :=
  OpenClaim.holds_of_cond 6 Tryz.f6 rfl rfl rfl rfl rfl rfl rfl ⟨rfl, rfl, rfl, rfl, rfl⟩ rfl rfl rfl rfl rfl (by kernel_rfl) Tryz.func6 (by kernel_rfl)
    (of_decide_eq_true (by kernel_rfl)) (by unfold Func.isWrapper; first | (rw [if_pos (by decide +kernel)]; kernel_rfl) | (rw [if_neg (by decide +kernel)]; exact ⟨rfl, rfl⟩))
    (fun os started H enc _ F => by rw [OpenClaim.pre_eq_preRow]; exact liftedUpto os started H enc F)
theorem plain (f : FuncId) (fn : Func) (hf : Tryz.pinned.checked.prog.funcNamed "stockyard/stockyardlaw15.IntegrateExact" = some f) (hfn : Tryz.pinned.checked.prog.funcs[f]? = some fn) :
    false = Tryz.pinned.checked.prog.looks [] ∧ ∀ (j : Nat) t, fn.params[j]? = some t → Tryz.pinned.checked.prog.wantsStandIn t = false := by
  obtain rfl : f = 6 := Option.some.inj ((show Tryz.prog.funcNamed "stockyard/stockyardlaw15.IntegrateExact" = some 6 by kernel_rfl).symm.trans hf) |>.symm
  obtain rfl : fn = Tryz.f6 := (Option.some.inj (Tryz.func6.symm.trans hfn)).symm
  refine ⟨by kernel_rfl, fun j t ht => ?_⟩
  rw [Tryz.params6] at ht
  have hm : t ∈ #[22, 37, 37] := Array.mem_of_getElem? ht
  simp only [List.mem_toArray, List.mem_cons, List.not_mem_nil, or_false] at hm
  rcases hm with rfl | rfl | rfl
  · exact (show Tryz.prog.wantsStandIn 22 = false by kernel_rfl)
  · exact (show Tryz.prog.wantsStandIn 37 = false by kernel_rfl)
  · exact (show Tryz.prog.wantsStandIn 37 = false by kernel_rfl)
end Go.Proofs.YtbllfnmabmamfaaGreatDoor.exactly
namespace Go.Proofs.YtbllfnmabmamfaaGreatDoor
theorem exact_card : Rows.IntegrateExactUptoCardSaid :=
  Claim7.holds_tied_plain_at .later [] _ _ _ _ exactly.saidUpto (fun _ h => by cases h) (by kernel_rfl) (fun _ h => by cases h) integrateExactUpto_row_tie rfl ⟨rfl, rfl⟩ (by kernel_rfl) rfl exactly.plain (by kernel_rfl)
end Go.Proofs.YtbllfnmabmamfaaGreatDoor
#print axioms Go.Proofs.YtbllfnmabmamfaaGreatDoor.exact_card

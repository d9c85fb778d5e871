/- For every input of small bulk, ResolveChoices returns true and leaves its arguments as they were. -/
import Derived.Test.YtbllfnmabmamfaaGreatDoorQC6
import Derived.Test.YtbllfnmabmamfaaGreatDoorQV3
set_option linter.all false

namespace Go.Proofs.YtbllfnmabmamfaaGreatDoor.choices
open Go.Ab Go.ChangeShapes Go.WideShapes Go.ChangeAt Go.RowKit
set_option maxRecDepth 100000 in
theorem contract (H : Type) (enc : TypeId × Value → H) (W : World) (base : Nat) (args : Array Value) (ds gs : List (DataW H)) (before : List MemPlace)
    (hval : ∀ (j : Nat) t v, Tryz.f4.params[j]? = some t → args[j]? = some v → Value.okWide Tryz.prog W .any base t v)
    (hW : DataW.Whole enc Tryz.prog Tryz.f4.params.toList Rows.resolveChoicesSpec.vars false W args.toList ds gs before) (hk : Rows.uptoSmall H (ds ++ gs) = true) :
    Calls Tryz.prog 4 args W fun e W' => ∃ v, e = .returned v ∧ Rows.resolveChoicesSpec.post enc Tryz.prog Tryz.f4 false true false false W args v W' := by
  have hW' := hW
  have hlt := hW.lt
  obtain ⟨p, q, hA0, hV, rfl, hfz, hnd⟩ := hW
  have hA : DataW.TrodAll enc Tryz.prog W 0 (fun _ => true) true Tryz.f4.params.toList args.toList ds p := hA0
  rw [Tryz.params4] at hA hval
  obtain ⟨v0, vs0, d0, ds0, p0, q0, hargs, rfl, rfl, h0, r0⟩ := trodAll_cons hA
  obtain ⟨v1, vs1, d1, ds1, p1, q1, rfl, rfl, rfl, h1, r1⟩ := trodAll_cons r0
  obtain ⟨rfl, rfl, rfl⟩ := trodAll_nil r1
  obtain rfl : args = #[v0, v1] := by cases args; simp_all
  obtain ⟨rfl, rfl⟩ := trodVars_none hV
  have hb := of_decide_eq_true hk
  simp only [List.cons_append, List.nil_append, Rows.uptoBulkAll] at hb
  obtain ⟨x0, rep0, k0⟩ := arg_chgs h0 (hval 0 22 v0 rfl rfl)
  obtain ⟨x1, rep1, k1⟩ := arg_tsk h1 (hval 1 39 v1 rfl rfl)
  have hc := ResolveChoices_ac x0 (few_of (n := 1048576) (by omega) (by omega)) x1 (by omega) (by omega) (by omega) (by omega) (by omega)
  refine (calls_true hc (us := [v0, v1]) (.cons rep0 (.cons rep1 .nil))).mono fun e W' ⟨he, hbel⟩ => ?_
  subst he
  have hl0 : ∀ x ∈ p0, x.block < W.heap.size := fun x hx => hlt x (by simp [hx])
  have hl1 : ∀ x ∈ p1, x.block < W.heap.size := fun x hx => hlt x (by simp [hx])
  refine ⟨_, rfl, _, _, _, [], _, [], hW', trodAll_cons_mk (shut_bool Tryz.underlying4 _) trodAll_mk0,
    trodAll_cons_mk (Below.trod laidOut (by kernel_rfl) (of_decide_eq_true (by kernel_rfl)) h0 hbel hl0) (trodAll_cons_mk (Below.trod laidOut (by kernel_rfl) (of_decide_eq_true (by kernel_rfl)) h1 hbel hl1) (trodAll_mk0)),
    rfl, hbel.frame _, fun h => by cases h⟩
@[reducible] def zTv : Value := .agg #[.int .i64 0, .string ⟨#[]⟩, .int .i64 0, .string ⟨#[]⟩, .int .i64 0, .int .i64 0, .string ⟨#[]⟩, .int .i64 0, .string ⟨#[]⟩, .int .i64 0, .string ⟨#[]⟩]
@[reducible] def zRv : Value := .agg #[.int .i64 0, .bool false, .bool false, .bool false, .int .u64 0, .int .i64 0, .bool false]
@[reducible] def wargs : Array Value := #[.slice none 0 0, zTv]
set_option maxRecDepth 100000 in
theorem laid_met (os : Os) : laidMet Tryz.prog Rows.resolveChoicesUptoRow.laid ((laidWorld os).forCall (fun _ _ => 0) ⟨#[], wargs, []⟩).memory :=
  laidMet_of_run' 8 (by kernel_rfl) (by kernel_rfl)
theorem reads (os : Os) {H : Type} (enc : TypeId × Value → H) : ∃ places, DataW.whole enc Tryz.prog ((laidWorld os).forCall (fun _ _ => 0) ⟨#[], wargs, []⟩).memory Tryz.f4.params.toList Rows.resolveChoicesSpec.vars false wargs.toList 8 =
    some ([.nil, .agg [.lit (.int .i64 0), .agg [.lit (.string []), .lit (.int .i64 0)], .lit (.string []), .lit (.int .i64 0), .lit (.int .i64 0), .lit (.string []), .lit (.int .i64 0), .agg [.lit (.string []), .lit (.int .i64 0)], .lit (.string [])]], [], places) :=
  ⟨[], by kernel_rfl⟩
set_option maxRecDepth 100000 in
theorem liftedUpto (os : Os) (started : os.Started) (H : Type) (enc : TypeId × Value → H) (F : Stop.Interp) :
    ReturnsInHanded {} Tryz.checked os 4 .any ((Rows.OpenSpec.upto Rows.resolveChoicesSpec).preRow enc Tryz.prog Tryz.f4 Rows.resolveChoicesUptoRow.domain false Rows.resolveChoicesUptoRow.laid) (((Rows.OpenSpec.upto Rows.resolveChoicesSpec).at F).post enc Tryz.prog Tryz.f4 false true false false) := by
  obtain ⟨places, hx⟩ := reads os enc
  refine returnsInHanded_of_row (C := Tryz.checked) (s := Rows.OpenSpec.upto Rows.resolveChoicesSpec) own started (by kernel_rfl) Tryz.func4
    (witness_row_at (enc := enc) (C := Tryz.checked) false (laidWorld os) wargs rfl (by kernel_rfl) (by kernel_rfl) (by kernel_rfl)
      (OpenSpec.preRow_of_cond 8 hx (by kernel_rfl) (fun k hk => by cases hk; kernel_rfl) (by kernel_rfl) (laid_met os))) ?_
  intro W base args ds gs before hval hW q1 q2 q3 q4 q5 q6
  first | exact contract H enc W base args ds gs before hval hW (q1 _ rfl) | exact contract H enc W base args ds gs before hval hW (q2 _ rfl) | exact contract H enc W base args ds gs before hval hW (q4 _ rfl) | exact contract H enc W base args ds gs before hval hW (q5 _ rfl) | exact contract H enc W base args ds gs before hval hW (q6 _ rfl)
theorem saidUpto : Rows.ResolveChoicesUptoSaid :=
  OpenClaim.holds_of_cond 4 Tryz.f4 rfl rfl rfl rfl rfl rfl rfl ⟨rfl, rfl, rfl, rfl, rfl⟩ rfl rfl rfl rfl rfl (by kernel_rfl) Tryz.func4 (by kernel_rfl)
    (of_decide_eq_true (by kernel_rfl)) (by unfold Func.isWrapper; first | (rw [if_pos (by decide +kernel)]; kernel_rfl) | (rw [if_neg (by decide +kernel)]; exact ⟨rfl, rfl⟩))
    (fun os started H enc _ F => by rw [OpenClaim.pre_eq_preRow]; exact liftedUpto os started H enc F)
theorem plain (f : FuncId) (fn : Func) (hf : Tryz.pinned.checked.prog.funcNamed "stockyard/stockyardlaw17.ResolveChoices" = some f) (hfn : Tryz.pinned.checked.prog.funcs[f]? = some fn) :
    false = Tryz.pinned.checked.prog.looks [] ∧ ∀ (j : Nat) t, fn.params[j]? = some t → Tryz.pinned.checked.prog.wantsStandIn t = false := by
  obtain rfl : f = 4 := Option.some.inj ((show Tryz.prog.funcNamed "stockyard/stockyardlaw17.ResolveChoices" = some 4 by kernel_rfl).symm.trans hf) |>.symm
  obtain rfl : fn = Tryz.f4 := (Option.some.inj (Tryz.func4.symm.trans hfn)).symm
  refine ⟨by kernel_rfl, fun j t ht => ?_⟩
  rw [Tryz.params4] at ht
  have hm : t ∈ #[22, 39] := Array.mem_of_getElem? ht
  simp only [List.mem_toArray, List.mem_cons, List.not_mem_nil, or_false] at hm
  rcases hm with rfl | rfl
  · exact (show Tryz.prog.wantsStandIn 22 = false by kernel_rfl)
  · exact (show Tryz.prog.wantsStandIn 39 = false by kernel_rfl)
end Go.Proofs.YtbllfnmabmamfaaGreatDoor.choices
namespace Go.Proofs.YtbllfnmabmamfaaGreatDoor
theorem choices_card : Rows.ResolveChoicesUptoCardSaid :=
  Claim7.holds_tied_plain_at .later [] _ _ _ _ choices.saidUpto (fun _ h => by cases h) (by kernel_rfl) (fun _ h => by cases h) resolveChoicesUpto_row_tie rfl ⟨rfl, rfl⟩ (by kernel_rfl) rfl choices.plain (by kernel_rfl)
end Go.Proofs.YtbllfnmabmamfaaGreatDoor
#print axioms Go.Proofs.YtbllfnmabmamfaaGreatDoor.choices_card

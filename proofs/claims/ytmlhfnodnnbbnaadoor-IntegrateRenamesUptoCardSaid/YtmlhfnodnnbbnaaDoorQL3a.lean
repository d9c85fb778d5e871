/- A part of the proof: contracts of functions of the program over abstract states. -/
import Derived.Test.YtmlhfnodnnbbnaaDoorQR3a
import Derived.Test.YtmlhfnodnnbbnaaDoorQL1
import Derived.Test.YtmlhfnodnnbbnaaDoorQL2
set_option linter.all false
namespace Go.Proofs.YtmlhfnodnnbbnaaDoor
open Go.Ab Tys
theorem TO_stepO {P : Program} {x : X} {wr : Bool} {ops l : List Oper} {o : Oper} {s : S} {Q : Exit → S → Prop} (cs : List (Nat × AV)) {out : Out} (hd : dstOK o s.n = true) (h : stepO P wr ops cs o s = some out) (ho : All out.obl)
    (hk : TO P x ops l ⟨s.n, putD s.env o.dst out.v, putAll s.st out.upd⟩ Q) : TO P x ops (o :: l) s Q := by
  intro a w hs
  have := stepO_sound (x := x) h ho hd hs (K := wpList P ops.toArray (Lift x Q) l) (Q := Lift x Q) (fun a w h => hk a w h)
  unfold wpList
  split
  · rename_i hw; rw [if_pos hw] at this; exact .inl this
  · rename_i hw; rw [if_neg hw] at this; exact this
theorem Built.rc {l : List Chg} {d : Dep} (h : Built l d) : RcGood d.recs := by
  induction h with
  | nil => intro r hr; simp [zDep] at hr
  | skip c h ih => exact ih
  | @app l d c h hc hk ih =>
    refine sortR_mem fun r hr => ?_
    rcases List.mem_append.1 hr with hr | hr
    · exact ih r hr
    · obtain ⟨i, hi, e⟩ := List.mem_iff_getElem.1 hr
      have h0 := hk.recd i hi
      rw [show c.recs.getD i zRcd = r by simp [List.getD, hi, e]] at h0
      have h1 := h0.okHi
      have h2 : (log d r.frm).length ≤ d.revs.length := List.length_filter_le ..
      have h3 := h.ok.1
      exact ⟨h0.okLo, h0.okLe, by omega, h0.okHow.1, h0.okHow.2⟩
theorem sC_ok {l : List Chg} (h1 : tot l ≤ 200) (h2 : ∀ c ∈ l, sC c) : ∀ c ∈ l, cOK c := by
  intro c hc
  have h := tot_mem hc
  obtain ⟨a, b⟩ := h2 c hc
  refine ⟨fun e he => ?_, fun r hr => ?_, by omega, by omega⟩
  · have := a e he; simp only [sE] at this; simp only [eOK]; omega
  · have := b r hr; simp only [sR] at this; simp only [rOK]; omega
end Go.Proofs.YtmlhfnodnnbbnaaDoor

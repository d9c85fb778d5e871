/- A part of the proof: contracts of functions of the program over abstract states. -/
import Derived.Test.YtmlhfnodnnbbnaaDoorQR3
import Derived.Test.YtmlhfnodnnbbnaaDoorQL1
import Derived.Test.YtmlhfnodnnbbnaaDoorQL2
set_option linter.all false
namespace Go.Proofs.YtmlhfnodnnbbnaaDoor
open Go.Ab Tys
theorem TO_stepO {P : Program} {x : X} {wr : Bool} {ops l : List Oper} {o : Oper} {s : S} {Q : Exit → S → Prop} (cs : List (Nat × AV)) {out : Out} (hd : dstOK o s.n = true) (h : stepO P wr ops cs o s = some out) (ho : All out.obl)
    (hk : TO P x ops l ⟨s.n, putD s.env o.dst out.v, putAll s.st out.upd⟩ Q) : TO P x ops (o :: l) s Q := by
  intro a w hs
  have := stepO_sound (x := x) h ho hd hs (K := wpList P ops.toArray (Lift x Q) l) (Q := Lift x Q) (fun a w h => hk a w h)
  unfold wpList
  split
  · rename_i hw; rw [if_pos hw] at this; exact .inl this
  · rename_i hw; rw [if_neg hw] at this; exact this
theorem Built.rc {l : List Chg} {d : Dep} (h : Built l d) : RcGood d.recs := by
  induction h with
  | nil => intro r hr; simp [zDep] at hr
  | skip c h ih => exact ih
  | @app l d c h hc hk ih =>
    refine sortR_mem fun r hr => ?_
    rcases List.mem_append.1 hr with hr | hr
    · exact ih r hr
    · obtain ⟨i, hi, e⟩ := List.mem_iff_getElem.1 hr
      have h0 := hk.recd i hi
      rw [show c.recs.getD i zRcd = r by simp [List.getD, hi, e]] at h0
      have h1 := h0.okHi
      have h2 : (log d r.frm).length ≤ d.revs.length := List.length_filter_le ..
      have h3 := h.ok.1
      exact ⟨h0.okLo, h0.okLe, by omega, h0.okHow.1, h0.okHow.2⟩
theorem sC_ok {l : List Chg} (h1 : tot l ≤ 200) (h2 : ∀ c ∈ l, sC c) : ∀ c ∈ l, cOK c := by
  intro c hc
  have h := tot_mem hc
  obtain ⟨a, b⟩ := h2 c hc
  refine ⟨fun e he => ?_, fun r hr => ?_, by omega, by omega⟩
  · have := a e he; simp only [sE] at this; simp only [eOK]; omega
  · have := b r hr; simp only [sR] at this; simp only [rOK]; omega
def k3 := And.intro @Tryd.ntmps3 <| And.intro @Tryd.underlying9 <| And.intro @bld24 <| And.intro @bld30 <| And.intro @fld24_0 <| And.intro @ti24 <| And.intro @ti30 <| @ti9
set_option maxRecDepth 100000 in
set_option maxHeartbeats 16000000 in
theorem IntegrateRemains_ac (l : List Chg) (hf : Few l) (s t : Fil) (hs : s.path.size ≤ 2000000) (ht : t.path.size ≤ 2000000) : AC Tryd.prog 3 [.c (.d (.ps 5 (l.map encChg))), aFil s, aFil t] [] (fun r st => r = B true ∧ st = []) := by
  refine AC_enter Tryd.func3 rfl rfl (by simp only [Tryd.ntmps3, List.length]; omega) ?_
  intro x hx
  simp only [List.range, List.range.loop, List.length, List.zip, List.zipWith, Nat.reduceAdd, Tryd.ntmps3]
  (repeat (first | (with_reducible first | refine na ?_ | refine nb ?_ | refine nc ?_ | refine nd ?_ | refine ne ?_ | refine nf ?_ | refine ng ?_ | refine nh ?_ | refine ni ?_ | refine nj ?_ | refine nk ?_ | refine nl ?_ | refine nm (by decide) ?_ | refine nn ?_) | refine TO_go (wr := false) 400 (by simp only [kB, kG, k3, Nat.reduceAdd, Nat.reduceLT, Nat.reduceEqDiff, ↓reduceIte, reduceCtorEq]; first | done | rfl) (by first | exact trivial | (simp only [kO]; omega) | (simp [All, InR]; first | done | omega) | (simp +contextual [All, InR]; first | done | grind)) ?_))
  refine TO_call [] (by simp) (by simp only [kV, ↓reduceIte, Nat.reduceEqDiff, reduceCtorEq]; first | done | rfl) ⟨by simp, by simp, by simp [clAV, clC, clCs]⟩ (small_ac l hf) ?_
  rintro r st' ⟨⟨b, rfl, hb⟩, rfl⟩ <;> (refine ⟨by simp [Fresh], ?_⟩; simp only [kP, Nat.reduceEqDiff, ↓reduceIte, reduceCtorEq])
  (repeat (first | (with_reducible first | refine na ?_ | refine nb ?_ | refine nc ?_ | refine nd ?_ | refine ne ?_ | refine nf ?_ | refine ng ?_ | refine nh ?_ | refine ni ?_ | refine nj ?_ | refine nk ?_ | refine nl ?_ | refine nm (by decide) ?_ | refine nn ?_) | refine TO_go (wr := false) 400 (by simp only [kB, kG, k3, Nat.reduceAdd, Nat.reduceLT, Nat.reduceEqDiff, ↓reduceIte, reduceCtorEq]; first | done | rfl) (by first | exact trivial | (simp only [kO]; omega) | (simp [All, InR]; first | done | omega) | (simp +contextual [All, InR]; first | done | grind)) ?_))
  refine T_cond (by simp only [kV, ↓reduceIte, Nat.reduceEqDiff, reduceCtorEq]; first | done | rfl) ?_ ?_
  · intro _
    (repeat (first | (with_reducible first | refine na ?_ | refine nb ?_ | refine nc ?_ | refine nd ?_ | refine ne ?_ | refine nf ?_ | refine ng ?_ | refine nh ?_ | refine ni ?_ | refine nj ?_ | refine nk ?_ | refine nl ?_ | refine nm (by decide) ?_ | refine nn ?_) | refine TO_go (wr := false) 400 (by simp only [kB, kG, k3, Nat.reduceAdd, Nat.reduceLT, Nat.reduceEqDiff, ↓reduceIte, reduceCtorEq]; first | done | rfl) (by first | exact trivial | (simp only [kO]; omega) | (simp [All, InR]; first | done | omega) | (simp +contextual [All, InR]; first | done | grind)) ?_ | (refine TO_call [] (by simp) (by simp only [kV, ↓reduceIte, Nat.reduceEqDiff, reduceCtorEq]; first | done | rfl) ⟨by simp, by simp, by simp [clAV, clC, clCs]⟩ (awake_ac) ?_; (rintro r st' ⟨rfl, rfl⟩; refine ⟨by simp [Fresh], ?_⟩; simp only [kP, Nat.reduceEqDiff, ↓reduceIte, reduceCtorEq]))))
    refine RetQ_intro (by simp only [kR, Tryd.results3, ↓reduceIte, Nat.reduceEqDiff, reduceCtorEq]; first | done | rfl) (by first | exact trivial | (simp only [kO]; omega) | (simp [All, InR]; first | done | omega) | (simp +contextual [All, InR]; first | done | grind)) [] ⟨by simp [Ab.get, renAO_id], by simp, by simp [clAO, cl_f1, cl_s1, cl_f2, cl_s2, cl_a1, flat_up, clCs, clC, domOf, Ab.get], keepI hx (by simp [domOf, Ab.get])⟩ (by simp [clAV, clPs, clCs, clC, domOf, Ab.get]) ⟨?_, rfl⟩
    rfl
  intro hc
  have hb1 : b = true := by cases b <;> simp_all
  obtain ⟨b1, b2, b3⟩ := hb hb1
  (repeat (first | (with_reducible first | refine na ?_ | refine nb ?_ | refine nc ?_ | refine nd ?_ | refine ne ?_ | refine nf ?_ | refine ng ?_ | refine nh ?_ | refine ni ?_ | refine nj ?_ | refine nk ?_ | refine nl ?_ | refine nm (by decide) ?_ | refine nn ?_) | refine TO_go (wr := false) 400 (by simp only [kB, kG, k3, Nat.reduceAdd, Nat.reduceLT, Nat.reduceEqDiff, ↓reduceIte, reduceCtorEq]; first | done | rfl) (by first | exact trivial | (simp only [kO]; omega) | (simp [All, InR]; first | done | omega) | (simp +contextual [All, InR]; first | done | grind)) ?_))
  refine TO_call [] (by simp) (by simp only [kV, ↓reduceIte, Nat.reduceEqDiff, reduceCtorEq]; first | done | rfl) ⟨by simp, by simp, by simp [clAV, clC, clCs]⟩ (build_ac l (by omega) (sC_ok b2 b3)) ?_
  rintro r st' ⟨⟨d, rfl, hB⟩, rfl⟩ <;> (refine ⟨by simp [Fresh], ?_⟩; simp only [kP, Nat.reduceEqDiff, ↓reduceIte, reduceCtorEq])
  obtain ⟨o1, o2, o3⟩ := hB.ok
  have hR1 := Remaining_ac d hB.good o1 o2 s t
  have hR2 := refRemaining_ac d hB.good o1 o2 hB.rc s t
  unfold remA at hR1 hR2
  have hlen : ((remS d s t).getD []).length ≤ 512 := by
    unfold remS
    split
    · simp only [Option.getD, remL, List.length_map]; exact Nat.le_trans (List.length_filter_le ..) o1
    · simp
  generalize (remS d s t).getD [] = rl at hR1 hR2 hlen
  generalize (if (remS d s t).isSome = true then (0 : Int) else 150) = re at hR1 hR2
  have hsame : AC Tryd.prog 13 [aFils rl, aFils rl] [] (fun r st => r = B true ∧ st = []) := by
    have := same_ac rl rl (by omega)
    simpa using this
  have haw := awake_ac
  (repeat (first | (with_reducible first | refine na ?_ | refine nb ?_ | refine nc ?_ | refine nd ?_ | refine ne ?_ | refine nf ?_ | refine ng ?_ | refine nh ?_ | refine ni ?_ | refine nj ?_ | refine nk ?_ | refine nl ?_ | refine nm (by decide) ?_ | refine nn ?_) | refine TO_go (wr := false) 400 (by simp only [kB, kG, k3, Nat.reduceAdd, Nat.reduceLT, Nat.reduceEqDiff, ↓reduceIte, reduceCtorEq]; first | done | rfl) (by first | exact trivial | (simp only [kO]; omega) | (simp [All, InR]; first | done | omega) | (simp +contextual [All, InR]; first | done | grind)) ?_ | (refine TO_call [] (by simp) (by simp only [kV, ↓reduceIte, Nat.reduceEqDiff, reduceCtorEq]; first | done | rfl) ⟨by simp, by simp, by simp [clAV, clC, clCs]⟩ (hR1) ?_; (rintro r st' ⟨rfl, rfl⟩; refine ⟨by simp [Fresh], ?_⟩; simp only [kP, Nat.reduceEqDiff, ↓reduceIte, reduceCtorEq])) | (refine TO_call [] (by simp) (by simp only [kV, ↓reduceIte, Nat.reduceEqDiff, reduceCtorEq]; first | done | rfl) ⟨by simp, by simp, by simp [clAV, clC, clCs]⟩ (hR2) ?_; (rintro r st' ⟨rfl, rfl⟩; refine ⟨by simp [Fresh], ?_⟩; simp only [kP, Nat.reduceEqDiff, ↓reduceIte, reduceCtorEq]))))
  refine TO_stepO (wr := false) ([(48, B true)] : List (Nat × AV)) rfl (by simp only [kD, kB, kG, k3, Nat.reduceAdd, Nat.reduceLT, Nat.reduceEqDiff, ↓reduceIte, reduceCtorEq]; first | done | rfl) ?_ ?_
  · simp only [All, List.cons_append, List.nil_append, InR, List.mem_cons, List.not_mem_nil, or_false, forall_eq_or_imp, forall_eq, clAV, clCs, clC, and_true, true_and, implies_true, List.length_map, List.length_cons, List.length_nil, dArr, cl_arr, tyCs]
    repeat' (first | exact trivial | exact hsame | refine And.intro ?_ ?_ | intro _ | assumption | rfl | omega | (simp; done) | (simp_all; done))
  simp only [kP, Nat.reduceEqDiff, ↓reduceIte, reduceCtorEq]
  (repeat (first | (with_reducible first | refine na ?_ | refine nb ?_ | refine nc ?_ | refine nd ?_ | refine ne ?_ | refine nf ?_ | refine ng ?_ | refine nh ?_ | refine ni ?_ | refine nj ?_ | refine nk ?_ | refine nl ?_ | refine nm (by decide) ?_ | refine nn ?_) | refine TO_go (wr := false) 400 (by simp only [kB, kG, k3, Nat.reduceAdd, Nat.reduceLT, Nat.reduceEqDiff, ↓reduceIte, reduceCtorEq]; first | done | rfl) (by first | exact trivial | (simp only [kO]; omega) | (simp [All, InR]; first | done | omega) | (simp +contextual [All, InR]; first | done | grind)) ?_))
  refine TO_stepO (wr := false) ([(51, B true)] : List (Nat × AV)) rfl (by simp only [kD, kB, kG, k3, Nat.reduceAdd, Nat.reduceLT, Nat.reduceEqDiff, ↓reduceIte, reduceCtorEq]; first | done | rfl) ?_ ?_
  · simp only [All, List.cons_append, List.nil_append, InR, List.mem_cons, List.not_mem_nil, or_false, forall_eq_or_imp, forall_eq, clAV, clCs, clC, and_true, true_and, implies_true, List.length_map, List.length_cons, List.length_nil, dArr, cl_arr, tyCs]
    repeat' (first | exact trivial | exact haw | refine And.intro ?_ ?_ | intro _ | assumption | rfl | omega | (simp; done) | (simp_all; done))
  simp only [kP, Nat.reduceEqDiff, ↓reduceIte, reduceCtorEq]
  (repeat (first | (with_reducible first | refine na ?_ | refine nb ?_ | refine nc ?_ | refine nd ?_ | refine ne ?_ | refine nf ?_ | refine ng ?_ | refine nh ?_ | refine ni ?_ | refine nj ?_ | refine nk ?_ | refine nl ?_ | refine nm (by decide) ?_ | refine nn ?_) | refine TO_go (wr := false) 400 (by simp only [kB, kG, k3, Nat.reduceAdd, Nat.reduceLT, Nat.reduceEqDiff, ↓reduceIte, reduceCtorEq]; first | done | rfl) (by first | exact trivial | (simp only [kO]; omega) | (simp [All, InR]; first | done | omega) | (simp +contextual [All, InR]; first | done | grind)) ?_))
  refine RetQ_intro (by simp only [kR, Tryd.results3, ↓reduceIte, Nat.reduceEqDiff, reduceCtorEq]; first | done | rfl) (by first | exact trivial | (simp only [kO]; omega) | (simp [All, InR]; first | done | omega) | (simp +contextual [All, InR]; first | done | grind)) [] ⟨by simp [Ab.get, renAO_id], by simp, by simp [clAO, cl_f1, cl_s1, cl_f2, cl_s2, cl_a1, flat_up, clCs, clC, domOf, Ab.get], keepI hx (by simp [domOf, Ab.get])⟩ (by simp [clAV, clPs, clCs, clC, domOf, Ab.get]) ⟨?_, rfl⟩
  rfl
end Go.Proofs.YtmlhfnodnnbbnaaDoor

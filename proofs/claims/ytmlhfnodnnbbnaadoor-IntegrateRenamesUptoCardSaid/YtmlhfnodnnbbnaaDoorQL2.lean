/- A part of the proof: contracts of functions of the program over abstract states. -/
import Derived.Test.YtmlhfnodnnbbnaaDoorQR3a
import Derived.Test.YtmlhfnodnnbbnaaDoorQT8
set_option linter.all false
namespace Go.Proofs.YtmlhfnodnnbbnaaDoor
open Go.Ab Tys
@[reducible] def mB : ByteArray := { data := #[47, 47, 109, 47, 102] }
@[reducible] def dB : ByteArray := { data := #[47, 47, 100, 47, 102] }
@[reducible] def aw1 : Rev := ⟨mB, 1, 1, 1, 1, false, false, false, 0, 0, ByteArray.empty, 0⟩
@[reducible] def aw2 : Rev := ⟨dB, 1, 2, 1, 1, false, false, false, 0, 0, ByteArray.empty, 0⟩
@[reducible] def aw3 : Rev := ⟨mB, 2, 3, 2, 1, false, false, false, 0, 0, ByteArray.empty, 0⟩
@[reducible] def awr : Rcd := ⟨mB, 1, 1, dB, 1, 1⟩
@[reducible] def d0 : Dep := ⟨[aw1, aw2, aw3], [awr]⟩
theorem mdB : ¬ mB = dB := by decide
theorem d0_cases {i : Nat} {v : Rev} (h : d0.revs[i]? = some v) : (i = 0 ∧ v = aw1) ∨ (i = 1 ∧ v = aw2) ∨ (i = 2 ∧ v = aw3) := by
  rcases i with _ | _ | _ | i
  · simp at h; exact .inl ⟨rfl, h.symm⟩
  · simp at h; exact .inr (.inl ⟨rfl, h.symm⟩)
  · simp at h; exact .inr (.inr ⟨rfl, h.symm⟩)
  · simp at h
theorem good_d0 : Good d0.revs := by
  constructor
  · intro i v h; rcases d0_cases h with ⟨rfl, rfl⟩ | ⟨rfl, rfl⟩ | ⟨rfl, rfl⟩ <;> simp
  · intro i v h; rcases d0_cases h with ⟨rfl, rfl⟩ | ⟨rfl, rfl⟩ | ⟨rfl, rfl⟩ <;> simp
  · intro i j u v hij hu hv
    rcases d0_cases hu with ⟨rfl, rfl⟩ | ⟨rfl, rfl⟩ | ⟨rfl, rfl⟩ <;> rcases d0_cases hv with ⟨rfl, rfl⟩ | ⟨rfl, rfl⟩ | ⟨rfl, rfl⟩ <;> first | omega | simp
  · intro i j u v hij hu hv hp
    rcases d0_cases hu with ⟨rfl, rfl⟩ | ⟨rfl, rfl⟩ | ⟨rfl, rfl⟩ <;> rcases d0_cases hv with ⟨rfl, rfl⟩ | ⟨rfl, rfl⟩ | ⟨rfl, rfl⟩ <;> first | omega | (exact absurd hp (by decide)) | simp
  · intro i v h h1 h4
    rcases d0_cases h with ⟨rfl, rfl⟩ | ⟨rfl, rfl⟩ | ⟨rfl, rfl⟩
    · exact absurd rfl h1
    · exact absurd rfl h1
    · exact ⟨0, aw1, by omega, rfl, rfl, rfl, by decide, by decide, by decide⟩
  · intro i v h h4
    rcases d0_cases h with ⟨rfl, rfl⟩ | ⟨rfl, rfl⟩ | ⟨rfl, rfl⟩ <;> exact absurd h4 (by decide)
  · intro i v h h4
    rcases d0_cases h with ⟨rfl, rfl⟩ | ⟨rfl, rfl⟩ | ⟨rfl, rfl⟩ <;> exact absurd h4 (by decide)
  · intro i j u v hij hu hv u4
    rcases d0_cases hu with ⟨rfl, rfl⟩ | ⟨rfl, rfl⟩ | ⟨rfl, rfl⟩ <;> exact absurd u4 (by decide)
@[reducible] def sv1 : SV := ⟨true, [⟨mB, 1⟩], [⟨mB, 1⟩], [⟨mB, 1⟩]⟩
@[reducible] def sv2 : SV := ⟨false, [⟨mB, 1⟩], [⟨mB, 1⟩], [⟨mB, 1⟩]⟩
@[reducible] def sv3 : SV := ⟨true, [⟨mB, 1⟩, ⟨mB, 2⟩], [⟨mB, 2⟩], [⟨mB, 1⟩, ⟨mB, 2⟩]⟩
theorem ok1 : SvOK [(⟨mB, 1⟩, sv1)] (specA d0 1) := by
  have h0 : SvOK [] (specA d0 0) := by constructor <;> simp [specA, SS0, alook]
  have hi : intoR d0 (fileOf aw1) = [] := by decide
  refine h0.step (v := aw1) rfl (by decide) sv1 ?_ ?_ ?_ <;> intro g <;> (try rw [hi]) <;> simp [carS, specA, SS0, fileOf]
theorem ok2 : SvOK [(⟨mB, 1⟩, sv1), (⟨dB, 1⟩, sv2)] (specA d0 2) := by
  have hi : intoR d0 (fileOf aw2) = [awr] := by decide
  have hb : befF aw2 = zFil := by decide
  have hz : alook [((⟨mB, 1⟩ : Fil), sv1)] zFil = none := by decide
  have := ok1.step (v := aw2) rfl (by decide) sv2 (by
    intro g; rw [hi, hb, carS]; simp only [ok1.car, ok1.con, hz]; simp [alook]) (by
    intro g; simp only [hb, ok1.car, hz]; simp) (by
    intro g; rw [hi, hb]; simp only [ok1.car, ok1.con, ok1.cre, hz]; simp)
  exact this
theorem ok3 : SvOK [(⟨mB, 1⟩, sv1), (⟨dB, 1⟩, sv2), (⟨mB, 2⟩, sv3)] (SA d0) := by
  have hi : intoR d0 (fileOf aw3) = [] := by decide
  have hb : befF aw3 = ⟨mB, 1⟩ := by decide
  have := ok2.step (v := aw3) rfl (by decide) sv3 (by
    intro g; rw [hi, hb, carS]; simp only [ok2.car, ok2.con]; simp [alook, fileOf]) (by
    intro g; simp only [hb, ok2.car]; simp [alook]; constructor
    · intro h; rw [h]; exact ⟨.inr rfl, by decide⟩
    · rintro ⟨h | h, h2⟩
      · exact absurd h h2
      · exact h) (by
    intro g; rw [hi, hb]; simp only [ok2.car, ok2.con, ok2.cre]; simp [alook])
  exact this
theorem awake_rem : remS d0 ⟨mB, 2⟩ ⟨dB, 1⟩ = some [⟨mB, 2⟩] := by
  have m1 : member? d0 mB 2 = some aw3 := by decide
  have m2 : member? d0 dB 1 = some aw2 := by decide
  have f1 : first d0 aw1 = first d0 aw3 := by decide
  have f2 : ¬ first d0 aw2 = first d0 aw3 := by decide
  have o1 : ¬ Open d0 ⟨dB, 1⟩ aw1 := by
    simp only [Open, ok3.con, ok3.cre, fileOf]
    intro h
    exact h fun g hg => hg
  have o3 : Open d0 ⟨dB, 1⟩ aw3 := by
    simp only [Open, ok3.con, ok3.cre, fileOf]
    intro h
    have := h ⟨mB, 2⟩ (by decide)
    exact absurd this (by decide)
  have p1 : ¬ (¬ aw1.act = 5 ∧ first d0 aw1 = first d0 aw3 ∧ aw1.chg ≤ aw3.chg ∧ Open d0 ⟨dB, 1⟩ aw1) := fun h => o1 h.2.2.2
  have p2 : ¬ (¬ aw2.act = 5 ∧ first d0 aw2 = first d0 aw3 ∧ aw2.chg ≤ aw3.chg ∧ Open d0 ⟨dB, 1⟩ aw2) := fun h => f2 h.2.1
  have p3 : ¬ aw3.act = 5 ∧ first d0 aw3 = first d0 aw3 ∧ aw3.chg ≤ aw3.chg ∧ Open d0 ⟨dB, 1⟩ aw3 := ⟨by decide, rfl, by decide, o3⟩
  have e : remL d0 aw3 ⟨dB, 1⟩ = [⟨mB, 2⟩] := by
    rw [remL, show d0.revs = [aw1, aw2, aw3] from rfl, List.filter_cons, List.filter_cons, List.filter_cons, List.filter_nil, if_neg (by simpa using p1), if_neg (by simpa using p2), if_pos (by simpa using p3)]; rfl
  simp only [remS, m1, m2, e]
def k9 := And.intro @Tryd.ntmps9 <| And.intro @Tryd.underlying32 <| And.intro @bld24 <| And.intro @bld30 <| And.intro @bld45 <| And.intro @bld50 <| And.intro @bld69 <| And.intro @elt27 <| And.intro @elt28 <| And.intro @elt32 <| And.intro @fld24_0 <| And.intro @fld24_1 <| And.intro @fld30_0 <| And.intro @fld30_1 <| And.intro @fld45_0 <| And.intro @fld50_0 <| And.intro @fld50_1 <| And.intro @fld50_2 <| And.intro @fld50_3 <| And.intro @fld50_4 <| And.intro @fld69_0 <| And.intro @fld69_1 <| And.intro @fld69_2 <| And.intro @fld69_3 <| And.intro @fld69_4 <| And.intro @fld69_5 <| And.intro @ti24 <| And.intro @ti27 <| And.intro @ti28 <| And.intro @ti3 <| And.intro @ti30 <| And.intro @ti32 <| And.intro @ti45 <| And.intro @ti50 <| And.intro @ti69 <| @ti9
set_option maxRecDepth 100000 in
set_option maxHeartbeats 8000000 in
theorem awake_ac : AC Tryd.prog 9 [] [] (fun r st => r = B true ∧ st = []) := by
  have hR := Remaining_ac d0 good_d0 (by decide) (by decide) ⟨mB, 2⟩ ⟨dB, 1⟩
  rw [← remA_some awake_rem] at hR
  refine AC_enter Tryd.func9 rfl rfl (by simp only [Tryd.ntmps9, List.length]; omega) ?_
  intro x hx
  simp only [List.range, List.range.loop, List.length, List.zip, List.zipWith, Nat.reduceAdd, Tryd.ntmps9]
  (repeat (with_reducible first | refine na ?_ | refine nb ?_ | refine nc ?_ | refine nd ?_ | refine ne ?_ | refine nf ?_ | refine ng ?_ | refine nh ?_ | refine ni ?_ | refine nj ?_ | refine nk ?_ | refine nl ?_ | refine nm (by decide) ?_ | refine nn ?_))
  refine TO_go (wr := false) 400 (by simp only [kB, kG, kS, k9, Nat.reduceAdd, Nat.reduceLT, Nat.reduceEqDiff, ↓reduceIte, reduceCtorEq]; first | done | rfl) (by first | exact trivial | (simp only [kO]; omega) | (simp [All, InR]; first | done | omega) | (simp +contextual [All, InR]; first | done | grind)) ?_
  (repeat (with_reducible first | refine na ?_ | refine nb ?_ | refine nc ?_ | refine nd ?_ | refine ne ?_ | refine nf ?_ | refine ng ?_ | refine nh ?_ | refine ni ?_ | refine nj ?_ | refine nk ?_ | refine nl ?_ | refine nm (by decide) ?_ | refine nn ?_))
  refine TO_go (wr := false) 400 (by simp only [kB, kG, kS, k9, Nat.reduceAdd, Nat.reduceLT, Nat.reduceEqDiff, ↓reduceIte, reduceCtorEq]; first | done | rfl) (by first | exact trivial | (simp only [kO]; omega) | (simp [All, InR]; first | done | omega) | (simp +contextual [All, InR]; first | done | grind)) ?_
  (repeat (with_reducible first | refine na ?_ | refine nb ?_ | refine nc ?_ | refine nd ?_ | refine ne ?_ | refine nf ?_ | refine ng ?_ | refine nh ?_ | refine ni ?_ | refine nj ?_ | refine nk ?_ | refine nl ?_ | refine nm (by decide) ?_ | refine nn ?_))
  refine TO_go (wr := false) 6 (by simp only [kB, kG, kS, k9, Nat.reduceAdd, Nat.reduceLT, Nat.reduceEqDiff, ↓reduceIte, reduceCtorEq]; first | done | rfl) ?_ ?_
  · simp only [All, List.cons_append, List.nil_append, InR, List.mem_cons, List.not_mem_nil, or_false, forall_eq_or_imp, forall_eq, clAV, clCs, clC, and_true, true_and, implies_true, List.length_map, List.length_cons, List.length_nil, dArr, cl_arr, tyCs]
    repeat' (first | exact trivial | refine And.intro ?_ ?_ | intro _ | assumption | rfl | omega | (rw [Bool.not_eq_true']; assumption) | (simp; done) | (simp only [decide_eq_true_eq] at *; omega) | (simp_all; done))
  refine TO_ent (Ent_frzSlot (i := 12) (id := 12) (ys := d0.revs.map encRev) rfl rfl rfl) ?_
  simp only [Ab.put, Nat.reduceEqDiff, ↓reduceIte, reduceCtorEq, if_false, if_true]
  refine TO_go (wr := false) 1 (by simp only [kB, kG, kS, k9, Nat.reduceAdd, Nat.reduceLT, Nat.reduceEqDiff, ↓reduceIte, reduceCtorEq]; first | done | rfl) ?_ ?_
  · simp only [All, List.cons_append, List.nil_append, InR, List.mem_cons, List.not_mem_nil, or_false, forall_eq_or_imp, forall_eq, clAV, clCs, clC, and_true, true_and, implies_true, List.length_map, List.length_cons, List.length_nil, dArr, cl_arr, tyCs]
    repeat' (first | exact trivial | refine And.intro ?_ ?_ | intro _ | assumption | rfl | omega | (rw [Bool.not_eq_true']; assumption) | (simp; done) | (simp only [decide_eq_true_eq] at *; omega) | (simp_all; done))
  refine TO_ent (Ent_frzSlot (i := 14) (id := 14) (ys := d0.recs.map encRcd) rfl rfl rfl) ?_
  simp only [Ab.put, Nat.reduceEqDiff, ↓reduceIte, reduceCtorEq, if_false, if_true]
  (repeat (first | (with_reducible first | refine na ?_ | refine nb ?_ | refine nc ?_ | refine nd ?_ | refine ne ?_ | refine nf ?_ | refine ng ?_ | refine nh ?_ | refine ni ?_ | refine nj ?_ | refine nk ?_ | refine nl ?_ | refine nm (by decide) ?_ | refine nn ?_) | refine TO_go (wr := false) 400 (by simp only [kB, kG, kS, k9, Nat.reduceAdd, Nat.reduceLT, Nat.reduceEqDiff, ↓reduceIte, reduceCtorEq]; first | done | rfl) (by first | exact trivial | (simp only [kO]; omega) | (simp [All, InR]; first | done | omega) | (simp +contextual [All, InR]; first | done | grind)) ?_ | (refine TO_call [] (by simp) (by simp only [kV, ↓reduceIte, Nat.reduceEqDiff, reduceCtorEq]; first | done | rfl) ⟨by simp, by simp, by simp [clAV, clC, clCs]⟩ (hR) ?_; (rintro r st' ⟨rfl, rfl⟩; refine ⟨by simp [Fresh], ?_⟩; simp only [kP, Nat.reduceEqDiff, ↓reduceIte, reduceCtorEq]))))
  refine TO_go (wr := false) 400 (by simp only [kB, kG, kS, k9, Nat.reduceAdd, Nat.reduceLT, Nat.reduceEqDiff, ↓reduceIte, reduceCtorEq, Int.toNat_zero, encFil, cond_true, show ((1 : Nat) : Int) = 1 from rfl]; first | done | rfl) (by first | exact trivial | (simp only [kO]; omega) | (simp [All, InR]; first | done | omega) | (simp +contextual [All, InR]; first | done | grind)) ?_
  (repeat (first | (with_reducible first | refine na ?_ | refine nb ?_ | refine nc ?_ | refine nd ?_ | refine ne ?_ | refine nf ?_ | refine ng ?_ | refine nh ?_ | refine ni ?_ | refine nj ?_ | refine nk ?_ | refine nl ?_ | refine nm (by decide) ?_ | refine nn ?_) | refine TO_go (wr := false) 400 (by simp only [kB, kG, kS, k9, Nat.reduceAdd, Nat.reduceLT, Nat.reduceEqDiff, ↓reduceIte, reduceCtorEq]; first | done | rfl) (by first | exact trivial | (simp only [kO]; omega) | (simp [All, InR]; first | done | omega) | (simp +contextual [All, InR]; first | done | grind)) ?_))
  refine RetQ_intro (by simp only [kR, Tryd.results9, ↓reduceIte, Nat.reduceEqDiff, reduceCtorEq]; first | done | rfl) (by first | exact trivial | (simp only [kO]; omega) | (simp [All, InR]; first | done | omega) | (simp +contextual [All, InR]; first | done | grind)) [] ⟨by simp [Ab.get, renAO_id], by simp, by simp [clAO, cl_f1, cl_s1, cl_f2, cl_s2, cl_a1, flat_up, clCs, clC, domOf, Ab.get], keepI hx (by simp [domOf, Ab.get])⟩ (by simp [clAV, clPs, clCs, clC, domOf, Ab.get]) ⟨?_, rfl⟩
  rfl
end Go.Proofs.YtmlhfnodnnbbnaaDoor

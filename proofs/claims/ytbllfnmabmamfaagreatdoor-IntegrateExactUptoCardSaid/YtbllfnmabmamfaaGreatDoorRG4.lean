/- A part of the proof. -/
import Derived.Test.YtbllfnmabmamfaaGreatDoorRG2
import Derived.Test.YtbllfnmabmamfaaGreatDoorRBd2
set_option linter.all false
namespace Go.Proofs.YtbllfnmabmamfaaGreatDoor
open Go.Ab Tys
def k141 := And.intro @Tryz.ntmps141 <| And.intro @Tryz.underlying9 <| @ti9
set_option maxRecDepth 100000 in
set_option maxHeartbeats 4000000 in
theorem comp_ac (s : ByteArray) (hs : s.size ≤ 1000000) : AC Tryz.prog 141 [Str s] [] (fun r st => r = B (comp s) ∧ st = []) := by
  refine AC_enter Tryz.func141 rfl rfl (by simp only [Tryz.ntmps141, List.length]; omega) ?_
  intro x hx
  simp only [List.range, List.range.loop, List.length, List.zip, List.zipWith, Nat.reduceAdd, Tryz.ntmps141]
  (repeat (with_reducible first | refine na ?_ | refine nb ?_ | refine nc ?_ | refine nd ?_ | refine ne ?_ | refine nf ?_ | refine ng ?_ | refine nh ?_ | refine ni ?_ | refine nj ?_ | refine nk ?_ | refine nl ?_ | refine nm (by decide) ?_ | refine nn ?_))
  refine TO_go (wr := false) 400 (by simp only [kB, kG, k141, Nat.reduceAdd, Nat.reduceLT, Nat.reduceEqDiff, ↓reduceIte, reduceCtorEq]; first | done | rfl) (by first | exact trivial | (simp only [kO]; omega) | (simp [All, InR]; first | done | omega) | (simp +contextual [All, InR]; first | done | grind)) ?_
  (repeat (with_reducible first | refine na ?_ | refine nb ?_ | refine nc ?_ | refine nd ?_ | refine ne ?_ | refine nf ?_ | refine ng ?_ | refine nh ?_ | refine ni ?_ | refine nj ?_ | refine nk ?_ | refine nl ?_ | refine nm (by decide) ?_ | refine nn ?_))
  refine TO_go (wr := false) 400 (by simp only [kB, kG, k141, Nat.reduceAdd, Nat.reduceLT, Nat.reduceEqDiff, ↓reduceIte, reduceCtorEq]; first | done | rfl) ?_ ?_
  · simp only [All, List.cons_append, List.nil_append, and_true, true_and, implies_true, forall_const, Bool.not_eq_true', decide_eq_false_iff_not, cond_eq_ite]
    repeat' (first | exact trivial | refine And.intro ?_ ?_ | intro _ | omega | (rename_i h; exact_mod_cast empty_size (by simpa using h)) | (simp_all; done))
  (repeat (with_reducible first | refine na ?_ | refine nb ?_ | refine nc ?_ | refine nd ?_ | refine ne ?_ | refine nf ?_ | refine ng ?_ | refine nh ?_ | refine ni ?_ | refine nj ?_ | refine nk ?_ | refine nl ?_ | refine nm (by decide) ?_ | refine nn ?_))
  refine T_cond (by simp only [kV, ↓reduceIte, Nat.reduceEqDiff, reduceCtorEq]; first | done | rfl) ?_ ?_
  · intro h
    (repeat (first | (with_reducible first | refine na ?_ | refine nb ?_ | refine nc ?_ | refine nd ?_ | refine ne ?_ | refine nf ?_ | refine ng ?_ | refine nh ?_ | refine ni ?_ | refine nj ?_ | refine nk ?_ | refine nl ?_ | refine nm (by decide) ?_ | refine nn ?_) | refine TO_go (wr := false) 400 (by simp only [kB, kG, k141, Nat.reduceAdd, Nat.reduceLT, Nat.reduceEqDiff, ↓reduceIte, reduceCtorEq]; first | done | rfl) (by first | exact trivial | (simp only [kO]; omega) | (simp [All, InR]; first | done | omega) | (simp +contextual [All, InR]; first | done | grind)) ?_))
    refine RetQ_intro (by simp only [kR, Tryz.results141, ↓reduceIte, Nat.reduceEqDiff, reduceCtorEq]; first | done | rfl) (by first | exact trivial | (simp only [kO]; omega) | (simp [All, InR]; first | done | omega) | (simp +contextual [All, InR]; first | done | grind)) [] ⟨by simp [Ab.get, renAO_id], by simp, by simp [clAO, cl_f1, cl_s1, cl_f2, cl_s2, cl_a1, flat_up, clCs, clC, domOf, Ab.get], keepI hx (by simp [domOf, Ab.get])⟩ (by simp [clAV, clPs, clCs, clC, domOf, Ab.get]) ⟨?_, rfl⟩
    have h2 : (decide (s = { data := #[] }) || decide (byteAt s 0 = 46)) = true := by rw [← h]; cases decide (s = { data := #[] }) <;> rfl
    simp [comp, h2]
  · intro h
    have h2 : (decide (s = { data := #[] }) || decide (byteAt s 0 = 46)) = false := by rw [← h]; cases decide (s = { data := #[] }) <;> rfl
    (repeat (first | (with_reducible first | refine na ?_ | refine nb ?_ | refine nc ?_ | refine nd ?_ | refine ne ?_ | refine nf ?_ | refine ng ?_ | refine nh ?_ | refine ni ?_ | refine nj ?_ | refine nk ?_ | refine nl ?_ | refine nm (by decide) ?_ | refine nn ?_) | refine TO_go (wr := false) 400 (by simp only [kB, kG, k141, Nat.reduceAdd, Nat.reduceLT, Nat.reduceEqDiff, ↓reduceIte, reduceCtorEq]; first | done | rfl) (by first | exact trivial | (simp only [kO]; omega) | (simp [All, InR]; first | done | omega) | (simp +contextual [All, InR]; first | done | grind)) ?_))
    refine T_loop (ι := Nat) (I := fun k => ⟨22, [(0, Str s), (3, I .i64 k)], []⟩) (Inv := fun k => k ≤ s.size ∧ ∀ j, j < k → okB (byteAt s j) = true) (μ := fun k => s.size - k) 0 ⟨by omega, by omega⟩ ?_ ?_
    · (refine Ent_sub (fun i => i) rfl ?_ ⟨?_, ?_, ?_, keepI hx (by simp [domOf, Ab.get])⟩ <;> first | (simp only [kE, dArr, ↓reduceIte, Nat.reduceEqDiff, reduceCtorEq]; done) | simp [renAV_id, renAO_id, flat_up, Ab.get, clAV, clC, clCs, clAO, cl_f1, cl_s1, cl_f2, cl_s2, cl_a1, domOf, List.flatten])
    · rintro k ⟨hk, hall⟩
      (repeat (first | (with_reducible first | refine na ?_ | refine nb ?_ | refine nc ?_ | refine nd ?_ | refine ne ?_ | refine nf ?_ | refine ng ?_ | refine nh ?_ | refine ni ?_ | refine nj ?_ | refine nk ?_ | refine nl ?_ | refine nm (by decide) ?_ | refine nn ?_) | refine TO_go (wr := false) 400 (by simp only [kB, kG, k141, Nat.reduceAdd, Nat.reduceLT, Nat.reduceEqDiff, ↓reduceIte, reduceCtorEq]; first | done | rfl) (by first | exact trivial | (simp only [kO]; omega) | (simp [All, InR]; first | done | omega) | (simp +contextual [All, InR]; first | done | grind)) ?_))
      refine T_cond (by simp only [kV, ↓reduceIte, Nat.reduceEqDiff, reduceCtorEq]; first | done | rfl) ?_ ?_
      · intro hlt
        have hlt' : k < s.size := by simpa using hlt
        (repeat (first | (with_reducible first | refine na ?_ | refine nb ?_ | refine nc ?_ | refine nd ?_ | refine ne ?_ | refine nf ?_ | refine ng ?_ | refine nh ?_ | refine ni ?_ | refine nj ?_ | refine nk ?_ | refine nl ?_ | refine nm (by decide) ?_ | refine nn ?_) | refine TO_go (wr := false) 400 (by simp only [kB, kG, k141, Nat.reduceAdd, Nat.reduceLT, Nat.reduceEqDiff, ↓reduceIte, reduceCtorEq]; first | done | rfl) (by first | exact trivial | (simp only [kO]; omega) | (simp [All, InR]; first | done | omega) | (simp +contextual [All, InR]; first | done | grind)) ?_ | (refine TO_call [] (by simp) (by simp only [kV, ↓reduceIte, Nat.reduceEqDiff, reduceCtorEq]; first | done | rfl) ⟨by simp, by simp, by simp [clAV, clC, clCs, clCaps, clCap]⟩ (indexByte_ac _ _) ?_; (rintro r st' ⟨rfl, rfl⟩; refine ⟨by simp [Fresh], ?_⟩; simp only [kP, Nat.reduceEqDiff, ↓reduceIte, reduceCtorEq]))))
        refine T_cond (by simp only [kV, ↓reduceIte, Nat.reduceEqDiff, reduceCtorEq]; first | done | rfl) ?_ ?_
        · intro hb
          (repeat (first | (with_reducible first | refine na ?_ | refine nb ?_ | refine nc ?_ | refine nd ?_ | refine ne ?_ | refine nf ?_ | refine ng ?_ | refine nh ?_ | refine ni ?_ | refine nj ?_ | refine nk ?_ | refine nl ?_ | refine nm (by decide) ?_ | refine nn ?_) | refine TO_go (wr := false) 400 (by simp only [kB, kG, k141, Nat.reduceAdd, Nat.reduceLT, Nat.reduceEqDiff, ↓reduceIte, reduceCtorEq]; first | done | rfl) (by first | exact trivial | (simp only [kO]; omega) | (simp [All, InR]; first | done | omega) | (simp +contextual [All, InR]; first | done | grind)) ?_))
          refine RetQ_intro (by simp only [kR, Tryz.results141, ↓reduceIte, Nat.reduceEqDiff, reduceCtorEq]; first | done | rfl) (by first | exact trivial | (simp only [kO]; omega) | (simp [All, InR]; first | done | omega) | (simp +contextual [All, InR]; first | done | grind)) [] ⟨by simp [Ab.get, renAO_id], by simp, by simp [clAO, cl_f1, cl_s1, cl_f2, cl_s2, cl_a1, flat_up, clCs, clC, domOf, Ab.get], keepI hx (by simp [domOf, Ab.get])⟩ (by simp [clAV, clPs, clCs, clC, domOf, Ab.get]) ⟨?_, rfl⟩
          have hb' : okB (byteAt s k) = false := by simpa [okB, byteAt] using hb
          have : ((List.range s.size).all fun k => okB (byteAt s k)) = false := by
            cases e : (List.range s.size).all fun k => okB (byteAt s k)
            · rfl
            · have := range_all _ k _ hlt' e
              rw [hb'] at this; cases this
          simp only [comp, this, Bool.and_false]
        · intro hb
          (repeat (first | (with_reducible first | refine na ?_ | refine nb ?_ | refine nc ?_ | refine nd ?_ | refine ne ?_ | refine nf ?_ | refine ng ?_ | refine nh ?_ | refine ni ?_ | refine nj ?_ | refine nk ?_ | refine nl ?_ | refine nm (by decide) ?_ | refine nn ?_) | refine TO_go (wr := false) 400 (by simp only [kB, kG, k141, Nat.reduceAdd, Nat.reduceLT, Nat.reduceEqDiff, ↓reduceIte, reduceCtorEq]; first | done | rfl) (by first | exact trivial | (simp only [kO]; omega) | (simp [All, InR]; first | done | omega) | (simp +contextual [All, InR]; first | done | grind)) ?_))
          refine ⟨k + 1, ⟨by omega, ?_⟩, by omega, ?_⟩
          · intro j hj
            rcases Nat.lt_succ_iff_lt_or_eq.1 hj with hj | rfl
            · exact hall j hj
            · simpa [okB, byteAt] using hb
          · (refine Ent_sub (fun i => i) rfl ?_ ⟨?_, ?_, ?_, keepI hx (by simp [domOf, Ab.get])⟩ <;> first | (simp only [kE, dArr, ↓reduceIte, Nat.reduceEqDiff, reduceCtorEq]; done) | simp [renAV_id, renAO_id, flat_up, Ab.get, clAV, clC, clCs, clAO, cl_f1, cl_s1, cl_f2, cl_s2, cl_a1, domOf, List.flatten])
      · intro hge
        (repeat (first | (with_reducible first | refine na ?_ | refine nb ?_ | refine nc ?_ | refine nd ?_ | refine ne ?_ | refine nf ?_ | refine ng ?_ | refine nh ?_ | refine ni ?_ | refine nj ?_ | refine nk ?_ | refine nl ?_ | refine nm (by decide) ?_ | refine nn ?_) | refine TO_go (wr := false) 400 (by simp only [kB, kG, k141, Nat.reduceAdd, Nat.reduceLT, Nat.reduceEqDiff, ↓reduceIte, reduceCtorEq]; first | done | rfl) (by first | exact trivial | (simp only [kO]; omega) | (simp [All, InR]; first | done | omega) | (simp +contextual [All, InR]; first | done | grind)) ?_))
        refine RetQ_intro (by simp only [kR, Tryz.results141, ↓reduceIte, Nat.reduceEqDiff, reduceCtorEq]; first | done | rfl) (by first | exact trivial | (simp only [kO]; omega) | (simp [All, InR]; first | done | omega) | (simp +contextual [All, InR]; first | done | grind)) [] ⟨by simp [Ab.get, renAO_id], by simp, by simp [clAO, cl_f1, cl_s1, cl_f2, cl_s2, cl_a1, flat_up, clCs, clC, domOf, Ab.get], keepI hx (by simp [domOf, Ab.get])⟩ (by simp [clAV, clPs, clCs, clC, domOf, Ab.get]) ⟨?_, rfl⟩
        have hk' : k = s.size := by have : ¬ k < s.size := by simpa using hge
                                    omega
        have : ((List.range s.size).all fun k => okB (byteAt s k)) = true := by
          rw [List.all_eq_true]; intro j hj; exact hall j (by rw [hk']; exact List.mem_range.1 hj)
        simp only [comp, this, h2]; rfl
def k151 := And.intro @Tryz.ntmps151 <| And.intro @Tryz.underlying77 <| And.intro @Tryz.underlying9 <| And.intro @elt77 <| And.intro @ti77 <| @ti9
set_option maxRecDepth 100000 in
set_option maxHeartbeats 4000000 in
theorem parts_ac (p : ByteArray) (hs : p.size ≤ 1000000) : AC Tryz.prog 151 [Str p] [] (fun r st => r = .tup [pStrs (parts? p), pB (parts? p).isSome] ∧ st = []) := by
  refine AC_enter Tryz.func151 rfl rfl (by simp only [Tryz.ntmps151, List.length]; omega) ?_
  intro x hx
  simp only [List.range, List.range.loop, List.length, List.zip, List.zipWith, Nat.reduceAdd, Tryz.ntmps151]
  (repeat (first | (with_reducible first | refine na ?_ | refine nb ?_ | refine nc ?_ | refine nd ?_ | refine ne ?_ | refine nf ?_ | refine ng ?_ | refine nh ?_ | refine ni ?_ | refine nj ?_ | refine nk ?_ | refine nl ?_ | refine nm (by decide) ?_ | refine nn ?_) | refine TO_go (wr := false) 400 (by simp only [kB, kS, k151, Nat.reduceAdd, Nat.reduceLT, Nat.reduceEqDiff, ↓reduceIte, reduceCtorEq]; first | done | rfl) (by first | exact trivial | (simp only [kO]; omega) | (simp [All, InR]; first | done | omega) | (simp +contextual [All, InR]; first | done | grind)) ?_ | (refine TO_call [] (by simp) (by simp only [kV, ↓reduceIte, Nat.reduceEqDiff, reduceCtorEq]; first | done | rfl) ⟨by simp, by simp, by simp [clAV, clC, clCs, clCaps, clCap]⟩ (hasPrefix_ac _ _) ?_; (rintro r st' ⟨rfl, rfl⟩; refine ⟨by simp [Fresh], ?_⟩; simp only [kP, Nat.reduceEqDiff, ↓reduceIte, reduceCtorEq]))))
  refine T_cond (by simp only [kV, ↓reduceIte, Nat.reduceEqDiff, reduceCtorEq]; first | done | rfl) ?_ ?_
  · intro h
    have h' : hasPrefix p dslash = false := by simpa using h
    (repeat (first | (with_reducible first | refine na ?_ | refine nb ?_ | refine nc ?_ | refine nd ?_ | refine ne ?_ | refine nf ?_ | refine ng ?_ | refine nh ?_ | refine ni ?_ | refine nj ?_ | refine nk ?_ | refine nl ?_ | refine nm (by decide) ?_ | refine nn ?_) | refine TO_go (wr := false) 400 (by simp only [kB, kS, k151, Nat.reduceAdd, Nat.reduceLT, Nat.reduceEqDiff, ↓reduceIte, reduceCtorEq]; first | done | rfl) (by first | exact trivial | (simp only [kO]; omega) | (simp [All, InR]; first | done | omega) | (simp +contextual [All, InR]; first | done | grind)) ?_))
    refine RetQ_intro (by simp only [kR, Tryz.results151, ↓reduceIte, Nat.reduceEqDiff, reduceCtorEq]; first | done | rfl) (by first | exact trivial | (simp only [kO]; omega) | (simp [All, InR]; first | done | omega) | (simp +contextual [All, InR]; first | done | grind)) [] ⟨by simp [Ab.get, renAO_id], by simp, by simp [clAO, cl_f1, cl_s1, cl_f2, cl_s2, cl_a1, flat_up, clCs, clC, domOf, Ab.get], keepI hx (by simp [domOf, Ab.get])⟩ (by simp [clAV, clPs, clCs, clC, domOf, Ab.get]) ⟨?_, rfl⟩
    simp [parts?, h']
  · intro h
    have h' : hasPrefix p dslash = true := by simpa using h
    have hsz : 2 ≤ p.size := by simp only [hasPrefix, Bool.and_eq_true, decide_eq_true_eq] at h'; exact h'.1
    have hL := split_len (p.extract 2 p.size)
    have hL2 : (p.extract 2 p.size).size ≤ p.size := by simp
    (repeat (first | (with_reducible first | refine na ?_ | refine nb ?_ | refine nc ?_ | refine nd ?_ | refine ne ?_ | refine nf ?_ | refine ng ?_ | refine nh ?_ | refine ni ?_ | refine nj ?_ | refine nk ?_ | refine nl ?_ | refine nm (by decide) ?_ | refine nn ?_) | refine TO_go (wr := false) 400 (by simp only [kB, kS, k151, Nat.reduceAdd, Nat.reduceLT, Nat.reduceEqDiff, ↓reduceIte, reduceCtorEq, Int.reduceToNat]; first | done | rfl) (by first | exact trivial | (simp only [kO]; omega) | (simp [All, InR]; first | done | omega) | (simp +contextual [All, InR]; first | done | grind)) ?_ | (refine TO_call [] (by simp) (by simp only [kV, ↓reduceIte, Nat.reduceEqDiff, reduceCtorEq]; first | done | rfl) ⟨by simp, by simp, by simp [clAV, clC, clCs, clCaps, clCap]⟩ (split_ac _ (by simp; omega)) ?_; (rintro r st' ⟨rfl, rfl⟩; refine ⟨by simp [Fresh], ?_⟩; simp only [kP, Nat.reduceEqDiff, ↓reduceIte, reduceCtorEq]))))
    refine T_loop (ι := Nat) (I := fun k => ⟨24, [(4, aStrs (split (p.extract 2 p.size))), (13, aStrs (split (p.extract 2 p.size))), (14, I .i64 (split (p.extract 2 p.size)).length), (15, I .i64 k)], []⟩)
      (Inv := fun k => k ≤ (split (p.extract 2 p.size)).length ∧ ((split (p.extract 2 p.size)).take k).all comp = true) (μ := fun k => (split (p.extract 2 p.size)).length - k) 0 ⟨by omega, by simp⟩ ?_ ?_
    · (refine Ent_sub (fun i => i) rfl ?_ ⟨?_, ?_, ?_, keepI hx (by simp [domOf, Ab.get])⟩ <;> first | (simp only [kE, dArr, ↓reduceIte, Nat.reduceEqDiff, reduceCtorEq]; done) | simp [renAV_id, renAO_id, flat_up, Ab.get, clAV, clC, clCs, clAO, cl_f1, cl_s1, cl_f2, cl_s2, cl_a1, domOf, List.flatten])
    · rintro k ⟨hk, hall⟩
      (repeat (first | (with_reducible first | refine na ?_ | refine nb ?_ | refine nc ?_ | refine nd ?_ | refine ne ?_ | refine nf ?_ | refine ng ?_ | refine nh ?_ | refine ni ?_ | refine nj ?_ | refine nk ?_ | refine nl ?_ | refine nm (by decide) ?_ | refine nn ?_) | refine TO_go (wr := false) 400 (by simp only [kB, kS, k151, Nat.reduceAdd, Nat.reduceLT, Nat.reduceEqDiff, ↓reduceIte, reduceCtorEq]; first | done | rfl) (by first | exact trivial | (simp only [kO]; omega) | (simp [All, InR]; first | done | omega) | (simp +contextual [All, InR]; first | done | grind)) ?_))
      refine T_cond (by simp only [kV, ↓reduceIte, Nat.reduceEqDiff, reduceCtorEq]; first | done | rfl) ?_ ?_
      · intro hlt
        have hlt' : k < (split (p.extract 2 p.size)).length := by simpa using hlt
        obtain ⟨v, hv, he, htk⟩ := round encS (split (p.extract 2 p.size)) k ByteArray.empty hlt'
        have hvs : v.size ≤ 1000000 := by
          have := splitN_size _ _ v (List.mem_of_getElem? hv)
          omega
        (repeat (first | (with_reducible first | refine na ?_ | refine nb ?_ | refine nc ?_ | refine nd ?_ | refine ne ?_ | refine nf ?_ | refine ng ?_ | refine nh ?_ | refine ni ?_ | refine nj ?_ | refine nk ?_ | refine nl ?_ | refine nm (by decide) ?_ | refine nn ?_) | refine TO_go (wr := false) 400 (by simp only [kB, kS, k151, Nat.reduceAdd, Nat.reduceLT, Nat.reduceEqDiff, ↓reduceIte, reduceCtorEq, he]; first | done | rfl) (by first | exact trivial | (simp only [kO]; omega) | (simp [All, InR]; first | done | omega) | (simp +contextual [All, InR]; first | done | grind)) ?_ | (refine TO_call [] (by simp) (by simp only [kV, ↓reduceIte, Nat.reduceEqDiff, reduceCtorEq]; first | done | rfl) ⟨by simp, by simp, by simp [clAV, clC, clCs, clCaps, clCap]⟩ (comp_ac v hvs) ?_; (rintro r st' ⟨rfl, rfl⟩; refine ⟨by simp [Fresh], ?_⟩; simp only [kP, Nat.reduceEqDiff, ↓reduceIte, reduceCtorEq]))))
        refine T_cond (by simp only [kV, ↓reduceIte, Nat.reduceEqDiff, reduceCtorEq]; first | done | rfl) ?_ ?_
        · intro hc
          have hc' : comp v = false := by simpa using hc
          have hf : (split (p.extract 2 p.size)).all comp = false := by
            cases e : (split (p.extract 2 p.size)).all comp
            · rfl
            · rw [List.all_eq_true] at e; rw [e v (List.mem_of_getElem? hv)] at hc'; cases hc'
          (repeat (first | (with_reducible first | refine na ?_ | refine nb ?_ | refine nc ?_ | refine nd ?_ | refine ne ?_ | refine nf ?_ | refine ng ?_ | refine nh ?_ | refine ni ?_ | refine nj ?_ | refine nk ?_ | refine nl ?_ | refine nm (by decide) ?_ | refine nn ?_) | refine TO_go (wr := false) 400 (by simp only [kB, kS, k151, Nat.reduceAdd, Nat.reduceLT, Nat.reduceEqDiff, ↓reduceIte, reduceCtorEq]; first | done | rfl) (by first | exact trivial | (simp only [kO]; omega) | (simp [All, InR]; first | done | omega) | (simp +contextual [All, InR]; first | done | grind)) ?_))
          refine RetQ_intro (by simp only [kR, Tryz.results151, ↓reduceIte, Nat.reduceEqDiff, reduceCtorEq]; first | done | rfl) (by first | exact trivial | (simp only [kO]; omega) | (simp [All, InR]; first | done | omega) | (simp +contextual [All, InR]; first | done | grind)) [] ⟨by simp [Ab.get, renAO_id], by simp, by simp [clAO, cl_f1, cl_s1, cl_f2, cl_s2, cl_a1, flat_up, clCs, clC, domOf, Ab.get], keepI hx (by simp [domOf, Ab.get])⟩ (by simp [clAV, clPs, clCs, clC, domOf, Ab.get]) ⟨?_, rfl⟩
          simp [parts?, h', hf]
        · intro hc
          have hc' : comp v = true := by simpa using hc
          (repeat (first | (with_reducible first | refine na ?_ | refine nb ?_ | refine nc ?_ | refine nd ?_ | refine ne ?_ | refine nf ?_ | refine ng ?_ | refine nh ?_ | refine ni ?_ | refine nj ?_ | refine nk ?_ | refine nl ?_ | refine nm (by decide) ?_ | refine nn ?_) | refine TO_go (wr := false) 400 (by simp only [kB, kS, k151, Nat.reduceAdd, Nat.reduceLT, Nat.reduceEqDiff, ↓reduceIte, reduceCtorEq]; first | done | rfl) (by first | exact trivial | (simp only [kO]; omega) | (simp [All, InR]; first | done | omega) | (simp +contextual [All, InR]; first | done | grind)) ?_))
          refine ⟨k + 1, ⟨by omega, ?_⟩, by omega, ?_⟩
          · rw [htk, List.all_append, hall]; simp [hc']
          · (refine Ent_sub (fun i => i) rfl ?_ ⟨?_, ?_, ?_, keepI hx (by simp [domOf, Ab.get])⟩ <;> first | (simp only [kE, dArr, ↓reduceIte, Nat.reduceEqDiff, reduceCtorEq]; done) | simp [renAV_id, renAO_id, flat_up, Ab.get, clAV, clC, clCs, clAO, cl_f1, cl_s1, cl_f2, cl_s2, cl_a1, domOf, List.flatten])
      · intro hge
        have hk' : k = (split (p.extract 2 p.size)).length := by have : ¬ k < (split (p.extract 2 p.size)).length := by simpa using hge
                                                                 omega
        (repeat (first | (with_reducible first | refine na ?_ | refine nb ?_ | refine nc ?_ | refine nd ?_ | refine ne ?_ | refine nf ?_ | refine ng ?_ | refine nh ?_ | refine ni ?_ | refine nj ?_ | refine nk ?_ | refine nl ?_ | refine nm (by decide) ?_ | refine nn ?_) | refine TO_go (wr := false) 400 (by simp only [kB, kS, k151, Nat.reduceAdd, Nat.reduceLT, Nat.reduceEqDiff, ↓reduceIte, reduceCtorEq]; first | done | rfl) (by first | exact trivial | (simp only [kO]; omega) | (simp [All, InR]; first | done | omega) | (simp +contextual [All, InR]; first | done | grind)) ?_))
        refine RetQ_intro (by simp only [kR, Tryz.results151, ↓reduceIte, Nat.reduceEqDiff, reduceCtorEq]; first | done | rfl) (by first | exact trivial | (simp only [kO]; omega) | (simp [All, InR]; first | done | omega) | (simp +contextual [All, InR]; first | done | grind)) [] ⟨by simp [Ab.get, renAO_id], by simp, by simp [clAO, cl_f1, cl_s1, cl_f2, cl_s2, cl_a1, flat_up, clCs, clC, domOf, Ab.get], keepI hx (by simp [domOf, Ab.get])⟩ (by simp [clAV, clPs, clCs, clC, domOf, Ab.get]) ⟨?_, rfl⟩
        rw [hk', List.take_length] at hall
        simp [parts?, h', hall]
def k112 := And.intro @Tryz.ntmps112 <| And.intro @Tryz.underlying77 <| And.intro @elt77 <| @ti9
set_option maxRecDepth 100000 in
set_option maxHeartbeats 4000000 in
theorem path_ac (p : ByteArray) (hs : p.size ≤ 1000000) : AC Tryz.prog 112 [Str p] [] (fun r st => r = .tup [pStrs (path? p), pB (path? p).isSome] ∧ st = []) := by
  have hc := parts_ac p hs
  cases hp : parts? p with
  | none =>
    rw [hp] at hc
    simp only [pStrs, pB, Option.isSome] at hc
    refine AC_enter Tryz.func112 rfl rfl (by simp only [Tryz.ntmps112, List.length]; omega) ?_
    intro x hx
    simp only [List.range, List.range.loop, List.length, List.zip, List.zipWith, Nat.reduceAdd, Tryz.ntmps112]
    (repeat (first | (with_reducible first | refine na ?_ | refine nb ?_ | refine nc ?_ | refine nd ?_ | refine ne ?_ | refine nf ?_ | refine ng ?_ | refine nh ?_ | refine ni ?_ | refine nj ?_ | refine nk ?_ | refine nl ?_ | refine nm (by decide) ?_ | refine nn ?_) | refine TO_go (wr := false) 400 (by simp only [kB, kG, k112, Nat.reduceAdd, Nat.reduceLT, Nat.reduceEqDiff, ↓reduceIte, reduceCtorEq]; first | done | rfl) (by first | exact trivial | (simp only [kO]; omega) | (simp [All, InR]; first | done | omega) | (simp +contextual [All, InR]; first | done | grind)) ?_ | (refine TO_call [] (by simp) (by simp only [kV, ↓reduceIte, Nat.reduceEqDiff, reduceCtorEq]; first | done | rfl) ⟨by simp, by simp, by simp [clAV, clC, clCs, clCaps, clCap]⟩ (hc) ?_; (rintro r st' ⟨rfl, rfl⟩; refine ⟨by simp [Fresh], ?_⟩; simp only [kP, Nat.reduceEqDiff, ↓reduceIte, reduceCtorEq]))))
    refine T_cond (by simp only [kV, ↓reduceIte, Nat.reduceEqDiff, reduceCtorEq]; first | done | rfl) ?_ ?_
    · intro h
      (repeat (first | (with_reducible first | refine na ?_ | refine nb ?_ | refine nc ?_ | refine nd ?_ | refine ne ?_ | refine nf ?_ | refine ng ?_ | refine nh ?_ | refine ni ?_ | refine nj ?_ | refine nk ?_ | refine nl ?_ | refine nm (by decide) ?_ | refine nn ?_) | refine TO_go (wr := false) 400 (by simp only [kB, kG, k112, Nat.reduceAdd, Nat.reduceLT, Nat.reduceEqDiff, ↓reduceIte, reduceCtorEq]; first | done | rfl) (by first | exact trivial | (simp only [kO]; omega) | (simp [All, InR]; first | done | omega) | (simp +contextual [All, InR]; first | done | grind)) ?_))
      refine RetQ_intro (by simp only [kR, Tryz.results112, ↓reduceIte, Nat.reduceEqDiff, reduceCtorEq]; first | done | rfl) (by first | exact trivial | (simp only [kO]; omega) | (simp [All, InR]; first | done | omega) | (simp +contextual [All, InR]; first | done | grind)) [] ⟨by simp [Ab.get, renAO_id], by simp, by simp [clAO, cl_f1, cl_s1, cl_f2, cl_s2, cl_a1, flat_up, clCs, clC, domOf, Ab.get], keepI hx (by simp [domOf, Ab.get])⟩ (by simp [clAV, clPs, clCs, clC, domOf, Ab.get]) ⟨?_, rfl⟩
      simp [path?, hp]
    · intro h
      exact absurd h (by simp)
  | some l =>
    rw [hp] at hc
    simp only [pStrs, pB, Option.isSome] at hc
    refine AC_enter Tryz.func112 rfl rfl (by simp only [Tryz.ntmps112, List.length]; omega) ?_
    intro x hx
    simp only [List.range, List.range.loop, List.length, List.zip, List.zipWith, Nat.reduceAdd, Tryz.ntmps112]
    (repeat (first | (with_reducible first | refine na ?_ | refine nb ?_ | refine nc ?_ | refine nd ?_ | refine ne ?_ | refine nf ?_ | refine ng ?_ | refine nh ?_ | refine ni ?_ | refine nj ?_ | refine nk ?_ | refine nl ?_ | refine nm (by decide) ?_ | refine nn ?_) | refine TO_go (wr := false) 400 (by simp only [kB, kG, k112, Nat.reduceAdd, Nat.reduceLT, Nat.reduceEqDiff, ↓reduceIte, reduceCtorEq]; first | done | rfl) (by first | exact trivial | (simp only [kO]; omega) | (simp [All, InR]; first | done | omega) | (simp +contextual [All, InR]; first | done | grind)) ?_ | (refine TO_call [] (by simp) (by simp only [kV, ↓reduceIte, Nat.reduceEqDiff, reduceCtorEq]; first | done | rfl) ⟨by simp, by simp, by simp [clAV, clC, clCs, clCaps, clCap]⟩ (hc) ?_; (rintro r st' ⟨rfl, rfl⟩; refine ⟨by simp [Fresh], ?_⟩; simp only [kP, Nat.reduceEqDiff, ↓reduceIte, reduceCtorEq]))))
    refine T_cond (by simp only [kV, ↓reduceIte, Nat.reduceEqDiff, reduceCtorEq]; first | done | rfl) ?_ ?_
    · intro h
      have h0 : (l.length : Int) < 2 := by simpa using h
      have h' : l.length < 2 := by omega
      (repeat (first | (with_reducible first | refine na ?_ | refine nb ?_ | refine nc ?_ | refine nd ?_ | refine ne ?_ | refine nf ?_ | refine ng ?_ | refine nh ?_ | refine ni ?_ | refine nj ?_ | refine nk ?_ | refine nl ?_ | refine nm (by decide) ?_ | refine nn ?_) | refine TO_go (wr := false) 400 (by simp only [kB, kG, k112, Nat.reduceAdd, Nat.reduceLT, Nat.reduceEqDiff, ↓reduceIte, reduceCtorEq]; first | done | rfl) (by first | exact trivial | (simp only [kO]; omega) | (simp [All, InR]; first | done | omega) | (simp +contextual [All, InR]; first | done | grind)) ?_))
      refine RetQ_intro (by simp only [kR, Tryz.results112, ↓reduceIte, Nat.reduceEqDiff, reduceCtorEq]; first | done | rfl) (by first | exact trivial | (simp only [kO]; omega) | (simp [All, InR]; first | done | omega) | (simp +contextual [All, InR]; first | done | grind)) [] ⟨by simp [Ab.get, renAO_id], by simp, by simp [clAO, cl_f1, cl_s1, cl_f2, cl_s2, cl_a1, flat_up, clCs, clC, domOf, Ab.get], keepI hx (by simp [domOf, Ab.get])⟩ (by simp [clAV, clPs, clCs, clC, domOf, Ab.get]) ⟨?_, rfl⟩
      simp [path?, hp, h']
    · intro h
      have h0 : (2 : Int) ≤ l.length := by simpa using h
      have h' : ¬ l.length < 2 := by omega
      (repeat (first | (with_reducible first | refine na ?_ | refine nb ?_ | refine nc ?_ | refine nd ?_ | refine ne ?_ | refine nf ?_ | refine ng ?_ | refine nh ?_ | refine ni ?_ | refine nj ?_ | refine nk ?_ | refine nl ?_ | refine nm (by decide) ?_ | refine nn ?_) | refine TO_go (wr := false) 400 (by simp only [kB, kG, k112, Nat.reduceAdd, Nat.reduceLT, Nat.reduceEqDiff, ↓reduceIte, reduceCtorEq]; first | done | rfl) (by first | exact trivial | (simp only [kO]; omega) | (simp [All, InR]; first | done | omega) | (simp +contextual [All, InR]; first | done | grind)) ?_))
      refine RetQ_intro (by simp only [kR, Tryz.results112, ↓reduceIte, Nat.reduceEqDiff, reduceCtorEq]; first | done | rfl) (by first | exact trivial | (simp only [kO]; omega) | (simp [All, InR]; first | done | omega) | (simp +contextual [All, InR]; first | done | grind)) [] ⟨by simp [Ab.get, renAO_id], by simp, by simp [clAO, cl_f1, cl_s1, cl_f2, cl_s2, cl_a1, flat_up, clCs, clC, domOf, Ab.get], keepI hx (by simp [domOf, Ab.get])⟩ (by simp [clAV, clPs, clCs, clC, domOf, Ab.get]) ⟨?_, rfl⟩
      simp [path?, hp, h']
end Go.Proofs.YtbllfnmabmamfaaGreatDoor
namespace Go.Proofs.YtbllfnmabmamfaaGreatDoor
open Go.Ab Tys
def k114 := And.intro @Tryz.ntmps114 <| And.intro @Tryz.underlying77 <| And.intro @elt77 <| And.intro @ti77 <| @ti9
theorem v114G4 {G G' : Prop} (g : G') (h : Hid G' → G := by intro h9; (first | refine nvB ?_ | refine goA (wr := false) (by simp only [kB, kG, k114, Nat.reduceAdd, Nat.reduceLT, Nat.reduceEqDiff, ↓reduceIte, reduceCtorEq]; first | done | rfl) ?_); (repeat (first | refine nvB ?_ | refine goA (wr := false) (by simp only [kB, kG, k114, Nat.reduceAdd, Nat.reduceLT, Nat.reduceEqDiff, ↓reduceIte, reduceCtorEq]; first | done | rfl) ?_)); exact h9.out) : G := h ⟨g⟩
set_option maxRecDepth 100000 in
set_option maxHeartbeats 4000000 in
theorem compare_ac (a b : List ByteArray) (ha : a.length ≤ 1000000) : AC Tryz.prog 114 [aStrs a, aStrs b] [] (fun r st => r = I .i64 (cmpL a b) ∧ st = []) := by
  refine AC_enter Tryz.func114 rfl rfl (by simp only [Tryz.ntmps114, List.length]; omega) ?_
  intro x hx
  simp only [List.range, List.range.loop, List.length, List.zip, List.zipWith, Nat.reduceAdd, Tryz.ntmps114]
  try refine v114G4 ?_
  refine T_loop (ι := Nat) (I := fun k => ⟨43, [(0, aStrs a), (1, aStrs b), (5, I .i64 k)], []⟩)
    (Inv := fun k => k ≤ a.length ∧ k ≤ b.length ∧ cmpL a b = cmpL (a.drop k) (b.drop k)) (μ := fun k => a.length - k) 0 ⟨by omega, by omega, by simp⟩ ?_ ?_
  · exact enA
  · rintro k ⟨hk, hk2, hcm⟩
    try refine v114G4 ?_
    refine ifA ?_ ?_
    · intro hlt
      have hlt' : k < a.length ∧ k < b.length := by simpa using hlt
      obtain ⟨hla, hlb⟩ := hlt'
      obtain ⟨v, hv, he, htk⟩ := round encS a k ByteArray.empty hla
      obtain ⟨w, hw, he2, htk2⟩ := round encS b k ByteArray.empty hlb
      have hda : a.drop k = v :: a.drop (k + 1) := by rw [List.drop_eq_getElem_cons hla]; simp [List.getElem?_eq_getElem hla] at hv; rw [hv]
      have hdb : b.drop k = w :: b.drop (k + 1) := by rw [List.drop_eq_getElem_cons hlb]; simp [List.getElem?_eq_getElem hlb] at hw; rw [hw]
      rw [hda, hdb, cmpL] at hcm
      refine nvA ?_
      refine drA (wr := false) ([(27, I .i64 (cb v w))] : List (Nat × AV)) (by simp only [kD, kB, kG, k114, Nat.reduceAdd, Nat.reduceLT, Nat.reduceEqDiff, ↓reduceIte, reduceCtorEq, he, he2]; first | done | rfl) ?_ ?_
      · simp only [All, List.cons_append, List.nil_append, InR, List.mem_cons, List.not_mem_nil, or_false, forall_eq_or_imp, forall_eq, clAV, clCs, clC, clCaps, clCap, and_true, true_and, implies_true, List.length_map, List.length_cons, List.length_nil, dArr, cl_arr, tyCs]
        repeat' (first | exact trivial | exact strCompare_ac _ _ | refine And.intro ?_ ?_ | intro _ | assumption | rfl | omega | (rw [Bool.not_eq_true']; assumption) | (simp; done) | (simp only [decide_eq_true_eq] at *; omega) | (simp_all; done))
      try refine v114G4 ?_
      refine ifA ?_ ?_
      · intro hc
        have hc' : ¬ cb v w = 0 := by simpa using hc
        try refine v114G4 ?_
        refine rtA (by simp only [kR, Tryz.results114, ↓reduceIte, Nat.reduceEqDiff, reduceCtorEq]; first | done | rfl) ([]) ?_
        refine ⟨?_, rfl⟩
        rw [hcm, if_neg hc']
      · intro hc
        have hc' : cb v w = 0 := by simpa using hc
        try refine v114G4 ?_
        refine ⟨k + 1, ⟨by omega, by omega, ?_⟩, by omega, ?_⟩
        · rw [hcm, if_pos hc']
        · exact enA
    · intro hge
      have hge' : ¬ (k < a.length ∧ k < b.length) := by simpa using hge
      try refine v114G4 ?_
      refine ifA ?_ ?_
      · intro h
        have h' : a.length < b.length := by simpa using h
        try refine v114G4 ?_
        refine rtA (by simp only [kR, Tryz.results114, ↓reduceIte, Nat.reduceEqDiff, reduceCtorEq]; first | done | rfl) ([]) ?_
        refine ⟨?_, rfl⟩
        have e1 : a.drop k = [] := List.drop_eq_nil_of_le (by omega)
        have hlb : k < b.length := by omega
        rw [hcm, e1, List.drop_eq_getElem_cons hlb, cmpL]
      · intro h
        have h' : ¬ a.length < b.length := by simpa using h
        try refine v114G4 ?_
        refine ifA ?_ ?_
        · intro h2
          have h2' : b.length < a.length := by simpa using h2
          try refine v114G4 ?_
          refine rtA (by simp only [kR, Tryz.results114, ↓reduceIte, Nat.reduceEqDiff, reduceCtorEq]; first | done | rfl) ([]) ?_
          refine ⟨?_, rfl⟩
          have e1 : b.drop k = [] := List.drop_eq_nil_of_le (by omega)
          have hla : k < a.length := by omega
          rw [hcm, e1, List.drop_eq_getElem_cons hla, cmpL]
        · intro h2
          have h2' : ¬ b.length < a.length := by simpa using h2
          try refine v114G4 ?_
          refine rtA (by simp only [kR, Tryz.results114, ↓reduceIte, Nat.reduceEqDiff, reduceCtorEq]; first | done | rfl) ([]) ?_
          refine ⟨?_, rfl⟩
          have e1 : b.drop k = [] := List.drop_eq_nil_of_le (by omega)
          have e2 : a.drop k = [] := List.drop_eq_nil_of_le (by omega)
          rw [hcm, e1, e2, cmpL]
def k68 := And.intro @Tryz.ntmps68 <| trivial
theorem v68G4 {G G' : Prop} (g : G') (h : Hid G' → G := by intro h9; (first | refine nvB ?_ | refine goA (wr := false) (by simp only [kB, kG, k68, Nat.reduceAdd, Nat.reduceLT, Nat.reduceEqDiff, ↓reduceIte, reduceCtorEq]; first | done | rfl) ?_); (repeat (first | refine nvB ?_ | refine goA (wr := false) (by simp only [kB, kG, k68, Nat.reduceAdd, Nat.reduceLT, Nat.reduceEqDiff, ↓reduceIte, reduceCtorEq]; first | done | rfl) ?_)); exact h9.out) : G := h ⟨g⟩
set_option maxRecDepth 100000 in
set_option maxHeartbeats 4000000 in
theorem ord_ac (p q : ByteArray) (hp : p.size ≤ 100000) (hq : q.size ≤ 100000) : AC Tryz.prog 68 [Str p, Str q] [] (fun r st => r = I .i64 (ord p q) ∧ st = []) := by
  have hcp := path_ac p (by omega)
  have hcq := path_ac q (by omega)
  cases ep : path? p with
  | none =>
    rw [ep] at hcp
    simp only [pStrs, pB, Option.isSome] at hcp
    cases eq : path? q with
    | none =>
      rw [eq] at hcq
      simp only [pStrs, pB, Option.isSome] at hcq
      refine AC_enter Tryz.func68 rfl rfl (by simp only [Tryz.ntmps68, List.length]; omega) ?_
      intro x hx
      simp only [List.range, List.range.loop, List.length, List.zip, List.zipWith, Nat.reduceAdd, Tryz.ntmps68]
      (repeat (first | refine v68G4 ?_ | (refine caA [] (hcp) ?_; rintro r st' ⟨rfl, rfl⟩; refine frA ?_) | (refine caA [] (hcq) ?_; rintro r st' ⟨rfl, rfl⟩; refine frA ?_)))
      refine ifA ?_ ?_
      · intro _
        (repeat (first | refine v68G4 ?_ | (refine caA [] (strCompare_ac _ _) ?_; rintro r st' ⟨rfl, rfl⟩; refine frA ?_)))
        refine rtA (by simp only [kR, Tryz.results68, ↓reduceIte, Nat.reduceEqDiff, reduceCtorEq]; first | done | rfl) ([]) ?_
        refine ⟨?_, rfl⟩
        simp only [ord, ep, eq]; rfl
      · intro h; simp at h
    | some b =>
      rw [eq] at hcq
      simp only [pStrs, pB, Option.isSome] at hcq
      refine AC_enter Tryz.func68 rfl rfl (by simp only [Tryz.ntmps68, List.length]; omega) ?_
      intro x hx
      simp only [List.range, List.range.loop, List.length, List.zip, List.zipWith, Nat.reduceAdd, Tryz.ntmps68]
      (repeat (first | refine v68G4 ?_ | (refine caA [] (hcp) ?_; rintro r st' ⟨rfl, rfl⟩; refine frA ?_) | (refine caA [] (hcq) ?_; rintro r st' ⟨rfl, rfl⟩; refine frA ?_)))
      refine ifA ?_ ?_
      · intro h; simp at h
      · intro _
        try refine v68G4 ?_
        refine ifA ?_ ?_
        · intro _
          try refine v68G4 ?_
          refine rtA (by simp only [kR, Tryz.results68, ↓reduceIte, Nat.reduceEqDiff, reduceCtorEq]; first | done | rfl) ([]) ?_
          refine ⟨?_, rfl⟩
          simp only [ord, ep, eq]
        · intro h; simp at h
  | some a =>
    rw [ep] at hcp
    simp only [pStrs, pB, Option.isSome] at hcp
    cases eq : path? q with
    | none =>
      rw [eq] at hcq
      simp only [pStrs, pB, Option.isSome] at hcq
      refine AC_enter Tryz.func68 rfl rfl (by simp only [Tryz.ntmps68, List.length]; omega) ?_
      intro x hx
      simp only [List.range, List.range.loop, List.length, List.zip, List.zipWith, Nat.reduceAdd, Tryz.ntmps68]
      (repeat (first | refine v68G4 ?_ | (refine caA [] (hcp) ?_; rintro r st' ⟨rfl, rfl⟩; refine frA ?_) | (refine caA [] (hcq) ?_; rintro r st' ⟨rfl, rfl⟩; refine frA ?_)))
      refine ifA ?_ ?_
      · intro h; simp at h
      · intro _
        try refine v68G4 ?_
        refine ifA ?_ ?_
        · intro h; simp at h
        · intro _
          try refine v68G4 ?_
          refine ifA ?_ ?_
          · intro _
            try refine v68G4 ?_
            refine rtA (by simp only [kR, Tryz.results68, ↓reduceIte, Nat.reduceEqDiff, reduceCtorEq]; first | done | rfl) ([]) ?_
            refine ⟨?_, rfl⟩
            simp only [ord, ep, eq]
          · intro h; simp at h
    | some b =>
      rw [eq] at hcq
      simp only [pStrs, pB, Option.isSome] at hcq
      have := path?_len ep
      refine AC_enter Tryz.func68 rfl rfl (by simp only [Tryz.ntmps68, List.length]; omega) ?_
      intro x hx
      simp only [List.range, List.range.loop, List.length, List.zip, List.zipWith, Nat.reduceAdd, Tryz.ntmps68]
      (repeat (first | refine v68G4 ?_ | (refine caA [] (hcp) ?_; rintro r st' ⟨rfl, rfl⟩; refine frA ?_) | (refine caA [] (hcq) ?_; rintro r st' ⟨rfl, rfl⟩; refine frA ?_)))
      refine ifA ?_ ?_
      · intro h; simp at h
      · intro _
        try refine v68G4 ?_
        refine ifA ?_ ?_
        · intro h; simp at h
        · intro _
          try refine v68G4 ?_
          refine ifA ?_ ?_
          · intro h; simp at h
          · intro _
            (repeat (first | refine v68G4 ?_ | (refine caA [] (compare_ac a b (by omega)) ?_; rintro r st' ⟨rfl, rfl⟩; refine frA ?_)))
            refine rtA (by simp only [kR, Tryz.results68, ↓reduceIte, Nat.reduceEqDiff, reduceCtorEq]; first | done | rfl) ([]) ?_
            refine ⟨?_, rfl⟩
            simp only [ord, ep, eq]
end Go.Proofs.YtbllfnmabmamfaaGreatDoor

/- A part of the proof. -/
import Derived.Test.YtmhboloicpieeaaGreatDoorRPD
import Derived.Test.YtmhboloicpieeaaGreatDoorRG2
import Derived.Test.YtmhboloicpieeaaGreatDoorRP14
import Derived.Test.YtmhboloicpieeaaGreatDoorRU1
set_option linter.all false
namespace Go.Proofs.YtmhboloicpieeaaGreatDoor
open Go.Ab Tys
variable [Dr]
def k136 := And.intro @Tryz.ntmps136 <| And.intro @Tryz.underlying9 <| @ti9
theorem v136U2 {G G' : Prop} (g : G') (h : Hid G' → G := by intro h9; (first | refine nvB ?_ | refine goA (wr := false) (by simp only [kB, kG, kS, k136, Nat.reduceAdd, Nat.reduceLT, Nat.reduceEqDiff, ↓reduceIte, reduceCtorEq]; first | done | rfl) ?_); (repeat (first | refine nvB ?_ | refine goA (wr := false) (by simp only [kB, kG, kS, k136, Nat.reduceAdd, Nat.reduceLT, Nat.reduceEqDiff, ↓reduceIte, reduceCtorEq]; first | done | rfl) ?_)); exact h9.out) : G := h ⟨g⟩
set_option maxRecDepth 100000 in
set_option maxHeartbeats 4000000 in
theorem valid_ac (p : ByteArray) (hs : p.size ≤ 100000) : AC Tryz.prog 136 [Str p] [] (fun r st => r = B (path? p).isSome ∧ st = []) := by
  refine AC_enter Tryz.func136 rfl rfl (by simp only [Tryz.ntmps136, List.length]; omega) ?_
  intro x hx
  simp only [List.range, List.range.loop, List.length, List.zip, List.zipWith, Nat.reduceAdd, Tryz.ntmps136]
  (repeat (first | refine v136U2 ?_ | (refine caA [] (hasPrefix_ac _ _) ?_; rintro r st' ⟨rfl, rfl⟩; refine frA ?_)))
  refine ifA ?_ ?_
  · intro h
    try refine v136U2 ?_
    refine rtA (by simp only [kR, Tryz.results136, ↓reduceIte, Nat.reduceEqDiff, reduceCtorEq]; first | done | rfl) ([]) ?_
    refine ⟨?_, rfl⟩
    rw [path_noprefix (by simpa using h)]
  · intro h
    have hpre : hasPrefix p dslash = true := by simpa using h
    have h2 : 2 ≤ p.size := of_decide_eq_true (Bool.and_eq_true_iff.1 hpre).1
    rw [vB_start hpre]
    try refine v136U2 ?_
    refine T_loop (ι := Nat × Nat × Nat) (I := fun k => ⟨38, [(0, Str p), (3, I .i64 k.1), (4, I .i64 k.2.1), (5, I .i64 k.2.2)], []⟩)
      (Inv := fun k => k.1 ≤ k.2.1 ∧ k.2.1 ≤ k.2.2 ∧ k.2.2 ≤ p.size + 1 ∧ (∀ j, k.2.1 ≤ j → j < k.2.2 → byteAt p j ≠ 47) ∧ vB p 0 2 = vB p k.1 k.2.1 ∧ (k.2.2 ≤ p.size ∨ k.2.1 = k.2.2)) (μ := fun k => p.size + 1 - k.2.2) (0, 2, 2) ⟨by simp, by simp, by simp; omega, by intro j hj hj2; simp at hj hj2; omega, rfl, by simp⟩ ?_ ?_
    · exact enA
    · rintro ⟨c, b, i⟩ ⟨h1, h3, h4, h5, h6, h7⟩
      simp only at h1 h3 h4 h5 h6 h7 ⊢
      rw [h6]
      try refine v136U2 ?_
      refine ifA ?_ ?_
      · intro hle
        have hi : i ≤ p.size := by simpa using hle
        try refine v136U2 ?_
        refine ifA ?_ ?_
        · intro hc
          have hlt : i < p.size := by
            by_cases h : (i : Int) < p.size
            · omega
            · simp [h] at hc
          have hb : byteAt p i ≠ 47 := by
            have : (i : Int) < p.size := by omega
            simp only [this, decide_true, cond_true] at hc
            simpa [byteAt] using hc
          try refine v136U2 ?_
          refine ⟨(c, b, i + 1), ⟨h1, by simp; omega, by simp; omega, ?_, rfl, by simp; omega⟩, by simp; omega, ?_⟩
          · intro j hj hj2
            simp only at hj hj2
            rcases Nat.lt_succ_iff_lt_or_eq.1 hj2 with hj2 | rfl
            · exact h5 j hj hj2
            · exact hb
          · exact enA
        · intro hc
          have hst : i = p.size ∨ (i < p.size ∧ byteAt p i = 47) := by
            by_cases h : (i : Int) < p.size
            · simp only [h, decide_true, cond_true] at hc
              exact .inr ⟨by omega, by simpa [byteAt] using hc⟩
            · exact .inl (by omega)
          have hnext := vB_next (c := c) h3 hi h5 hst
          (repeat (first | refine v136U2 ?_ | (refine caA [] (component_ac (p.extract b i) (by simp; omega)) ?_; rintro r st' ⟨rfl, rfl⟩; refine frA ?_)))
          refine ifA ?_ ?_
          · intro hf
            try refine v136U2 ?_
            refine rtA (by simp only [kR, Tryz.results136, ↓reduceIte, Nat.reduceEqDiff, reduceCtorEq]; first | done | rfl) ([]) ?_
            refine ⟨?_, rfl⟩
            rw [hnext, show comp (p.extract b i) = false by simpa using hf, Bool.false_and]
          · intro hf
            have hf' : comp (p.extract b i) = true := by simpa using hf
            try refine v136U2 ?_
            refine ⟨(c + 1, i + 1, i + 1), ⟨by simp; omega, by simp, by simp; omega, by intro j hj hj2; simp at hj hj2; omega, by simp only [hnext, hf', Bool.true_and], by simp⟩, by simp; omega, ?_⟩
            exact enA
      · intro hgt
        have hgt' : ¬ i ≤ p.size := by simpa using hgt
        try refine v136U2 ?_
        refine rtA (by simp only [kR, Tryz.results136, ↓reduceIte, Nat.reduceEqDiff, reduceCtorEq]; first | done | rfl) ([]) ?_
        refine ⟨?_, rfl⟩
        rw [vB, if_neg (by omega)]
        congr 1
        rw [Bool.eq_iff_iff]; simp; omega
def k194 := And.intro @Tryz.ntmps194 <| trivial
theorem v194U2 {G G' : Prop} (g : G') (h : Hid G' → G := by intro h9; (first | refine nvB ?_ | refine goA (wr := false) (by simp only [kB, k194, Nat.reduceAdd, Nat.reduceLT, Nat.reduceEqDiff, ↓reduceIte, reduceCtorEq]; first | done | rfl) ?_); (repeat (first | refine nvB ?_ | refine goA (wr := false) (by simp only [kB, k194, Nat.reduceAdd, Nat.reduceLT, Nat.reduceEqDiff, ↓reduceIte, reduceCtorEq]; first | done | rfl) ?_)); exact h9.out) : G := h ⟨g⟩
set_option maxRecDepth 100000 in
set_option maxHeartbeats 4000000 in
theorem cmpByteNaN_ac (a : Int) : AC Tryz.prog 194 [I .u8 a] [] (fun r st => r = B false ∧ st = []) := by
  refine AC_enter Tryz.func194 rfl rfl (by simp only [Tryz.ntmps194, List.length]; omega) ?_
  intro x hx
  simp only [List.range, List.range.loop, List.length, List.zip, List.zipWith, Nat.reduceAdd, Tryz.ntmps194]
  try refine v194U2 ?_
  refine rtA (by simp only [kR, Tryz.results194, ↓reduceIte, Nat.reduceEqDiff, reduceCtorEq]; first | done | rfl) ([]) ?_
  refine ⟨?_, rfl⟩
  simp
def k137 := And.intro @Tryz.ntmps137 <| trivial
theorem v137U2 {G G' : Prop} (g : G') (h : Hid G' → G := by intro h9; (first | refine nvB ?_ | refine goA (wr := false) (by simp only [kB, k137, Nat.reduceAdd, Nat.reduceLT, Nat.reduceEqDiff, ↓reduceIte, reduceCtorEq]; first | done | rfl) ?_); (repeat (first | refine nvB ?_ | refine goA (wr := false) (by simp only [kB, k137, Nat.reduceAdd, Nat.reduceLT, Nat.reduceEqDiff, ↓reduceIte, reduceCtorEq]; first | done | rfl) ?_)); exact h9.out) : G := h ⟨g⟩
set_option maxRecDepth 100000 in
set_option maxHeartbeats 4000000 in
theorem cmpByte_ac (a b : Int) : AC Tryz.prog 137 [I .u8 a, I .u8 b] [] (fun r st => r = I .i64 (cmpI a b) ∧ st = []) := by
  refine AC_enter Tryz.func137 rfl rfl (by simp only [Tryz.ntmps137, List.length]; omega) ?_
  intro x hx
  simp only [List.range, List.range.loop, List.length, List.zip, List.zipWith, Nat.reduceAdd, Tryz.ntmps137]
  (repeat (first | refine v137U2 ?_ | (refine caA [] (cmpByteNaN_ac a) ?_; rintro r st' ⟨rfl, rfl⟩; refine frA ?_) | (refine caA [] (cmpByteNaN_ac b) ?_; rintro r st' ⟨rfl, rfl⟩; refine frA ?_)))
  refine ifA ?_ ?_
  · intro h; cases h
  intro _
  try refine v137U2 ?_
  refine ifA ?_ ?_
  · intro h; cases h
  intro _
  try refine v137U2 ?_
  refine ifA ?_ ?_
  · intro h
    try refine v137U2 ?_
    refine rtA (by simp only [kR, Tryz.results137, ↓reduceIte, Nat.reduceEqDiff, reduceCtorEq]; first | done | rfl) ([]) ?_
    refine ⟨?_, rfl⟩
    simp only [decide_eq_true_eq] at h
    simp [cmpI, h]
  intro h
  simp only [decide_eq_false_iff_not] at h
  try refine v137U2 ?_
  refine ifA ?_ ?_
  · intro h2
    try refine v137U2 ?_
    refine rtA (by simp only [kR, Tryz.results137, ↓reduceIte, Nat.reduceEqDiff, reduceCtorEq]; first | done | rfl) ([]) ?_
    refine ⟨?_, rfl⟩
    simp only [decide_eq_true_eq] at h2
    simp [cmpI, h, h2]
  intro h2
  try refine v137U2 ?_
  refine rtA (by simp only [kR, Tryz.results137, ↓reduceIte, Nat.reduceEqDiff, reduceCtorEq]; first | done | rfl) ([]) ?_
  refine ⟨?_, rfl⟩
  simp only [decide_eq_false_iff_not] at h2
  simp [cmpI, h, h2]
def k143 := And.intro @Tryz.ntmps143 <| trivial
theorem v143U2 {G G' : Prop} (g : G') (h : Hid G' → G := by intro h9; (first | refine nvB ?_ | refine goA (wr := false) (by simp only [kB, k143, Nat.reduceAdd, Nat.reduceLT, Nat.reduceEqDiff, ↓reduceIte, reduceCtorEq]; first | done | rfl) ?_); (repeat (first | refine nvB ?_ | refine goA (wr := false) (by simp only [kB, k143, Nat.reduceAdd, Nat.reduceLT, Nat.reduceEqDiff, ↓reduceIte, reduceCtorEq]; first | done | rfl) ?_)); exact h9.out) : G := h ⟨g⟩
set_option maxRecDepth 100000 in
set_option maxHeartbeats 4000000 in
theorem cmpIntNaN_ac (a : Int) : AC Tryz.prog 143 [I .i64 a] [] (fun r st => r = B false ∧ st = []) := by
  refine AC_enter Tryz.func143 rfl rfl (by simp only [Tryz.ntmps143, List.length]; omega) ?_
  intro x hx
  simp only [List.range, List.range.loop, List.length, List.zip, List.zipWith, Nat.reduceAdd, Tryz.ntmps143]
  try refine v143U2 ?_
  refine rtA (by simp only [kR, Tryz.results143, ↓reduceIte, Nat.reduceEqDiff, reduceCtorEq]; first | done | rfl) ([]) ?_
  refine ⟨?_, rfl⟩
  simp
def k98 := And.intro @Tryz.ntmps98 <| trivial
theorem v98U2 {G G' : Prop} (g : G') (h : Hid G' → G := by intro h9; (first | refine nvB ?_ | refine goA (wr := false) (by simp only [kB, k98, Nat.reduceAdd, Nat.reduceLT, Nat.reduceEqDiff, ↓reduceIte, reduceCtorEq]; first | done | rfl) ?_); (repeat (first | refine nvB ?_ | refine goA (wr := false) (by simp only [kB, k98, Nat.reduceAdd, Nat.reduceLT, Nat.reduceEqDiff, ↓reduceIte, reduceCtorEq]; first | done | rfl) ?_)); exact h9.out) : G := h ⟨g⟩
set_option maxRecDepth 100000 in
set_option maxHeartbeats 4000000 in
theorem cmpInt_ac (a b : Int) : AC Tryz.prog 98 [I .i64 a, I .i64 b] [] (fun r st => r = I .i64 (cmpI a b) ∧ st = []) := by
  refine AC_enter Tryz.func98 rfl rfl (by simp only [Tryz.ntmps98, List.length]; omega) ?_
  intro x hx
  simp only [List.range, List.range.loop, List.length, List.zip, List.zipWith, Nat.reduceAdd, Tryz.ntmps98]
  (repeat (first | refine v98U2 ?_ | (refine caA [] (cmpIntNaN_ac a) ?_; rintro r st' ⟨rfl, rfl⟩; refine frA ?_) | (refine caA [] (cmpIntNaN_ac b) ?_; rintro r st' ⟨rfl, rfl⟩; refine frA ?_)))
  refine ifA ?_ ?_
  · intro h; cases h
  intro _
  try refine v98U2 ?_
  refine ifA ?_ ?_
  · intro h; cases h
  intro _
  try refine v98U2 ?_
  refine ifA ?_ ?_
  · intro h
    try refine v98U2 ?_
    refine rtA (by simp only [kR, Tryz.results98, ↓reduceIte, Nat.reduceEqDiff, reduceCtorEq]; first | done | rfl) ([]) ?_
    refine ⟨?_, rfl⟩
    simp only [decide_eq_true_eq] at h
    simp [cmpI, h]
  intro h
  simp only [decide_eq_false_iff_not] at h
  try refine v98U2 ?_
  refine ifA ?_ ?_
  · intro h2
    try refine v98U2 ?_
    refine rtA (by simp only [kR, Tryz.results98, ↓reduceIte, Nat.reduceEqDiff, reduceCtorEq]; first | done | rfl) ([]) ?_
    refine ⟨?_, rfl⟩
    simp only [decide_eq_true_eq] at h2
    simp [cmpI, h, h2]
  intro h2
  try refine v98U2 ?_
  refine rtA (by simp only [kR, Tryz.results98, ↓reduceIte, Nat.reduceEqDiff, reduceCtorEq]; first | done | rfl) ([]) ?_
  refine ⟨?_, rfl⟩
  simp only [decide_eq_false_iff_not] at h2
  simp [cmpI, h, h2]
end Go.Proofs.YtmhboloicpieeaaGreatDoor

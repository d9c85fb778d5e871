/- A part of the proof. -/
import Derived.Test.YtmhboloicpieeaaGreatDoorRP14
import Derived.Test.YtmhboloicpieeaaGreatDoorRG2
set_option maxRecDepth 100000
set_option maxHeartbeats 4000000
set_option linter.all false
namespace Go.Proofs.YtmhboloicpieeaaGreatDoor
open Go.Ab Tys
variable [Dr]
def isB (b : Int) : Bool := (decide (65 ≤ b) && decide (b ≤ 90)) || (decide (97 ≤ b) && decide (b ≤ 122)) || (decide (48 ≤ b) && decide (b ≤ 57)) || decide (b = 95) || decide (b = 46) || decide (b = 43) || decide (b = 45)
theorem isB_tab : ((List.range 256).all fun n => okB n == isB n) = true := by kernel_rfl
theorem isB_ok {b : Int} (h0 : 0 ≤ b) (h1 : b < 256) : okB b = isB b := by
 have := List.all_eq_true.1 isB_tab b.toNat (List.mem_range.2 (by omega))
 rw [show ((b.toNat : Nat) : Int) = b by omega] at this
 simpa using this
def k235 := And.intro @Tryz.ntmps235 <| trivial
theorem v235U1 {G G' : Prop} (g : G') (h : Hid G' → G := by intro h9; (first | refine nvB ?_ | refine goA (wr := false) (by simp only [kB, kG, k235, Nat.reduceAdd, Nat.reduceLT, Nat.reduceEqDiff, ↓reduceIte, reduceCtorEq]; first | done | rfl) ?_); (repeat (first | refine nvB ?_ | refine goA (wr := false) (by simp only [kB, kG, k235, Nat.reduceAdd, Nat.reduceLT, Nat.reduceEqDiff, ↓reduceIte, reduceCtorEq]; first | done | rfl) ?_)); exact h9.out) : G := h ⟨g⟩
theorem isByte_ac (b : Int) (h0 : 0 ≤ b) (h1 : b < 256) : AC Tryz.prog 235 [I .u8 b] [] (fun r st => r = B (okB b) ∧ st = []) := by
 rw [isB_ok h0 h1]
 refine AC_enter Tryz.func235 rfl rfl (by simp only [Tryz.ntmps235, List.length]; omega) ?_
 intro x hx
 simp only [List.range, List.range.loop, List.length, List.zip, List.zipWith, Nat.reduceAdd, Tryz.ntmps235]
 try refine v235U1 ?_
 refine T_join ⟨36, [(0, I .u8 b), (2, B false), (3, B ((decide (65 ≤ b) && decide (b ≤ 90)) || (decide (97 ≤ b) && decide (b ≤ 122)) || (decide (48 ≤ b) && decide (b ≤ 57))))], []⟩ ?_ ?_
 ·refine ifA ?_ ?_
  ·intro h
   have h' : (decide (65 ≤ b) && decide (b ≤ 90)) = true := by rw [← h]; cases decide (65 ≤ b) <;> rfl
   refine nvA ?_
   refine ⟨rfl, ?_⟩
   (refine Ent_sub (fun i => i) rfl ?_ ⟨?_, ?_, ?_, keepI hx (by simp [domOf, Ab.get])⟩ <;> first | (simp only [kE, dArr, ↓reduceIte, Nat.reduceEqDiff, reduceCtorEq, h', h]; done) | simp [renAV_id, renAO_id, flat_up, Ab.get, clAV, clC, clCs, clAO, cl_f1, cl_s1, cl_f2, cl_s2, cl_a1, domOf, List.flatten, h', h])
  ·intro h
   have h' : (decide (65 ≤ b) && decide (b ≤ 90)) = false := by rw [← h]; cases decide (65 ≤ b) <;> rfl
   try refine v235U1 ?_
   refine ifA ?_ ?_
   ·intro h2
    have h2' : (decide (97 ≤ b) && decide (b ≤ 122)) = true := by rw [← h2]; cases decide (97 ≤ b) <;> rfl
    refine nvA ?_
    refine ⟨rfl, ?_⟩
    (refine Ent_sub (fun i => i) rfl ?_ ⟨?_, ?_, ?_, keepI hx (by simp [domOf, Ab.get])⟩ <;> first | (simp only [kE, dArr, ↓reduceIte, Nat.reduceEqDiff, reduceCtorEq, h', h, h2', h2]; done) | simp [renAV_id, renAO_id, flat_up, Ab.get, clAV, clC, clCs, clAO, cl_f1, cl_s1, cl_f2, cl_s2, cl_a1, domOf, List.flatten, h', h, h2', h2])
   ·intro h2
    have h2' : (decide (97 ≤ b) && decide (b ≤ 122)) = false := by rw [← h2]; cases decide (97 ≤ b) <;> rfl
    try refine v235U1 ?_
    refine ⟨rfl, ?_⟩
    have h3 : (bif decide (48 ≤ b) then decide (b ≤ 57) else false) = (decide (48 ≤ b) && decide (b ≤ 57)) := by cases decide (48 ≤ b) <;> rfl
    (refine Ent_sub (fun i => i) rfl ?_ ⟨?_, ?_, ?_, keepI hx (by simp [domOf, Ab.get])⟩ <;> first | (simp only [kE, dArr, ↓reduceIte, Nat.reduceEqDiff, reduceCtorEq, h', h, h2', h2, h3]; done) | simp [renAV_id, renAO_id, flat_up, Ab.get, clAV, clC, clCs, clAO, cl_f1, cl_s1, cl_f2, cl_s2, cl_a1, domOf, List.flatten, h', h, h2', h2, h3])
 refine nvA ?_
 refine ifA ?_ ?_
 ·intro h
  try refine v235U1 ?_
  refine rtA (by simp only [kR, Tryz.results235, ↓reduceIte, Nat.reduceEqDiff, reduceCtorEq]; first | done | rfl) ([]) ?_
  refine ⟨?_, rfl⟩
  simp only [isB, h, Bool.true_or]
 ·intro h
  try refine v235U1 ?_
  refine rtA (by simp only [kR, Tryz.results235, ↓reduceIte, Nat.reduceEqDiff, reduceCtorEq]; first | done | rfl) ([]) ?_
  refine ⟨?_, rfl⟩
  simp only [isB, h, Bool.false_or]
  cases decide (b = 95) <;> cases decide (b = 46) <;> cases decide (b = 43) <;> rfl
def k193 := And.intro @Tryz.ntmps193 <| And.intro @Tryz.underlying9 <| @ti9
theorem v193U1 {G G' : Prop} (g : G') (h : Hid G' → G := by intro h9; (first | refine nvB ?_ | refine goA (wr := false) (by simp only [kB, kG, k193, Nat.reduceAdd, Nat.reduceLT, Nat.reduceEqDiff, ↓reduceIte, reduceCtorEq]; first | done | rfl) ?_); (repeat (first | refine nvB ?_ | refine goA (wr := false) (by simp only [kB, kG, k193, Nat.reduceAdd, Nat.reduceLT, Nat.reduceEqDiff, ↓reduceIte, reduceCtorEq]; first | done | rfl) ?_)); exact h9.out) : G := h ⟨g⟩
theorem component_ac (s : ByteArray) (hs : s.size ≤ 1000000) : AC Tryz.prog 193 [Str s] [] (fun r st => r = B (comp s) ∧ st = []) := by
 refine AC_enter Tryz.func193 rfl rfl (by simp only [Tryz.ntmps193, List.length]; omega) ?_
 intro x hx
 simp only [List.range, List.range.loop, List.length, List.zip, List.zipWith, Nat.reduceAdd, Tryz.ntmps193]
 refine nvA ?_
 refine goA (wr := false) (by simp only [kB, kG, k193, Nat.reduceAdd, Nat.reduceLT, Nat.reduceEqDiff, ↓reduceIte, reduceCtorEq]; first | done | rfl) ?_
 refine nvA ?_
 refine TO_go (wr := false) 400 (by simp only [kB, kG, k193, Nat.reduceAdd, Nat.reduceLT, Nat.reduceEqDiff, ↓reduceIte, reduceCtorEq]; first | done | rfl) ?_ ?_
 ·simp only [All, List.cons_append, List.nil_append, and_true, true_and, implies_true, forall_const, Bool.not_eq_true', decide_eq_false_iff_not, cond_eq_ite]
  repeat' (first | exact trivial | refine And.intro ?_ ?_ | intro _ | omega | (rename_i h; exact_mod_cast empty_size (by simpa using h)) | (simp_all; done))
 refine nvA ?_
 refine ifA ?_ ?_
 ·intro h
  try refine v193U1 ?_
  refine rtA (by simp only [kR, Tryz.results193, ↓reduceIte, Nat.reduceEqDiff, reduceCtorEq]; first | done | rfl) ([]) ?_
  refine ⟨?_, rfl⟩
  have h2 : (decide (s = { data := #[] }) || decide (byteAt s 0 = 46)) = true := by rw [← h]; cases decide (s = { data := #[] }) <;> rfl
  simp [comp, h2]
 ·intro h
  have h2 : (decide (s = { data := #[] }) || decide (byteAt s 0 = 46)) = false := by rw [← h]; cases decide (s = { data := #[] }) <;> rfl
  try refine v193U1 ?_
  refine T_loop (ι := Nat) (I := fun k => ⟨22, [(0, Str s), (12, I .i64 s.size), (13, I .i64 k)], []⟩) (Inv := fun k => k ≤ s.size ∧ ∀ j, j < k → okB (byteAt s j) = true) (μ := fun k => s.size - k) 0 ⟨by omega, by omega⟩ ?_ ?_
  ·exact enA
  ·rintro k ⟨hk, hall⟩
   try refine v193U1 ?_
   refine ifA ?_ ?_
   ·intro hlt
    have hlt' : k < s.size := by simpa using hlt
    have hb0 := byteAt_get hlt'
    (repeat (first | refine v193U1 ?_ | (refine caA [] (isByte_ac (byteAt s k) (by simp [byteAt]) (by simp only [byteAt]; have := (s.data.getD k 0).toNat_lt; omega)) ?_; rintro r st' ⟨rfl, rfl⟩; refine frA ?_)))
    refine ifA ?_ ?_
    ·intro hb
     try refine v193U1 ?_
     refine rtA (by simp only [kR, Tryz.results193, ↓reduceIte, Nat.reduceEqDiff, reduceCtorEq]; first | done | rfl) ([]) ?_
     refine ⟨?_, rfl⟩
     have hb' : okB (byteAt s k) = false := by simpa using hb
     have : ((List.range s.size).all fun k => okB (byteAt s k)) = false := by
      cases e : (List.range s.size).all fun k => okB (byteAt s k)
      ·rfl
      ·have := range_all _ k _ hlt' e
       rw [hb'] at this; cases this
     simp only [comp, this, Bool.and_false]
    ·intro hb
     try refine v193U1 ?_
     refine ⟨k + 1, ⟨by omega, ?_⟩, by omega, ?_⟩
     ·intro j hj
      rcases Nat.lt_succ_iff_lt_or_eq.1 hj with hj | rfl
      ·exact hall j hj
      ·simpa using hb
     ·exact enA
   ·intro hge
    try refine v193U1 ?_
    refine rtA (by simp only [kR, Tryz.results193, ↓reduceIte, Nat.reduceEqDiff, reduceCtorEq]; first | done | rfl) ([]) ?_
    refine ⟨?_, rfl⟩
    have hk' : k = s.size := by have : ¬ k < s.size := by simpa using hge
                                omega
    have : ((List.range s.size).all fun k => okB (byteAt s k)) = true := by
     rw [List.all_eq_true]; intro j hj; exact hall j (by rw [hk']; exact List.mem_range.1 hj)
    simp only [comp, this, h2]; rfl
def k136 := And.intro @Tryz.ntmps136 <| And.intro @Tryz.underlying9 <| @ti9
theorem v136U2 {G G' : Prop} (g : G') (h : Hid G' → G := by intro h9; (first | refine nvB ?_ | refine goA (wr := false) (by simp only [kB, kG, kS, k136, Nat.reduceAdd, Nat.reduceLT, Nat.reduceEqDiff, ↓reduceIte, reduceCtorEq]; first | done | rfl) ?_); (repeat (first | refine nvB ?_ | refine goA (wr := false) (by simp only [kB, kG, kS, k136, Nat.reduceAdd, Nat.reduceLT, Nat.reduceEqDiff, ↓reduceIte, reduceCtorEq]; first | done | rfl) ?_)); exact h9.out) : G := h ⟨g⟩
theorem valid_ac (p : ByteArray) (hs : p.size ≤ 100000) : AC Tryz.prog 136 [Str p] [] (fun r st => r = B (path? p).isSome ∧ st = []) := by
 refine AC_enter Tryz.func136 rfl rfl (by simp only [Tryz.ntmps136, List.length]; omega) ?_
 intro x hx
 simp only [List.range, List.range.loop, List.length, List.zip, List.zipWith, Nat.reduceAdd, Tryz.ntmps136]
 (repeat (first | refine v136U2 ?_ | (refine caA [] (hasPrefix_ac _ _) ?_; rintro r st' ⟨rfl, rfl⟩; refine frA ?_)))
 refine ifA ?_ ?_
 ·intro h
  try refine v136U2 ?_
  refine rtA (by simp only [kR, Tryz.results136, ↓reduceIte, Nat.reduceEqDiff, reduceCtorEq]; first | done | rfl) ([]) ?_
  refine ⟨?_, rfl⟩
  rw [path_noprefix (by simpa using h)]
 ·intro h
  have hpre : hasPrefix p dslash = true := by simpa using h
  have h2 : 2 ≤ p.size := of_decide_eq_true (Bool.and_eq_true_iff.1 hpre).1
  rw [vB_start hpre]
  try refine v136U2 ?_
  refine T_loop (ι := Nat × Nat × Nat) (I := fun k => ⟨38, [(0, Str p), (3, I .i64 k.1), (4, I .i64 k.2.1), (5, I .i64 k.2.2)], []⟩)
   (Inv := fun k => k.1 ≤ k.2.1 ∧ k.2.1 ≤ k.2.2 ∧ k.2.2 ≤ p.size + 1 ∧ (∀ j, k.2.1 ≤ j → j < k.2.2 → byteAt p j ≠ 47) ∧ vB p 0 2 = vB p k.1 k.2.1 ∧ (k.2.2 ≤ p.size ∨ k.2.1 = k.2.2)) (μ := fun k => p.size + 1 - k.2.2) (0, 2, 2) ⟨by simp, by simp, by simp; omega, by intro j hj hj2; simp at hj hj2; omega, rfl, by simp⟩ ?_ ?_
  ·exact enA
  ·rintro ⟨c, b, i⟩ ⟨h1, h3, h4, h5, h6, h7⟩
   simp only at h1 h3 h4 h5 h6 h7 ⊢
   rw [h6]
   try refine v136U2 ?_
   refine ifA ?_ ?_
   ·intro hle
    have hi : i ≤ p.size := by simpa using hle
    try refine v136U2 ?_
    refine ifA ?_ ?_
    ·intro hc
     have hlt : i < p.size := by
      by_cases h : (i : Int) < p.size
      ·omega
      ·simp [h] at hc
     have hb : byteAt p i ≠ 47 := by
      have : (i : Int) < p.size := by omega
      simp only [this, decide_true, cond_true] at hc
      simpa [byteAt] using hc
     try refine v136U2 ?_
     refine ⟨(c, b, i + 1), ⟨h1, by simp; omega, by simp; omega, ?_, rfl, by simp; omega⟩, by simp; omega, ?_⟩
     ·intro j hj hj2
      simp only at hj hj2
      rcases Nat.lt_succ_iff_lt_or_eq.1 hj2 with hj2 | rfl
      ·exact h5 j hj hj2
      ·exact hb
     ·exact enA
    ·intro hc
     have hst : i = p.size ∨ (i < p.size ∧ byteAt p i = 47) := by
      by_cases h : (i : Int) < p.size
      ·simp only [h, decide_true, cond_true] at hc
       exact .inr ⟨by omega, by simpa [byteAt] using hc⟩
      ·exact .inl (by omega)
     have hnext := vB_next (c := c) h3 hi h5 hst
     (repeat (first | refine v136U2 ?_ | (refine caA [] (component_ac (p.extract b i) (by simp; omega)) ?_; rintro r st' ⟨rfl, rfl⟩; refine frA ?_)))
     refine ifA ?_ ?_
     ·intro hf
      try refine v136U2 ?_
      refine rtA (by simp only [kR, Tryz.results136, ↓reduceIte, Nat.reduceEqDiff, reduceCtorEq]; first | done | rfl) ([]) ?_
      refine ⟨?_, rfl⟩
      rw [hnext, show comp (p.extract b i) = false by simpa using hf, Bool.false_and]
     ·intro hf
      have hf' : comp (p.extract b i) = true := by simpa using hf
      try refine v136U2 ?_
      refine ⟨(c + 1, i + 1, i + 1), ⟨by simp; omega, by simp, by simp; omega, by intro j hj hj2; simp at hj hj2; omega, by simp only [hnext, hf', Bool.true_and], by simp⟩, by simp; omega, ?_⟩
      exact enA
   ·intro hgt
    have hgt' : ¬ i ≤ p.size := by simpa using hgt
    try refine v136U2 ?_
    refine rtA (by simp only [kR, Tryz.results136, ↓reduceIte, Nat.reduceEqDiff, reduceCtorEq]; first | done | rfl) ([]) ?_
    refine ⟨?_, rfl⟩
    rw [vB, if_neg (by omega)]
    congr 1
    rw [Bool.eq_iff_iff]; simp; omega
def k194 := And.intro @Tryz.ntmps194 <| trivial
theorem v194U2 {G G' : Prop} (g : G') (h : Hid G' → G := by intro h9; (first | refine nvB ?_ | refine goA (wr := false) (by simp only [kB, k194, Nat.reduceAdd, Nat.reduceLT, Nat.reduceEqDiff, ↓reduceIte, reduceCtorEq]; first | done | rfl) ?_); (repeat (first | refine nvB ?_ | refine goA (wr := false) (by simp only [kB, k194, Nat.reduceAdd, Nat.reduceLT, Nat.reduceEqDiff, ↓reduceIte, reduceCtorEq]; first | done | rfl) ?_)); exact h9.out) : G := h ⟨g⟩
theorem cmpByteNaN_ac (a : Int) : AC Tryz.prog 194 [I .u8 a] [] (fun r st => r = B false ∧ st = []) := by
 refine AC_enter Tryz.func194 rfl rfl (by simp only [Tryz.ntmps194, List.length]; omega) ?_
 intro x hx
 simp only [List.range, List.range.loop, List.length, List.zip, List.zipWith, Nat.reduceAdd, Tryz.ntmps194]
 try refine v194U2 ?_
 refine rtA (by simp only [kR, Tryz.results194, ↓reduceIte, Nat.reduceEqDiff, reduceCtorEq]; first | done | rfl) ([]) ?_
 refine ⟨?_, rfl⟩
 simp
def k137 := And.intro @Tryz.ntmps137 <| trivial
theorem v137U2 {G G' : Prop} (g : G') (h : Hid G' → G := by intro h9; (first | refine nvB ?_ | refine goA (wr := false) (by simp only [kB, k137, Nat.reduceAdd, Nat.reduceLT, Nat.reduceEqDiff, ↓reduceIte, reduceCtorEq]; first | done | rfl) ?_); (repeat (first | refine nvB ?_ | refine goA (wr := false) (by simp only [kB, k137, Nat.reduceAdd, Nat.reduceLT, Nat.reduceEqDiff, ↓reduceIte, reduceCtorEq]; first | done | rfl) ?_)); exact h9.out) : G := h ⟨g⟩
theorem cmpByte_ac (a b : Int) : AC Tryz.prog 137 [I .u8 a, I .u8 b] [] (fun r st => r = I .i64 (cmpI a b) ∧ st = []) := by
 refine AC_enter Tryz.func137 rfl rfl (by simp only [Tryz.ntmps137, List.length]; omega) ?_
 intro x hx
 simp only [List.range, List.range.loop, List.length, List.zip, List.zipWith, Nat.reduceAdd, Tryz.ntmps137]
 (repeat (first | refine v137U2 ?_ | (refine caA [] (cmpByteNaN_ac a) ?_; rintro r st' ⟨rfl, rfl⟩; refine frA ?_) | (refine caA [] (cmpByteNaN_ac b) ?_; rintro r st' ⟨rfl, rfl⟩; refine frA ?_)))
 refine ifA ?_ ?_
 ·intro h; cases h
 intro _
 try refine v137U2 ?_
 refine ifA ?_ ?_
 ·intro h; cases h
 intro _
 try refine v137U2 ?_
 refine ifA ?_ ?_
 ·intro h
  try refine v137U2 ?_
  refine rtA (by simp only [kR, Tryz.results137, ↓reduceIte, Nat.reduceEqDiff, reduceCtorEq]; first | done | rfl) ([]) ?_
  refine ⟨?_, rfl⟩
  simp only [decide_eq_true_eq] at h
  simp [cmpI, h]
 intro h
 simp only [decide_eq_false_iff_not] at h
 try refine v137U2 ?_
 refine ifA ?_ ?_
 ·intro h2
  try refine v137U2 ?_
  refine rtA (by simp only [kR, Tryz.results137, ↓reduceIte, Nat.reduceEqDiff, reduceCtorEq]; first | done | rfl) ([]) ?_
  refine ⟨?_, rfl⟩
  simp only [decide_eq_true_eq] at h2
  simp [cmpI, h, h2]
 intro h2
 try refine v137U2 ?_
 refine rtA (by simp only [kR, Tryz.results137, ↓reduceIte, Nat.reduceEqDiff, reduceCtorEq]; first | done | rfl) ([]) ?_
 refine ⟨?_, rfl⟩
 simp only [decide_eq_false_iff_not] at h2
 simp [cmpI, h, h2]
def k143 := And.intro @Tryz.ntmps143 <| trivial
theorem v143U2 {G G' : Prop} (g : G') (h : Hid G' → G := by intro h9; (first | refine nvB ?_ | refine goA (wr := false) (by simp only [kB, k143, Nat.reduceAdd, Nat.reduceLT, Nat.reduceEqDiff, ↓reduceIte, reduceCtorEq]; first | done | rfl) ?_); (repeat (first | refine nvB ?_ | refine goA (wr := false) (by simp only [kB, k143, Nat.reduceAdd, Nat.reduceLT, Nat.reduceEqDiff, ↓reduceIte, reduceCtorEq]; first | done | rfl) ?_)); exact h9.out) : G := h ⟨g⟩
theorem cmpIntNaN_ac (a : Int) : AC Tryz.prog 143 [I .i64 a] [] (fun r st => r = B false ∧ st = []) := by
 refine AC_enter Tryz.func143 rfl rfl (by simp only [Tryz.ntmps143, List.length]; omega) ?_
 intro x hx
 simp only [List.range, List.range.loop, List.length, List.zip, List.zipWith, Nat.reduceAdd, Tryz.ntmps143]
 try refine v143U2 ?_
 refine rtA (by simp only [kR, Tryz.results143, ↓reduceIte, Nat.reduceEqDiff, reduceCtorEq]; first | done | rfl) ([]) ?_
 refine ⟨?_, rfl⟩
 simp
def k98 := And.intro @Tryz.ntmps98 <| trivial
theorem v98U2 {G G' : Prop} (g : G') (h : Hid G' → G := by intro h9; (first | refine nvB ?_ | refine goA (wr := false) (by simp only [kB, k98, Nat.reduceAdd, Nat.reduceLT, Nat.reduceEqDiff, ↓reduceIte, reduceCtorEq]; first | done | rfl) ?_); (repeat (first | refine nvB ?_ | refine goA (wr := false) (by simp only [kB, k98, Nat.reduceAdd, Nat.reduceLT, Nat.reduceEqDiff, ↓reduceIte, reduceCtorEq]; first | done | rfl) ?_)); exact h9.out) : G := h ⟨g⟩
theorem cmpInt_ac (a b : Int) : AC Tryz.prog 98 [I .i64 a, I .i64 b] [] (fun r st => r = I .i64 (cmpI a b) ∧ st = []) := by
 refine AC_enter Tryz.func98 rfl rfl (by simp only [Tryz.ntmps98, List.length]; omega) ?_
 intro x hx
 simp only [List.range, List.range.loop, List.length, List.zip, List.zipWith, Nat.reduceAdd, Tryz.ntmps98]
 (repeat (first | refine v98U2 ?_ | (refine caA [] (cmpIntNaN_ac a) ?_; rintro r st' ⟨rfl, rfl⟩; refine frA ?_) | (refine caA [] (cmpIntNaN_ac b) ?_; rintro r st' ⟨rfl, rfl⟩; refine frA ?_)))
 refine ifA ?_ ?_
 ·intro h; cases h
 intro _
 try refine v98U2 ?_
 refine ifA ?_ ?_
 ·intro h; cases h
 intro _
 try refine v98U2 ?_
 refine ifA ?_ ?_
 ·intro h
  try refine v98U2 ?_
  refine rtA (by simp only [kR, Tryz.results98, ↓reduceIte, Nat.reduceEqDiff, reduceCtorEq]; first | done | rfl) ([]) ?_
  refine ⟨?_, rfl⟩
  simp only [decide_eq_true_eq] at h
  simp [cmpI, h]
 intro h
 simp only [decide_eq_false_iff_not] at h
 try refine v98U2 ?_
 refine ifA ?_ ?_
 ·intro h2
  try refine v98U2 ?_
  refine rtA (by simp only [kR, Tryz.results98, ↓reduceIte, Nat.reduceEqDiff, reduceCtorEq]; first | done | rfl) ([]) ?_
  refine ⟨?_, rfl⟩
  simp only [decide_eq_true_eq] at h2
  simp [cmpI, h, h2]
 intro h2
 try refine v98U2 ?_
 refine rtA (by simp only [kR, Tryz.results98, ↓reduceIte, Nat.reduceEqDiff, reduceCtorEq]; first | done | rfl) ([]) ?_
 refine ⟨?_, rfl⟩
 simp only [decide_eq_false_iff_not] at h2
 simp [cmpI, h, h2]
end Go.Proofs.YtmhboloicpieeaaGreatDoor

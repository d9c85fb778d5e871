/- A part of the proof. -/
import Derived.Test.YtbllfnmabmamfaaGreatDoorRBd2
import Derived.Test.YtbllfnmabmamfaaGreatDoorRU2
set_option linter.all false
namespace Go.Proofs.YtbllfnmabmamfaaGreatDoor
open Go.Ab Tys
theorem byteAt_eq {p q : ByteArray} {k : Nat} {x y : UInt8} (hx : p.data.toList[k]? = some x) (hy : q.data.toList[k]? = some y) : (byteAt p k = byteAt q k ↔ x = y) ∧ (byteAt p k < byteAt q k ↔ x < y) := by
  have hk : k < p.size := by have := (List.getElem?_eq_some_iff.1 hx).1; simpa using this
  have hk2 : k < q.size := by have := (List.getElem?_eq_some_iff.1 hy).1; simpa using this
  obtain ⟨x', h1, h2⟩ := byteAt_get hk
  obtain ⟨y', h3, h4⟩ := byteAt_get hk2
  rw [hx] at h1; cases h1
  rw [hy] at h3; cases h3
  rw [h2, h4, UInt8.lt_iff_toNat_lt]
  constructor
  · constructor
    · intro h; exact UInt8.toNat_inj.1 (by omega)
    · rintro rfl; rfl
  · omega
theorem drop_get {l : List UInt8} {k : Nat} {x : UInt8} (h : l[k]? = some x) : l.drop k = x :: l.drop (k + 1) := by
  rw [List.drop_eq_getElem?_toList_append, h]; rfl
def k83 := And.intro @Tryz.ntmps83 <| And.intro @Tryz.underlying9 <| @ti9
theorem v83U3 {G G' : Prop} (g : G') (h : Hid G' → G := by intro h9; (first | refine nvB ?_ | refine goA (wr := false) (by simp only [kB, kG, k83, Nat.reduceAdd, Nat.reduceLT, Nat.reduceEqDiff, ↓reduceIte, reduceCtorEq]; first | done | rfl) ?_); (repeat (first | refine nvB ?_ | refine goA (wr := false) (by simp only [kB, kG, k83, Nat.reduceAdd, Nat.reduceLT, Nat.reduceEqDiff, ↓reduceIte, reduceCtorEq]; first | done | rfl) ?_)); exact h9.out) : G := h ⟨g⟩
set_option maxRecDepth 100000 in
set_option maxHeartbeats 4000000 in
theorem pcompare_ac (a b : ByteArray) (ha : a.size ≤ 100000) (hb : b.size ≤ 100000) : AC Tryz.prog 83 [Str a, Str b] [] (fun r st => r = .tup [pI (if (path? a).isSome && (path? b).isSome then ord a b else 0), pI (if (path? a).isSome && (path? b).isSome then 0 else 20)] ∧ st = []) := by
  have hva := valid_ac a ha
  have hvb := valid_ac b hb
  refine AC_enter Tryz.func83 rfl rfl (by simp only [Tryz.ntmps83, List.length]; omega) ?_
  intro x hx
  simp only [List.range, List.range.loop, List.length, List.zip, List.zipWith, Nat.reduceAdd, Tryz.ntmps83]
  (repeat (first | refine v83U3 ?_ | (refine caA [] (hva) ?_; rintro r st' ⟨rfl, rfl⟩; refine frA ?_)))
  refine TO_stepO (wr := false) ([(12, B (path? b).isSome)] : List (Nat × AV)) rfl (by simp only [kD, kB, kG, k83, Nat.reduceAdd, Nat.reduceLT, Nat.reduceEqDiff, ↓reduceIte, reduceCtorEq]; first | done | rfl) ?_ ?_
  · simp only [All, List.cons_append, List.nil_append, InR, List.mem_cons, List.not_mem_nil, or_false, forall_eq_or_imp, forall_eq, clAV, clCs, clC, clCaps, clCap, and_true, true_and, implies_true, List.length_map, List.length_cons, List.length_nil, dArr, cl_arr, tyCs]
    repeat' (first | exact trivial | exact hvb | refine And.intro ?_ ?_ | intro _ | assumption | rfl | omega | (simp; done) | (simp_all; done))
  simp only [kP, Nat.reduceEqDiff, ↓reduceIte, reduceCtorEq]
  try refine v83U3 ?_
  refine ifA ?_ ?_
  · intro h
    have h' : ((path? a).isSome && (path? b).isSome) = false := by
      cases e1 : (path? a).isSome <;> cases e2 : (path? b).isSome <;> simp_all
    try refine v83U3 ?_
    refine rtA (by simp only [kR, Tryz.results83, ↓reduceIte, Nat.reduceEqDiff, reduceCtorEq]; first | done | rfl) ([]) ?_
    refine ⟨?_, rfl⟩
    simp [h']
  intro h
  obtain ⟨e1, e2⟩ : (path? a).isSome = true ∧ (path? b).isSome = true := by
    cases e1 : (path? a).isSome <;> cases e2 : (path? b).isSome <;> simp_all
  simp only [e1, e2, Bool.and_self, if_true]
  rw [← cmpP_ord e1 e2]
  try refine v83U3 ?_
  refine T_loop (ι := Nat) (I := fun k => ⟨54, [(0, Str a), (1, Str b), (19, I .i64 (min (a.size : Int) b.size)), (20, I .i64 k)], []⟩)
    (Inv := fun k => k ≤ a.size ∧ k ≤ b.size ∧ cmpP a.data.toList b.data.toList = cmpP (a.data.toList.drop k) (b.data.toList.drop k)) (μ := fun k => a.size - k) 0 ⟨by omega, by omega, rfl⟩ ?_ ?_
  · exact enA
  rintro k ⟨k1, k2, k3⟩
  rw [k3]
  have sa : a.data.toList.length = a.size := by simp
  have sb : b.data.toList.length = b.size := by simp
  try refine v83U3 ?_
  refine ifA ?_ ?_
  · intro hlt
    have hlt' : k < a.size ∧ k < b.size := by
      have : (k : Int) < min (a.size : Int) b.size := by simpa using hlt
      omega
    obtain ⟨u, hu, bu⟩ := byteAt_get hlt'.1
    obtain ⟨v, hv, bv⟩ := byteAt_get hlt'.2
    obtain ⟨q1, q2⟩ := byteAt_eq hu hv
    have x47 := byteAt_47 hu
    have y47 := byteAt_47 hv
    rw [drop_get hu, drop_get hv]
    try refine v83U3 ?_
    refine drA (wr := false) ([] : List (Nat × AV)) (by simp only [kD, kB, kG, k83, Nat.reduceAdd, Nat.reduceLT, Nat.reduceEqDiff, ↓reduceIte, reduceCtorEq]; first | done | rfl) ?_ ?_
    · exact obN
    refine nvA ?_
    refine ifA ?_ ?_
    · intro he
      have he' : u = v := q1.1 (by simpa [byteAt] using he)
      try refine v83U3 ?_
      refine ⟨k + 1, ⟨by omega, by omega, ?_⟩, by omega, ?_⟩
      · subst he'; simp [cmpP]
      · exact enA
    intro he
    have he' : ¬ u = v := fun e => by have := q1.2 e; simp [byteAt] at this; simp [this] at he
    try refine v83U3 ?_
    refine ifA ?_ ?_
    · intro h47
      have : u = 47 := x47.1 (by simpa [byteAt] using h47)
      try refine v83U3 ?_
      refine rtA (by simp only [kR, Tryz.results83, ↓reduceIte, Nat.reduceEqDiff, reduceCtorEq]; first | done | rfl) ([]) ?_
      refine ⟨?_, rfl⟩
      rw [cmpP, if_neg he', if_pos this]
    intro h47
    have h47' : ¬ u = 47 := fun e => by have := x47.2 e; simp [byteAt] at this; simp [this] at h47
    try refine v83U3 ?_
    refine ifA ?_ ?_
    · intro g47
      have : v = 47 := y47.1 (by simpa [byteAt] using g47)
      try refine v83U3 ?_
      refine rtA (by simp only [kR, Tryz.results83, ↓reduceIte, Nat.reduceEqDiff, reduceCtorEq]; first | done | rfl) ([]) ?_
      refine ⟨?_, rfl⟩
      rw [cmpP, if_neg he', if_neg h47', if_pos this]
    intro g47
    have g47' : ¬ v = 47 := fun e => by have := y47.2 e; simp [byteAt] at this; simp [this] at g47
    refine nvA ?_
    refine drA (wr := false) ([(47, I .i64 (cmpI (byteAt a k) (byteAt b k)))] : List (Nat × AV)) (by simp only [kD, kB, kG, k83, Nat.reduceAdd, Nat.reduceLT, Nat.reduceEqDiff, ↓reduceIte, reduceCtorEq]; first | done | rfl) ?_ ?_
    · simp only [All, List.cons_append, List.nil_append, InR, List.mem_cons, List.not_mem_nil, or_false, forall_eq_or_imp, forall_eq, clAV, clCs, clC, clCaps, clCap, and_true, true_and, implies_true, List.length_map, List.length_cons, List.length_nil, dArr, cl_arr, tyCs]
      repeat' (first | exact trivial | exact cmpByte_ac _ _ | refine And.intro ?_ ?_ | intro _ | assumption | rfl | omega | (rw [Bool.not_eq_true']; assumption) | (simp; done) | (simp only [decide_eq_true_eq] at *; omega) | (simp_all; done))
    refine nvA ?_
    refine rtA (by simp only [kR, Tryz.results83, ↓reduceIte, Nat.reduceEqDiff, reduceCtorEq]; first | done | rfl) ([]) ?_
    refine ⟨?_, rfl⟩
    simp only [cmpP, he', h47', g47', if_false, cmpI]
    by_cases hl : u < v
    · simp [hl, q2.2 hl]
    · have hg : byteAt b k < byteAt a k := by
        have h1 : ¬ byteAt a k < byteAt b k := fun h => hl (q2.1 h)
        have h2 : ¬ byteAt a k = byteAt b k := fun h => he' (q1.1 h)
        omega
      have : ¬ byteAt a k < byteAt b k := fun h => hl (q2.1 h)
      simp [hl, this, hg]
  · intro hge
    have hge' : k = a.size ∨ k = b.size := by
      have : ¬ (k : Int) < min (a.size : Int) b.size := by simpa using hge
      omega
    (repeat (first | refine v83U3 ?_ | (refine caA [] (cmpInt_ac _ _) ?_; rintro r st' ⟨rfl, rfl⟩; refine frA ?_)))
    refine rtA (by simp only [kR, Tryz.results83, ↓reduceIte, Nat.reduceEqDiff, reduceCtorEq]; first | done | rfl) ([]) ?_
    refine ⟨?_, rfl⟩
    have e3 : ∀ l m : List UInt8, l = [] ∨ m = [] → cmpP l m = cmpI l.length m.length := by
      intro l m hlm
      cases l <;> cases m <;> simp [cmpP, cmpI] <;> first | omega | simp_all
    rw [e3 _ _ (by rcases hge' with h | h <;> simp [h])]
    have e4 : cmpI a.size b.size = cmpI ((a.size - k : Nat) : Int) ((b.size - k : Nat) : Int) := by
      simp only [cmpI]
      repeat' split
      all_goals first | rfl | omega
    rw [e4]
    simp only [List.length_drop, sa, sb]
end Go.Proofs.YtbllfnmabmamfaaGreatDoor

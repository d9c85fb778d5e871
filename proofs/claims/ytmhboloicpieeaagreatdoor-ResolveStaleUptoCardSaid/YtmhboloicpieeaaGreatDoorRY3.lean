/- A part of the proof. -/
import Derived.Test.YtmhboloicpieeaaGreatDoorRL3a
set_option linter.all false
namespace Go.Proofs.YtmhboloicpieeaaGreatDoor
open Go.Ab Tys
variable [Dr]
def k142 := And.intro @Tryz.ntmps142 <| And.intro @Tryz.underlying187 <| And.intro @Tryz.underlying3 <| And.intro @bld76 <| And.intro @elt28 <| And.intro @ti187 <| And.intro @ti28 <| And.intro @ti3 <| @ti76
theorem v142Y3 {G G' : Prop} (g : G') (h : Hid G' → G := by intro h9; (first | refine nvB ?_ | refine goA (wr := false) (by simp only [kB, kG, kFn, k142, Nat.reduceAdd, Nat.reduceLT, Nat.reduceEqDiff, ↓reduceIte, reduceCtorEq]; first | done | rfl) ?_); (repeat (first | refine nvB ?_ | refine goA (wr := false) (by simp only [kB, kG, kFn, k142, Nat.reduceAdd, Nat.reduceLT, Nat.reduceEqDiff, ↓reduceIte, reduceCtorEq]; first | done | rfl) ?_)); exact h9.out) : G := h ⟨g⟩
set_option maxRecDepth 100000 in
set_option maxHeartbeats 32000000 in
theorem symR_ac (len : Nat) (hl : len ≤ 1000000) (N : Nat) : ∀ (l : List Rcd), Rcs len l → ∀ (a m b : Nat), a < m → m < b → b ≤ len → b - a ≤ N →
  AC Tryz.prog 142 [.c (.ms 46 6 0 len), I .i64 a, I .i64 m, I .i64 b, cmpV] [(46, dArr 6 (l.map encRcd))] (fun r st => ∃ l', Rcs len l' ∧ st = [(46, dArr 6 (l'.map encRcd))]) := by
 induction N with
 | zero => intro l _ a m b h1 h2 _ h4; omega
 | succ N ih =>
 intro l hR a m b ham hmb hb hN
 have hll := hR.1
 refine AC_enter Tryz.func142 rfl rfl (by simp only [Tryz.ntmps142, List.length]; omega) ?_
 intro x hx
 simp only [List.range, List.range.loop, List.length, List.zip, List.zipWith, Nat.reduceAdd, Tryz.ntmps142]
 try refine v142Y3 ?_
 refine ifA ?_ ?_
 ·intro h1
  have h1' : m = a + 1 := by simp at h1; omega
  try refine v142Y3 ?_
  refine T_loop (ι := Nat × Nat) (I := fun i => ⟨220, [(0, .c (.ms 46 6 0 len)), (1, I .i64 a), (4, cmpV), (10, I .i64 i.1), (11, I .i64 i.2)], [(46, dArr 6 (l.map encRcd))]⟩)
   (Inv := fun i => m ≤ i.1 ∧ i.1 ≤ i.2 ∧ i.2 ≤ b) (μ := fun i => i.2 - i.1) (m, b) ⟨by simp, by simp; omega, by simp⟩ ?_ ?_
  ·exact enA
  rintro ⟨i, j⟩ ⟨g1, g2, g3⟩
  simp only at g1 g2 g3 ⊢
  try refine v142Y3 ?_
  refine ifA ?_ ?_
  ·intro hlt
   have hlt' : i < j := by simpa using hlt
   have hs : ((i : Nat) : Int) + ((j : Nat) : Int) = ((i + j : Nat) : Int) := by omega
   (repeat (first | refine nvB ?_ | refine goA (wr := false) (by simp only [kB, kG, kFn, k142, Nat.reduceAdd, Nat.reduceLT, Nat.reduceEqDiff, ↓reduceIte, reduceCtorEq, hs]; first | done | rfl) ?_))
   refine TO_half (n := i + j) (by simp) (by simp only [kV, ↓reduceIte, Nat.reduceEqDiff, reduceCtorEq]; first | done | rfl) (by simp only [InR]; omega) ?_
   refine fzA ?_
   obtain ⟨h, hh⟩ : ∃ h, h = (i + j) / 2 := ⟨_, rfl⟩
   rw [← hh]
   have e1 := uGet encRcd l h zRcd (by omega)
   have e2 := uGet encRcd l a zRcd (by omega)
   have hc1 := cmpR_ac _ _ (hR.get (i := h) (by omega)) (hR.get (i := a) (by omega))
   generalize l.getD h zRcd = v at e1 hc1
   generalize l.getD a zRcd = w at e2 hc1
   try refine v142Y3 ?_
   refine drA (wr := false) ([(49, I .i64 (cmR v w))] : List (Nat × AV)) (by simp only [kD, kB, kG, kFn, k142, Nat.reduceAdd, Nat.reduceLT, Nat.reduceEqDiff, ↓reduceIte, reduceCtorEq, e1, e2]; first | done | rfl) ?_ ?_
   ·exact obT (hc1)
   refine nvA ?_
   refine ifA ?_ ?_
   ·intro _
    try refine v142Y3 ?_
    refine ⟨(h + 1, j), ⟨by simp; omega, by simp; omega, g3⟩, by simp; omega, ?_⟩
    exact enA
   ·intro _
    try refine v142Y3 ?_
    refine ⟨(i, h), ⟨g1, by simp; omega, by simp; omega⟩, by simp; omega, ?_⟩
    exact enA
  intro _
  try refine v142Y3 ?_
  refine T_loop (ι := Nat × List Rcd) (I := fun k => ⟨220, [(0, .c (.ms 46 6 0 len)), (10, I .i64 i), (13, I .i64 k.1)], [(46, dArr 6 (k.2.map encRcd))]⟩)
   (Inv := fun k => Rcs len k.2) (μ := fun k => i - k.1) (a, l) hR ?_ ?_
  ·exact enA
  rintro ⟨k, t⟩ hT
  simp only at hT ⊢
  try refine v142Y3 ?_
  refine ifA ?_ ?_
  ·intro hlt
   have hlt' : k + 1 < i := by simp at hlt; omega
   have htl := hT.1
   have hk1 : (((k : Nat) : Int) + 1).toNat = k + 1 := by omega
   have e1 := uGet encRcd t k zRcd (by omega)
   have e2 := uGet encRcd t (k + 1) zRcd (by omega)
   have hsw := hT.swap (i := k) (j := k + 1) (by omega) (by omega)
   generalize t.getD k zRcd = v at e1 hsw
   generalize t.getD (k + 1) zRcd = w at e2 hsw
   try refine v142Y3 ?_
   refine T_draw (wr := false) ([] : List (Nat × AV)) (by kernel_rfl) (by simp only [kD, kB, kG, kFn, k142, Nat.reduceAdd, Nat.reduceLT, Nat.reduceEqDiff, ↓reduceIte, reduceCtorEq, hk1, e1, e2, set_R, set_R2]; first | done | rfl) (by first | exact trivial | (simp only [kO]; omega) | (simp [All, InR]; first | done | omega) | (simp +contextual [All, InR]; first | done | grind)) (by kernel_rfl) ?_
   try refine v142Y3 ?_
   refine ⟨(k + 1, (t.set k w).set (k + 1) v), hsw, by simp; omega, ?_⟩
   exact enA
  intro _
  try refine v142Y3 ?_
  refine rtV (by simp only [kR, Tryz.results142, ↓reduceIte, Nat.reduceEqDiff, reduceCtorEq]; first | done | rfl) ([(46, dArr 6 (t.map encRcd))]) ?_
  exact ⟨t, hT, rfl⟩
 intro h1
 try refine v142Y3 ?_
 refine ifA ?_ ?_
 ·intro h2
  have h2' : b = m + 1 := by simp at h2; omega
  try refine v142Y3 ?_
  refine T_loop (ι := Nat × Nat) (I := fun i => ⟨220, [(0, .c (.ms 46 6 0 len)), (2, I .i64 m), (4, cmpV), (14, I .i64 i.1), (15, I .i64 i.2)], [(46, dArr 6 (l.map encRcd))]⟩)
   (Inv := fun i => a ≤ i.1 ∧ i.1 ≤ i.2 ∧ i.2 ≤ m) (μ := fun i => i.2 - i.1) (a, m) ⟨by simp, by simp; omega, by simp⟩ ?_ ?_
  ·exact enA
  rintro ⟨i, j⟩ ⟨g1, g2, g3⟩
  simp only at g1 g2 g3 ⊢
  try refine v142Y3 ?_
  refine ifA ?_ ?_
  ·intro hlt
   have hlt' : i < j := by simpa using hlt
   have hs : ((i : Nat) : Int) + ((j : Nat) : Int) = ((i + j : Nat) : Int) := by omega
   (repeat (first | refine nvB ?_ | refine goA (wr := false) (by simp only [kB, kG, kFn, k142, Nat.reduceAdd, Nat.reduceLT, Nat.reduceEqDiff, ↓reduceIte, reduceCtorEq, hs]; first | done | rfl) ?_))
   refine TO_half (n := i + j) (by simp) (by simp only [kV, ↓reduceIte, Nat.reduceEqDiff, reduceCtorEq]; first | done | rfl) (by simp only [InR]; omega) ?_
   refine fzA ?_
   obtain ⟨h, hh⟩ : ∃ h, h = (i + j) / 2 := ⟨_, rfl⟩
   rw [← hh]
   have e1 := uGet encRcd l m zRcd (by omega)
   have e2 := uGet encRcd l h zRcd (by omega)
   have hc1 := cmpR_ac _ _ (hR.get (i := m) (by omega)) (hR.get (i := h) (by omega))
   generalize l.getD m zRcd = v at e1 hc1
   generalize l.getD h zRcd = w at e2 hc1
   try refine v142Y3 ?_
   refine drA (wr := false) ([(101, I .i64 (cmR v w))] : List (Nat × AV)) (by simp only [kD, kB, kG, kFn, k142, Nat.reduceAdd, Nat.reduceLT, Nat.reduceEqDiff, ↓reduceIte, reduceCtorEq, e1, e2]; first | done | rfl) ?_ ?_
   ·exact obT (hc1)
   refine nvA ?_
   refine ifA ?_ ?_
   ·intro _
    try refine v142Y3 ?_
    refine ⟨(h + 1, j), ⟨by simp; omega, by simp; omega, g3⟩, by simp; omega, ?_⟩
    exact enA
   ·intro _
    try refine v142Y3 ?_
    refine ⟨(i, h), ⟨g1, by simp; omega, by simp; omega⟩, by simp; omega, ?_⟩
    exact enA
  intro _
  try refine v142Y3 ?_
  refine T_loop (ι := Nat × List Rcd) (I := fun k => ⟨220, [(0, .c (.ms 46 6 0 len)), (14, I .i64 i), (17, I .i64 k.1)], [(46, dArr 6 (k.2.map encRcd))]⟩)
   (Inv := fun k => k.1 ≤ m ∧ Rcs len k.2) (μ := fun k => k.1) (m, l) ⟨by simp, hR⟩ ?_ ?_
  ·exact enA
  rintro ⟨k, t⟩ ⟨hkm, hT⟩
  simp only at hkm hT ⊢
  try refine v142Y3 ?_
  refine ifA ?_ ?_
  ·intro hlt
   have hlt' : i < k := by simpa using hlt
   have htl := hT.1
   have hk1 : (((k : Nat) : Int) - 1).toNat = k - 1 := by omega
   have hk2 : ((k : Nat) : Int) - 1 = ((k - 1 : Nat) : Int) := by omega
   have e1 := uGet encRcd t k zRcd (by omega)
   have e2 := uGet encRcd t (k - 1) zRcd (by omega)
   have hsw := hT.swap (i := k) (j := k - 1) (by omega) (by omega)
   generalize t.getD k zRcd = v at e1 hsw
   generalize t.getD (k - 1) zRcd = w at e2 hsw
   try refine v142Y3 ?_
   refine T_draw (wr := false) ([] : List (Nat × AV)) (by kernel_rfl) (by simp only [kD, kB, kG, kFn, k142, Nat.reduceAdd, Nat.reduceLT, Nat.reduceEqDiff, ↓reduceIte, reduceCtorEq, hk1, e1, e2, set_R, set_R2]; first | done | rfl) (by first | exact trivial | (simp only [kO]; omega) | (simp [All, InR]; first | done | omega) | (simp +contextual [All, InR]; first | done | grind)) (by kernel_rfl) ?_
   try refine v142Y3 ?_
   refine ⟨(k - 1, (t.set k w).set (k - 1) v), ⟨by simp; omega, hsw⟩, by simp; omega, ?_⟩
   (refine Ent_sub (fun i => i) rfl ?_ ⟨?_, ?_, ?_, keepI hx (by simp [domOf, Ab.get])⟩ <;> first | (simp only [kE, dArr, ↓reduceIte, Nat.reduceEqDiff, reduceCtorEq, hk2]; done) | simp [renAV_id, renAO_id, flat_up, Ab.get, clAV, clC, clCs, clAO, cl_f1, cl_s1, cl_f2, cl_s2, cl_a1, domOf, List.flatten, hk2])
  intro _
  try refine v142Y3 ?_
  refine rtV (by simp only [kR, Tryz.results142, ↓reduceIte, Nat.reduceEqDiff, reduceCtorEq]; first | done | rfl) ([(46, dArr 6 (t.map encRcd))]) ?_
  exact ⟨t, hT, rfl⟩
 intro h2
 have hs0 : ((a : Nat) : Int) + ((b : Nat) : Int) = ((a + b : Nat) : Int) := by omega
 (repeat (first | refine nvB ?_ | refine goA (wr := false) (by simp only [kB, kG, kFn, k142, Nat.reduceAdd, Nat.reduceLT, Nat.reduceEqDiff, ↓reduceIte, reduceCtorEq, hs0]; first | done | rfl) ?_))
 refine TO_half (n := a + b) (by simp) (by simp only [kV, ↓reduceIte, Nat.reduceEqDiff, reduceCtorEq]; first | done | rfl) (by simp only [InR]; omega) ?_
 refine fzA ?_
 obtain ⟨mid, hmid⟩ : ∃ h, h = (a + b) / 2 := ⟨_, rfl⟩
 rw [← hmid]
 have hs1 : ((mid : Nat) : Int) + ((m : Nat) : Int) = ((mid + m : Nat) : Int) := by omega
 (repeat (first | refine nvB ?_ | refine goA (wr := false) (by simp only [kB, kG, kFn, k142, Nat.reduceAdd, Nat.reduceLT, Nat.reduceEqDiff, ↓reduceIte, reduceCtorEq, hs1]; first | done | rfl) ?_))
 refine T_joinE (ι := Nat × Nat) (fun i => ⟨220, [(0, .c (.ms 46 6 0 len)), (1, I .i64 a), (2, I .i64 m), (3, I .i64 b), (4, cmpV), (18, I .i64 mid), (19, I .i64 (mid + m : Nat)), (20, I .i64 i.1), (21, I .i64 i.2)], [(46, dArr 6 (l.map encRcd))]⟩)
  (fun i => a ≤ i.1 ∧ i.1 ≤ i.2 ∧ i.2 ≤ mid ∧ i.2 ≤ m ∧ mid + m ≤ i.1 + b) ?_ ?_
 ·refine ifA ?_ ?_
  ·intro h
   have h' : mid < m := by simpa using h
   have c1 : ((mid + m : Nat) : Int) - ((b : Nat) : Int) = ((mid + m - b : Nat) : Int) := by omega
   (repeat (first | refine nvB ?_ | refine goA (wr := false) (by simp only [kB, kG, kFn, k142, Nat.reduceAdd, Nat.reduceLT, Nat.reduceEqDiff, ↓reduceIte, reduceCtorEq, c1]; first | done | rfl) ?_))
   refine ⟨rfl, (mid + m - b, mid), ⟨by simp; omega, by simp; omega, by simp, by simp; omega, by simp; omega⟩, ?_⟩
   exact enA
  ·intro h
   have h' : m ≤ mid := by simp at h; omega
   try refine v142Y3 ?_
   refine ⟨rfl, (a, m), ⟨by simp, by simp; omega, by simp; omega, by simp, by simp; omega⟩, ?_⟩
   exact enA
 rintro ⟨s0, r0⟩ ⟨j1, j2, j3, j4, j5⟩
 simp only at j1 j2 j3 j4 j5 ⊢
 have c2 : ((mid + m : Nat) : Int) - 1 = ((mid + m - 1 : Nat) : Int) := by omega
 (repeat (first | refine nvB ?_ | refine goA (wr := false) (by simp only [kB, kG, kFn, k142, Nat.reduceAdd, Nat.reduceLT, Nat.reduceEqDiff, ↓reduceIte, reduceCtorEq, c2]; first | done | rfl) ?_))
 refine T_loop (ι := Nat × Nat) (I := fun i => ⟨220, [(0, .c (.ms 46 6 0 len)), (1, I .i64 a), (2, I .i64 m), (3, I .i64 b), (4, cmpV), (18, I .i64 mid), (19, I .i64 (mid + m : Nat)), (20, I .i64 i.1), (21, I .i64 i.2), (22, I .i64 (mid + m - 1 : Nat))], [(46, dArr 6 (l.map encRcd))]⟩)
  (Inv := fun i => a ≤ i.1 ∧ i.1 ≤ i.2 ∧ i.2 ≤ mid ∧ i.2 ≤ m ∧ mid + m ≤ i.1 + b) (μ := fun i => i.2 - i.1) (s0, r0) ⟨j1, j2, j3, j4, j5⟩ ?_ ?_
 ·exact enA
 rintro ⟨s, r⟩ ⟨g1, g2, g3, g4, g5⟩
 simp only at g1 g2 g3 g4 g5 ⊢
 try refine v142Y3 ?_
 refine ifA ?_ ?_
 ·intro hlt
  have hlt' : s < r := by simpa using hlt
  have hs : ((s : Nat) : Int) + ((r : Nat) : Int) = ((s + r : Nat) : Int) := by omega
  (repeat (first | refine nvB ?_ | refine goA (wr := false) (by simp only [kB, kG, kFn, k142, Nat.reduceAdd, Nat.reduceLT, Nat.reduceEqDiff, ↓reduceIte, reduceCtorEq, hs]; first | done | rfl) ?_))
  refine TO_half (n := s + r) (by simp) (by simp only [kV, ↓reduceIte, Nat.reduceEqDiff, reduceCtorEq]; first | done | rfl) (by simp only [InR]; omega) ?_
  refine fzA ?_
  obtain ⟨h, hh⟩ : ∃ h, h = (s + r) / 2 := ⟨_, rfl⟩
  rw [← hh]
  have hp : (((mid + m - 1 : Nat) : Int) - ((h : Nat) : Int)).toNat = mid + m - 1 - h := by omega
  have e1 := uGet encRcd l (mid + m - 1 - h) zRcd (by omega)
  have e2 := uGet encRcd l h zRcd (by omega)
  have hc1 := cmpR_ac _ _ (hR.get (i := mid + m - 1 - h) (by omega)) (hR.get (i := h) (by omega))
  generalize l.getD (mid + m - 1 - h) zRcd = v at e1 hc1
  generalize l.getD h zRcd = w at e2 hc1
  try refine v142Y3 ?_
  refine drA (wr := false) ([(169, I .i64 (cmR v w))] : List (Nat × AV)) (by simp only [kD, kB, kG, kFn, k142, Nat.reduceAdd, Nat.reduceLT, Nat.reduceEqDiff, ↓reduceIte, reduceCtorEq, hp, e1, e2]; first | done | rfl) ?_ ?_
  ·exact obT (hc1)
  refine nvA ?_
  refine ifA ?_ ?_
  ·intro _
   try refine v142Y3 ?_
   refine ⟨(h + 1, r), ⟨by simp; omega, by simp; omega, g3, g4, by simp; omega⟩, by simp; omega, ?_⟩
   exact enA
  ·intro _
   try refine v142Y3 ?_
   refine ⟨(s, h), ⟨g1, by simp; omega, by simp; omega, by simp; omega, g5⟩, by simp; omega, ?_⟩
   exact enA
 intro _
 have c3 : ((mid + m : Nat) : Int) - ((s : Nat) : Int) = ((mid + m - s : Nat) : Int) := by omega
 (repeat (first | refine nvB ?_ | refine goA (wr := false) (by simp only [kB, kG, kFn, k142, Nat.reduceAdd, Nat.reduceLT, Nat.reduceEqDiff, ↓reduceIte, reduceCtorEq, c3]; first | done | rfl) ?_))
 refine T_joinE (ι := List Rcd) (fun t => ⟨220, [(0, .c (.ms 46 6 0 len)), (1, I .i64 a), (3, I .i64 b), (4, cmpV), (18, I .i64 mid), (20, I .i64 s), (24, I .i64 (mid + m - s : Nat))], [(46, dArr 6 (t.map encRcd))]⟩) (fun t => Rcs len t) ?_ ?_
 ·refine ifA ?_ ?_
  ·intro h
   have h' : s < m ∧ m < mid + m - s := by
    by_cases q : s < m
    ·refine ⟨q, ?_⟩
     have : ((s : Nat) : Int) < ((m : Nat) : Int) := by omega
     simp [this] at h; omega
    ·have : ¬ ((s : Nat) : Int) < ((m : Nat) : Int) := by omega
     simp [this] at h
   try refine v142Y3 ?_
   refine caA ([(46, dArr 6 (l.map encRcd))]) (rotR_ac len l hl hR s m (mid + m - s) (by omega) (by omega) (by omega)) ?_
   rintro rv9 st' ⟨t, ht, rfl⟩ <;> refine frA ?_
   try refine v142Y3 ?_
   refine ⟨rfl, t, ht, ?_⟩
   exact enA
  ·intro _
   refine nvA ?_
   refine ⟨rfl, l, hR, ?_⟩
   exact enA
 intro t ht
 try refine v142Y3 ?_
 refine T_joinE (ι := List Rcd) (fun t => ⟨220, [(0, .c (.ms 46 6 0 len)), (3, I .i64 b), (4, cmpV), (18, I .i64 mid), (24, I .i64 (mid + m - s : Nat))], [(46, dArr 6 (t.map encRcd))]⟩) (fun t => Rcs len t) ?_ ?_
 ·refine ifA ?_ ?_
  ·intro h
   have h' : a < s ∧ s < mid := by
    by_cases q : a < s
    ·refine ⟨q, ?_⟩
     have : ((a : Nat) : Int) < ((s : Nat) : Int) := by omega
     simp [this] at h; omega
    ·have : ¬ ((a : Nat) : Int) < ((s : Nat) : Int) := by omega
     simp [this] at h
   try refine v142Y3 ?_
   refine caA ([(46, dArr 6 (t.map encRcd))]) (ih t ht a s mid h'.1 h'.2 (by omega) (by omega)) ?_
   rintro rv9 st' ⟨t2, ht2, rfl⟩ <;> refine frA ?_
   try refine v142Y3 ?_
   refine ⟨rfl, t2, ht2, ?_⟩
   exact enA
  ·intro _
   refine nvA ?_
   refine ⟨rfl, t, ht, ?_⟩
   exact enA
 intro t3 ht3
 try refine v142Y3 ?_
 refine ifA ?_ ?_
 ·intro h
  have h' : mid < mid + m - s ∧ mid + m - s < b := by
   by_cases q : mid < mid + m - s
   ·refine ⟨q, ?_⟩
    have : ((mid : Nat) : Int) < ((mid + m - s : Nat) : Int) := by omega
    simp [this] at h; omega
   ·have : ¬ ((mid : Nat) : Int) < ((mid + m - s : Nat) : Int) := by omega
    simp [this] at h
  try refine v142Y3 ?_
  refine caA ([(46, dArr 6 (t3.map encRcd))]) (ih t3 ht3 mid (mid + m - s) b h'.1 h'.2 (by omega) (by omega)) ?_
  rintro rv9 st' ⟨t4, ht4, rfl⟩ <;> refine frA ?_
  try refine v142Y3 ?_
  refine rtN (by simp only [kR, Tryz.results142, ↓reduceIte, Nat.reduceEqDiff, reduceCtorEq]; first | done | rfl) ([(46, dArr 6 (t4.map encRcd))]) ?_
  exact ⟨t4, ht4, rfl⟩
 ·intro _
  try refine v142Y3 ?_
  refine rtN (by simp only [kR, Tryz.results142, ↓reduceIte, Nat.reduceEqDiff, reduceCtorEq]; first | done | rfl) ([(46, dArr 6 (t3.map encRcd))]) ?_
  exact ⟨t3, ht3, rfl⟩
end Go.Proofs.YtmhboloicpieeaaGreatDoor

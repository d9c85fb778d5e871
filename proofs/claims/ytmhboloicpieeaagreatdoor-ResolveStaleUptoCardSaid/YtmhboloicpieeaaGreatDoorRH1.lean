/- A part of the proof. -/
import Derived.Test.YtmhboloicpieeaaGreatDoorRG3
set_option maxRecDepth 100000
set_option maxHeartbeats 8000000
set_option linter.all false
namespace Go.Proofs.YtmhboloicpieeaaGreatDoor
open Go.Ab Tys
variable [Dr]
def k133 := And.intro @Tryz.ntmps133 <| And.intro @Tryz.underlying77 <| And.intro @elt77 <| And.intro @ti77 <| @ti9
theorem v133G4 {G G' : Prop} (g : G') (h : Hid G' → G := by intro h9; (first | refine nvB ?_ | refine goA (wr := false) (by simp only [kB, kG, k133, Nat.reduceAdd, Nat.reduceLT, Nat.reduceEqDiff, ↓reduceIte, reduceCtorEq]; first | done | rfl) ?_); (repeat (first | refine nvB ?_ | refine goA (wr := false) (by simp only [kB, kG, k133, Nat.reduceAdd, Nat.reduceLT, Nat.reduceEqDiff, ↓reduceIte, reduceCtorEq]; first | done | rfl) ?_)); exact h9.out) : G := h ⟨g⟩
theorem compare_ac (a b : List ByteArray) (ha : a.length ≤ 1000000) : AC Tryz.prog 133 [aStrs a, aStrs b] [] (fun r st => r = I .i64 (cmpL a b) ∧ st = []) := by
 refine AC_enter Tryz.func133 rfl rfl (by simp only [Tryz.ntmps133, List.length]; omega) ?_
 intro x hx
 simp only [List.range, List.range.loop, List.length, List.zip, List.zipWith, Nat.reduceAdd, Tryz.ntmps133]
 try refine v133G4 ?_
 refine T_loop (ι := Nat) (I := fun k => ⟨43, [(0, aStrs a), (1, aStrs b), (5, I .i64 k)], []⟩)
  (Inv := fun k => k ≤ a.length ∧ k ≤ b.length ∧ cmpL a b = cmpL (a.drop k) (b.drop k)) (μ := fun k => a.length - k) 0 ⟨by omega, by omega, by simp⟩ ?_ ?_
 ·exact enA
 ·rintro k ⟨hk, hk2, hcm⟩
  try refine v133G4 ?_
  refine ifA ?_ ?_
  ·intro hlt
   have hlt' : k < a.length ∧ k < b.length := by simpa using hlt
   obtain ⟨hla, hlb⟩ := hlt'
   obtain ⟨v, hv, he, htk⟩ := round encS a k ByteArray.empty hla
   obtain ⟨w, hw, he2, htk2⟩ := round encS b k ByteArray.empty hlb
   have hda : a.drop k = v :: a.drop (k + 1) := by rw [List.drop_eq_getElem_cons hla]; simp [List.getElem?_eq_getElem hla] at hv; rw [hv]
   have hdb : b.drop k = w :: b.drop (k + 1) := by rw [List.drop_eq_getElem_cons hlb]; simp [List.getElem?_eq_getElem hlb] at hw; rw [hw]
   rw [hda, hdb, cmpL] at hcm
   refine nvA ?_
   refine drA (wr := false) ([(27, I .i64 (cb v w))] : List (Nat × AV)) (by simp only [kD, kB, kG, k133, Nat.reduceAdd, Nat.reduceLT, Nat.reduceEqDiff, ↓reduceIte, reduceCtorEq, he, he2]; first | done | rfl) ?_ ?_
   ·simp only [All, List.cons_append, List.nil_append, InR, List.mem_cons, List.not_mem_nil, or_false, forall_eq_or_imp, forall_eq, clAV, clCs, clC, clCaps, clCap, and_true, true_and, implies_true, List.length_map, List.length_cons, List.length_nil, dArr, cl_arr, tyCs]
    repeat' (first | exact trivial | exact strCompare_ac _ _ | refine And.intro ?_ ?_ | intro _ | assumption | rfl | omega | (rw [Bool.not_eq_true']; assumption) | (simp; done) | (simp only [decide_eq_true_eq] at *; omega) | (simp_all; done))
   try refine v133G4 ?_
   refine ifA ?_ ?_
   ·intro hc
    have hc' : ¬ cb v w = 0 := by simpa using hc
    try refine v133G4 ?_
    refine rtA (by simp only [kR, Tryz.results133, ↓reduceIte, Nat.reduceEqDiff, reduceCtorEq]; first | done | rfl) ([]) ?_
    refine ⟨?_, rfl⟩
    rw [hcm, if_neg hc']
   ·intro hc
    have hc' : cb v w = 0 := by simpa using hc
    try refine v133G4 ?_
    refine ⟨k + 1, ⟨by omega, by omega, ?_⟩, by omega, ?_⟩
    ·rw [hcm, if_pos hc']
    ·exact enA
  ·intro hge
   have hge' : ¬ (k < a.length ∧ k < b.length) := by simpa using hge
   try refine v133G4 ?_
   refine ifA ?_ ?_
   ·intro h
    have h' : a.length < b.length := by simpa using h
    try refine v133G4 ?_
    refine rtA (by simp only [kR, Tryz.results133, ↓reduceIte, Nat.reduceEqDiff, reduceCtorEq]; first | done | rfl) ([]) ?_
    refine ⟨?_, rfl⟩
    have e1 : a.drop k = [] := List.drop_eq_nil_of_le (by omega)
    have hlb : k < b.length := by omega
    rw [hcm, e1, List.drop_eq_getElem_cons hlb, cmpL]
   ·intro h
    have h' : ¬ a.length < b.length := by simpa using h
    try refine v133G4 ?_
    refine ifA ?_ ?_
    ·intro h2
     have h2' : b.length < a.length := by simpa using h2
     try refine v133G4 ?_
     refine rtA (by simp only [kR, Tryz.results133, ↓reduceIte, Nat.reduceEqDiff, reduceCtorEq]; first | done | rfl) ([]) ?_
     refine ⟨?_, rfl⟩
     have e1 : b.drop k = [] := List.drop_eq_nil_of_le (by omega)
     have hla : k < a.length := by omega
     rw [hcm, e1, List.drop_eq_getElem_cons hla, cmpL]
    ·intro h2
     have h2' : ¬ b.length < a.length := by simpa using h2
     try refine v133G4 ?_
     refine rtA (by simp only [kR, Tryz.results133, ↓reduceIte, Nat.reduceEqDiff, reduceCtorEq]; first | done | rfl) ([]) ?_
     refine ⟨?_, rfl⟩
     have e1 : b.drop k = [] := List.drop_eq_nil_of_le (by omega)
     have e2 : a.drop k = [] := List.drop_eq_nil_of_le (by omega)
     rw [hcm, e1, e2, cmpL]
def k70 := And.intro @Tryz.ntmps70 <| trivial
theorem v70G4 {G G' : Prop} (g : G') (h : Hid G' → G := by intro h9; (first | refine nvB ?_ | refine goA (wr := false) (by simp only [kB, kG, k70, Nat.reduceAdd, Nat.reduceLT, Nat.reduceEqDiff, ↓reduceIte, reduceCtorEq]; first | done | rfl) ?_); (repeat (first | refine nvB ?_ | refine goA (wr := false) (by simp only [kB, kG, k70, Nat.reduceAdd, Nat.reduceLT, Nat.reduceEqDiff, ↓reduceIte, reduceCtorEq]; first | done | rfl) ?_)); exact h9.out) : G := h ⟨g⟩
theorem ord_ac (p q : ByteArray) (hp : p.size ≤ 100000) (hq : q.size ≤ 100000) : AC Tryz.prog 70 [Str p, Str q] [] (fun r st => r = I .i64 (ord p q) ∧ st = []) := by
 have hcp := path_ac p (by omega)
 have hcq := path_ac q (by omega)
 cases ep : path? p with
 | none =>
   rw [ep] at hcp
   simp only [pStrs, pB, Option.isSome] at hcp
   cases eq : path? q with
   | none =>
     rw [eq] at hcq
     simp only [pStrs, pB, Option.isSome] at hcq
     refine AC_enter Tryz.func70 rfl rfl (by simp only [Tryz.ntmps70, List.length]; omega) ?_
     intro x hx
     simp only [List.range, List.range.loop, List.length, List.zip, List.zipWith, Nat.reduceAdd, Tryz.ntmps70]
     (repeat (first | refine v70G4 ?_ | (refine caA [] (hcp) ?_; rintro r st' ⟨rfl, rfl⟩; refine frA ?_) | (refine caA [] (hcq) ?_; rintro r st' ⟨rfl, rfl⟩; refine frA ?_)))
     refine ifA ?_ ?_
     ·intro _
      (repeat (first | refine v70G4 ?_ | (refine caA [] (strCompare_ac _ _) ?_; rintro r st' ⟨rfl, rfl⟩; refine frA ?_)))
      refine rtA (by simp only [kR, Tryz.results70, ↓reduceIte, Nat.reduceEqDiff, reduceCtorEq]; first | done | rfl) ([]) ?_
      refine ⟨?_, rfl⟩
      simp only [ord, ep, eq]; rfl
     ·intro h; simp at h
   | some b =>
     rw [eq] at hcq
     simp only [pStrs, pB, Option.isSome] at hcq
     refine AC_enter Tryz.func70 rfl rfl (by simp only [Tryz.ntmps70, List.length]; omega) ?_
     intro x hx
     simp only [List.range, List.range.loop, List.length, List.zip, List.zipWith, Nat.reduceAdd, Tryz.ntmps70]
     (repeat (first | refine v70G4 ?_ | (refine caA [] (hcp) ?_; rintro r st' ⟨rfl, rfl⟩; refine frA ?_) | (refine caA [] (hcq) ?_; rintro r st' ⟨rfl, rfl⟩; refine frA ?_)))
     refine ifA ?_ ?_
     ·intro h; simp at h
     ·intro _
      try refine v70G4 ?_
      refine ifA ?_ ?_
      ·intro _
       try refine v70G4 ?_
       refine rtA (by simp only [kR, Tryz.results70, ↓reduceIte, Nat.reduceEqDiff, reduceCtorEq]; first | done | rfl) ([]) ?_
       refine ⟨?_, rfl⟩
       simp only [ord, ep, eq]
      ·intro h; simp at h
 | some a =>
   rw [ep] at hcp
   simp only [pStrs, pB, Option.isSome] at hcp
   cases eq : path? q with
   | none =>
     rw [eq] at hcq
     simp only [pStrs, pB, Option.isSome] at hcq
     refine AC_enter Tryz.func70 rfl rfl (by simp only [Tryz.ntmps70, List.length]; omega) ?_
     intro x hx
     simp only [List.range, List.range.loop, List.length, List.zip, List.zipWith, Nat.reduceAdd, Tryz.ntmps70]
     (repeat (first | refine v70G4 ?_ | (refine caA [] (hcp) ?_; rintro r st' ⟨rfl, rfl⟩; refine frA ?_) | (refine caA [] (hcq) ?_; rintro r st' ⟨rfl, rfl⟩; refine frA ?_)))
     refine ifA ?_ ?_
     ·intro h; simp at h
     ·intro _
      try refine v70G4 ?_
      refine ifA ?_ ?_
      ·intro h; simp at h
      ·intro _
       try refine v70G4 ?_
       refine ifA ?_ ?_
       ·intro _
        try refine v70G4 ?_
        refine rtA (by simp only [kR, Tryz.results70, ↓reduceIte, Nat.reduceEqDiff, reduceCtorEq]; first | done | rfl) ([]) ?_
        refine ⟨?_, rfl⟩
        simp only [ord, ep, eq]
       ·intro h; simp at h
   | some b =>
     rw [eq] at hcq
     simp only [pStrs, pB, Option.isSome] at hcq
     have := path?_len ep
     refine AC_enter Tryz.func70 rfl rfl (by simp only [Tryz.ntmps70, List.length]; omega) ?_
     intro x hx
     simp only [List.range, List.range.loop, List.length, List.zip, List.zipWith, Nat.reduceAdd, Tryz.ntmps70]
     (repeat (first | refine v70G4 ?_ | (refine caA [] (hcp) ?_; rintro r st' ⟨rfl, rfl⟩; refine frA ?_) | (refine caA [] (hcq) ?_; rintro r st' ⟨rfl, rfl⟩; refine frA ?_)))
     refine ifA ?_ ?_
     ·intro h; simp at h
     ·intro _
      try refine v70G4 ?_
      refine ifA ?_ ?_
      ·intro h; simp at h
      ·intro _
       try refine v70G4 ?_
       refine ifA ?_ ?_
       ·intro h; simp at h
       ·intro _
        (repeat (first | refine v70G4 ?_ | (refine caA [] (compare_ac a b (by omega)) ?_; rintro r st' ⟨rfl, rfl⟩; refine frA ?_)))
        refine rtA (by simp only [kR, Tryz.results70, ↓reduceIte, Nat.reduceEqDiff, reduceCtorEq]; first | done | rfl) ([]) ?_
        refine ⟨?_, rfl⟩
        simp only [ord, ep, eq]
def k124 := And.intro @Tryz.ntmps124 <| And.intro @bld76 <| And.intro @fld76_0 <| And.intro @fld76_1 <| And.intro @fld76_3 <| And.intro @fld76_4 <| And.intro @ti3 <| And.intro @ti76 <| @ti9
theorem v124H1 {G G' : Prop} (g : G') (h : Hid G' → G := by intro h9; (first | refine nvB ?_ | refine goA (wr := false) (by simp only [kB, k124, Nat.reduceAdd, Nat.reduceLT, Nat.reduceEqDiff, ↓reduceIte, reduceCtorEq]; first | done | rfl) ?_); (repeat (first | refine nvB ?_ | refine goA (wr := false) (by simp only [kB, k124, Nat.reduceAdd, Nat.reduceLT, Nat.reduceEqDiff, ↓reduceIte, reduceCtorEq]; first | done | rfl) ?_)); exact h9.out) : G := h ⟨g⟩
theorem before_ac (a b : Rcd) (ha : rOK a) (hb : rOK b) : AC Tryz.prog 124 [aRcd a, aRcd b] [] (fun r st => r = B (before a b) ∧ st = []) := by
 refine AC_enter Tryz.func124 rfl rfl (by simp only [Tryz.ntmps124, List.length]; omega) ?_
 intro x hx
 simp only [List.range, List.range.loop, List.length, List.zip, List.zipWith, Nat.reduceAdd, Tryz.ntmps124]
 (repeat (first | refine v124H1 ?_ | (refine caA [] (ord_ac _ _ ha.2 hb.2) ?_; rintro r st' ⟨rfl, rfl⟩; refine frA ?_)))
 refine ifA ?_ ?_
 ·intro h
  have h' : ord a.to b.to ≠ 0 := by simpa using h
  try refine v124H1 ?_
  refine rtA (by simp only [kR, Tryz.results124, ↓reduceIte, Nat.reduceEqDiff, reduceCtorEq]; first | done | rfl) ([]) ?_
  refine ⟨?_, rfl⟩
  rw [before, if_pos h']
 ·intro h
  have h' : ¬ ord a.to b.to ≠ 0 := by simpa using h
  try refine v124H1 ?_
  refine ifA ?_ ?_
  ·intro h2
   have h2' : a.num ≠ b.num := by simpa using h2
   try refine v124H1 ?_
   refine rtA (by simp only [kR, Tryz.results124, ↓reduceIte, Nat.reduceEqDiff, reduceCtorEq]; first | done | rfl) ([]) ?_
   refine ⟨?_, rfl⟩
   rw [before, if_neg h', if_pos h2']
  ·intro h2
   have h2' : ¬ a.num ≠ b.num := by simpa using h2
   (repeat (first | refine v124H1 ?_ | (refine caA [] (ord_ac _ _ ha.1 hb.1) ?_; rintro r st' ⟨rfl, rfl⟩; refine frA ?_)))
   refine ifA ?_ ?_
   ·intro h3
    have h3' : ord a.frm b.frm ≠ 0 := by simpa using h3
    try refine v124H1 ?_
    refine rtA (by simp only [kR, Tryz.results124, ↓reduceIte, Nat.reduceEqDiff, reduceCtorEq]; first | done | rfl) ([]) ?_
    refine ⟨?_, rfl⟩
    rw [before, if_neg h', if_neg h2', if_pos h3']
   ·intro h3
    have h3' : ¬ ord a.frm b.frm ≠ 0 := by simpa using h3
    try refine v124H1 ?_
    refine rtA (by simp only [kR, Tryz.results124, ↓reduceIte, Nat.reduceEqDiff, reduceCtorEq]; first | done | rfl) ([]) ?_
    refine ⟨?_, rfl⟩
    rw [before, if_neg h', if_neg h2', if_neg h3']
def k61 := And.intro @Tryz.ntmps61 <| And.intro @Tryz.underlying28 <| And.intro @bld76 <| And.intro @elt28 <| And.intro @ti28 <| @ti76
theorem v61H1 {G G' : Prop} (g : G') (h : Hid G' → G := by intro h9; (first | refine nvB ?_ | refine goA (wr := false) (by simp only [kB, kG, k61, Nat.reduceAdd, Nat.reduceLT, Nat.reduceEqDiff, ↓reduceIte, reduceCtorEq]; first | done | rfl) ?_); (repeat (first | refine nvB ?_ | refine goA (wr := false) (by simp only [kB, kG, k61, Nat.reduceAdd, Nat.reduceLT, Nat.reduceEqDiff, ↓reduceIte, reduceCtorEq]; first | done | rfl) ?_)); exact h9.out) : G := h ⟨g⟩
theorem sorted_ac (l : List Rcd) (hl : l.length ≤ 1000000) (hok : ∀ r ∈ l, rOK r) : AC Tryz.prog 61 [.c (.ms 46 6 0 l.length)] [(46, dArr 6 (l.map encRcd))] (fun r st => r = .c (.d (.ps 6 ((sortR l).map encRcd))) ∧ st = [(46, .dead)]) := by
 refine AC_enter Tryz.func61 rfl rfl (by simp only [Tryz.ntmps61, List.length]; omega) ?_
 intro x hx
 simp only [List.range, List.range.loop, List.length, List.zip, List.zipWith, Nat.reduceAdd, Tryz.ntmps61]
 try refine v61H1 ?_
 refine T_loop (ι := Nat × List Rcd) (I := fun i => ⟨45, [(0, .c (.ms 46 6 0 l.length)), (6, I .i64 l.length), (7, I .i64 i.1)], [(46, dArr 6 (i.2.map encRcd))]⟩)
  (Inv := fun i => i.1 ≤ l.length ∧ i.2.length = l.length ∧ (∀ r ∈ i.2, rOK r) ∧ i.2 = sortN l i.1) (μ := fun i => l.length - i.1) (0, l) ⟨by simp, rfl, hok, rfl⟩ ?_ ?_
 ·exact enA
 ·rintro ⟨k, m⟩ ⟨h1, h2, h3, h4⟩
  simp only at h1 h2 h3 h4 ⊢
  try refine v61H1 ?_
  refine ifA ?_ ?_
  ·intro hlt
   have hlt' : k < l.length := by simpa using hlt
   try refine v61H1 ?_
   refine T_loop (ι := Nat × List Rcd) (I := fun i => ⟨45, [(0, .c (.ms 46 6 0 l.length)), (4, I .i64 i.1), (6, I .i64 l.length), (7, I .i64 k)], [(46, dArr 6 (i.2.map encRcd))]⟩)
    (Inv := fun i => i.1 ≤ k ∧ i.2.length = l.length ∧ (∀ r ∈ i.2, rOK r) ∧ sinkF i.1 i.2 = sortN l (k + 1)) (μ := fun i => i.1) (k, m) ⟨by simp, h2, h3, by rw [h4]; rfl⟩ ?_ ?_
   ·exact enA
   ·rintro ⟨j, t⟩ ⟨g1, g2, g3, g4⟩
    simp only at g1 g2 g3 g4 ⊢
    have hj1 : ((j : Int) - 1).toNat = j - 1 := by omega
    have hjt : j < t.length := by omega
    have hjt2 : j - 1 < t.length := by omega
    have e1 := uGet encRcd t j zRcd hjt
    have e2 := uGet encRcd t (j - 1) zRcd hjt2
    have m1 : t.getD j zRcd ∈ t := by rw [List.getD_eq_getElem?_getD, List.getElem?_eq_getElem hjt]; simp
    have m2 : t.getD (j - 1) zRcd ∈ t := by rw [List.getD_eq_getElem?_getD, List.getElem?_eq_getElem hjt2]; simp
    generalize hv : t.getD j zRcd = v at e1 m1
    generalize hw : t.getD (j - 1) zRcd = w at e2 m2
    refine nvA ?_
    refine drA (wr := false) ([(23, B (before v w))] : List (Nat × AV)) (by simp only [kD, kB, kG, k61, Nat.reduceAdd, Nat.reduceLT, Nat.reduceEqDiff, ↓reduceIte, reduceCtorEq, hj1, e1, e2]; first | done | rfl) ?_ ?_
    ·simp only [All, List.cons_append, List.nil_append, InR, List.mem_cons, List.not_mem_nil, or_false, forall_eq_or_imp, forall_eq, clAV, clCs, clC, clCaps, clCap, and_true, true_and, implies_true, List.length_map, List.length_cons, List.length_nil, dArr, cl_arr, tyCs]
     repeat' (first | exact trivial | exact before_ac _ _ (g3 _ m1) (g3 _ m2) | refine And.intro ?_ ?_ | intro _ | assumption | rfl | omega | (rw [Bool.not_eq_true']; assumption) | (simp; done) | (simp only [decide_eq_true_eq] at *; omega) | (simp_all; done))
    refine nvA ?_
    refine ifA ?_ ?_
    ·intro hc
     have hc' : 0 < j ∧ before v w = true := by
      cases j with
      | zero => exact absurd hc (by simp)
      | succ j => exact ⟨by omega, by simpa using hc⟩
     obtain ⟨hj, hb⟩ := hc'
     have hjn : j - 1 ≠ j := by omega
     have e3 := uGet encRcd (t.set j w) (j - 1) zRcd (by simp; omega)
     refine nvA ?_
     refine T_draw (wr := false) ([] : List (Nat × AV)) (by kernel_rfl) (by simp only [kD, kB, kG, k61, Nat.reduceAdd, Nat.reduceLT, Nat.reduceEqDiff, ↓reduceIte, reduceCtorEq, hj1, e1, e2, set_R, set_R2]; first | done | rfl) (by first | exact trivial | (simp only [kO]; omega) | (simp [All, InR]; first | done | omega) | (simp +contextual [All, InR]; first | done | grind)) (by kernel_rfl) ?_
     try refine v61H1 ?_
     have hlen : ((t.set j w).set (j - 1) v).length = l.length := by simp [g2]
     refine ⟨(j - 1, (t.set j w).set (j - 1) v), ⟨by simp; omega, hlen, swap_mem m1 m2 g3, ?_⟩, by simp; omega, ?_⟩
     ·rw [← g4]
      obtain ⟨i, rfl⟩ : ∃ i, j = i + 1 := ⟨j - 1, by omega⟩
      have e0 : i + 1 - 1 = i := by omega
      rw [e0] at hw
      conv => rhs; rw [sinkF]
      rw [hv, hw, if_pos hb]; rfl
     ·have hcast : ((j - 1 : Nat) : Int) = (j : Int) - 1 := by omega
      (refine Ent_sub (fun i => i) rfl ?_ ⟨?_, ?_, ?_, keepI hx (by simp [domOf, Ab.get])⟩ <;> first | (simp only [kE, dArr, ↓reduceIte, Nat.reduceEqDiff, reduceCtorEq, hcast]; done) | simp [renAV_id, renAO_id, flat_up, Ab.get, clAV, clC, clCs, clAO, cl_f1, cl_s1, cl_f2, cl_s2, cl_a1, domOf, List.flatten, hcast])
    ·intro hc
     try refine v61H1 ?_
     refine ⟨(k + 1, t), ⟨by simp; omega, g2, g3, ?_⟩, by simp; omega, ?_⟩
     ·rw [← g4]
      cases j with
      | zero => rfl
      | succ i =>
        have hb : before v w = false := by simpa using hc
        have e0 : i + 1 - 1 = i := by omega
        rw [e0] at hw
        simp only
        rw [sinkF, hv, hw, hb]; rfl
     ·exact enA
  ·intro hge
   have hge' : k = l.length := by have : ¬ k < l.length := by simpa using hge
                                  omega
   refine nvA ?_
   refine TO_ent (Ent_frzSlot (i := 0) (id := 46) (ys := m.map encRcd) rfl rfl (by simp [h2])) ?_
   refine fzA ?_
   try refine v61H1 ?_
   refine rtA (by simp only [kR, Tryz.results61, ↓reduceIte, Nat.reduceEqDiff, reduceCtorEq]; first | done | rfl) ([(46, .dead)]) ?_
   refine ⟨?_, rfl⟩
   rw [h4, hge']; rfl
def k175 := And.intro @Tryz.ntmps175 <| And.intro @bld41 <| And.intro @fld41_0 <| And.intro @fld41_1 <| And.intro @fld41_3 <| And.intro @ti3 <| And.intro @ti4 <| @ti41
theorem v175H1 {G G' : Prop} (g : G') (h : Hid G' → G := by intro h9; (first | refine nvB ?_ | refine goA (wr := false) (by simp only [kB, kG, k175, Nat.reduceAdd, Nat.reduceLT, Nat.reduceEqDiff, ↓reduceIte, reduceCtorEq]; first | done | rfl) ?_); (repeat (first | refine nvB ?_ | refine goA (wr := false) (by simp only [kB, kG, k175, Nat.reduceAdd, Nat.reduceLT, Nat.reduceEqDiff, ↓reduceIte, reduceCtorEq]; first | done | rfl) ?_)); exact h9.out) : G := h ⟨g⟩
theorem type_ac (base : Int) (kw ex xe : Bool) : AC Tryz.prog 175 [.agg [.d (.v (.int .i64 base)), .d (.v (.bool kw)), .d (.v (.bool ex)), .d (.v (.bool xe))]] [] (fun r st => r = I .i64 (if typBad base kw xe then 90 else 0) ∧ st = []) := by
 refine AC_enter Tryz.func175 rfl rfl (by simp only [Tryz.ntmps175, List.length]; omega) ?_
 intro x hx
 simp only [List.range, List.range.loop, List.length, List.zip, List.zipWith, Nat.reduceAdd, Tryz.ntmps175]
 try refine v175H1 ?_
 refine ifA ?_ ?_
 ·intro h
  try refine v175H1 ?_
  refine rtA (by simp only [kR, Tryz.results175, ↓reduceIte, Nat.reduceEqDiff, reduceCtorEq]; first | done | rfl) ([]) ?_
  refine ⟨?_, rfl⟩
  have : typBad base kw xe = true := by rw [← h]; simp only [typBad]; cases decide (base < 1) <;> cases decide (3 < base) <;> cases kw <;> cases xe <;> cases decide (base = 1) <;> cases decide (base = 3) <;> rfl
  rw [this]; rfl
 ·intro h
  try refine v175H1 ?_
  refine rtA (by simp only [kR, Tryz.results175, ↓reduceIte, Nat.reduceEqDiff, reduceCtorEq]; first | done | rfl) ([]) ?_
  refine ⟨?_, rfl⟩
  have : typBad base kw xe = false := by rw [← h]; simp only [typBad]; cases decide (base < 1) <;> cases decide (3 < base) <;> cases kw <;> cases xe <;> cases decide (base = 1) <;> cases decide (base = 3) <;> rfl
  rw [this]; rfl
end Go.Proofs.YtmhboloicpieeaaGreatDoor

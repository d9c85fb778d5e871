/- A part of the proof. -/
import Derived.Test.YtmhboloicpieeaaGreatDoorRPD
import Derived.Test.YtmhboloicpieeaaGreatDoorRX3
import Derived.Test.YtmhboloicpieeaaGreatDoorRU8
import Derived.Test.YtmhboloicpieeaaGreatDoorRU2
set_option linter.all false
namespace Go.Proofs.YtmhboloicpieeaaGreatDoor
open Go.Ab Tys
variable [DrF]
def k256 := And.intro @Tryz.ntmps256 <| And.intro @Tryz.underlying77 <| And.intro @bld79 <| And.intro @elt77 <| And.intro @fld79_0 <| And.intro @ti77 <| And.intro @ti79 <| @ti9
theorem v256X11 {G G' : Prop} (g : G') (h : Hid G' → G := by intro h9; (first | refine nvB ?_ | refine goA (wr := false) (by simp only [kB, k256, Nat.reduceAdd, Nat.reduceLT, Nat.reduceEqDiff, ↓reduceIte, reduceCtorEq]; first | done | rfl) ?_); (repeat (first | refine nvB ?_ | refine goA (wr := false) (by simp only [kB, k256, Nat.reduceAdd, Nat.reduceLT, Nat.reduceEqDiff, ↓reduceIte, reduceCtorEq]; first | done | rfl) ?_)); exact h9.out) : G := h ⟨g⟩
set_option maxRecDepth 100000 in
set_option maxHeartbeats 4000000 in
theorem partN_ac (p : Pat) (i : Nat) (hp : p.parts.length ≤ 1000000) (hi : i ≤ 1000000) : AC Tryz.prog 256 [aPat p, I .i64 i] [] (fun x st => x = Str (partN p i) ∧ st = []) := by
  have hR : partN p i = if i < p.parts.length then p.parts.getD i noS else starS := rfl
  generalize partN p i = R at hR
  obtain ⟨ps, rp⟩ := p
  simp only at hR hp
  refine AC_enter Tryz.func256 rfl rfl (by simp only [Tryz.ntmps256, List.length]; omega) ?_
  intro x hx
  simp only [List.range, List.range.loop, List.length, List.zip, List.zipWith, Nat.reduceAdd, Tryz.ntmps256]
  try refine v256X11 ?_
  refine ifA ?_ ?_
  · intro h
    have h' : i < ps.length := by simpa using h
    obtain ⟨v, hv, he, _⟩ := round encS ps i noS h'
    rw [if_pos h', getD_sm (z := noS) hv] at hR
    (repeat (first | refine nvB ?_ | refine goA (wr := false) (by simp only [kB, k256, Nat.reduceAdd, Nat.reduceLT, Nat.reduceEqDiff, ↓reduceIte, reduceCtorEq, he]; first | done | rfl) ?_))
    refine rtA (by simp only [kR, Tryz.results256, ↓reduceIte, Nat.reduceEqDiff, reduceCtorEq]; first | done | rfl) ([]) ?_
    refine ⟨?_, rfl⟩
    rw [hR]
  · intro h
    have h' : ¬ i < ps.length := by simpa using h
    rw [if_neg h'] at hR
    try refine v256X11 ?_
    refine rtA (by simp only [kR, Tryz.results256, ↓reduceIte, Nat.reduceEqDiff, reduceCtorEq]; first | done | rfl) ([]) ?_
    refine ⟨?_, rfl⟩
    rw [hR]
def k255 := And.intro @Tryz.ntmps255 <| And.intro @Tryz.underlying77 <| And.intro @bld79 <| And.intro @elt77 <| And.intro @fld79_0 <| And.intro @fld79_1 <| And.intro @ti4 <| And.intro @ti77 <| And.intro @ti79 <| @ti9
theorem v255X11 {G G' : Prop} (g : G') (h : Hid G' → G := by intro h9; (first | refine nvB ?_ | refine goA (wr := false) (by simp only [kB, k255, Nat.reduceAdd, Nat.reduceLT, Nat.reduceEqDiff, ↓reduceIte, reduceCtorEq]; first | done | rfl) ?_); (repeat (first | refine nvB ?_ | refine goA (wr := false) (by simp only [kB, k255, Nat.reduceAdd, Nat.reduceLT, Nat.reduceEqDiff, ↓reduceIte, reduceCtorEq]; first | done | rfl) ?_)); exact h9.out) : G := h ⟨g⟩
set_option maxRecDepth 100000 in
set_option maxHeartbeats 4000000 in
theorem counts_ac (p : Pat) (n : Nat) (hp : p.parts.length ≤ 1000000) : AC Tryz.prog 255 [aPat p, I .i64 n] [] (fun x st => x = B (countsB p n) ∧ st = []) := by
  have hR : countsB p n = if p.rest then decide (p.parts.length < n) else decide (n = p.parts.length) := rfl
  generalize countsB p n = R at hR
  obtain ⟨ps, rp⟩ := p
  simp only at hR hp
  have e1 : decide ((ps.length : Int) < n) = decide (ps.length < n) := decide_eq_decide.2 (by omega)
  have e2 : decide ((n : Int) = ps.length) = decide (n = ps.length) := decide_eq_decide.2 (by omega)
  refine AC_enter Tryz.func255 rfl rfl (by simp only [Tryz.ntmps255, List.length]; omega) ?_
  intro x hx
  simp only [List.range, List.range.loop, List.length, List.zip, List.zipWith, Nat.reduceAdd, Tryz.ntmps255]
  try refine v255X11 ?_
  refine ifA ?_ ?_
  · intro h
    rw [if_pos h] at hR
    try refine v255X11 ?_
    refine rtA (by simp only [kR, Tryz.results255, ↓reduceIte, Nat.reduceEqDiff, reduceCtorEq]; first | done | rfl) ([]) ?_
    refine ⟨?_, rfl⟩
    rw [hR, e1]
  · intro h
    rw [if_neg (by simp [h])] at hR
    try refine v255X11 ?_
    refine rtA (by simp only [kR, Tryz.results255, ↓reduceIte, Nat.reduceEqDiff, reduceCtorEq]; first | done | rfl) ([]) ?_
    refine ⟨?_, rfl⟩
    rw [hR, e2]
def k231 := And.intro @Tryz.ntmps231 <| And.intro @Tryz.underlying77 <| And.intro @bld79 <| And.intro @elt77 <| And.intro @fld79_0 <| And.intro @ti77 <| And.intro @ti79 <| @ti9
theorem v231X11 {G G' : Prop} (g : G') (h : Hid G' → G := by intro h9; (first | refine nvB ?_ | refine goA (wr := false) (by simp only [kB, kG, k231, Nat.reduceAdd, Nat.reduceLT, Nat.reduceEqDiff, ↓reduceIte, reduceCtorEq]; first | done | rfl) ?_); (repeat (first | refine nvB ?_ | refine goA (wr := false) (by simp only [kB, kG, k231, Nat.reduceAdd, Nat.reduceLT, Nat.reduceEqDiff, ↓reduceIte, reduceCtorEq]; first | done | rfl) ?_)); exact h9.out) : G := h ⟨g⟩
set_option maxRecDepth 100000 in
set_option maxHeartbeats 8000000 in
theorem covers_ac (b h : Pat) (n : Nat) (hb : PB 1000000 b) (hh : PB 1000000 h) (hn : n ≤ 1000000) : AC Tryz.prog 231 [aPat b, aPat h, I .i64 0, I .i64 n] [] (fun x st => x = B (coversB b h n) ∧ st = []) := by
  have h1 := counts_ac h n hh.1
  have hpt := fun i => partN_ac b i hb.1
  have hR : coversB b h n = (countsB h n && (List.range (min n h.parts.length)).all fun i => insideB (partN b i) (h.parts.getD i noS)) := rfl
  have hps : ∀ i, (partN b i).size ≤ 1000000 := by
    intro i
    unfold partN
    split
    · exact hb.get i
    · show 1 ≤ 1000000; omega
  generalize coversB b h n = R at hR
  generalize countsB h n = cb at h1 hR
  generalize partN b = pn at hpt hR hps
  obtain ⟨qs, rq⟩ := h
  obtain ⟨ps, rp⟩ := b
  have hq1 := hh.1
  simp only at hR hq1
  refine AC_enter Tryz.func231 rfl rfl (by simp only [Tryz.ntmps231, List.length]; omega) ?_
  intro x hx
  simp only [List.range, List.range.loop, List.length, List.zip, List.zipWith, Nat.reduceAdd, Tryz.ntmps231]
  (repeat (first | refine v231X11 ?_ | (refine caA [] (h1) ?_; rintro r st' ⟨rfl, rfl⟩; refine frA ?_)))
  refine ifA ?_ ?_
  · intro hc
    have e : cb = false := by simpa using hc
    rw [e, Bool.false_and] at hR
    try refine v231X11 ?_
    refine rtA (by simp only [kR, Tryz.results231, ↓reduceIte, Nat.reduceEqDiff, reduceCtorEq]; first | done | rfl) ([]) ?_
    refine ⟨?_, rfl⟩
    rw [hR]
  intro hc
  have e : cb = true := by simpa using hc
  rw [e, Bool.true_and] at hR
  try refine v231X11 ?_
  refine T_loop (ι := Nat) (I := fun k => ⟨35, [(2, I .i64 k), (3, I .i64 n), (4, .c (.ptr 4 0)), (5, .c (.ptr 5 0))], [(4, .box ((encPat ⟨ps, rp⟩).map C.d)), (5, .box ((encPat ⟨qs, rq⟩).map C.d))]⟩)
    (Inv := fun k => k ≤ min n qs.length ∧ ((List.range k).all fun i => insideB (pn i) (qs.getD i noS)) = true) (μ := fun k => min n qs.length - k) 0 ⟨by omega, rfl⟩ ?_ ?_
  · exact enA
  rintro k ⟨hk, hall⟩
  try refine v231X11 ?_
  refine ifA ?_ ?_
  · intro hlt
    have hlt' : k < n ∧ k < qs.length := by
      by_cases e : k < n
      · have e' : decide ((k : Int) < n) = true := decide_eq_true (by omega)
        rw [e'] at hlt
        exact ⟨e, by have := of_decide_eq_true hlt; omega⟩
      · have e' : decide ((k : Int) < n) = false := decide_eq_false (by omega)
        rw [e'] at hlt; cases hlt
    obtain ⟨u, hu, he, _⟩ := round encS qs k noS hlt'.2
    have eu := getD_sm (z := noS) hu
    have hus : u.size ≤ 1000000 := hh.2 u (List.mem_of_getElem? hu)
    refine nvA ?_
    refine drA (wr := false) ([(27, Str (pn k)), (33, B (insideB (pn k) u))] : List (Nat × AV)) (by simp only [kD, kB, kG, k231, Nat.reduceAdd, Nat.reduceLT, Nat.reduceEqDiff, ↓reduceIte, reduceCtorEq, he]; first | done | rfl) ?_ ?_
    · simp only [All, List.cons_append, List.nil_append, InR, List.mem_cons, List.not_mem_nil, or_false, forall_eq_or_imp, forall_eq, clAV, clCs, clC, clCaps, clCap, and_true, true_and, implies_true, List.length_map, List.length_cons, List.length_nil, dArr, cl_arr, tyCs]
      repeat' (first | exact trivial | exact hpt k (by omega) | exact inside_ac (pn k) u (hps k) hus | refine And.intro ?_ ?_ | intro _ | assumption | rfl | omega | (rw [Bool.not_eq_true']; assumption) | (simp; done) | (simp only [decide_eq_true_eq] at *; omega) | (simp_all; done))
    refine nvA ?_
    refine ifA ?_ ?_
    · intro hb
      have hb' : insideB (pn k) u = false := by simpa using hb
      have hR2 : R = false := by
        rw [hR]
        cases e : (List.range (min n qs.length)).all fun i => insideB (pn i) (qs.getD i noS)
        · rfl
        · have := range_all _ k _ (by omega) e
          rw [eu, hb'] at this; cases this
      try refine v231X11 ?_
      refine rtA (by simp only [kR, Tryz.results231, ↓reduceIte, Nat.reduceEqDiff, reduceCtorEq]; first | done | rfl) ([]) ?_
      refine ⟨?_, rfl⟩
      rw [hR2]
    · intro hb
      have hb' : insideB (pn k) u = true := by simpa using hb
      try refine v231X11 ?_
      refine ⟨k + 1, ⟨by omega, ?_⟩, by omega, ?_⟩
      · rw [List.range_succ, List.all_append, hall]; simp only [List.all_cons, List.all_nil, eu, hb']; rfl
      · exact enA
  intro hge
  have hk' : k = min n qs.length := by
    by_cases e : k < n
    · have e' : decide ((k : Int) < n) = true := decide_eq_true (by omega)
      rw [e'] at hge
      have := of_decide_eq_false hge
      omega
    · omega
  rw [← hk', hall] at hR
  try refine v231X11 ?_
  refine rtA (by simp only [kR, Tryz.results231, ↓reduceIte, Nat.reduceEqDiff, reduceCtorEq]; first | done | rfl) ([]) ?_
  refine ⟨?_, rfl⟩
  rw [hR]
def k185 := And.intro @Tryz.ntmps185 <| And.intro @Tryz.underlying80 <| And.intro @bld151 <| And.intro @bld79 <| And.intro @elt80 <| And.intro @fld151_0 <| And.intro @fld151_1 <| And.intro @ti151 <| And.intro @ti79 <| @ti80
theorem v185X11 {G G' : Prop} (g : G') (h : Hid G' → G := by intro h9; (first | refine nvB ?_ | refine goA (wr := false) (by simp only [kB, k185, Nat.reduceAdd, Nat.reduceLT, Nat.reduceEqDiff, ↓reduceIte, reduceCtorEq]; first | done | rfl) ?_); (repeat (first | refine nvB ?_ | refine goA (wr := false) (by simp only [kB, k185, Nat.reduceAdd, Nat.reduceLT, Nat.reduceEqDiff, ↓reduceIte, reduceCtorEq]; first | done | rfl) ?_)); exact h9.out) : G := h ⟨g⟩
set_option maxRecDepth 100000 in
set_option maxHeartbeats 8000000 in
theorem full_ac (g : Rgn) (n : Nat) (hb : PB 1000000 g.base) (hl : g.holes.length ≤ 1000000) (hh : ∀ h ∈ g.holes, PB 1000000 h) (hn : n ≤ 1000000) : AC Tryz.prog 185 [aRgn g, I .i64 n] [] (fun x st => x = B (fullB g n) ∧ st = []) := by
  have hR : fullB g n = g.holes.any fun h => coversB g.base h n := rfl
  have hcv := fun h hh => covers_ac g.base h n hb hh hn
  generalize fullB g n = R at hR
  obtain ⟨b, hs⟩ := g
  simp only at hR hl hh hcv
  generalize coversB b = cv at hcv hR
  obtain ⟨ps, rp⟩ := b
  refine AC_enter Tryz.func185 rfl rfl (by simp only [Tryz.ntmps185, List.length]; omega) ?_
  intro x hx
  simp only [List.range, List.range.loop, List.length, List.zip, List.zipWith, Nat.reduceAdd, Tryz.ntmps185]
  try refine v185X11 ?_
  refine T_loop (ι := Nat) (I := fun k => ⟨20, [(1, I .i64 n), (2, .c (.ptr 2 0)), (8, aPats hs), (9, I .i64 hs.length), (10, I .i64 k)], [(2, .box ((encRgn ⟨⟨ps, rp⟩, hs⟩).map C.d))]⟩)
    (Inv := fun k => k ≤ hs.length ∧ ((hs.take k).any fun h => cv h n) = false) (μ := fun k => hs.length - k) 0 ⟨by omega, rfl⟩ ?_ ?_
  · exact enA
  rintro k ⟨hk, hall⟩
  try refine v185X11 ?_
  refine ifA ?_ ?_
  · intro hlt
    have hlt' : k < hs.length := by simpa using hlt
    obtain ⟨v, hv, he, htk⟩ := round encPat hs k zPat hlt'
    have hm := hcv v (hh v (List.mem_of_getElem? hv))
    generalize hvb : cv v n = vb at hm
    (repeat (first | refine nvB ?_ | refine goA (wr := false) (by simp only [kB, k185, Nat.reduceAdd, Nat.reduceLT, Nat.reduceEqDiff, ↓reduceIte, reduceCtorEq, he]; first | done | rfl) ?_ | (refine caA [] (hm) ?_; rintro r st' ⟨rfl, rfl⟩; refine frA ?_)))
    refine ifA ?_ ?_
    · intro hb
      have hn2 : (hs.any fun h => cv h n) = true := List.any_eq_true.2 ⟨v, List.mem_of_getElem? hv, by rw [hvb]; exact hb⟩
      rw [hn2] at hR
      try refine v185X11 ?_
      refine rtA (by simp only [kR, Tryz.results185, ↓reduceIte, Nat.reduceEqDiff, reduceCtorEq]; first | done | rfl) ([]) ?_
      refine ⟨?_, rfl⟩
      rw [hR]
    · intro hb
      try refine v185X11 ?_
      refine ⟨k + 1, ⟨by omega, by rw [htk, List.any_append, hall]; simp [hvb, hb]⟩, by omega, ?_⟩
      exact enA
  intro hge
  have hk' : k = hs.length := by have : ¬ k < hs.length := by simpa using hge
                                 omega
  rw [hk', List.take_length] at hall
  rw [hall] at hR
  try refine v185X11 ?_
  refine rtA (by simp only [kR, Tryz.results185, ↓reduceIte, Nat.reduceEqDiff, reduceCtorEq]; first | done | rfl) ([]) ?_
  refine ⟨?_, rfl⟩
  rw [hR]
end Go.Proofs.YtmhboloicpieeaaGreatDoor
namespace Go.Proofs.YtmhboloicpieeaaGreatDoor
open Go.Ab Tys
variable [DrF]
theorem maxH_append : ∀ (l : List Pat) (h : Pat) (m : Nat), maxH (l ++ [h]) m = max (maxH l m) h.parts.length
  | [], _, _ => rfl
  | a :: l, h, m => maxH_append l h _
theorem maxH_ge : ∀ (l : List Pat) (m : Nat), m ≤ maxH l m
  | [], _ => Nat.le_refl _
  | a :: l, m => Nat.le_trans (Nat.le_max_left _ _) (maxH_ge l _)
theorem maxH_le {n : Nat} : ∀ (l : List Pat) (m : Nat), m ≤ n → (∀ h ∈ l, h.parts.length ≤ n) → maxH l m ≤ n
  | [], _, h, _ => h
  | a :: l, m, h, hl => maxH_le l _ (Nat.max_le.2 ⟨h, hl a (by simp)⟩) fun b hb => hl b (by simp [hb])
theorem find_range {p : Nat → Bool} {M j : Nat} (hj : j < M) (hp : p j = true) (hn : ∀ i, i < j → p i = false) : (List.range M).find? p = some j := by
  rw [List.find?_eq_some_iff_append]
  refine ⟨hp, (List.range M).take j, (List.range M).drop (j + 1), ?_, ?_⟩
  · have h1 := List.take_append_drop j (List.range M)
    rw [List.drop_eq_getElem?_toList_append, List.getElem?_range hj] at h1
    exact h1.symm
  · intro a ha
    rw [List.take_range] at ha
    have := List.mem_range.1 ha
    rw [hn a (by omega)]; rfl
def k130 := And.intro @Tryz.ntmps130 <| And.intro @Tryz.underlying77 <| And.intro @Tryz.underlying80 <| And.intro @bld151 <| And.intro @bld79 <| And.intro @elt77 <| And.intro @elt80 <| And.intro @fld151_0 <| And.intro @fld151_1 <| And.intro @fld79_0 <| And.intro @fld79_1 <| And.intro @ti151 <| And.intro @ti4 <| And.intro @ti77 <| And.intro @ti79 <| And.intro @ti80 <| @ti9
theorem v130X12 {G G' : Prop} (g : G') (h : Hid G' → G := by intro h9; (first | refine nvB ?_ | refine goA (wr := false) (by simp only [kB, k130, Nat.reduceAdd, Nat.reduceLT, Nat.reduceEqDiff, ↓reduceIte, reduceCtorEq]; first | done | rfl) ?_); (repeat (first | refine nvB ?_ | refine goA (wr := false) (by simp only [kB, k130, Nat.reduceAdd, Nat.reduceLT, Nat.reduceEqDiff, ↓reduceIte, reduceCtorEq]; first | done | rfl) ?_)); exact h9.out) : G := h ⟨g⟩
set_option maxRecDepth 100000 in
set_option maxHeartbeats 8000000 in
theorem len5_ac (g : Rgn) (hb : PB 100000 g.base) (hl : g.holes.length ≤ 100000) (hh : ∀ h ∈ g.holes, PB 100000 h) : AC Tryz.prog 130 [aRgn g] [] (fun x st => x = I .i64 (lenN g) ∧ st = []) := by
  have hf := fun n hn => full_ac g n (hb.mono (by omega)) (by omega) (fun h hx => (hh h hx).mono (by omega)) hn
  have hR : lenN g = if g.base.rest then (match (List.range (maxH g.holes g.base.parts.length + 1 - g.base.parts.length)).find? (fun j => !fullB g (g.base.parts.length + 1 + j)) with | some j => g.base.parts.length + 1 + j | none => 0)
    else if fullB g g.base.parts.length then 0 else g.base.parts.length := rfl
  generalize lenN g = R at hR
  generalize fullB g = fB at hf hR
  obtain ⟨b, hs⟩ := g
  have hb1 := hb.1
  simp only at hR hl hh hf hb1
  obtain ⟨ps, rp⟩ := b
  simp only at hR hb1
  refine AC_enter Tryz.func130 rfl rfl (by simp only [Tryz.ntmps130, List.length]; omega) ?_
  intro x hx
  simp only [List.range, List.range.loop, List.length, List.zip, List.zipWith, Nat.reduceAdd, Tryz.ntmps130]
  try refine v130X12 ?_
  refine ifA ?_ ?_
  · intro h
    have e : rp = false := by simpa using h
    rw [e, if_neg (by simp)] at hR
    have hf := hf ps.length (by omega)
    generalize fB ps.length = f at hf hR
    (repeat (first | refine v130X12 ?_ | (refine caA [] (hf) ?_; rintro r st' ⟨rfl, rfl⟩; refine frA ?_)))
    refine ifA ?_ ?_
    · intro h
      rw [if_pos h] at hR
      try refine v130X12 ?_
      refine rtA (by simp only [kR, Tryz.results130, ↓reduceIte, Nat.reduceEqDiff, reduceCtorEq]; first | done | rfl) ([]) ?_
      refine ⟨?_, rfl⟩
      rw [hR]; rfl
    · intro h
      rw [if_neg (by simp [h])] at hR
      try refine v130X12 ?_
      refine rtA (by simp only [kR, Tryz.results130, ↓reduceIte, Nat.reduceEqDiff, reduceCtorEq]; first | done | rfl) ([]) ?_
      refine ⟨?_, rfl⟩
      rw [hR]
  intro h
  have e : rp = true := by simpa using h
  rw [e, if_pos rfl] at hR
  try refine v130X12 ?_
  refine T_loop (ι := Nat) (I := fun k => ⟨54, [(1, .c (.ptr 1 0)), (3, I .i64 (maxH (hs.take k) ps.length)), (26, aPats hs), (27, I .i64 hs.length), (28, I .i64 k)], [(1, .box ((encRgn ⟨⟨ps, rp⟩, hs⟩).map C.d))]⟩)
    (Inv := fun k => k ≤ hs.length) (μ := fun k => hs.length - k) 0 (by omega) ?_ ?_
  · (refine Ent_sub (fun i => i) rfl ?_ ⟨?_, ?_, ?_, keepI hx (by simp [domOf, Ab.get])⟩ <;> first | (simp only [kE, dArr, ↓reduceIte, Nat.reduceEqDiff, reduceCtorEq, maxH]; done) | simp [renAV_id, renAO_id, flat_up, Ab.get, clAV, clC, clCs, clAO, cl_f1, cl_s1, cl_f2, cl_s2, cl_a1, domOf, List.flatten, maxH])
  intro k hk
  try refine v130X12 ?_
  refine ifA ?_ ?_
  · intro hlt
    have hlt' : k < hs.length := by simpa using hlt
    obtain ⟨v, hv, he, htk⟩ := round encPat hs k zPat hlt'
    have hm : maxH (hs.take (k + 1)) ps.length = max (maxH (hs.take k) ps.length) v.parts.length := by rw [htk, maxH_append]
    have hmi : ((max (maxH (hs.take k) ps.length) v.parts.length : Nat) : Int) = max ((maxH (hs.take k) ps.length : Nat) : Int) (v.parts.length : Int) := by omega
    (repeat (first | refine nvB ?_ | refine goA (wr := false) (by simp only [kB, k130, Nat.reduceAdd, Nat.reduceLT, Nat.reduceEqDiff, ↓reduceIte, reduceCtorEq, he]; first | done | rfl) ?_))
    refine ⟨k + 1, by omega, by omega, ?_⟩
    rw [hm, hmi]
    exact enA
  intro hge
  have hk' : k = hs.length := by have : ¬ k < hs.length := by simpa using hge
                                 omega
  rw [hk', List.take_length]
  have hmx := maxH_le hs ps.length hb1 fun h hx => (hh h hx).1
  have hmg := maxH_ge hs ps.length
  generalize maxH hs ps.length = mx at hmx hmg hR
  try refine v130X12 ?_
  refine T_loop (ι := Nat) (I := fun j => ⟨54, [(1, .c (.ptr 1 0)), (3, I .i64 mx), (6, I .i64 ((ps.length + 1 + j : Nat) : Int))], [(1, .box ((encRgn ⟨⟨ps, rp⟩, hs⟩).map C.d))]⟩)
    (Inv := fun j => j ≤ mx + 1 - ps.length ∧ ∀ i, i < j → fB (ps.length + 1 + i) = true) (μ := fun j => mx + 1 - ps.length - j) 0 ⟨by omega, by omega⟩ ?_ ?_
  · exact enA
  rintro j ⟨hj, hall⟩
  try refine v130X12 ?_
  refine ifA ?_ ?_
  · intro hle
    have hle' : ps.length + 1 + j ≤ mx + 1 := by have := of_decide_eq_true hle; omega
    have hf := hf (ps.length + 1 + j) (by omega)
    generalize hfb : fB (ps.length + 1 + j) = f at hf
    (repeat (first | refine v130X12 ?_ | (refine caA [] (hf) ?_; rintro r st' ⟨rfl, rfl⟩; refine frA ?_)))
    refine ifA ?_ ?_
    · intro hb
      have hb' : f = false := by simpa using hb
      rw [find_range (M := mx + 1 - ps.length) (j := j) (by omega) (by rw [hfb, hb']; rfl) (fun i hi => by rw [hall i hi]; rfl)] at hR
      try refine v130X12 ?_
      refine rtA (by simp only [kR, Tryz.results130, ↓reduceIte, Nat.reduceEqDiff, reduceCtorEq]; first | done | rfl) ([]) ?_
      refine ⟨?_, rfl⟩
      rw [hR]
    · intro hb
      have hb' : f = true := by simpa using hb
      try refine v130X12 ?_
      refine ⟨j + 1, ⟨by omega, ?_⟩, by omega, ?_⟩
      · intro i hi
        rcases Nat.lt_succ_iff_lt_or_eq.1 hi with hi | rfl
        · exact hall i hi
        · rw [hfb, hb']
      · have hcast : ((ps.length + 1 + (j + 1) : Nat) : Int) = ((ps.length + 1 + j : Nat) : Int) + 1 := by omega
        rw [hcast]
        exact enA
  intro hgt
  have hgt' : ¬ ps.length + 1 + j ≤ mx + 1 := by have := of_decide_eq_false hgt; omega
  have hj' : j = mx + 1 - ps.length := by omega
  have hno : (List.range (mx + 1 - ps.length)).find? (fun j => !fB (ps.length + 1 + j)) = none := by
    rw [List.find?_eq_none]
    intro i hi
    have := List.mem_range.1 hi
    rw [hall i (by omega)]; simp
  rw [hno] at hR
  try refine v130X12 ?_
  refine rtA (by simp only [kR, Tryz.results130, ↓reduceIte, Nat.reduceEqDiff, reduceCtorEq]; first | done | rfl) ([]) ?_
  refine ⟨?_, rfl⟩
  rw [hR]; rfl
end Go.Proofs.YtmhboloicpieeaaGreatDoor
namespace Go.Proofs.YtmhboloicpieeaaGreatDoor
open Go.Ab Tys
variable [Dr]
theorem byteAt_eq {p q : ByteArray} {k : Nat} {x y : UInt8} (hx : p.data.toList[k]? = some x) (hy : q.data.toList[k]? = some y) : (byteAt p k = byteAt q k ↔ x = y) ∧ (byteAt p k < byteAt q k ↔ x < y) := by
  have hk : k < p.size := by have := (List.getElem?_eq_some_iff.1 hx).1; simpa using this
  have hk2 : k < q.size := by have := (List.getElem?_eq_some_iff.1 hy).1; simpa using this
  obtain ⟨x', h1, h2⟩ := byteAt_get hk
  obtain ⟨y', h3, h4⟩ := byteAt_get hk2
  rw [hx] at h1; cases h1
  rw [hy] at h3; cases h3
  rw [h2, h4, UInt8.lt_iff_toNat_lt]
  constructor
  · constructor
    · intro h; exact UInt8.toNat_inj.1 (by omega)
    · rintro rfl; rfl
  · omega
theorem drop_get {l : List UInt8} {k : Nat} {x : UInt8} (h : l[k]? = some x) : l.drop k = x :: l.drop (k + 1) := by
  rw [List.drop_eq_getElem?_toList_append, h]; rfl
def k85 := And.intro @Tryz.ntmps85 <| And.intro @Tryz.underlying9 <| @ti9
theorem v85U3 {G G' : Prop} (g : G') (h : Hid G' → G := by intro h9; (first | refine nvB ?_ | refine goA (wr := false) (by simp only [kB, kG, k85, Nat.reduceAdd, Nat.reduceLT, Nat.reduceEqDiff, ↓reduceIte, reduceCtorEq]; first | done | rfl) ?_); (repeat (first | refine nvB ?_ | refine goA (wr := false) (by simp only [kB, kG, k85, Nat.reduceAdd, Nat.reduceLT, Nat.reduceEqDiff, ↓reduceIte, reduceCtorEq]; first | done | rfl) ?_)); exact h9.out) : G := h ⟨g⟩
set_option maxRecDepth 100000 in
set_option maxHeartbeats 4000000 in
theorem pcompare_ac (a b : ByteArray) (ha : a.size ≤ 100000) (hb : b.size ≤ 100000) : AC Tryz.prog 85 [Str a, Str b] [] (fun r st => r = .tup [pI (if (path? a).isSome && (path? b).isSome then ord a b else 0), pI (if (path? a).isSome && (path? b).isSome then 0 else 20)] ∧ st = []) := by
  have hva := valid_ac a ha
  have hvb := valid_ac b hb
  refine AC_enter Tryz.func85 rfl rfl (by simp only [Tryz.ntmps85, List.length]; omega) ?_
  intro x hx
  simp only [List.range, List.range.loop, List.length, List.zip, List.zipWith, Nat.reduceAdd, Tryz.ntmps85]
  (repeat (first | refine v85U3 ?_ | (refine caA [] (hva) ?_; rintro r st' ⟨rfl, rfl⟩; refine frA ?_)))
  refine TO_stepO (wr := false) ([(12, B (path? b).isSome)] : List (Nat × AV)) rfl (by simp only [kD, kB, kG, k85, Nat.reduceAdd, Nat.reduceLT, Nat.reduceEqDiff, ↓reduceIte, reduceCtorEq]; first | done | rfl) ?_ ?_
  · simp only [All, List.cons_append, List.nil_append, InR, List.mem_cons, List.not_mem_nil, or_false, forall_eq_or_imp, forall_eq, clAV, clCs, clC, clCaps, clCap, and_true, true_and, implies_true, List.length_map, List.length_cons, List.length_nil, dArr, cl_arr, tyCs]
    repeat' (first | exact trivial | exact hvb | refine And.intro ?_ ?_ | intro _ | assumption | rfl | omega | (simp; done) | (simp_all; done))
  simp only [kP, Nat.reduceEqDiff, ↓reduceIte, reduceCtorEq]
  try refine v85U3 ?_
  refine ifA ?_ ?_
  · intro h
    have h' : ((path? a).isSome && (path? b).isSome) = false := by
      cases e1 : (path? a).isSome <;> cases e2 : (path? b).isSome <;> simp_all
    try refine v85U3 ?_
    refine rtA (by simp only [kR, Tryz.results85, ↓reduceIte, Nat.reduceEqDiff, reduceCtorEq]; first | done | rfl) ([]) ?_
    refine ⟨?_, rfl⟩
    simp [h']
  intro h
  obtain ⟨e1, e2⟩ : (path? a).isSome = true ∧ (path? b).isSome = true := by
    cases e1 : (path? a).isSome <;> cases e2 : (path? b).isSome <;> simp_all
  simp only [e1, e2, Bool.and_self, if_true]
  rw [← cmpP_ord e1 e2]
  try refine v85U3 ?_
  refine T_loop (ι := Nat) (I := fun k => ⟨54, [(0, Str a), (1, Str b), (19, I .i64 (min (a.size : Int) b.size)), (20, I .i64 k)], []⟩)
    (Inv := fun k => k ≤ a.size ∧ k ≤ b.size ∧ cmpP a.data.toList b.data.toList = cmpP (a.data.toList.drop k) (b.data.toList.drop k)) (μ := fun k => a.size - k) 0 ⟨by omega, by omega, rfl⟩ ?_ ?_
  · exact enA
  rintro k ⟨k1, k2, k3⟩
  rw [k3]
  have sa : a.data.toList.length = a.size := by simp
  have sb : b.data.toList.length = b.size := by simp
  try refine v85U3 ?_
  refine ifA ?_ ?_
  · intro hlt
    have hlt' : k < a.size ∧ k < b.size := by
      have : (k : Int) < min (a.size : Int) b.size := by simpa using hlt
      omega
    obtain ⟨u, hu, bu⟩ := byteAt_get hlt'.1
    obtain ⟨v, hv, bv⟩ := byteAt_get hlt'.2
    obtain ⟨q1, q2⟩ := byteAt_eq hu hv
    have x47 := byteAt_47 hu
    have y47 := byteAt_47 hv
    rw [drop_get hu, drop_get hv]
    try refine v85U3 ?_
    refine drA (wr := false) ([] : List (Nat × AV)) (by simp only [kD, kB, kG, k85, Nat.reduceAdd, Nat.reduceLT, Nat.reduceEqDiff, ↓reduceIte, reduceCtorEq]; first | done | rfl) ?_ ?_
    · exact obN
    refine nvA ?_
    refine ifA ?_ ?_
    · intro he
      have he' : u = v := q1.1 (by simpa [byteAt] using he)
      try refine v85U3 ?_
      refine ⟨k + 1, ⟨by omega, by omega, ?_⟩, by omega, ?_⟩
      · subst he'; simp [cmpP]
      · exact enA
    intro he
    have he' : ¬ u = v := fun e => by have := q1.2 e; simp [byteAt] at this; simp [this] at he
    try refine v85U3 ?_
    refine ifA ?_ ?_
    · intro h47
      have : u = 47 := x47.1 (by simpa [byteAt] using h47)
      try refine v85U3 ?_
      refine rtA (by simp only [kR, Tryz.results85, ↓reduceIte, Nat.reduceEqDiff, reduceCtorEq]; first | done | rfl) ([]) ?_
      refine ⟨?_, rfl⟩
      rw [cmpP, if_neg he', if_pos this]
    intro h47
    have h47' : ¬ u = 47 := fun e => by have := x47.2 e; simp [byteAt] at this; simp [this] at h47
    try refine v85U3 ?_
    refine ifA ?_ ?_
    · intro g47
      have : v = 47 := y47.1 (by simpa [byteAt] using g47)
      try refine v85U3 ?_
      refine rtA (by simp only [kR, Tryz.results85, ↓reduceIte, Nat.reduceEqDiff, reduceCtorEq]; first | done | rfl) ([]) ?_
      refine ⟨?_, rfl⟩
      rw [cmpP, if_neg he', if_neg h47', if_pos this]
    intro g47
    have g47' : ¬ v = 47 := fun e => by have := y47.2 e; simp [byteAt] at this; simp [this] at g47
    refine nvA ?_
    refine drA (wr := false) ([(47, I .i64 (cmpI (byteAt a k) (byteAt b k)))] : List (Nat × AV)) (by simp only [kD, kB, kG, k85, Nat.reduceAdd, Nat.reduceLT, Nat.reduceEqDiff, ↓reduceIte, reduceCtorEq]; first | done | rfl) ?_ ?_
    · simp only [All, List.cons_append, List.nil_append, InR, List.mem_cons, List.not_mem_nil, or_false, forall_eq_or_imp, forall_eq, clAV, clCs, clC, clCaps, clCap, and_true, true_and, implies_true, List.length_map, List.length_cons, List.length_nil, dArr, cl_arr, tyCs]
      repeat' (first | exact trivial | exact cmpByte_ac _ _ | refine And.intro ?_ ?_ | intro _ | assumption | rfl | omega | (rw [Bool.not_eq_true']; assumption) | (simp; done) | (simp only [decide_eq_true_eq] at *; omega) | (simp_all; done))
    refine nvA ?_
    refine rtA (by simp only [kR, Tryz.results85, ↓reduceIte, Nat.reduceEqDiff, reduceCtorEq]; first | done | rfl) ([]) ?_
    refine ⟨?_, rfl⟩
    simp only [cmpP, he', h47', g47', if_false, cmpI]
    by_cases hl : u < v
    · simp [hl, q2.2 hl]
    · have hg : byteAt b k < byteAt a k := by
        have h1 : ¬ byteAt a k < byteAt b k := fun h => hl (q2.1 h)
        have h2 : ¬ byteAt a k = byteAt b k := fun h => he' (q1.1 h)
        omega
      have : ¬ byteAt a k < byteAt b k := fun h => hl (q2.1 h)
      simp [hl, this, hg]
  · intro hge
    have hge' : k = a.size ∨ k = b.size := by
      have : ¬ (k : Int) < min (a.size : Int) b.size := by simpa using hge
      omega
    (repeat (first | refine v85U3 ?_ | (refine caA [] (cmpInt_ac _ _) ?_; rintro r st' ⟨rfl, rfl⟩; refine frA ?_)))
    refine rtA (by simp only [kR, Tryz.results85, ↓reduceIte, Nat.reduceEqDiff, reduceCtorEq]; first | done | rfl) ([]) ?_
    refine ⟨?_, rfl⟩
    have e3 : ∀ l m : List UInt8, l = [] ∨ m = [] → cmpP l m = cmpI l.length m.length := by
      intro l m hlm
      cases l <;> cases m <;> simp [cmpP, cmpI] <;> first | omega | simp_all
    rw [e3 _ _ (by rcases hge' with h | h <;> simp [h])]
    have e4 : cmpI a.size b.size = cmpI ((a.size - k : Nat) : Int) ((b.size - k : Nat) : Int) := by
      simp only [cmpI]
      repeat' split
      all_goals first | rfl | omega
    rw [e4]
    simp only [List.length_drop, sa, sb]
end Go.Proofs.YtmhboloicpieeaaGreatDoor

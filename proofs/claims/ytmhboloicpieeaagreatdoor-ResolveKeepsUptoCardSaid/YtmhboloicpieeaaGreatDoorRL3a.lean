/- A part of the proof. -/
import Derived.Test.YtmhboloicpieeaaGreatDoorRPD
import Derived.Test.YtmhboloicpieeaaGreatDoorRX2
import Derived.Test.YtmhboloicpieeaaGreatDoorRU8
import Derived.Test.YtmhboloicpieeaaGreatDoorRAbCe
import Derived.Test.YtmhboloicpieeaaGreatDoorRP14
import Derived.Test.YtmhboloicpieeaaGreatDoorRU11
import Derived.Test.YtmhboloicpieeaaGreatDoorRT7
import Derived.Test.YtmhboloicpieeaaGreatDoorRH1
set_option linter.all false
namespace Go.Proofs.YtmhboloicpieeaaGreatDoor
open Go.Ab Tys
variable [Dr]
def k7 := And.intro @Tryz.ntmps7 <| And.intro @Tryz.underlying22 <| And.intro @Tryz.underlying28 <| And.intro @Tryz.underlying50 <| And.intro @Tryz.underlying9 <| And.intro @bld56 <| And.intro @bld62 <| And.intro @bld76 <| And.intro @elt22 <| And.intro @elt28 <| And.intro @elt50 <| And.intro @fld56_0 <| And.intro @fld56_5 <| And.intro @fld62_3 <| And.intro @fld62_4 <| And.intro @fld76_0 <| And.intro @fld76_3 <| And.intro @ti22 <| And.intro @ti28 <| And.intro @ti50 <| And.intro @ti56 <| And.intro @ti62 <| And.intro @ti76 <| @ti9
theorem v7H8 {G G' : Prop} (g : G') (h : Hid G' → G := by intro h9; (first | refine nvB ?_ | refine goA (wr := false) (by simp only [kB, kG, k7, Nat.reduceAdd, Nat.reduceLT, Nat.reduceEqDiff, ↓reduceIte, reduceCtorEq]; first | done | rfl) ?_); (repeat (first | refine nvB ?_ | refine goA (wr := false) (by simp only [kB, kG, k7, Nat.reduceAdd, Nat.reduceLT, Nat.reduceEqDiff, ↓reduceIte, reduceCtorEq]; first | done | rfl) ?_)); exact h9.out) : G := h ⟨g⟩
set_option maxRecDepth 100000 in
set_option maxHeartbeats 16000000 in
theorem small_ac (l : List Chg) (hf : Few l) :
    AC Tryz.prog 7 [.c (.d (.ps 5 (l.map encChg)))] [] (fun r st => (∃ b : Bool, r = B b ∧ (b = true → l.length ≤ 40 ∧ tot l ≤ 200 ∧ ∀ c ∈ l, sC c)) ∧ st = []) := by
  have hlen := hf.len
  have htot := hf.tot
  refine AC_enter Tryz.func7 rfl rfl (by simp only [Tryz.ntmps7, List.length]; omega) ?_
  intro x hx
  simp only [List.range, List.range.loop, List.length, List.zip, List.zipWith, Nat.reduceAdd, Tryz.ntmps7]
  try refine v7H8 ?_
  refine T_loop (ι := Nat) (I := fun k => ⟨65, [(0, .c (.d (.ps 5 (l.map encChg)))), (3, I .i64 (tot (l.take k))), (10, .c (.d (.ps 5 (l.map encChg)))), (11, I .i64 l.length), (12, I .i64 k)], []⟩)
    (Inv := fun k => k ≤ l.length ∧ ∀ c ∈ l.take k, sC c) (μ := fun k => l.length - k) 0 ⟨by omega, by simp⟩ ?_ ?_
  · (refine Ent_sub (fun i => i) rfl ?_ ⟨?_, ?_, ?_, keepI hx (by simp [domOf, Ab.get])⟩ <;> first | (simp only [kE, dArr, ↓reduceIte, Nat.reduceEqDiff, reduceCtorEq, tot]; done) | simp [renAV_id, renAO_id, flat_up, Ab.get, clAV, clC, clCs, clAO, cl_f1, cl_s1, cl_f2, cl_s2, cl_a1, domOf, List.flatten, tot])
  rintro k ⟨hk, hall⟩
  have htk0 := tot_take l k
  try refine v7H8 ?_
  refine ifA ?_ ?_
  · intro hlt
    have hlt' : k < l.length := by simpa using hlt
    obtain ⟨c, hc, he, htk⟩ := round encChg l k zChg hlt'
    have hm := List.mem_of_getElem? hc
    have htm := tot_mem hm
    have htk1 := tot_take l (k + 1)
    have e1 : tot (l.take (k + 1)) = tot (l.take k) + (c.edits.length + c.recs.length) := by rw [htk, tot_append]; simp [tot]
    have e2 : (((tot (l.take k) : Nat) : Int) + (((c.edits.length : Nat) : Int) + ((c.recs.length : Nat) : Int))) = ((tot (l.take (k + 1)) : Nat) : Int) := by rw [e1]; omega
    (repeat (first | refine nvB ?_ | refine goA (wr := false) (by simp only [kB, kG, k7, Nat.reduceAdd, Nat.reduceLT, Nat.reduceEqDiff, ↓reduceIte, reduceCtorEq, he, e2]; first | done | rfl) ?_))
    refine T_loop (ι := Nat) (I := fun j => ⟨65, [(0, .c (.d (.ps 5 (l.map encChg)))), (3, I .i64 (tot (l.take (k + 1)))), (5, .c (.ptr 5 0)), (10, .c (.d (.ps 5 (l.map encChg)))), (11, I .i64 l.length), (12, I .i64 k), (26, .c (.d (.ps 12 (c.edits.map encEdt)))), (27, I .i64 c.edits.length), (28, I .i64 j)], [(5, .box ((encChg c).map C.d))]⟩)
      (Inv := fun j => j ≤ c.edits.length ∧ ∀ e ∈ c.edits.take j, sE e) (μ := fun j => c.edits.length - j) 0 ⟨by omega, by simp⟩ ?_ ?_
    · exact enA
    rintro j ⟨hj, hej⟩
    try refine v7H8 ?_
    refine ifA ?_ ?_
    · intro hlt2
      have hlt2' : j < c.edits.length := by simpa using hlt2
      obtain ⟨y, hy, hey, hty⟩ := round encEdt c.edits j zEdt hlt2'
      have hys := hf.es c hm y (List.mem_of_getElem? hy)
      (repeat (first | refine nvB ?_ | refine goA (wr := false) (by simp only [kB, kG, k7, Nat.reduceAdd, Nat.reduceLT, Nat.reduceEqDiff, ↓reduceIte, reduceCtorEq, hey]; first | done | rfl) ?_))
      refine ifA ?_ ?_
      · intro _
        try refine v7H8 ?_
        refine rtA (by simp only [kR, Tryz.results7, ↓reduceIte, Nat.reduceEqDiff, reduceCtorEq]; first | done | rfl) ([]) ?_
        refine ⟨?_, rfl⟩
        exact ⟨_, rfl, fun h => by cases h⟩
      intro hb
      have hb' : sE y := by simp at hb; unfold sE; omega
      try refine v7H8 ?_
      refine ⟨j + 1, ⟨by omega, ?_⟩, by omega, ?_⟩
      · intro u hu
        rw [hty, List.mem_append] at hu
        rcases hu with hu | hu
        · exact hej u hu
        · simp at hu; rw [hu]; exact hb'
      · exact enA
    intro hge2
    have hge2' : j = c.edits.length := by have : ¬ j < c.edits.length := by simpa using hge2
                                          omega
    rw [hge2', List.take_length] at hej
    try refine v7H8 ?_
    refine T_loop (ι := Nat) (I := fun j => ⟨65, [(0, .c (.d (.ps 5 (l.map encChg)))), (3, I .i64 (tot (l.take (k + 1)))), (10, .c (.d (.ps 5 (l.map encChg)))), (11, I .i64 l.length), (12, I .i64 k), (42, .c (.d (.ps 6 (c.recs.map encRcd)))), (43, I .i64 c.recs.length), (44, I .i64 j)], []⟩)
      (Inv := fun j => j ≤ c.recs.length ∧ ∀ e ∈ c.recs.take j, sR e) (μ := fun j => c.recs.length - j) 0 ⟨by omega, by simp⟩ ?_ ?_
    · exact enA
    rintro j2 ⟨hj2, hrj⟩
    try refine v7H8 ?_
    refine ifA ?_ ?_
    · intro hlt2
      have hlt2' : j2 < c.recs.length := by simpa using hlt2
      obtain ⟨y, hy, hey, hty⟩ := round encRcd c.recs j2 zRcd hlt2'
      have hys := hf.rs c hm y (List.mem_of_getElem? hy)
      (repeat (first | refine nvB ?_ | refine goA (wr := false) (by simp only [kB, kG, k7, Nat.reduceAdd, Nat.reduceLT, Nat.reduceEqDiff, ↓reduceIte, reduceCtorEq, hey]; first | done | rfl) ?_))
      refine ifA ?_ ?_
      · intro _
        try refine v7H8 ?_
        refine rtA (by simp only [kR, Tryz.results7, ↓reduceIte, Nat.reduceEqDiff, reduceCtorEq]; first | done | rfl) ([]) ?_
        refine ⟨?_, rfl⟩
        exact ⟨_, rfl, fun h => by cases h⟩
      intro hb
      have hb' : sR y := by simp at hb; unfold sR; omega
      try refine v7H8 ?_
      refine ⟨j2 + 1, ⟨by omega, ?_⟩, by omega, ?_⟩
      · intro u hu
        rw [hty, List.mem_append] at hu
        rcases hu with hu | hu
        · exact hrj u hu
        · simp at hu; rw [hu]; exact hb'
      · exact enA
    intro hge3
    have hge3' : j2 = c.recs.length := by have : ¬ j2 < c.recs.length := by simpa using hge3
                                          omega
    rw [hge3', List.take_length] at hrj
    try refine v7H8 ?_
    refine ⟨k + 1, ⟨by omega, ?_⟩, by omega, ?_⟩
    · intro u hu
      rw [htk, List.mem_append] at hu
      rcases hu with hu | hu
      · exact hall u hu
      · simp at hu; rw [hu]; exact ⟨hej, hrj⟩
    · exact enA
  intro hge
  have hge' : k = l.length := by have : ¬ k < l.length := by simpa using hge
                                 omega
  rw [hge', List.take_length] at hall
  try refine v7H8 ?_
  refine rtA (by simp only [kR, Tryz.results7, ↓reduceIte, Nat.reduceEqDiff, reduceCtorEq]; first | done | rfl) ([]) ?_
  refine ⟨?_, rfl⟩
  refine ⟨_, rfl, fun h => ?_⟩
  rw [hge', List.take_length] at h
  simp at h
  exact ⟨by omega, by omega, hall⟩
end Go.Proofs.YtmhboloicpieeaaGreatDoor
namespace Go.Proofs.YtmhboloicpieeaaGreatDoor
open Go.Ab Tys
variable [Dr]
def k182 := And.intro @Tryz.ntmps182 <| And.intro @Tryz.underlying77 <| And.intro @bld79 <| And.intro @elt77 <| And.intro @fld79_0 <| And.intro @fld79_1 <| And.intro @ti4 <| And.intro @ti77 <| And.intro @ti79 <| @ti9
theorem v182X5 {G G' : Prop} (g : G') (h : Hid G' → G := by intro h9; (first | refine nvB ?_ | refine goA (wr := false) (by simp only [kB, kG, k182, Nat.reduceAdd, Nat.reduceLT, Nat.reduceEqDiff, ↓reduceIte, reduceCtorEq]; first | done | rfl) ?_); (repeat (first | refine nvB ?_ | refine goA (wr := false) (by simp only [kB, kG, k182, Nat.reduceAdd, Nat.reduceLT, Nat.reduceEqDiff, ↓reduceIte, reduceCtorEq]; first | done | rfl) ?_)); exact h9.out) : G := h ⟨g⟩
set_option maxRecDepth 100000 in
set_option maxHeartbeats 8000000 in
theorem within_ac3 (p q : Pat) (hp : PB 1000000 p) (hq : PB 1000000 q) : AC Tryz.prog 182 [aPat p, aPat q] [] (fun r st => r = B (withinB p q) ∧ st = []) := by
  have hcp := check3_ac p hp
  have hcq := check3_ac q hq
  have hW : withinB p q = (okP p && okP q && decide (q.parts.length ≤ p.parts.length) && (q.rest || (!p.rest && decide (p.parts.length ≤ q.parts.length))) && !(q.rest && decide (p.parts.length = q.parts.length) && !p.rest)
    && (List.range q.parts.length).all fun i => insideB (p.parts.getD i noS) (q.parts.getD i noS)) := rfl
  have hok : okP p = decide (checkP p = 0) := rfl
  have hokq : okP q = decide (checkP q = 0) := rfl
  obtain ⟨ps, rp⟩ := p
  obtain ⟨qs, rq⟩ := q
  have hp1 := hp.1
  have hq1 := hq.1
  simp only at hp1 hq1 hW
  generalize withinB ⟨ps, rp⟩ ⟨qs, rq⟩ = R at hW
  generalize checkP ⟨ps, rp⟩ = ep at hcp hok
  generalize checkP ⟨qs, rq⟩ = eq at hcq hokq
  refine AC_enter Tryz.func182 rfl rfl (by simp only [Tryz.ntmps182, List.length]; omega) ?_
  intro x hx
  simp only [List.range, List.range.loop, List.length, List.zip, List.zipWith, Nat.reduceAdd, Tryz.ntmps182]
  (repeat (first | refine v182X5 ?_ | (refine caA [] (hcp) ?_; rintro r st' ⟨rfl, rfl⟩; refine frA ?_)))
  refine TO_stepO (wr := false) ([(16, I .i64 eq)] : List (Nat × AV)) rfl (by simp only [kD, kB, kG, k182, Nat.reduceAdd, Nat.reduceLT, Nat.reduceEqDiff, ↓reduceIte, reduceCtorEq]; first | done | rfl) ?_ ?_
  · simp only [All, List.cons_append, List.nil_append, InR, List.mem_cons, List.not_mem_nil, or_false, forall_eq_or_imp, forall_eq, clAV, clCs, clC, clCaps, clCap, and_true, true_and, implies_true, List.length_map, List.length_cons, List.length_nil, dArr, cl_arr, tyCs]
    repeat' (first | exact trivial | exact hcq | refine And.intro ?_ ?_ | intro _ | assumption | rfl | omega | (simp; done) | (simp_all; done))
  simp only [kP, Nat.reduceEqDiff, ↓reduceIte, reduceCtorEq]
  try refine v182X5 ?_
  refine ifA ?_ ?_
  · intro h
    have hR : R = false := by
      rw [hW, hok, hokq]
      by_cases e1 : ep = 0
      · by_cases e2 : eq = 0
        · simp only [e1, e2, decide_true, Bool.not_true, cond_false] at h
          have : ¬ qs.length ≤ ps.length := by have := of_decide_eq_true h; omega
          simp [this]
        · simp [e2]
      · simp [e1]
    try refine v182X5 ?_
    refine rtA (by simp only [kR, Tryz.results182, ↓reduceIte, Nat.reduceEqDiff, reduceCtorEq]; first | done | rfl) ([]) ?_
    refine ⟨?_, rfl⟩
    rw [hR]
  intro h
  have h0 : ep = 0 ∧ eq = 0 ∧ qs.length ≤ ps.length := by
    by_cases e1 : ep = 0
    · by_cases e2 : eq = 0
      · simp only [e1, e2, decide_true, Bool.not_true, cond_false] at h
        exact ⟨e1, e2, by have := of_decide_eq_false h; omega⟩
      · simp [e1, e2] at h
    · simp [e1] at h
  obtain ⟨e1, e2, hle⟩ := h0
  simp only [hok, hokq, e1, e2, decide_true, decide_eq_true hle, Bool.true_and] at hW
  try refine v182X5 ?_
  have g1 : decide ((qs.length : Int) < ps.length) = !decide (ps.length ≤ qs.length) := by rw [← decide_not]; exact decide_eq_decide.2 (by omega)
  have g2 : decide ((ps.length : Int) = qs.length) = decide (ps.length = qs.length) := decide_eq_decide.2 (by omega)
  refine ifA ?_ ?_
  · intro h
    have hR : R = false := by
      rw [hW]
      rw [g1, g2] at h
      generalize decide (ps.length ≤ qs.length) = a at h
      generalize decide (ps.length = qs.length) = b at h
      cases rp <;> cases rq <;> cases a <;> cases b <;> first | rfl | (exact absurd h (by decide))
    try refine v182X5 ?_
    refine rtA (by simp only [kR, Tryz.results182, ↓reduceIte, Nat.reduceEqDiff, reduceCtorEq]; first | done | rfl) ([]) ?_
    refine ⟨?_, rfl⟩
    rw [hR]
  intro h
  have hR : R = (List.range qs.length).all fun i => insideB (ps.getD i noS) (qs.getD i noS) := by
    rw [hW]
    rw [g1, g2] at h
    generalize decide (ps.length ≤ qs.length) = a at h
    generalize decide (ps.length = qs.length) = b at h
    cases rp <;> cases rq <;> cases a <;> cases b <;> first | rfl | (exact absurd h (by decide))
  try refine v182X5 ?_
  refine T_loop (ι := Nat) (I := fun k => ⟨73, [(2, .c (.ptr 2 0)), (57, aStrs qs), (58, I .i64 qs.length), (59, I .i64 k)], [(2, .box ((encPat ⟨ps, rp⟩).map C.d))]⟩)
    (Inv := fun k => k ≤ qs.length ∧ ((List.range k).all fun i => insideB (ps.getD i noS) (qs.getD i noS)) = true) (μ := fun k => qs.length - k) 0 ⟨by omega, rfl⟩ ?_ ?_
  · exact enA
  rintro k ⟨hk, hall⟩
  try refine v182X5 ?_
  refine ifA ?_ ?_
  · intro hlt
    have hlt' : k < qs.length := by simpa using hlt
    obtain ⟨v, hv, he, _⟩ := round encS qs k noS hlt'
    obtain ⟨u, hu, he2, _⟩ := round encS ps k noS (by omega)
    have ev := getD_sm (z := noS) hv
    have eu := getD_sm (z := noS) hu
    have hvs : v.size ≤ 1000000 := hq.2 v (List.mem_of_getElem? hv)
    have hus : u.size ≤ 1000000 := hp.2 u (List.mem_of_getElem? hu)
    (repeat (first | refine nvB ?_ | refine goA (wr := false) (by simp only [kB, kG, k182, Nat.reduceAdd, Nat.reduceLT, Nat.reduceEqDiff, ↓reduceIte, reduceCtorEq, he, he2]; first | done | rfl) ?_ | (refine caA [] (inside_ac u v hus hvs) ?_; rintro r st' ⟨rfl, rfl⟩; refine frA ?_)))
    refine ifA ?_ ?_
    · intro hb
      have hb' : insideB u v = false := by simpa using hb
      have hR2 : R = false := by
        rw [hR]
        cases e : (List.range qs.length).all fun i => insideB (ps.getD i noS) (qs.getD i noS)
        · rfl
        · have := range_all _ k _ hlt' e
          simp only [ev, eu, hb'] at this
          cases this
      try refine v182X5 ?_
      refine rtA (by simp only [kR, Tryz.results182, ↓reduceIte, Nat.reduceEqDiff, reduceCtorEq]; first | done | rfl) ([]) ?_
      refine ⟨?_, rfl⟩
      rw [hR2]
    · intro hb
      have hb' : insideB u v = true := by simpa using hb
      try refine v182X5 ?_
      refine ⟨k + 1, ⟨by omega, ?_⟩, by omega, ?_⟩
      · rw [List.range_succ, List.all_append, hall]; simp only [List.all_cons, List.all_nil, ev, eu, hb']; rfl
      · exact enA
  intro hge
  have hk' : k = qs.length := by have : ¬ k < qs.length := by simpa using hge
                                 omega
  rw [hk'] at hall
  rw [hall] at hR
  try refine v182X5 ?_
  refine rtA (by simp only [kR, Tryz.results182, ↓reduceIte, Nat.reduceEqDiff, reduceCtorEq]; first | done | rfl) ([]) ?_
  refine ⟨?_, rfl⟩
  rw [hR]
end Go.Proofs.YtmhboloicpieeaaGreatDoor
namespace Go.Proofs.YtmhboloicpieeaaGreatDoor
open Go.Ab Tys
variable [Dr]
@[reducible] def pPats : Option (List Pat) → Bool × List C
  | none => (false, [.d (.v (.slice none 0 0))])
  | some l => (false, [.d (.ps 2 (l.map encPat))])
theorem bindT_len (p q : Pat) : ∀ k, (bindT p q k).length ≤ k
  | 0 => Nat.le_refl _
  | k + 1 => by
    have := bindT_len p q k
    simp only [bindT, List.length_append]
    split <;> simp <;> omega
theorem within_len {p q : Pat} (h : withinB q p = true) : p.parts.length ≤ q.parts.length := by
  simp only [withinB, Bool.and_eq_true, decide_eq_true_eq] at h
  exact h.1.1.1.2
theorem within_suf {p q : Pat} (h : withinB q p = true) {k : Nat} (hk : k < p.parts.length) (hs : starB (p.parts.getD k noS) = true) : (suf (p.parts.getD k noS)).size ≤ (q.parts.getD k noS).size := by
  simp only [withinB, Bool.and_eq_true] at h
  have h1 := range_all _ k _ hk h.2
  simp only [insideB, hs, if_true] at h1
  split at h1
  · have a := hasSuf_le h1
    have b := suf_le (q.parts.getD k noS)
    omega
  · simp only [capt, hs, if_true] at h1
    split at h1
    · rename_i h2; exact hasSuf_le h2
    · cases h1
def k179 := And.intro @Tryz.ntmps179 <| And.intro @Tryz.underlying257 <| And.intro @Tryz.underlying77 <| And.intro @Tryz.underlying9 <| And.intro @bld306 <| And.intro @bld79 <| And.intro @elt257 <| And.intro @elt77 <| And.intro @fld306_0 <| And.intro @fld306_1 <| And.intro @fld79_0 <| And.intro @fld79_1 <| And.intro @ti257 <| And.intro @ti306 <| And.intro @ti4 <| And.intro @ti77 <| And.intro @ti79 <| @ti9
theorem v179X7 {G G' : Prop} (g : G') (h : Hid G' → G := by intro h9; (first | refine nvB ?_ | refine goA (wr := false) (by simp only [kB, kS, k179, Nat.reduceAdd, Nat.reduceLT, Nat.reduceEqDiff, ↓reduceIte, reduceCtorEq]; first | done | rfl) ?_); (repeat (first | refine nvB ?_ | refine goA (wr := false) (by simp only [kB, kS, k179, Nat.reduceAdd, Nat.reduceLT, Nat.reduceEqDiff, ↓reduceIte, reduceCtorEq]; first | done | rfl) ?_)); exact h9.out) : G := h ⟨g⟩
set_option maxRecDepth 100000 in
set_option maxHeartbeats 8000000 in
theorem bind_ac (p q : Pat) (hp : PB 1000000 p) (hq : PB 1000000 q) : AC Tryz.prog 179 [aPat p, aPat q] [] (fun r st => r = .tup [pPats (bindP p q), pB (bindP p q).isSome] ∧ st = []) := by
  have hw := within_ac3 q p hq hp
  have hB : bindP p q = if withinB q p then some (bindT p q p.parts.length ++ (if p.rest then [⟨q.parts.drop p.parts.length, q.rest⟩] else [])) else none := rfl
  have hlen := within_len (p := p) (q := q)
  have hsf := @within_suf _ p q
  have hT : ∀ k, bindT p q (k + 1) = bindT p q k ++ (if starB (p.parts.getD k noS) then [⟨[(q.parts.getD k noS).extract 0 ((q.parts.getD k noS).size - (suf (p.parts.getD k noS)).size)], false⟩] else []) := fun _ => rfl
  have hT0 : bindT p q 0 = [] := rfl
  have hTl := bindT_len p q
  have hp1 := hp.1
  have hq1 := hq.1
  have hpg := hp.get
  have hqg := hq.get
  generalize bindT p q = bT at hB hT hT0 hTl
  generalize bindP p q = M at hB
  generalize withinB q p = wb at hw hB hlen hsf
  obtain ⟨ps, rp⟩ := p
  obtain ⟨qs, rq⟩ := q
  simp only at hB hT hlen hsf hp1 hq1 hpg hqg
  refine AC_enter Tryz.func179 rfl rfl (by simp only [Tryz.ntmps179, List.length]; omega) ?_
  intro x hx
  simp only [List.range, List.range.loop, List.length, List.zip, List.zipWith, Nat.reduceAdd, Tryz.ntmps179]
  (repeat (first | refine v179X7 ?_ | (refine caA [] (hw) ?_; rintro r st' ⟨rfl, rfl⟩; refine frA ?_)))
  refine ifA ?_ ?_
  · intro h
    have h' : wb = false := by simpa using h
    rw [h', if_neg (by simp)] at hB
    try refine v179X7 ?_
    refine rtA (by simp only [kR, Tryz.results179, ↓reduceIte, Nat.reduceEqDiff, reduceCtorEq]; first | done | rfl) ([]) ?_
    refine ⟨?_, rfl⟩
    rw [hB]; rfl
  intro h
  have h' : wb = true := by simpa using h
  rw [if_pos h'] at hB
  have hlen := hlen h'
  have hsf := @hsf h'
  refine nvA ?_
  refine goA (wr := false) (by simp only [kB, kS, k179, Nat.reduceAdd, Nat.reduceLT, Nat.reduceEqDiff, ↓reduceIte, reduceCtorEq]; first | done | rfl) ?_
  refine nvA ?_
  refine TO_ent (Ent_adopt (i := 6) (id := 100) (sz := 2) rfl rfl (by omega)) ?_
  refine fzA ?_
  try refine v179X7 ?_
  refine T_loop (ι := Nat) (I := fun k => ⟨65, [(2, .c (.ptr 2 0)), (3, .c (.ptr 3 0)), (6, .c (.ms 100 2 0 (bT k).length)), (17, aStrs ps), (18, I .i64 ps.length), (19, I .i64 k)],
      [(2, .box ((encPat ⟨ps, rp⟩).map C.d)), (3, .box ((encPat ⟨qs, rq⟩).map C.d)), (100, dArr 2 ((bT k).map encPat))]⟩)
    (Inv := fun k => k ≤ ps.length) (μ := fun k => ps.length - k) 0 (by omega) ?_ ?_
  · (refine Ent_sub (fun i => i) rfl ?_ ⟨?_, ?_, ?_, keepI hx (by simp [domOf, Ab.get])⟩ <;> first | (simp only [kE, dArr, ↓reduceIte, Nat.reduceEqDiff, reduceCtorEq, hT0]; done) | simp [renAV_id, renAO_id, flat_up, Ab.get, clAV, clC, clCs, clAO, cl_f1, cl_s1, cl_f2, cl_s2, cl_a1, domOf, List.flatten, hT0])
  intro k hk
  have hbl := hTl k
  try refine v179X7 ?_
  refine ifA ?_ ?_
  · intro hlt
    have hlt' : k < ps.length := by simpa using hlt
    obtain ⟨u, hu, he, _⟩ := round encS ps k noS hlt'
    obtain ⟨v, hv, he2, _⟩ := round encS qs k noS (by omega)
    have eu := getD_sm (z := noS) hu
    have ev := getD_sm (z := noS) hv
    have hus : u.size ≤ 1000000 := by rw [← eu]; exact hpg k
    have hvs : v.size ≤ 1000000 := by rw [← ev]; exact hqg k
    have hTk := hT k
    have hsk := @hsf k hlt'
    rw [eu, ev] at hTk hsk
    (repeat (first | refine nvB ?_ | refine goA (wr := false) (by simp only [kB, kS, k179, Nat.reduceAdd, Nat.reduceLT, Nat.reduceEqDiff, ↓reduceIte, reduceCtorEq, he]; first | done | rfl) ?_ | (refine caA [] (star_ac u hus) ?_; rintro r st' ⟨rfl, rfl⟩; refine frA ?_)))
    refine ifA ?_ ?_
    · intro hs
      have hs' : starB u = false := by simpa using hs
      rw [hs', if_neg (by simp), List.append_nil] at hTk
      try refine v179X7 ?_
      refine ⟨k + 1, by omega, by omega, ?_⟩
      rw [hTk]
      exact enA
    intro hs
    have hs' : starB u = true := by simpa using hs
    rw [hs', if_pos rfl] at hTk
    have hsk := hsk hs'
    have e9 : ((v.size : Int) - (suf u).size).toNat = v.size - (suf u).size := by omega
    refine nvA ?_
    refine goA (wr := false) (by simp only [kB, kS, k179, Nat.reduceAdd, Nat.reduceLT, Nat.reduceEqDiff, ↓reduceIte, reduceCtorEq, he2]; first | done | rfl) ?_
    refine nvA ?_
    refine TO_go (wr := false) 8 (by simp only [kB, kS, k179, Nat.reduceAdd, Nat.reduceLT, Nat.reduceEqDiff, ↓reduceIte, reduceCtorEq, e9]; first | done | rfl) ?_ ?_
    · exact obN
    refine TO_ent (Ent_frzSlot (i := 44) (id := 44) (sz := 1) (ys := [encS (v.extract 0 (v.size - (suf u).size))]) rfl rfl rfl) ?_
    refine fzA ?_
    try refine v179X7 ?_
    refine ⟨k + 1, by omega, by omega, ?_⟩
    rw [hTk]
    exact enR (fun i => if i = 100 then 47 else i)
  intro hge
  have hk' : k = ps.length := by have : ¬ k < ps.length := by simpa using hge
                                 omega
  subst hk'
  try refine v179X7 ?_
  refine ifA ?_ ?_
  · intro hr
    subst hr
    rw [if_pos rfl] at hB
    have o1 : (List.drop ps.length (List.map encS qs)).length * 16 ≤ 140737488355328 := by rw [List.length_drop, List.length_map]; omega
    have o2 : ∀ l ∈ List.map (fun l => List.map C.d l) (List.drop ps.length (List.map encS qs)), l.length = 1 := by
      intro l hl
      obtain ⟨y, hy, rfl⟩ := List.mem_map.1 hl
      obtain ⟨z, _, rfl⟩ := List.mem_map.1 (List.mem_of_mem_drop hy)
      rfl
    refine nvA ?_
    refine T_drawk (wr := false) 12 ([] : List (Nat × AV)) (by kernel_rfl) (by simp only [List.take_succ_cons, List.take_zero, kD, kB, kS, k179, Nat.reduceAdd, Nat.reduceLT, Nat.reduceEqDiff, ↓reduceIte, reduceCtorEq]; first | done | rfl) ?_ (by decide) (by kernel_rfl) (by kernel_rfl) ?_
    rotate_left
    simp only [List.drop_succ_cons, List.drop_zero]
    rotate_left
    · exact obG (o1) (o2)
    refine TO_ent (Ent_frzArrCell (bid := 62) (id := 58) (sz2 := 1) (j := 0) (ys := (qs.map encS).drop ps.length) (by decide) rfl rfl rfl rfl) ?_
    refine fzA ?_
    refine goA (wr := false) (by simp only [kB, kS, k179, Nat.reduceAdd, Nat.reduceLT, Nat.reduceEqDiff, ↓reduceIte, reduceCtorEq]; first | done | rfl) ?_
    refine nvA ?_
    refine TO_ent (Ent_frzSlot (i := 6) (id := 63) (sz := 2) (ys := (bT ps.length).map encPat ++ [[.ps 1 ((qs.map encS).drop ps.length), .v (.bool rq)]]) rfl (by simp [Ab.get]) (by simp)) ?_
    refine fzA ?_
    try refine v179X7 ?_
    refine rtA (by simp only [kR, Tryz.results179, ↓reduceIte, Nat.reduceEqDiff, reduceCtorEq]; first | done | rfl) ([]) ?_
    refine ⟨?_, rfl⟩
    rw [hB]; simp [pPats, pB, List.map_drop]
  · intro hr
    subst hr
    rw [if_neg (by simp), List.append_nil] at hB
    refine nvA ?_
    refine TO_ent (Ent_frzSlot (i := 6) (id := 100) (sz := 2) (ys := (bT ps.length).map encPat) rfl rfl (by simp)) ?_
    refine fzA ?_
    try refine v179X7 ?_
    refine rtA (by simp only [kR, Tryz.results179, ↓reduceIte, Nat.reduceEqDiff, reduceCtorEq]; first | done | rfl) ([]) ?_
    refine ⟨?_, rfl⟩
    rw [hB]; rfl
end Go.Proofs.YtmhboloicpieeaaGreatDoor
namespace Go.Proofs.YtmhboloicpieeaaGreatDoor
open Go.Ab
theorem okB_47 : okB 47 = false := by kernel_rfl
theorem comp_bytes {s : ByteArray} (h : comp s = true) : ∀ k, k < s.size → okB (byteAt s k) = true := by
  intro k hk
  simp only [comp, Bool.and_eq_true] at h
  exact range_all _ k (fun k => okB (byteAt s k)) hk h.2
theorem no47_of {s : ByteArray} (h : ∀ k, k < s.size → okB (byteAt s k) = true) : ∀ x ∈ s.data.toList, x ≠ 47 := by
  intro x hx e
  subst e
  obtain ⟨k, hk⟩ := List.getElem?_of_mem hx
  have hl := (List.getElem?_eq_some_iff.1 hk).1
  have hk2 : k < s.size := by simpa using hl
  have := h k hk2
  rw [(byteAt_47 hk).2 rfl, okB_47] at this
  cases this
theorem splitL_join : ∀ Ls : List (List UInt8), Ls ≠ [] → (∀ l ∈ Ls, ∀ x ∈ l, x ≠ 47) → splitL (Lib.join Ls [47]) = Ls
  | [], h, _ => absurd rfl h
  | [l], _, h => by rw [Lib.join_one, splitL_no (h l (by simp))]
  | l :: m :: r, _, h => by
    have e : Lib.join (l :: m :: r) [47] = l ++ 47 :: Lib.join (m :: r) [47] := by
      rw [Lib.join_cons, Lib.join_cons]
      simp [Lib.joinTail]
    rw [e, splitL_pre (h l (by simp)), splitL_join (m :: r) (by simp) fun l hl => h l (List.mem_cons_of_mem _ hl)]
theorem map_mkB (L : List ByteArray) : (L.map (·.data.toList)).map mkB = L := by
  rw [List.map_map]
  conv => rhs; rw [← List.map_id L]
  exact List.map_congr_left fun _ _ => rfl
theorem ext_append (a b : ByteArray) : (a ++ b).extract a.size (a ++ b).size = b := ByteArray.extract_append_eq_right rfl ByteArray.size_append
theorem pre_append (a b : ByteArray) : (a ++ b).extract 0 a.size = a := ByteArray.extract_append_eq_left rfl
theorem path_join {L : List ByteArray} (h2 : 2 ≤ L.length) (hc : L.all comp = true) : path? (dslash ++ joinB L slash) = some L := by
  have hd : dslash.size = 2 := rfl
  have hp : hasPrefix (dslash ++ joinB L slash) dslash = true := by
    have := pre_append dslash (joinB L slash)
    rw [hd] at this
    simp only [hasPrefix, hd, this, decide_true, Bool.and_true, decide_eq_true_eq]
    simp [ByteArray.size_append, hd]
  have he : (dslash ++ joinB L slash).extract 2 (dslash ++ joinB L slash).size = joinB L slash := ext_append dslash _
  have hs : split (joinB L slash) = L := by
    rw [split_L]
    have : (joinB L slash).data.toList = Lib.join (L.map (·.data.toList)) [47] := by simp [joinB, slash]
    rw [this, splitL_join _ (by intro h; rw [List.map_eq_nil_iff] at h; subst h; simp at h2) ?_, map_mkB]
    intro l hl x hx
    obtain ⟨s, hs, rfl⟩ := List.mem_map.1 hl
    exact no47_of (comp_bytes (List.all_eq_true.1 hc s hs)) x hx
  unfold path? parts?
  rw [if_pos hp, he, hs, if_pos hc]
  simp only
  rw [if_neg (by omega)]
theorem starB_bytes {x : ByteArray} (h : starB x = true) : 1 ≤ x.size ∧ ∀ k, 1 ≤ k → k < x.size → okB (byteAt x k) = true := by
  simp only [starB, Bool.and_eq_true, Bool.not_eq_true', Bool.or_eq_false_iff, decide_eq_false_iff_not] at h
  refine ⟨empty_size h.1.1, fun k h1 hk => ?_⟩
  have := range_all _ k (fun k => decide (k = 0) || okB (byteAt x k)) hk h.2
  simpa [show ¬ k = 0 by omega] using this
set_option maxRecDepth 100000 in
theorem byteAt_app1 {a b : ByteArray} {k : Nat} (h : k < a.size) : byteAt (a ++ b) k = byteAt a k := by
  have h1 : (a ++ b).data = a.data ++ b.data := ByteArray.data_append
  have h2 : k < a.data.size := h
  simp only [byteAt, h1, Array.getD_eq_getD_getElem?, Array.getElem?_append, if_pos h2]
set_option maxRecDepth 100000 in
theorem byteAt_app2 {a b : ByteArray} {k : Nat} (h : a.size ≤ k) : byteAt (a ++ b) k = byteAt b (k - a.size) := by
  have h1 : (a ++ b).data = a.data ++ b.data := ByteArray.data_append
  have h2 : ¬ k < a.data.size := by have : a.data.size = a.size := rfl; omega
  simp only [byteAt, h1, Array.getD_eq_getD_getElem?, Array.getElem?_append, if_neg h2]; rfl
set_option maxRecDepth 100000 in
theorem byteAt_ext {a : ByteArray} {i k : Nat} (h : i + k < a.size) : byteAt (a.extract i a.size) k = byteAt a (i + k) := by
  have h2 : i + k < a.data.size := h
  simp only [byteAt, ByteArray.data_extract, Array.getD_eq_getD_getElem?, Array.getElem?_extract]
  rw [if_pos (by have e : a.data.size = a.size := rfl; omega)]
theorem suf_size {x : ByteArray} (h : starB x = true) : (suf x).size = x.size - 1 := by
  simp only [suf, if_pos h, ByteArray.size_extract]; omega
theorem comp_pos {s : ByteArray} (h : comp s = true) : 1 ≤ s.size ∧ ¬ byteAt s 0 = 46 := by
  simp only [comp, Bool.and_eq_true, Bool.not_eq_true', Bool.or_eq_false_iff, decide_eq_false_iff_not] at h
  exact ⟨empty_size h.1.1, h.1.2⟩
theorem comp_mk {s : ByteArray} (h1 : 1 ≤ s.size) (h2 : ¬ byteAt s 0 = 46) (h3 : ∀ k, k < s.size → okB (byteAt s k) = true) : comp s = true := by
  simp only [comp, Bool.and_eq_true, Bool.not_eq_true', Bool.or_eq_false_iff, decide_eq_false_iff_not]
  refine ⟨⟨?_, h2⟩, ?_⟩
  · rintro rfl; simp [ByteArray.size] at h1
  · rw [List.all_eq_true]; intro k hk; exact h3 k (List.mem_range.1 hk)
theorem comp_app {c x : ByteArray} (hc : comp c = true) (hx : starB x = true) : comp (c ++ suf x) = true := by
  obtain ⟨c1, c2⟩ := comp_pos hc
  obtain ⟨x1, x2⟩ := starB_bytes hx
  refine comp_mk (by rw [ByteArray.size_append]; omega) (by rw [byteAt_app1 (by omega)]; exact c2) ?_
  intro k hk
  rw [ByteArray.size_append, suf_size hx] at hk
  by_cases h : k < c.size
  · rw [byteAt_app1 h]; exact comp_bytes hc k h
  · rw [byteAt_app2 (by omega), suf, if_pos hx, byteAt_ext (by omega)]
    exact x2 _ (by omega) (by omega)
theorem okP_iff {p : Pat} : okP p = true ↔ (1 ≤ p.parts.length ∧ (p.rest = false → 2 ≤ p.parts.length) ∧ comp (p.parts.getD 0 noS) = true ∧ (p.parts.drop 1).all partB = true ∧ p.parts.length ≤ 12) := by
  unfold okP checkP
  rw [decide_eq_true_eq]
  split
  · rename_i h
    constructor
    · intro h; omega
    · rintro ⟨h1, h2, h3, _⟩
      rcases h with h | ⟨h, h'⟩ | h
      · omega
      · have := h2 h'; omega
      · rw [h] at h3; cases h3
  · rename_i h
    simp only [not_or, not_and] at h
    split
    · rename_i ha
      split
      · constructor
        · intro h; omega
        · intro h; omega
      · refine ⟨fun _ => ⟨by omega, ?_, by simpa using h.2.2, ha, by omega⟩, fun _ => rfl⟩
        intro hr
        have := h.2.1
        by_cases h1 : p.parts.length = 1
        · exact absurd hr (this h1)
        · omega
    · rename_i ha
      constructor
      · intro h; omega
      · rintro ⟨_, _, _, h4, _⟩; exact absurd h4 ha
theorem fillT_len (ps cs : List ByteArray) : ∀ k, (fillT ps cs k).length = k
  | 0 => rfl
  | k + 1 => by simp [fillT, fillT_len ps cs k]
theorem okP_part {p : Pat} (h : okP p = true) {i : Nat} (hi : i < p.parts.length) (hs : starB (p.parts.getD i noS) = false) : comp (p.parts.getD i noS) = true := by
  obtain ⟨h1, _, h3, h4, _⟩ := okP_iff.1 h
  cases i with
  | zero => exact h3
  | succ i =>
    have hm : p.parts.getD (i + 1) noS ∈ p.parts.drop 1 := by
      rw [List.getD_eq_getElem?_getD, List.getElem?_eq_getElem hi, Option.getD_some, List.mem_iff_getElem]
      exact ⟨i, by simp; omega, by simp [Nat.add_comm]⟩
    have := List.all_eq_true.1 h4 _ hm
    rw [partB, hs] at this
    exact this
theorem fillT_all {p : Pat} (h : okP p = true) {cs : List ByteArray} : ∀ {k : Nat}, k ≤ p.parts.length → fillOK p.parts cs k = true → (fillT p.parts cs k).all comp = true
  | 0, _, _ => rfl
  | k + 1, hk, hf => by
    simp only [fillOK, List.range_succ, List.all_append, List.all_cons, List.all_nil, Bool.and_true, Bool.and_eq_true] at hf
    simp only [fillT, List.all_append, List.all_cons, List.all_nil, Bool.and_true, Bool.and_eq_true]
    refine ⟨fillT_all h (by omega) hf.1, ?_⟩
    cases hs : starB (p.parts.getD k noS) with
    | true =>
      have := hf.2
      rw [hs] at this
      exact comp_app (by simpa using this) hs
    | false => simpa using okP_part h (by omega) hs
theorem split_pos (s : ByteArray) : 1 ≤ (split s).length := by
  obtain ⟨h, t, e⟩ := splitL_cons s.data.toList
  rw [split_L, e]; simp
theorem fill_path {p : Pat} {cs : List ByteArray} (h : (fillP p cs).2 = 0) : (path? (fillP p cs).1).isSome = true := by
  unfold fillP at h ⊢
  by_cases h1 : okP p = true
  · rw [if_pos h1] at h ⊢
    split at h
    · rename_i h2
      rw [if_pos h2]
      split at h
      · rename_i h3
        rw [if_pos h3]
        have ha := fillT_all h1 (Nat.le_refl _) h3
        split at h
        · rename_i h4
          rw [if_pos h4]
          split at h
          · rename_i h5
            rw [if_pos h5]
            simp only
            rw [path_join (by rw [List.length_append, fillT_len]; have := (okP_iff.1 h1).1; have := split_pos (cs.getD (stars p.parts) noS); omega) (by rw [List.all_append, ha, h5]; rfl)]
            rfl
          · simp at h
        · rename_i h4
          rw [if_neg h4]
          simp only
          rw [path_join (by rw [fillT_len]; exact (okP_iff.1 h1).2.1 (by simpa using h4)) ha]
          rfl
      · simp at h
    · simp at h
  · rw [if_neg h1] at h
    simp only at h
    exact absurd (decide_eq_true h) h1
theorem fwd_path {r : Rul} {s : ByteArray} (h : (fwd r s).2 = true) : (path? (fwd r s).1).isSome = true := by
  unfold fwd at h ⊢
  split at h
  · rename_i h1
    rw [if_pos h1]
    cases hm : matchP r.left s with
    | none => rw [hm] at h; cases h
    | some l =>
      rw [hm] at h
      exact fill_path (of_decide_eq_true h)
  · cases h
theorem by_path {m : List Etr} {s : ByteArray} (h : (byE m s).2 = true) : (path? (byE m s).1).isSome = true := by
  unfold byE at h ⊢
  cases hf : m.find? (fun x => hasG x.lrg s) with
  | none => rw [hf] at h; cases h
  | some x => rw [hf] at h; exact fwd_path h
end Go.Proofs.YtmhboloicpieeaaGreatDoor
namespace Go.Proofs.YtmhboloicpieeaaGreatDoor
open Go.Ab
def FrmOK (d : Dep) : Prop := ∀ v ∈ d.revs, v.act = 4 → ¬ v.frm = v.path
theorem frmOK_app {d : Dep} {c : Chg} (h : FrmOK d) (hk : ChkOK d c) : FrmOK (appD d c) := by
  intro v hv ha
  simp only [appD, List.mem_append] at hv
  rcases hv with hv | hv
  · exact h v hv ha
  · obtain ⟨e, he, rfl⟩ := List.mem_map.1 hv
    obtain ⟨i, hi, e2⟩ := List.mem_iff_getElem.1 he
    have hE := hk.edit i hi
    rw [show c.edits.getD i zEdt = e by simp [List.getD, hi, e2]] at hE
    exact (hE.okFrm ha).2.2
theorem Built.frmOK {l : List Chg} {d : Dep} (h : Built l d) : FrmOK d := by
  induction h with
  | nil => intro r hr; simp [zDep] at hr
  | skip c h ih => exact ih
  | app h hc hk ih => exact frmOK_app ih hk
def PthOK (d : Dep) : Prop := ∀ v ∈ d.revs, (path? v.path).isSome = true ∧ v.path.size ≤ 100000
theorem Built.pths {l : List Chg} {d : Dep} (h : Built l d) : PthOK d := by
  induction h with
  | nil => intro r hr; simp [zDep] at hr
  | skip c h ih => exact ih
  | @app l d c h hc hk ih =>
    intro v hv
    simp only [appD, List.mem_append, List.mem_map] at hv
    rcases hv with hv | ⟨e, he, rfl⟩
    · exact ih v hv
    · obtain ⟨i, hi, rfl⟩ := List.mem_iff_getElem.1 he
      have h0 := (hk.edit i hi).okPath
      rw [show c.edits.getD i zEdt = c.edits[i] by simp [List.getD, hi]] at h0
      exact ⟨h0, hc.1 _ he⟩
def Ch (l : List Rev) : Prop := ∀ (i : Nat) (b r : Rev), l[i]? = some b → l[i + 1]? = some r → nextB b r = true
theorem ch_step {acc : List Rev} {r : Rev} (h : Ch acc) (h0 : acc ≠ []) : Ch (lnStep acc r) ∧ lnStep acc r ≠ [] := by
  unfold lnStep
  split
  · rename_i hn
    refine ⟨?_, by simp⟩
    intro i b r' hb hr
    have hl := (List.getElem?_eq_some_iff.1 hr).1
    simp only [List.length_append, List.length_cons, List.length_nil] at hl
    by_cases hi : i + 1 < acc.length
    · rw [List.getElem?_append_left (by omega)] at hb
      rw [List.getElem?_append_left hi] at hr
      exact h i b r' hb hr
    · have e : i + 1 = acc.length := by omega
      rw [List.getElem?_append_left (by omega)] at hb
      rw [List.getElem?_append_right (by omega), e, Nat.sub_self, List.getElem?_cons_zero, Option.some.injEq] at hr
      subst hr
      have : acc.getLast? = some b := by rw [List.getLast?_eq_getElem?, show acc.length - 1 = i by omega, hb]
      rw [this] at hn
      exact hn
  · exact ⟨h, h0⟩
theorem ch_fold : ∀ (l acc : List Rev), Ch acc → acc ≠ [] → Ch (l.foldl lnStep acc)
  | [], _, h, _ => h
  | r :: l, acc, h, h0 => ch_fold l _ (ch_step (r := r) h h0).1 (ch_step (r := r) h h0).2
theorem lnP_ch (d : Dep) (f : Fil) : Ch (lnP d f) := by
  unfold lnP
  split
  · split
    · refine ch_fold _ _ ?_ (by simp)
      intro i b r hb hr
      simp at hr
    · intro i b r hb; simp at hb
  · intro i b r hb; simp at hb
section
variable {d : Dep} (hg : Good d.revs) (hN : d.revs.length ≤ 512)
include hg hN
theorem line_next (hf : FrmOK d) {f : Fil} {i : Nat} {b r : Rev} (hb : (lnP d f)[i]? = some b) (hr : (lnP d f)[i + 1]? = some r) (hp : r.path = b.path) : r.num = b.num + 1 := by
  have hn := lnP_ch d f i b r hb hr
  obtain ⟨hm, _, _⟩ := (lnP_mem hg hN).1 (List.mem_of_getElem? hr)
  obtain ⟨k, hk⟩ := List.getElem?_of_mem hm
  obtain ⟨_, h1, hbf⟩ := (nextB_iff hg hN hk).1 hn
  unfold befF at hbf
  rw [if_neg h1] at hbf
  split at hbf
  · rename_i h4
    have e : r.frm = b.path := congrArg Fil.path hbf
    exact absurd (by rw [e, hp]) (hf r hm h4)
  · have e : r.num - 1 = b.num := congrArg Fil.num hbf
    omega
theorem line_run (hf : FrmOK d) {f : Fil} {i : Nat} {b : Rev} (hb : (lnP d f)[i]? = some b) : ∀ (n : Nat) (r : Rev), (lnP d f)[i + n]? = some r →
    (∀ (k : Nat) (u : Rev), k ≤ n → (lnP d f)[i + k]? = some u → u.path = b.path) → r.num = b.num + n
  | 0, r, hr, _ => by rw [Nat.add_zero] at hr; rw [hb] at hr; cases hr; omega
  | n + 1, r, hr, h => by
    have hl := (List.getElem?_eq_some_iff.1 hr).1
    have hu : (lnP d f)[i + n]? = some (lnP d f)[i + n] := List.getElem?_eq_getElem (by omega)
    have ih := line_run hf hb n _ hu fun k u hk => h k u (by omega)
    have := line_next hg hN hf hu (r := r) (by rw [show i + n + 1 = i + (n + 1) by omega]; exact hr) (by rw [h (n + 1) r (Nat.le_refl _) hr, h n _ (by omega) hu])
    rw [this, ih]; omega
theorem line_idn {f : Fil} {u : Rev} (h : u ∈ lnP d f) : idn d u.path u.num = some f :=
  (idn_line hg hN).2 (List.mem_map.2 ⟨u, h, rfl⟩)
theorem get_rev {u : Rev} (h : u ∈ d.revs) : get? d u.path u.num = some u := by
  obtain ⟨j, hj⟩ := List.getElem?_of_mem h
  exact (get?_iff hg).2 ⟨j, hj, rfl⟩
theorem line_head {f : Fil} {u : Rev} (h : (lnP d f)[0]? = some u) : fileOf u = f := by
  have hc : ∀ (l acc : List Rev) (v : Rev), acc[0]? = some v → (l.foldl lnStep acc)[0]? = some v := by
    intro l
    induction l with
    | nil => intro acc v h; exact h
    | cons r l ih =>
      intro acc v h
      refine ih _ v ?_
      unfold lnStep
      split
      · have := (List.getElem?_eq_some_iff.1 h).1
        rw [List.getElem?_append_left this]; exact h
      · exact h
  unfold lnP at h
  cases hgt : get? d f.path f.num with
  | none => rw [hgt] at h; simp at h
  | some v =>
    rw [hgt] at h
    simp only at h
    split at h
    · rw [hc _ [v] v rfl] at h
      cases h
      obtain ⟨j, _, e⟩ := (get?_iff hg).1 hgt
      exact e
    · simp at h
theorem tskB_merge (hf : FrmOK d) (hpt : PthOK d) {f : Fil} {i j : Nat} {a b w : Rev} (hij : i ≤ j) (ha : (lnP d f)[i]? = some a) (hb : (lnP d f)[j]? = some b)
    (hP : ∀ (k : Nat) (u : Rev), i ≤ k → k ≤ j → (lnP d f)[k]? = some u → u.path = a.path) (hw : last? d w.path = some w) (w3 : ¬ w.act = 3) (w5 : ¬ w.act = 5) (hwl : ¬ first d w = f)
    {mv : ByteArray} (hm : mv = noS ∨ (path? mv).isSome = true ∧ live d mv = false ∧ ¬ mv = w.path) (bp : ByteArray) (bn : Int) {k : Int} (hk : k = if b.act = 3 then 3 else 2) :
    TskB d ⟨k, f.path, f.num, a.path, a.num, b.num, w.path, w.num, bp, bn, mv⟩ := by
  have hma := List.mem_of_getElem? ha
  have hmb := List.mem_of_getElem? hb
  obtain ⟨ma, _, _⟩ := (lnP_mem hg hN).1 hma
  obtain ⟨mb, _, _⟩ := (lnP_mem hg hN).1 hmb
  have hpb : b.path = a.path := hP j b hij (Nat.le_refl _) hb
  have hnb : b.num = a.num + (j - i : Nat) := line_run hg hN hf ha (j - i) b (by rw [show i + (j - i) = j by omega]; exact hb) fun k u hk hu => hP (i + k) u (by omega) (by omega) hu
  obtain ⟨ja, hja⟩ := List.getElem?_of_mem ma
  have hna := hg.num ja a hja
  have hsrc : srcR d ⟨k, f.path, f.num, a.path, a.num, b.num, w.path, w.num, bp, bn, mv⟩ = b := by
    unfold srcR
    simp only
    rw [← hpb, get_rev hg hN mb]; rfl
  have hlw : live d w.path = true := by simp [live, hw, gone, w3, w5]
  have hwm : w ∈ d.revs := by obtain ⟨jw, h1, _⟩ := last_some hw; exact List.mem_of_getElem? h1
  have hiw : idn d w.path w.num = some (first d w) := by
    obtain ⟨jw, hjw⟩ := List.getElem?_of_mem hwm
    exact (idn_iff hg).2 ⟨jw, w, hjw, rfl, w5, rfl⟩
  refine ⟨by simp only; omega, by simp only; omega, ?_, by simp [lastNum, hw], .inr ⟨by rw [hsrc]; exact hk, hlw, ?_, hm⟩, (hpt w hwm).1⟩
  · intro n h1 h2
    simp only at h1 h2 ⊢
    obtain ⟨m, hm⟩ : ∃ m : Nat, n = a.num + m := ⟨(n - a.num).toNat, by omega⟩
    have hlt := (List.getElem?_eq_some_iff.1 hb).1
    have hu : (lnP d f)[i + m]? = some (lnP d f)[i + m] := List.getElem?_eq_getElem (by omega)
    have hpu := hP (i + m) _ (by omega) (by omega) hu
    have hnu := line_run hg hN hf ha m _ hu fun k u hk hu => hP (i + k) u (by omega) (by omega) hu
    have := line_idn hg hN (List.mem_of_getElem? hu)
    rw [hpu, hnu, ← hm] at this
    exact this
  · simp only
    rw [hiw]
    simpa [Tsk.line] using hwl
theorem tskB_branch {p t : ByteArray} {v : Rev} (hv : last? d p = some v) (v3 : ¬ v.act = 3) (v5 : ¬ v.act = 5) (hl : live d t = false) (ht : (path? t).isSome = true) {fs : Int} (h1 : 1 ≤ fs) (h2 : fs ≤ v.num)
    (hr : ∀ n : Int, fs ≤ n → n ≤ v.num → idn d p n = some (first d v)) : TskB d ⟨1, (first d v).path, (first d v).num, p, fs, v.num, t, lastNum d t, noS, 0, noS⟩ := by
  obtain ⟨j, hj, e, _⟩ := last_some hv
  have hsrc : get? d p v.num = some v := by rw [← e]; exact get_rev hg hN (List.mem_of_getElem? hj)
  refine ⟨h1, h2, ?_, rfl, .inl ⟨rfl, hl, ?_, rfl⟩, ht⟩
  · intro n a b; exact hr n a b
  · simp only [srcR, hsrc, Option.getD_some]; exact v3
end
end Go.Proofs.YtmhboloicpieeaaGreatDoor
namespace Go.Proofs.YtmhboloicpieeaaGreatDoor
open Go.Ab
def pthL (l : List Rev) : List ByteArray := l.foldl (fun acc v => addS acc v.path) []
theorem pthL_snoc (l : List Rev) (v : Rev) : pthL (l ++ [v]) = addS (pthL l) v.path := by simp [pthL, List.foldl_append]
theorem addS_mem {κ : Type} [DecidableEq κ] {l : List κ} {k x : κ} (h : x ∈ addS l k) : x ∈ l ∨ x = k := by
  unfold addS at h
  split at h
  · exact .inl h
  · simpa using h
theorem addS_len {κ : Type} [DecidableEq κ] (l : List κ) (k : κ) : (addS l k).length ≤ l.length + 1 := by
  unfold addS; split <;> simp
theorem fold_mem : ∀ (l : List Rev) (acc : List ByteArray) (p : ByteArray), p ∈ l.foldl (fun acc v => addS acc v.path) acc → p ∈ acc ∨ ∃ v ∈ l, v.path = p
  | [], _, _, h => .inl h
  | v :: l, acc, p, h => by
    rcases fold_mem l _ p h with h | ⟨u, h1, h2⟩
    · rcases addS_mem h with h | h
      · exact .inl h
      · exact .inr ⟨v, by simp, h.symm⟩
    · exact .inr ⟨u, by simp [h1], h2⟩
theorem pthL_mem {l : List Rev} {p : ByteArray} (h : p ∈ pthL l) : ∃ v ∈ l, v.path = p := by
  rcases fold_mem l [] p h with h | h
  · cases h
  · exact h
theorem fold_len : ∀ (l : List Rev) (acc : List ByteArray), (l.foldl (fun acc v => addS acc v.path) acc).length ≤ acc.length + l.length
  | [], _ => Nat.le_refl _
  | v :: l, acc => by
    have h1 := fold_len l (addS acc v.path)
    have h2 := addS_len acc v.path
    simp only [List.foldl_cons, List.length_cons] at h1 ⊢; omega
theorem pthL_len (l : List Rev) : (pthL l).length ≤ l.length := by have := fold_len l []; simpa [pthL] using this
def sinkS : Nat → List ByteArray → List ByteArray
  | 0, l => l
  | k + 1, l => if ord (l.getD (k + 1) noS) (l.getD k noS) < 0 then sinkS k ((l.set (k + 1) (l.getD k noS)).set k (l.getD (k + 1) noS)) else l
def sortS (l : List ByteArray) : Nat → List ByteArray
  | 0 => l
  | k + 1 => sinkS k (sortS l k)
def pathsF (d : Dep) : List ByteArray := sortS (pthL d.revs) (pthL d.revs).length
theorem swapS {P : ByteArray → Prop} {t : List ByteArray} {v w : ByteArray} {i j : Nat} (hv : P v) (hw : P w) (h : ∀ r ∈ t, P r) : ∀ r ∈ (t.set j w).set i v, P r := by
  intro r hr
  rcases List.mem_or_eq_of_mem_set hr with hr | rfl
  · rcases List.mem_or_eq_of_mem_set hr with hr | rfl
    · exact h r hr
    · exact hw
  · exact hv
theorem sinkS_len : ∀ (k : Nat) (l : List ByteArray), (sinkS k l).length = l.length
  | 0, l => rfl
  | k + 1, l => by
    simp only [sinkS]
    split
    · rw [sinkS_len k]; simp
    · rfl
theorem sortS_len (l : List ByteArray) : ∀ k, (sortS l k).length = l.length
  | 0 => rfl
  | k + 1 => by rw [sortS, sinkS_len, sortS_len l k]
theorem sinkS_all {P : ByteArray → Prop} : ∀ (k : Nat) (l : List ByteArray), k < l.length → (∀ r ∈ l, P r) → ∀ r ∈ sinkS k l, P r
  | 0, l, _, h => h
  | k + 1, l, hk, h => by
    simp only [sinkS]
    have g : ∀ i, i < l.length → P (l.getD i noS) := fun i hi => by rw [List.getD_eq_getElem?_getD, List.getElem?_eq_getElem hi]; exact h _ (List.getElem_mem hi)
    split
    · exact sinkS_all k _ (by simp; omega) (swapS (g (k + 1) hk) (g k (by omega)) h)
    · exact h
theorem sortS_all {P : ByteArray → Prop} {l : List ByteArray} (h : ∀ r ∈ l, P r) : ∀ k, k ≤ l.length → ∀ r ∈ sortS l k, P r
  | 0, _ => h
  | k + 1, hk => sinkS_all k _ (by rw [sortS_len]; omega) (sortS_all h k (by omega))
theorem pathsF_mem {d : Dep} {p : ByteArray} (h : p ∈ pathsF d) : ∃ v ∈ d.revs, v.path = p :=
  sortS_all (P := fun p => ∃ v ∈ d.revs, v.path = p) (fun _ hr => pthL_mem hr) _ (Nat.le_refl _) p h
theorem pathsF_len (d : Dep) : (pathsF d).length ≤ d.revs.length := by unfold pathsF; rw [sortS_len]; exact pthL_len _
end Go.Proofs.YtmhboloicpieeaaGreatDoor
namespace Go.Proofs.YtmhboloicpieeaaGreatDoor
open Go.Ab
theorem line_lnP {d : Dep} (hg : Good d.revs) (hN : d.revs.length ≤ 512) (f : Fil) : line d f = lnP d f := by
  rw [lnP_line hg hN, line]
  refine List.filter_congr fun u _ => ?_
  rw [Bool.eq_iff_iff]
  simp [inLine]
theorem away_prev {d : Dep} (hg : Good d.revs) {p : ByteArray} {u w : Rev} (hu : last? d p = some u) (h5 : u.act = 5) (hw : get? d p (u.num - 1) = some w) : w ∈ d.revs ∧ ¬ w.act = 5 := by
  obtain ⟨i, hi, ep, _⟩ := last_some hu
  obtain ⟨j, x, _, hj, xp, xn, _, x5, _⟩ := hg.prv i u hi (by omega) (by omega)
  obtain ⟨k, hk, ek⟩ := (get?_iff hg).1 hw
  have e : fileOf x = fileOf w := by rw [ek]; simp only [fileOf]; rw [xp, xn, ep]
  have := good_file hg hj hk e
  subst this
  rw [hj] at hk; cases hk
  exact ⟨List.mem_of_getElem? hj, x5⟩
theorem last_mem {d : Dep} {p : ByteArray} {u : Rev} (hu : last? d p = some u) : u ∈ d.revs ∧ u.path = p := by
  obtain ⟨i, hi, ep, _⟩ := last_some hu
  exact ⟨List.mem_of_getElem? hi, ep⟩
theorem last_ex {d : Dep} {u : Rev} (hu : u ∈ d.revs) : ∃ v, last? d u.path = some v := by
  cases h : last? d u.path with
  | some v => exact ⟨v, rfl⟩
  | none =>
    have := (lastF (fun v : Rev => decide (v.path = u.path)) d.revs).2 h u hu
    simp at this
theorem mem_lineF {d : Dep} {f : Fil} {u : Rev} : u ∈ line d f ↔ u ∈ d.revs ∧ ¬ u.act = 5 ∧ first d u = f := by
  simp [line, inLine]
theorem line_ne {d : Dep} {u : Rev} (hu : u ∈ d.revs) (h5 : ¬ u.act = 5) : 0 < (line d (first d u)).length :=
  List.length_pos_iff.2 fun h => by have := mem_lineF.2 ⟨hu, h5, rfl⟩; rw [h] at this; cases this
def uOf (d : Dep) (t : ByteArray) : Option Rev := match last? d t with | none => none | some u => if u.act = 5 then get? d t (u.num - 1) else some u
theorem uOf_mem {d : Dep} (hg : Good d.revs) {t : ByteArray} {u : Rev} (h : uOf d t = some u) : u ∈ d.revs ∧ ¬ u.act = 5 := by
  unfold uOf at h
  cases hl : last? d t with
  | none => rw [hl] at h; cases h
  | some v =>
    rw [hl] at h
    simp only at h
    by_cases h5 : v.act = 5
    · rw [if_pos h5] at h; exact away_prev hg hl h5 h
    · rw [if_neg h5] at h; cases h; exact ⟨(last_mem hl).1, h5⟩
def lastM (d : Dep) (u : Rev) : Rev := (line d (first d u)).getD ((line d (first d u)).length - 1) zRev
theorem lastM_mem {d : Dep} {u : Rev} (hu : u ∈ d.revs) (h5 : ¬ u.act = 5) : lastM d u ∈ d.revs ∧ ¬ (lastM d u).act = 5 ∧ first d (lastM d u) = first d u := by
  have h := line_ne hu h5
  have hm : lastM d u ∈ line d (first d u) := by
    unfold lastM
    rw [List.getD_eq_getElem?_getD, List.getElem?_eq_getElem (by omega)]
    exact List.getElem_mem _
  exact mem_lineF.1 hm
def tgtAt (d : Dep) (m : List Etr) (self : Fil) (q : ByteArray) : Option Rev :=
  if (byE m q).2 = true then
    match uOf d (byE m q).1 with
    | none => none
    | some u => if ¬ first d u = self ∧ (last? d (lastM d u).path).getD zRev = lastM d u then some (lastM d u) else none
  else none
def tgtK (d : Dep) (m : List Etr) (ln : List Rev) : Nat → Option (Rev × ByteArray)
  | 0 => none
  | k + 1 =>
    if k + 1 < ln.length ∧ (ln.getD (k + 1) zRev).path = (ln.getD k zRev).path then tgtK d m ln k
    else match tgtAt d m (fileOf (ln.getD 0 zRev)) (ln.getD k zRev).path with
      | some w => some (w, (ln.getD k zRev).path)
      | none => tgtK d m ln k
def tgtF (d : Dep) (m : List Etr) (ln : List Rev) : Option (Rev × ByteArray) := tgtK d m ln ln.length
@[reducible] def aTgt : Option (Rev × ByteArray) → AV
  | some (w, q) => .tup [pRev w, pS q, pB true]
  | none => .tup [pRev zRev, pS noS, pB false]
theorem tgtAt_some {d : Dep} (hg : Good d.revs) {m : List Etr} {self : Fil} {q : ByteArray} {w : Rev} (h : tgtAt d m self q = some w) : last? d w.path = some w ∧ ¬ w.act = 5 ∧ ¬ first d w = self := by
  unfold tgtAt at h
  split at h
  · cases hu : uOf d (byE m q).1 with
    | none => rw [hu] at h; cases h
    | some u =>
      rw [hu] at h
      simp only at h
      split at h
      · rename_i hc
        cases h
        obtain ⟨u1, u2⟩ := uOf_mem hg hu
        obtain ⟨m1, m2, m3⟩ := lastM_mem u1 u2
        refine ⟨?_, m2, by rw [m3]; exact hc.1⟩
        obtain ⟨v, hv⟩ := last_ex m1
        have := hc.2
        rw [hv] at this ⊢
        exact congrArg some this
      · cases h
  · cases h
theorem tgtK_some {d : Dep} (hg : Good d.revs) {m : List Etr} {ln : List Rev} {w : Rev} {q : ByteArray} : ∀ {k : Nat}, tgtK d m ln k = some (w, q) → last? d w.path = some w ∧ ¬ w.act = 5 ∧ ¬ first d w = fileOf (ln.getD 0 zRev)
  | k + 1, h => by
    rw [tgtK] at h
    split at h
    · exact tgtK_some hg h
    · cases ht : tgtAt d m (fileOf (ln.getD 0 zRev)) (ln.getD k zRev).path with
      | none => rw [ht] at h; exact tgtK_some hg h
      | some x =>
        rw [ht] at h
        simp only [Option.some.injEq, Prod.mk.injEq] at h
        obtain ⟨rfl, _⟩ := h
        exact tgtAt_some hg ht
theorem tgtK_path {d : Dep} {m : List Etr} {ln : List Rev} {w : Rev} {q : ByteArray} : ∀ {k : Nat}, k ≤ ln.length → tgtK d m ln k = some (w, q) → ∃ v ∈ ln, v.path = q
  | k + 1, hk, h => by
    rw [tgtK] at h
    split at h
    · exact tgtK_path (by omega) h
    · cases ht : tgtAt d m (fileOf (ln.getD 0 zRev)) (ln.getD k zRev).path with
      | none => rw [ht] at h; exact tgtK_path (by omega) h
      | some x =>
        rw [ht] at h
        simp only [Option.some.injEq, Prod.mk.injEq] at h
        refine ⟨_, ?_, h.2⟩
        rw [List.getD_eq_getElem?_getD, List.getElem?_eq_getElem (by omega)]
        exact List.getElem_mem _
structure BrI (d : Dep) (p : ByteArray) (v : Rev) (fs : Int) : Prop where
  lo : 1 ≤ fs
  le : fs ≤ v.num
  run : ∀ n : Int, fs ≤ n → n ≤ v.num → idn d p n = some (first d v)
section
variable {d : Dep} (hg : Good d.revs) (hN : d.revs.length ≤ 512)
include hg hN
theorem brI_start {p : ByteArray} {v : Rev} (hv : last? d p = some v) (v5 : ¬ v.act = 5) : BrI d p v v.num := by
  obtain ⟨i, hi, ep, _⟩ := last_some hv
  refine ⟨(hg.num i v hi).1, Int.le_refl _, fun n h1 h2 => ?_⟩
  have e : n = v.num := by omega
  subst e
  rw [← ep]
  exact (idn_iff hg).2 ⟨i, v, hi, rfl, v5, rfl⟩
theorem brI_step {p : ByteArray} {v u : Rev} {fs : Int} (hv : last? d p = some v) (h : BrI d p v fs) (hu : u ∈ line d (first d v)) (hp : u.path = p) (hn : fs - 1 ≤ u.num) : BrI d p v u.num := by
  obtain ⟨i, hi, ep, hmax⟩ := last_some hv
  obtain ⟨m1, m2, m3⟩ := mem_lineF.1 hu
  obtain ⟨j, hj⟩ := List.getElem?_of_mem m1
  have hle : u.num ≤ v.num := by
    have hji := hmax j u hj hp
    rcases Nat.lt_or_ge j i with h | h
    · have := (hg.path j i u v h hj hi (by rw [hp, ep])).2; omega
    · have : j = i := by omega
      subst this; rw [hj] at hi; cases hi; omega
  refine ⟨(hg.num j u hj).1, hle, fun n h1 h2 => ?_⟩
  by_cases h3 : fs ≤ n
  · exact h.run n h3 h2
  · have e : n = u.num := by omega
    subst e
    rw [← hp]
    exact (idn_iff hg).2 ⟨j, u, hj, rfl, m2, m3⟩
end
theorem getD_at {α : Type} {l : List α} {i : Nat} {z : α} (h : i < l.length) : l[i]? = some (l.getD i z) := by
  rw [List.getD_eq_getElem?_getD, List.getElem?_eq_getElem h]; rfl
def brF (p : ByteArray) (ln : List Rev) : Nat → Int → Int
  | 0, fs => fs
  | k + 1, fs => if (ln.getD k zRev).path = p ∧ fs - 1 ≤ (ln.getD k zRev).num then brF p ln k (ln.getD k zRev).num else fs
theorem brF_I {d : Dep} (hg : Good d.revs) (hN : d.revs.length ≤ 512) {p : ByteArray} {v : Rev} (hv : last? d p = some v) : ∀ (k : Nat) (fs : Int), k ≤ (line d (first d v)).length → BrI d p v fs → BrI d p v (brF p (line d (first d v)) k fs)
  | 0, _, _, h => h
  | k + 1, fs, hk, h => by
    rw [brF]
    split
    · rename_i hc
      refine brF_I hg hN hv k _ (by omega) (brI_step hg hN hv h ?_ hc.1 hc.2)
      rw [List.getD_eq_getElem?_getD, List.getElem?_eq_getElem (by omega)]
      exact List.getElem_mem _
    · exact h
def endF (rest : List Fil) (ln : List Rev) (p : ByteArray) : Nat → Nat → Nat
  | 0, i => i
  | n + 1, i => if i + 1 < ln.length ∧ fileOf (ln.getD (i + 1) zRev) ∈ rest ∧ (ln.getD (i + 1) zRev).path = p then endF rest ln p n (i + 1) else i
theorem endF_S (rest : List Fil) (ln : List Rev) (p : ByteArray) (n i : Nat) : endF rest ln p (n + 1) i = if i + 1 < ln.length ∧ fileOf (ln.getD (i + 1) zRev) ∈ rest ∧ (ln.getD (i + 1) zRev).path = p then endF rest ln p n (i + 1) else i := rfl
theorem endF_ge (rest : List Fil) (ln : List Rev) (p : ByteArray) : ∀ n i, i ≤ endF rest ln p n i
  | 0, _ => Nat.le_refl _
  | n + 1, i => by
    rw [endF]; split
    · exact Nat.le_trans (by omega) (endF_ge rest ln p n (i + 1))
    · exact Nat.le_refl _
theorem endF_lt (rest : List Fil) (ln : List Rev) (p : ByteArray) : ∀ n i, i < ln.length → endF rest ln p n i < ln.length
  | 0, _, h => h
  | n + 1, i, h => by
    rw [endF]; split
    · rename_i hc; exact endF_lt rest ln p n (i + 1) hc.1
    · exact h
theorem endF_path (rest : List Fil) (ln : List Rev) (p : ByteArray) : ∀ n i, (ln.getD i zRev).path = p → ∀ k, i ≤ k → k ≤ endF rest ln p n i → (ln.getD k zRev).path = p
  | 0, i, h, k, h1, h2 => by rw [endF] at h2; rw [show k = i by omega]; exact h
  | n + 1, i, h, k, h1, h2 => by
    rw [endF] at h2
    split at h2
    · rename_i hc
      by_cases e : k = i
      · rw [e]; exact h
      · exact endF_path rest ln p n (i + 1) hc.2.2 k (by omega) h2
    · rw [show k = i by omega]; exact h
theorem endF_enough (rest : List Fil) (ln : List Rev) (p : ByteArray) : ∀ n i, ln.length ≤ n + i → endF rest ln p (n + 1) i = endF rest ln p n i
  | 0, i, h => by rw [endF_S, if_neg (by omega)]; rfl
  | n + 1, i, h => by
    rw [endF_S _ _ _ (n + 1) i, endF_S _ _ _ n i]
    split
    · exact endF_enough rest ln p n (i + 1) (by omega)
    · rfl
def endR (rest : List Fil) (ln : List Rev) (p : ByteArray) (i : Nat) : Nat := endF rest ln p ln.length i
theorem endR_step {rest : List Fil} {ln : List Rev} {p : ByteArray} {i : Nat} (h : i + 1 < ln.length ∧ fileOf (ln.getD (i + 1) zRev) ∈ rest ∧ (ln.getD (i + 1) zRev).path = p) : endR rest ln p i = endR rest ln p (i + 1) := by
  unfold endR
  have e : ln.length = (ln.length - 1) + 1 := by omega
  conv => lhs; rw [e, endF_S, if_pos h]
  rw [← endF_enough rest ln p (ln.length - 1) (i + 1) (by omega), ← e]
theorem endR_stop {rest : List Fil} {ln : List Rev} {p : ByteArray} {i : Nat} (h : ¬ (i + 1 < ln.length ∧ fileOf (ln.getD (i + 1) zRev) ∈ rest ∧ (ln.getD (i + 1) zRev).path = p)) : endR rest ln p i = i := by
  unfold endR
  cases hl : ln.length with
  | zero => rfl
  | succ n => rw [endF_S, if_neg h]
def runT (f : Fil) (ln : List Rev) (w : Rev) (mv : ByteArray) (i j : Nat) : Tsk :=
  ⟨if (ln.getD j zRev).act = 3 then 3 else 2, f.path, f.num, (ln.getD i zRev).path, (ln.getD i zRev).num, (ln.getD j zRev).num, w.path, w.num, if 0 < i then (ln.getD (i - 1) zRev).path else noS, if 0 < i then (ln.getD (i - 1) zRev).num else 0, mv⟩
def mrgF (f : Fil) (rest : List Fil) (ln : List Rev) (w : Rev) (mv : ByteArray) : Nat → Nat → List Tsk
  | 0, _ => []
  | n + 1, i =>
    if i < ln.length then
      if fileOf (ln.getD i zRev) ∈ rest then runT f ln w mv i (endR rest ln (ln.getD i zRev).path i) :: mrgF f rest ln w mv n (endR rest ln (ln.getD i zRev).path i + 1)
      else mrgF f rest ln w mv n (i + 1)
    else []
theorem mrgF_S (f : Fil) (rest : List Fil) (ln : List Rev) (w : Rev) (mv : ByteArray) (n i : Nat) : mrgF f rest ln w mv (n + 1) i = if i < ln.length then
      if fileOf (ln.getD i zRev) ∈ rest then runT f ln w mv i (endR rest ln (ln.getD i zRev).path i) :: mrgF f rest ln w mv n (endR rest ln (ln.getD i zRev).path i + 1)
      else mrgF f rest ln w mv n (i + 1)
    else [] := rfl
theorem mrgF_enough (f : Fil) (rest : List Fil) (ln : List Rev) (w : Rev) (mv : ByteArray) : ∀ n i, ln.length ≤ n + i → mrgF f rest ln w mv (n + 1) i = mrgF f rest ln w mv n i
  | 0, i, h => by rw [mrgF_S, if_neg (by omega)]; rfl
  | n + 1, i, h => by
    rw [mrgF_S _ _ _ _ _ (n + 1) i, mrgF_S _ _ _ _ _ n i]
    have he := endF_ge rest ln (ln.getD i zRev).path ln.length i
    rw [mrgF_enough f rest ln w mv n (endR rest ln (ln.getD i zRev).path i + 1) (by unfold endR; omega), mrgF_enough f rest ln w mv n (i + 1) (by omega)]
def mrgR (f : Fil) (rest : List Fil) (ln : List Rev) (w : Rev) (mv : ByteArray) (i : Nat) : List Tsk := mrgF f rest ln w mv ln.length i
theorem mrgR_end {f : Fil} {rest : List Fil} {ln : List Rev} {w : Rev} {mv : ByteArray} {i : Nat} (h : ln.length ≤ i) : mrgR f rest ln w mv i = [] := by
  unfold mrgR
  cases hl : ln.length with
  | zero => rfl
  | succ n => rw [mrgF_S, if_neg (by omega)]
theorem mrgR_skip {f : Fil} {rest : List Fil} {ln : List Rev} {w : Rev} {mv : ByteArray} {i : Nat} (h : i < ln.length) (hn : ¬ fileOf (ln.getD i zRev) ∈ rest) : mrgR f rest ln w mv i = mrgR f rest ln w mv (i + 1) := by
  unfold mrgR
  have e : ln.length = (ln.length - 1) + 1 := by omega
  conv => lhs; rw [e, mrgF_S, if_pos h, if_neg hn]
  rw [← mrgF_enough f rest ln w mv (ln.length - 1) (i + 1) (by omega), ← e]
theorem mrgR_run {f : Fil} {rest : List Fil} {ln : List Rev} {w : Rev} {mv : ByteArray} {i : Nat} (h : i < ln.length) (hn : fileOf (ln.getD i zRev) ∈ rest) : mrgR f rest ln w mv i = runT f ln w mv i (endR rest ln (ln.getD i zRev).path i) :: mrgR f rest ln w mv (endR rest ln (ln.getD i zRev).path i + 1) := by
  unfold mrgR
  have e : ln.length = (ln.length - 1) + 1 := by omega
  have he := endF_ge rest ln (ln.getD i zRev).path ln.length i
  conv => lhs; rw [e, mrgF_S, if_pos h, if_pos hn]
  rw [← mrgF_enough f rest ln w mv (ln.length - 1) (endR rest ln (ln.getD i zRev).path i + 1) (by unfold endR; omega), ← e]
noncomputable def restF (d : Dep) (s : Fil) : Option (Rev × ByteArray) → List Fil
  | some (w, _) => (remS d s (fileOf w)).getD []
  | none => []
def movF (d : Dep) (m : List Etr) (p t : ByteArray) (w : Rev) (q : ByteArray) : ByteArray :=
  if ¬ q = p ∧ (byE m q).1 = w.path ∧ ¬ t = w.path ∧ live d t = false then t else noS
def brT (d : Dep) (p t : ByteArray) (v : Rev) : Tsk :=
  ⟨1, (first d v).path, (first d v).num, p, brF p (line d (first d v)) (line d (first d v)).length v.num, v.num, t, lastNum d t, noS, 0, noS⟩
noncomputable def tskP (d : Dep) (m : List Etr) (p : ByteArray) : List Tsk :=
  let v := (last? d p).getD zRev
  let t := (byE m p).1
  if (byE m p).2 = false ∨ v.act = 5 then []
  else
    let tg := tgtF d m (line d (first d v))
    let rest := restF d (fileOf v) tg
    match tg with
    | none => if v.act = 3 ∨ live d t = true then [] else [brT d p t v]
    | some (w, q) =>
      if w.act = 3 then (if v.act = 3 ∨ live d t = true ∨ rest = [] then [] else [brT d p t v])
      else mrgR (first d v) rest (line d (first d v)) w (movF d m p t w q) 0
noncomputable def tskF (d : Dep) (m : List Etr) : List Tsk := (pathsF d).flatMap (tskP d m)
section
variable {d : Dep} (hg : Good d.revs) (hN : d.revs.length ≤ 512) (hf : FrmOK d) (hpt : PthOK d)
include hg hN hf hpt
theorem mrgF_B {f : Fil} {rest : List Fil} {w : Rev} {mv : ByteArray} (hw : last? d w.path = some w) (w3 : ¬ w.act = 3) (w5 : ¬ w.act = 5) (hwl : ¬ first d w = f)
    (hm : mv = noS ∨ (path? mv).isSome = true ∧ live d mv = false ∧ ¬ mv = w.path) : ∀ (n i : Nat), ∀ x ∈ mrgF f rest (lnP d f) w mv n i, TskB d x
  | 0, i, x, h => by cases h
  | n + 1, i, x, h => by
    rw [mrgF] at h
    split at h
    · rename_i hi
      split at h
      · rcases List.mem_cons.1 h with rfl | h
        · have hj := endF_lt rest (lnP d f) ((lnP d f).getD i zRev).path (lnP d f).length i hi
          have ha : (lnP d f)[i]? = some ((lnP d f).getD i zRev) := by exact getD_at hi
          have hb : (lnP d f)[endR rest (lnP d f) ((lnP d f).getD i zRev).path i]? = some ((lnP d f).getD (endR rest (lnP d f) ((lnP d f).getD i zRev).path i) zRev) := by
            exact getD_at hj
          refine tskB_merge hg hN hf hpt (endF_ge rest _ _ _ _) ha hb ?_ hw w3 w5 hwl hm _ _ rfl
          intro k u h1 h2 hu
          have := endF_path rest (lnP d f) ((lnP d f).getD i zRev).path (lnP d f).length i rfl k h1 h2
          rw [List.getD_eq_getElem?_getD, hu] at this
          exact this
        · exact mrgF_B hw w3 w5 hwl hm n _ x h
      · exact mrgF_B hw w3 w5 hwl hm n _ x h
    · cases h
theorem tskP_B {m : List Etr} {p : ByteArray} (hp : ∃ v ∈ d.revs, v.path = p) : ∀ x ∈ tskP d m p, TskB d x := by
  intro x hx
  obtain ⟨v0, hv0, rfl⟩ := hp
  obtain ⟨v, hv⟩ := last_ex hv0
  obtain ⟨vm, vp⟩ := last_mem hv
  unfold tskP at hx
  rw [hv] at hx
  simp only [Option.getD_some] at hx
  split at hx
  · cases hx
  rename_i hc
  rw [not_or] at hc
  obtain ⟨hc1, v5⟩ := hc
  have hby : (path? (byE m v0.path).1).isSome = true := by
    refine by_path ?_
    cases hb : (byE m v0.path).2 with
    | true => rfl
    | false => exact absurd hb hc1
  have hbr : ¬ v.act = 3 → ¬ live d (byE m v0.path).1 = true → TskB d (brT d v0.path (byE m v0.path).1 v) := by
    intro v3 hl
    have hI := brF_I hg hN hv _ _ (Nat.le_refl _) (brI_start hg hN hv v5)
    exact tskB_branch hg hN hv v3 v5 (by simpa using hl) hby hI.lo hI.le hI.run
  split at hx
  · split at hx
    · cases hx
    · rename_i h
      rw [not_or] at h
      simp only [List.mem_singleton] at hx
      subst hx
      exact hbr h.1 h.2
  · rename_i w q htg
    split at hx
    · split at hx
      · cases hx
      · rename_i h
        rw [not_or, not_or] at h
        simp only [List.mem_singleton] at hx
        subst hx
        exact hbr h.1 h.2.1
    · rename_i w3
      obtain ⟨t1, t2, t3⟩ := tgtK_some hg htg
      have hln := line_lnP hg hN (first d v)
      have h0 : fileOf ((line d (first d v)).getD 0 zRev) = first d v := by
        have := line_ne vm v5
        have h1 : (lnP d (first d v))[0]? = some ((line d (first d v)).getD 0 zRev) := by
          rw [← hln, List.getD_eq_getElem?_getD, List.getElem?_eq_getElem this]; rfl
        exact line_head hg hN h1
      rw [h0] at t3
      unfold mrgR at hx
      rw [hln] at hx
      refine mrgF_B hg hN hf hpt t1 w3 t2 t3 ?_ _ _ x hx
      unfold movF
      split
      · rename_i hc
        exact .inr ⟨hby, hc.2.2.2, hc.2.2.1⟩
      · exact .inl rfl
theorem tskF_B (m : List Etr) : ∀ x ∈ tskF d m, TskB d x := by
  intro x hx
  obtain ⟨p, hp, hx⟩ := List.mem_flatMap.1 hx
  exact tskP_B hg hN hf hpt (pathsF_mem hp) x hx
end
end Go.Proofs.YtmhboloicpieeaaGreatDoor
namespace Go.Proofs.YtmhboloicpieeaaGreatDoor
open Go.Ab Tys
variable [Dr]
structure SV where
  og : Bool
  car : List Fil
  con : List Fil
  cre : List Fil
@[reducible] def vSV (x : SV) : Bool × List D := (true, [.v (.bool x.og), .pm (sEnt kF x.car), .pm (sEnt kF x.con), .pm (sEnt kF x.cre)])
theorem look_SV (A : List (Fil × SV)) (p : ByteArray) (n : Int) : (findE [C.d (.v (.string p)), C.d (.v (.int .i64 n))] ((mEnt kF vSV A).map upE)).getD (true, [C.d (.v (.bool false)), C.d (.v (.map none)), C.d (.v (.map none)), C.d (.v (.map none))]) =
    (true, [C.d (.v (.bool (((alook A ⟨p, n⟩).map SV.og).getD false))), C.d (dSet kF ((alook A ⟨p, n⟩).map SV.car)), C.d (dSet kF ((alook A ⟨p, n⟩).map SV.con)), C.d (dSet kF ((alook A ⟨p, n⟩).map SV.cre))]) := by
  have := findE_ent (ve := vSV) kF_eq A ⟨p, n⟩
  rw [show ((kF ⟨p, n⟩).2.map C.d) = [C.d (.v (.string p)), C.d (.v (.int .i64 n))] from rfl] at this
  rw [this]
  cases alook A ⟨p, n⟩ <;> rfl
theorem ty_SV (A : List (Fil × SV)) : ∀ e ∈ (mEnt kF vSV A).map upE, e.1.1 = true ∧ tyCs [.str, .int .i64] e.1.2 := by
  intro e he
  simp only [mEnt, List.mem_map] at he
  obtain ⟨_, ⟨f, _, rfl⟩, rfl⟩ := he
  exact ⟨rfl, by simp [upE, upD, tyCs]⟩
theorem ins_SV (A : List (Fil × SV)) (p : ByteArray) (n : Int) (og : Bool) (c m r : List Fil) : insE (true, [C.d (.v (.string p)), C.d (.v (.int .i64 n))]) (true, [C.d (.v (.bool og)), C.d (.pm (sEnt kF c)), C.d (.pm (sEnt kF m)), C.d (.pm (sEnt kF r))]) ((mEnt kF vSV A).map upE) = (mEnt kF vSV (aput A ⟨p, n⟩ ⟨og, c, m, r⟩)).map upE :=
  insE_ent (ve := vSV) kF_eq A ⟨p, n⟩ ⟨og, c, m, r⟩
structure SvOK (A : List (Fil × SV)) (S : Fil → SS) : Prop where
  car : ∀ f g, (S f).car g ↔ g ∈ ((alook A f).map SV.car).getD []
  con : ∀ f g, (S f).con g ↔ g ∈ ((alook A f).map SV.con).getD []
  cre : ∀ f g, (S f).cre g ↔ g ∈ ((alook A f).map SV.cre).getD []
def DomA (d : Dep) (k : Nat) (A : List (Fil × SV)) : Prop := ∀ (j : Nat) (w : Rev), j < k → d.revs[j]? = some w → ¬ w.act = 5 → ∃ x, alook A (fileOf w) = some x
theorem DomA.away {d : Dep} {k : Nat} {A : List (Fil × SV)} (h : DomA d k A) {v : Rev} (hv : d.revs[k]? = some v) (h5 : v.act = 5) : DomA d (k + 1) A := by
  intro j w hj hw w5
  by_cases e : j = k
  · subst e; rw [hv] at hw; cases hw; exact absurd h5 w5
  · exact h j w (by omega) hw w5
theorem DomA.memb {d : Dep} {k : Nat} {A : List (Fil × SV)} (h : DomA d k A) {v : Rev} (hv : d.revs[k]? = some v) (x : SV) : DomA d (k + 1) (aput A (fileOf v) x) := by
  intro j w hj hw w5
  rw [alook_aput]
  by_cases e : fileOf w = fileOf v
  · exact ⟨x, if_pos e⟩
  · rw [if_neg e]
    have : j ≠ k := by rintro rfl; rw [hv] at hw; cases hw; exact e rfl
    exact h j w (by omega) hw w5
def RcGood (rs : List Rcd) : Prop := ∀ r ∈ rs, 1 ≤ r.first ∧ r.first ≤ r.last ∧ r.last ≤ 512 ∧ 1 ≤ r.how ∧ r.how ≤ 4
theorem specA_dom (d : Dep) : ∀ (k : Nat) (f g : Fil), (specA d k f).car g ∨ (specA d k f).con g ∨ (specA d k f).cre g → ∃ (j : Nat) (w : Rev), j < k ∧ d.revs[j]? = some w ∧ fileOf w = f
  | 0, f, g, h => by simp [specA, SS0] at h
  | k + 1, f, g, h => by
    simp only [specA] at h
    cases hv : d.revs[k]? with
    | none => rw [hv] at h; obtain ⟨j, w, h1, h2⟩ := specA_dom d k f g h; exact ⟨j, w, by omega, h2⟩
    | some v =>
      rw [hv] at h
      simp only at h
      by_cases h5 : v.act = 5
      · rw [if_pos h5] at h; obtain ⟨j, w, h1, h2⟩ := specA_dom d k f g h; exact ⟨j, w, by omega, h2⟩
      · rw [if_neg h5] at h
        by_cases e : f = fileOf v
        · exact ⟨k, v, by omega, hv, e.symm⟩
        · simp only [if_neg e] at h
          obtain ⟨j, w, h1, h2⟩ := specA_dom d k f g h; exact ⟨j, w, by omega, h2⟩
theorem prev_some {d : Dep} (hg : Good d.revs) (hN : d.revs.length ≤ 512) {k : Nat} {v u : Rev} (hv : d.revs[k]? = some v) (h : prev? d v = some u) : fileOf u = befF v := by
  by_cases h1 : v.act = 1
  · rw [prev?_one h1] at h; cases h
  · rw [prev?_bef hg hN hv h1] at h
    obtain ⟨j, _, h2⟩ := (get?_iff hg).1 h
    exact h2
theorem prev_none {d : Dep} (hg : Good d.revs) (hN : d.revs.length ≤ 512) {k : Nat} {v : Rev} (hv : d.revs[k]? = some v) (h : prev? d v = none) (g : Fil) : ¬ ((specA d k (befF v)).car g ∨ (specA d k (befF v)).con g ∨ (specA d k (befF v)).cre g) := by
  intro hc
  obtain ⟨j, w, h1, h2, h3⟩ := specA_dom d k _ g hc
  by_cases h1' : v.act = 1
  · exact zFil_no hg h2 (by rw [h3]; simp [befF, h1'])
  · rw [prev?_bef hg hN hv h1'] at h
    have := (get?_iff hg (p := (befF v).path) (n := (befF v).num)).2 ⟨j, h2, h3⟩
    rw [h] at this; cases this
structure RecInv (S : Fil → SS) (b : Fil) (rs : List Rcd) (og : Bool) (n : Int) (c r : List Fil) : Prop where
  car : ∀ g, g ∈ c ↔ (S b).car g ∨ ∃ r ∈ rs, (r.how = 1 ∧ (S ⟨r.frm, r.last⟩).car g) ∨ (¬ r.how = 1 ∧ ¬ r.how = 3 ∧ ∃ n, r.first ≤ n ∧ n ≤ r.last ∧ (S ⟨r.frm, n⟩).con g)
  cre : ∀ g, g ∈ r ↔ (S b).cre g ∨ ∃ r ∈ rs, r.how = 3 ∧ ∃ n, r.first ≤ n ∧ n ≤ r.last ∧ (S ⟨r.frm, n⟩).con g
  og : og = true ↔ rs = [] ∨ ∃ r ∈ rs, r.how = 4
  n0 : 0 ≤ n
  nz : n = 0 ↔ rs = []
  nb : n ≤ 2 + rs.length
@[reducible] def bef9 (o : Option SV) : AO := .box [.d (.v (.bool ((o.map SV.og).getD false))), .d (dSet kF (o.map SV.car)), .d (dSet kF (o.map SV.con)), .d (dSet kF (o.map SV.cre))]
theorem RecInv.step {S : Fil → SS} {b : Fil} {rs : List Rcd} {og : Bool} {n : Int} {c r1 c1 c2 r2 : List Fil} (h : RecInv S b rs og n c r1) (q : Rcd) (h4 : 1 ≤ q.how ∧ q.how ≤ 4)
    (hc1 : ∀ g, g ∈ c1 ↔ g ∈ c ∨ (q.how = 1 ∧ (S ⟨q.frm, q.last⟩).car g)) (hc2 : ∀ g, g ∈ c2 ↔ g ∈ c1 ∨ ((q.how = 2 ∨ q.how = 4) ∧ ∃ m, q.first ≤ m ∧ m < q.last + 1 ∧ (S ⟨q.frm, m⟩).con g))
    (hr2 : ∀ g, g ∈ r2 ↔ g ∈ r1 ∨ (q.how = 3 ∧ ∃ m, q.first ≤ m ∧ m < q.last + 1 ∧ (S ⟨q.frm, m⟩).con g)) :
    RecInv S b (rs ++ [q]) (bif decide (q.how = 4) then true else (bif decide (n + 1 = 1) then false else og)) (bif decide (q.how = 4) then 2 else n + 1) c2 r2 := by
  have ex : ∀ g, (∃ m, q.first ≤ m ∧ m < q.last + 1 ∧ (S ⟨q.frm, m⟩).con g) ↔ ∃ m, q.first ≤ m ∧ m ≤ q.last ∧ (S ⟨q.frm, m⟩).con g := fun g =>
    ⟨fun ⟨m, a1, a2, a3⟩ => ⟨m, a1, by omega, a3⟩, fun ⟨m, a1, a2, a3⟩ => ⟨m, a1, by omega, a3⟩⟩
  have hn0 := h.n0
  have hnz := h.nz
  have hnb := h.nb
  refine ⟨fun g => ?_, fun g => ?_, ?_, ?_, ?_, ?_⟩
  · have : (q.how = 2 ∨ q.how = 4) ↔ (¬ q.how = 1 ∧ ¬ q.how = 3) := by omega
    rw [hc2 g, hc1 g, h.car g, ex g, this]
    simp only [List.mem_append, List.mem_singleton, or_and_right, exists_or, exists_eq_left, or_assoc, and_assoc]
  · rw [hr2 g, h.cre g, ex g]
    simp only [List.mem_append, List.mem_singleton, or_and_right, exists_or, exists_eq_left, or_assoc]
  · by_cases q4 : q.how = 4
    · simp [q4]
    · rw [decide_eq_false q4]
      simp only [cond_false, List.append_eq_nil_iff, List.cons_ne_nil, and_false, false_or, List.mem_append, List.mem_singleton, or_and_right, exists_or, exists_eq_left, q4, or_false]
      by_cases e : n = 0
      · have hr := hnz.1 e
        subst hr
        rw [e]; simp
      · rw [decide_eq_false (by omega : ¬ n + 1 = 1)]
        simp only [cond_false, h.og]
        have : ¬ rs = [] := fun hr => e (hnz.2 hr)
        simp [this]
  · by_cases q4 : q.how = 4
    · simp [q4]
    · rw [decide_eq_false q4]; simp only [cond_false]; omega
  · by_cases q4 : q.how = 4
    · simp [q4]
    · rw [decide_eq_false q4]; simp only [cond_false, List.append_eq_nil_iff, List.cons_ne_nil, and_false, iff_false]; omega
  · by_cases q4 : q.how = 4
    · simp [q4]; omega
    · rw [decide_eq_false q4]; simp only [cond_false, List.length_append, List.length_singleton]; omega
theorem step_in {P : Prop} {p : Prop} {Q : Int → Prop} {a m : Int} (ham : a ≤ m) : ((p ∨ (P ∧ ∃ i, a ≤ i ∧ i < m ∧ Q i)) ∨ (P ∧ Q m)) ↔ (p ∨ (P ∧ ∃ i, a ≤ i ∧ i < m + 1 ∧ Q i)) := by
  constructor
  · rintro ((h | ⟨h, i, h1, h2, h3⟩) | ⟨h, h3⟩)
    · exact .inl h
    · exact .inr ⟨h, i, h1, by omega, h3⟩
    · exact .inr ⟨h, m, ham, by omega, h3⟩
  · rintro (h | ⟨h, i, h1, h2, h3⟩)
    · exact .inl (.inl h)
    · by_cases e : i = m
      · subst e; exact .inr ⟨h, h3⟩
      · exact .inl (.inr ⟨h, i, h1, by omega, h3⟩)
@[reducible] def envR (d : Dep) (k j : Nat) (n : Int) : List (Nat × AV) := [(1, .c (.ptr 1 0)), (3, .c (.mp 17)), (5, .c (.ptr 5 0)), (6, .c (.ptr 6 0)), (7, .c (.ptr 7 0)), (8, I .i64 n), (9, .c (.ptr 9 0)), (13, .c (.ptr 13 0)), (19, aRevs d.revs), (20, I .i64 d.revs.length), (21, I .i64 k), (62, .c (.d (.ps 6 (d.recs.map encRcd)))), (63, I .i64 d.recs.length), (64, I .i64 j)]
@[reducible] def stR (d : Dep) (A : List (Fil × SV)) (v : Rev) (o : Option SV) (rr : Rcd) (og : Bool) (c r : List Fil) : List (Nat × AO) :=
  [(1, .box ((encDep d).map C.d)), (17, .map ((mEnt kF vSV A).map upE)), (5, .box ((encRev v).map C.d)), (6, .box ((encFil (fileOf v)).map C.d)), (33, uMap kF c), (34, uMap kF []), (35, uMap kF r), (7, .box [.d (.v (.bool og)), .mp 33, .mp 34, .mp 35]), (9, bef9 o), (13, .box ((encRcd rr).map C.d))]
theorem SvOK.step {A : List (Fil × SV)} {d : Dep} {k : Nat} (h : SvOK A (specA d k)) {v : Rev} (hv : d.revs[k]? = some v) (h5 : ¬ v.act = 5) (x : SV) (hc : ∀ g, g ∈ x.car ↔ carS (intoR d (fileOf v)) (specA d k) (befF v) (fileOf v) g)
    (hn : ∀ g, g ∈ x.con ↔ g ∈ x.car ∧ ¬ (specA d k (befF v)).car g) (hr : ∀ g, g ∈ x.cre ↔ ((specA d k (befF v)).cre g ∨ ∃ r ∈ intoR d (fileOf v), r.how = 3 ∧ ∃ n, r.first ≤ n ∧ n ≤ r.last ∧ (specA d k ⟨r.frm, n⟩).con g) ∨ g ∈ x.car) :
    SvOK (aput A (fileOf v) x) (specA d (k + 1)) := by
  have hs : specA d (k + 1) = fun f => if f = fileOf v then stepS (intoR d (fileOf v)) (specA d k) v else specA d k f := by simp only [specA, hv, h5, if_false]
  rw [hs]
  refine ⟨fun f g => ?_, fun f g => ?_, fun f g => ?_⟩ <;> rw [alook_aput] <;> by_cases e : f = fileOf v
  · simp only [if_pos e, stepS]; exact (hc g).symm
  · simp only [if_neg e]; exact h.car f g
  · simp only [if_pos e, stepS]; rw [← hc g]; exact (hn g).symm
  · simp only [if_neg e]; exact h.con f g
  · simp only [if_pos e, stepS]; rw [← hc g, ← or_assoc]; exact (hr g).symm
  · simp only [if_neg e]; exact h.cre f g
end Go.Proofs.YtmhboloicpieeaaGreatDoor
namespace Go.Proofs.YtmhboloicpieeaaGreatDoor
open Go.Ab Tys
variable [Dr]
def opA (A : List (Fil × SV)) (t : Fil) (v u : Rev) : Bool := bif decide (u.chg ≤ v.chg) then !subB (((alook A (fileOf u)).map SV.con).getD []) (((alook A t).map SV.cre).getD []) else false
def remR (A : List (Fil × SV)) (t : Fil) (v : Rev) (l : List Rev) : List Fil := (l.filter (opA A t v)).map fileOf
theorem remR_len (A : List (Fil × SV)) (t : Fil) (v : Rev) (l : List Rev) : (remR A t v l).length ≤ l.length := by simp only [remR, List.length_map]; exact List.length_filter_le ..
theorem remR_eq {d : Dep} {A : List (Fil × SV)} (hA : SvOK A (SA d)) (t : Fil) (v : Rev) : remR A t v (line d (first d v)) = remL d v t := by
  rw [remR, line, remL, List.filter_filter]
  congr 1
  apply List.filter_congr
  intro u hu
  rw [Bool.eq_iff_iff]
  simp only [Bool.and_eq_true, inLine, opA, decide_eq_true_eq, Bool.not_eq_true', decide_eq_false_iff_not]
  have hs : subB (((alook A (fileOf u)).map SV.con).getD []) (((alook A t).map SV.cre).getD []) = true ↔ ∀ g, (SA d (fileOf u)).con g → (SA d t).cre g := by
    simp only [subB, List.all_eq_true, decide_eq_true_eq]
    exact ⟨fun h g hg => (hA.cre t g).2 (h g ((hA.con _ g).1 hg)), fun h g hg => (hA.cre t g).1 (h g ((hA.con _ g).2 hg))⟩
  by_cases hc : u.chg ≤ v.chg
  · rw [decide_eq_true hc]
    simp only [cond_true, Bool.not_eq_true', Open]
    rw [← hs]
    constructor
    · rintro ⟨h1, h2, h3⟩; exact ⟨h2, h3, hc, by simp [h1]⟩
    · rintro ⟨h1, h2, _, h3⟩; exact ⟨by simpa using h3, h1, h2⟩
  · rw [decide_eq_false hc]
    simp [hc]
theorem line_mem {d : Dep} {f : Fil} {u : Rev} (h : u ∈ line d f) : u ∈ d.revs ∧ ¬ u.act = 5 := by
  obtain ⟨h1, h2⟩ := List.mem_filter.1 h
  refine ⟨h1, ?_⟩
  simp [inLine] at h2
  exact h2.1
end Go.Proofs.YtmhboloicpieeaaGreatDoor
namespace Go.Proofs.YtmhboloicpieeaaGreatDoor
open Go.Ab Tys
variable [Dr]
def k39 := And.intro @Tryz.ntmps39 <| And.intro @bld39 <| And.intro @bld41 <| And.intro @bld44 <| And.intro @bld54 <| And.intro @fld39_0 <| And.intro @fld39_8 <| And.intro @fld44_1 <| And.intro @fld54_0 <| And.intro @fld54_1 <| And.intro @fld54_2 <| And.intro @ti3 <| And.intro @ti39 <| And.intro @ti4 <| And.intro @ti41 <| And.intro @ti44 <| And.intro @ti54 <| @ti9
theorem v39U6 {G G' : Prop} (g : G') (h : Hid G' → G := by intro h9; (first | refine nvB ?_ | refine goA (wr := false) (by simp only [kB, kG, k39, Nat.reduceAdd, Nat.reduceLT, Nat.reduceEqDiff, ↓reduceIte, reduceCtorEq]; first | done | rfl) ?_); (repeat (first | refine nvB ?_ | refine goA (wr := false) (by simp only [kB, kG, k39, Nat.reduceAdd, Nat.reduceLT, Nat.reduceEqDiff, ↓reduceIte, reduceCtorEq]; first | done | rfl) ?_)); exact h9.out) : G := h ⟨g⟩
set_option maxRecDepth 100000 in
set_option maxHeartbeats 4000000 in
theorem permitted_ac (t : Tsk) (ch : Int) (w : Rsn) : AC Tryz.prog 39 [aTsk t, I .i64 ch, aRsn w] [] (fun r st => r = B (permB t ch w) ∧ st = []) := by
  have hft := ftype_ac w.base w.kw w.ex w.xe
  refine AC_enter Tryz.func39 rfl rfl (by simp only [Tryz.ntmps39, List.length]; omega) ?_
  intro x hx
  simp only [List.range, List.range.loop, List.length, List.zip, List.zipWith, Nat.reduceAdd, Tryz.ntmps39]
  try refine v39U6 ?_
  refine ifA ?_ ?_
  · intro h
    try refine v39U6 ?_
    refine rtA (by simp only [kR, Tryz.results39, ↓reduceIte, Nat.reduceEqDiff, reduceCtorEq]; first | done | rfl) ([]) ?_
    refine ⟨?_, rfl⟩
    have h' : (w.mv && (decide (t.move = noS) || decide (ch = 1) || decide (t.kind = 3))) = true := by rw [← h]; cases w.mv <;> cases decide (t.move = noS) <;> cases decide (ch = 1) <;> rfl
    simp [permB, h']
  intro h
  have h' : (w.mv && (decide (t.move = noS) || decide (ch = 1) || decide (t.kind = 3))) = false := by rw [← h]; cases w.mv <;> cases decide (t.move = noS) <;> cases decide (ch = 1) <;> rfl
  try refine v39U6 ?_
  refine ifA ?_ ?_
  · intro h2
    have h2' : ch = 3 ∨ ch = 4 := by
      by_cases e : ch = 3
      · exact .inl e
      · right; simpa [e] using h2
    (repeat (first | refine v39U6 ?_ | (refine caA [] (hft) ?_; rintro r st' ⟨rfl, rfl⟩; refine frA ?_)))
    refine rtA (by simp only [kR, Tryz.results39, ↓reduceIte, Nat.reduceEqDiff, reduceCtorEq]; first | done | rfl) ([]) ?_
    refine ⟨?_, rfl⟩
    simp only [permB, h', if_pos h2', Bool.not_false, Bool.true_and]
    cases typBad w.base w.kw w.xe <;> simp
  intro h2
  have h2' : ¬ (ch = 3 ∨ ch = 4) := by
    rintro (e | e) <;> simp [e] at h2
  try refine v39U6 ?_
  refine rtA (by simp only [kR, Tryz.results39, ↓reduceIte, Nat.reduceEqDiff, reduceCtorEq]; first | done | rfl) ([]) ?_
  refine ⟨?_, rfl⟩
  simp only [permB, h', if_neg h2', Bool.not_false, Bool.true_and]
def k80 := And.intro @Tryz.ntmps80 <| And.intro @bld100 <| And.intro @bld41 <| And.intro @bld44 <| And.intro @bld46 <| And.intro @bld54 <| And.intro @fld100_2 <| And.intro @fld46_4 <| And.intro @fld46_5 <| And.intro @ti100 <| And.intro @ti41 <| And.intro @ti44 <| And.intro @ti46 <| @ti54
theorem v80U6 {G G' : Prop} (g : G') (h : Hid G' → G := by intro h9; (first | refine nvB ?_ | refine goA (wr := false) (by simp only [kB, k80, Nat.reduceAdd, Nat.reduceLT, Nat.reduceEqDiff, ↓reduceIte, reduceCtorEq]; first | done | rfl) ?_); (repeat (first | refine nvB ?_ | refine goA (wr := false) (by simp only [kB, k80, Nat.reduceAdd, Nat.reduceLT, Nat.reduceEqDiff, ↓reduceIte, reduceCtorEq]; first | done | rfl) ?_)); exact h9.out) : G := h ⟨g⟩
set_option maxRecDepth 100000 in
set_option maxHeartbeats 4000000 in
theorem ofSource_ac (d : Dep) (t : Tsk) (s h : Rev) (w : Rsn) : AC Tryz.prog 80 [.agg ((encPrb d t s h).map C.d), aRsn w] [] (fun r st => r = .tup [(true, [.d (.v (.int .i64 s.base)), .d (.v (.bool s.kw)), .d (.v (.bool s.ex)), .d (.v (.bool s.xe))]), (true, [.d (.v (.int .u64 s.sum)), .d (.v (.int .i64 s.size))])] ∧ st = []) := by
  refine AC_enter Tryz.func80 rfl rfl (by simp only [Tryz.ntmps80, List.length]; omega) ?_
  intro x hx
  simp only [List.range, List.range.loop, List.length, List.zip, List.zipWith, Nat.reduceAdd, Tryz.ntmps80]
  try refine v80U6 ?_
  refine drA (wr := false) ([] : List (Nat × AV)) (by simp only [kD, kB, k80, Nat.reduceAdd, Nat.reduceLT, Nat.reduceEqDiff, ↓reduceIte, reduceCtorEq]; first | done | rfl) ?_ ?_
  · exact obN
  refine nvA ?_
  refine rtA (by simp only [kR, Tryz.results80, ↓reduceIte, Nat.reduceEqDiff, reduceCtorEq, effLoad, cellsOf, List.map, List.length_cons, List.length_nil, List.getD_cons_zero, List.getD_cons_succ, List.getD_nil, List.drop, List.take, splice, ti41, ti44]; first | done | rfl) ([]) ?_
  refine ⟨?_, rfl⟩
  rfl
def k81 := And.intro @Tryz.ntmps81 <| And.intro @bld100 <| And.intro @bld41 <| And.intro @bld44 <| And.intro @bld46 <| And.intro @bld54 <| And.intro @fld100_3 <| And.intro @fld46_4 <| And.intro @fld46_5 <| And.intro @ti100 <| And.intro @ti41 <| And.intro @ti44 <| And.intro @ti46 <| @ti54
theorem v81U6 {G G' : Prop} (g : G') (h : Hid G' → G := by intro h9; (first | refine nvB ?_ | refine goA (wr := false) (by simp only [kB, k81, Nat.reduceAdd, Nat.reduceLT, Nat.reduceEqDiff, ↓reduceIte, reduceCtorEq]; first | done | rfl) ?_); (repeat (first | refine nvB ?_ | refine goA (wr := false) (by simp only [kB, k81, Nat.reduceAdd, Nat.reduceLT, Nat.reduceEqDiff, ↓reduceIte, reduceCtorEq]; first | done | rfl) ?_)); exact h9.out) : G := h ⟨g⟩
set_option maxRecDepth 100000 in
set_option maxHeartbeats 4000000 in
theorem ofTarget_ac (d : Dep) (t : Tsk) (s h : Rev) (w : Rsn) : AC Tryz.prog 81 [.agg ((encPrb d t s h).map C.d), aRsn w] [] (fun r st => r = .tup [(true, [.d (.v (.int .i64 h.base)), .d (.v (.bool h.kw)), .d (.v (.bool h.ex)), .d (.v (.bool h.xe))]), (true, [.d (.v (.int .u64 h.sum)), .d (.v (.int .i64 h.size))])] ∧ st = []) := by
  refine AC_enter Tryz.func81 rfl rfl (by simp only [Tryz.ntmps81, List.length]; omega) ?_
  intro x hx
  simp only [List.range, List.range.loop, List.length, List.zip, List.zipWith, Nat.reduceAdd, Tryz.ntmps81]
  try refine v81U6 ?_
  refine drA (wr := false) ([] : List (Nat × AV)) (by simp only [kD, kB, k81, Nat.reduceAdd, Nat.reduceLT, Nat.reduceEqDiff, ↓reduceIte, reduceCtorEq]; first | done | rfl) ?_ ?_
  · exact obN
  refine nvA ?_
  refine rtA (by simp only [kR, Tryz.results81, ↓reduceIte, Nat.reduceEqDiff, reduceCtorEq, effLoad, cellsOf, List.map, List.length_cons, List.length_nil, List.getD_cons_zero, List.getD_cons_succ, List.getD_nil, List.drop, List.take, splice, ti41, ti44]; first | done | rfl) ([]) ?_
  refine ⟨?_, rfl⟩
  rfl
def k82 := And.intro @Tryz.ntmps82 <| And.intro @bld100 <| And.intro @bld41 <| And.intro @bld44 <| And.intro @bld46 <| And.intro @bld54 <| And.intro @fld100_3 <| And.intro @fld46_4 <| And.intro @ti100 <| And.intro @ti41 <| And.intro @ti44 <| And.intro @ti46 <| @ti54
theorem v82U6 {G G' : Prop} (g : G') (h : Hid G' → G := by intro h9; (first | refine nvB ?_ | refine goA (wr := false) (by simp only [kB, kS, k82, Nat.reduceAdd, Nat.reduceLT, Nat.reduceEqDiff, ↓reduceIte, reduceCtorEq]; first | done | rfl) ?_); (repeat (first | refine nvB ?_ | refine goA (wr := false) (by simp only [kB, kS, k82, Nat.reduceAdd, Nat.reduceLT, Nat.reduceEqDiff, ↓reduceIte, reduceCtorEq]; first | done | rfl) ?_)); exact h9.out) : G := h ⟨g⟩
set_option maxRecDepth 100000 in
set_option maxHeartbeats 4000000 in
theorem ofDeleted_ac (d : Dep) (t : Tsk) (s h : Rev) (w : Rsn) : AC Tryz.prog 82 [.agg ((encPrb d t s h).map C.d), aRsn w] [] (fun r st => r = .tup [(true, [.d (.v (.int .i64 h.base)), .d (.v (.bool h.kw)), .d (.v (.bool h.ex)), .d (.v (.bool h.xe))]), (true, [.d (.v (.int .u64 0)), .d (.v (.int .i64 0))])] ∧ st = []) := by
  refine AC_enter Tryz.func82 rfl rfl (by simp only [Tryz.ntmps82, List.length]; omega) ?_
  intro x hx
  simp only [List.range, List.range.loop, List.length, List.zip, List.zipWith, Nat.reduceAdd, Tryz.ntmps82]
  try refine v82U6 ?_
  refine rtA (by simp only [kR, Tryz.results82, ↓reduceIte, Nat.reduceEqDiff, reduceCtorEq, effLoad, cellsOf, List.map, List.length_cons, List.length_nil, List.getD_cons_zero, List.getD_cons_succ, List.getD_nil, List.drop, List.take, splice, ti41, ti44]; first | done | rfl) ([]) ?_
  refine ⟨?_, rfl⟩
  rfl
def k83 := And.intro @Tryz.ntmps83 <| And.intro @bld100 <| And.intro @bld41 <| And.intro @bld44 <| And.intro @bld54 <| And.intro @fld54_0 <| And.intro @fld54_1 <| And.intro @ti100 <| And.intro @ti41 <| And.intro @ti44 <| @ti54
theorem v83U6 {G G' : Prop} (g : G') (h : Hid G' → G := by intro h9; (first | refine nvB ?_ | refine goA (wr := false) (by simp only [kB, k83, Nat.reduceAdd, Nat.reduceLT, Nat.reduceEqDiff, ↓reduceIte, reduceCtorEq]; first | done | rfl) ?_); (repeat (first | refine nvB ?_ | refine goA (wr := false) (by simp only [kB, k83, Nat.reduceAdd, Nat.reduceLT, Nat.reduceEqDiff, ↓reduceIte, reduceCtorEq]; first | done | rfl) ?_)); exact h9.out) : G := h ⟨g⟩
set_option maxRecDepth 100000 in
set_option maxHeartbeats 4000000 in
theorem ofMerge_ac (d : Dep) (t : Tsk) (s h : Rev) (w : Rsn) : AC Tryz.prog 83 [.agg ((encPrb d t s h).map C.d), aRsn w] [] (fun r st => r = .tup [(true, [.d (.v (.int .i64 w.base)), .d (.v (.bool w.kw)), .d (.v (.bool w.ex)), .d (.v (.bool w.xe))]), (true, [.d (.v (.int .u64 w.sum)), .d (.v (.int .i64 w.size))])] ∧ st = []) := by
  refine AC_enter Tryz.func83 rfl rfl (by simp only [Tryz.ntmps83, List.length]; omega) ?_
  intro x hx
  simp only [List.range, List.range.loop, List.length, List.zip, List.zipWith, Nat.reduceAdd, Tryz.ntmps83]
  try refine v83U6 ?_
  refine drA (wr := false) ([] : List (Nat × AV)) (by simp only [kD, kB, k83, Nat.reduceAdd, Nat.reduceLT, Nat.reduceEqDiff, ↓reduceIte, reduceCtorEq]; first | done | rfl) ?_ ?_
  · exact obN
  refine nvA ?_
  refine rtA (by simp only [kR, Tryz.results83, ↓reduceIte, Nat.reduceEqDiff, reduceCtorEq, effLoad, cellsOf, List.map, List.length_cons, List.length_nil, List.getD_cons_zero, List.getD_cons_succ, List.getD_nil, List.drop, List.take, splice, ti41, ti44]; first | done | rfl) ([]) ?_
  refine ⟨?_, rfl⟩
  rfl
end Go.Proofs.YtmhboloicpieeaaGreatDoor
namespace Go.Proofs.YtmhboloicpieeaaGreatDoor
open Go.Ab Tys
variable [Dr]
theorem resA_bad {d : Dep} {t : Tsk} {ch : Int} {w : Rsn} (hf : fitsB d t = true) (h : (allowB t.kind ch && permB t ch w) = false) : resA d t ch w = .tup [nilP, nilP, pI 171] := by
  simp [resA, hf, h]
theorem resA_ok {d : Dep} {t : Tsk} {ch : Int} {w : Rsn} (hf : fitsB d t = true) (h1 : allowB t.kind ch = true) (h2 : permB t ch w = true) : resA d t ch w = .tup [(false, [.d (.ps 12 ((resEs d t ch w).map encEdt))]), (false, [.d (.ps 6 [encRcd (resRc d t ch w)])]), pI 0] := by
  simp [resA, hf, h1, h2]
end Go.Proofs.YtmhboloicpieeaaGreatDoor
namespace Go.Proofs.YtmhboloicpieeaaGreatDoor
open Go.Ab Tys
variable [Dr]
theorem Built.rc {l : List Chg} {d : Dep} (h : Built l d) : RcGood d.recs := by
  induction h with
  | nil => intro r hr; simp [zDep] at hr
  | skip c h ih => exact ih
  | @app l d c h hc hk ih =>
    refine sortR_mem fun r hr => ?_
    rcases List.mem_append.1 hr with hr | hr
    · exact ih r hr
    · obtain ⟨i, hi, e⟩ := List.mem_iff_getElem.1 hr
      have h0 := hk.recd i hi
      rw [show c.recs.getD i zRcd = r by simp [List.getD, hi, e]] at h0
      have h1 := h0.okHi
      have h2 : (log d r.frm).length ≤ d.revs.length := List.length_filter_le ..
      have h3 := h.ok.1
      exact ⟨h0.okLo, h0.okLe, by omega, h0.okHow.1, h0.okHow.2⟩
end Go.Proofs.YtmhboloicpieeaaGreatDoor

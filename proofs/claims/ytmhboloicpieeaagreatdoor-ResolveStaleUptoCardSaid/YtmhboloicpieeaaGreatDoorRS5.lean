/- A part of the proof. -/
import Derived.Test.YtmhboloicpieeaaGreatDoorRPD
import Derived.Test.YtmhboloicpieeaaGreatDoorRP14
set_option linter.all false
namespace Go.Proofs.YtmhboloicpieeaaGreatDoor
open Go.Ab Tys
variable [Dr]
def k7 := And.intro @Tryz.ntmps7 <| And.intro @Tryz.underlying22 <| And.intro @Tryz.underlying28 <| And.intro @Tryz.underlying50 <| And.intro @Tryz.underlying9 <| And.intro @bld56 <| And.intro @bld62 <| And.intro @bld76 <| And.intro @elt22 <| And.intro @elt28 <| And.intro @elt50 <| And.intro @fld56_0 <| And.intro @fld56_5 <| And.intro @fld62_3 <| And.intro @fld62_4 <| And.intro @fld76_0 <| And.intro @fld76_3 <| And.intro @ti22 <| And.intro @ti28 <| And.intro @ti50 <| And.intro @ti56 <| And.intro @ti62 <| And.intro @ti76 <| @ti9
theorem v7H8 {G G' : Prop} (g : G') (h : Hid G' → G := by intro h9; (first | refine nvB ?_ | refine goA (wr := false) (by simp only [kB, kG, k7, Nat.reduceAdd, Nat.reduceLT, Nat.reduceEqDiff, ↓reduceIte, reduceCtorEq]; first | done | rfl) ?_); (repeat (first | refine nvB ?_ | refine goA (wr := false) (by simp only [kB, kG, k7, Nat.reduceAdd, Nat.reduceLT, Nat.reduceEqDiff, ↓reduceIte, reduceCtorEq]; first | done | rfl) ?_)); exact h9.out) : G := h ⟨g⟩
set_option maxRecDepth 100000 in
set_option maxHeartbeats 16000000 in
theorem small_ac (l : List Chg) (hf : Few l) :
  AC Tryz.prog 7 [.c (.d (.ps 5 (l.map encChg)))] [] (fun r st => (∃ b : Bool, r = B b ∧ (b = true → l.length ≤ 40 ∧ tot l ≤ 200 ∧ ∀ c ∈ l, sC c)) ∧ st = []) := by
 have hlen := hf.len
 have htot := hf.tot
 refine AC_enter Tryz.func7 rfl rfl (by simp only [Tryz.ntmps7, List.length]; omega) ?_
 intro x hx
 simp only [List.range, List.range.loop, List.length, List.zip, List.zipWith, Nat.reduceAdd, Tryz.ntmps7]
 try refine v7H8 ?_
 refine T_loop (ι := Nat) (I := fun k => ⟨65, [(0, .c (.d (.ps 5 (l.map encChg)))), (3, I .i64 (tot (l.take k))), (10, .c (.d (.ps 5 (l.map encChg)))), (11, I .i64 l.length), (12, I .i64 k)], []⟩)
  (Inv := fun k => k ≤ l.length ∧ ∀ c ∈ l.take k, sC c) (μ := fun k => l.length - k) 0 ⟨by omega, by simp⟩ ?_ ?_
 ·(refine Ent_sub (fun i => i) rfl ?_ ⟨?_, ?_, ?_, keepI hx (by simp [domOf, Ab.get])⟩ <;> first | (simp only [kE, dArr, ↓reduceIte, Nat.reduceEqDiff, reduceCtorEq, tot]; done) | simp [renAV_id, renAO_id, flat_up, Ab.get, clAV, clC, clCs, clAO, cl_f1, cl_s1, cl_f2, cl_s2, cl_a1, domOf, List.flatten, tot])
 rintro k ⟨hk, hall⟩
 have htk0 := tot_take l k
 try refine v7H8 ?_
 refine ifA ?_ ?_
 ·intro hlt
  have hlt' : k < l.length := by simpa using hlt
  obtain ⟨c, hc, he, htk⟩ := round encChg l k zChg hlt'
  have hm := List.mem_of_getElem? hc
  have htm := tot_mem hm
  have htk1 := tot_take l (k + 1)
  have e1 : tot (l.take (k + 1)) = tot (l.take k) + (c.edits.length + c.recs.length) := by rw [htk, tot_append]; simp [tot]
  have e2 : (((tot (l.take k) : Nat) : Int) + (((c.edits.length : Nat) : Int) + ((c.recs.length : Nat) : Int))) = ((tot (l.take (k + 1)) : Nat) : Int) := by rw [e1]; omega
  (repeat (first | refine nvB ?_ | refine goA (wr := false) (by simp only [kB, kG, k7, Nat.reduceAdd, Nat.reduceLT, Nat.reduceEqDiff, ↓reduceIte, reduceCtorEq, he, e2]; first | done | rfl) ?_))
  refine T_loop (ι := Nat) (I := fun j => ⟨65, [(0, .c (.d (.ps 5 (l.map encChg)))), (3, I .i64 (tot (l.take (k + 1)))), (5, .c (.ptr 5 0)), (10, .c (.d (.ps 5 (l.map encChg)))), (11, I .i64 l.length), (12, I .i64 k), (26, .c (.d (.ps 12 (c.edits.map encEdt)))), (27, I .i64 c.edits.length), (28, I .i64 j)], [(5, .box ((encChg c).map C.d))]⟩)
   (Inv := fun j => j ≤ c.edits.length ∧ ∀ e ∈ c.edits.take j, sE e) (μ := fun j => c.edits.length - j) 0 ⟨by omega, by simp⟩ ?_ ?_
  ·exact enA
  rintro j ⟨hj, hej⟩
  try refine v7H8 ?_
  refine ifA ?_ ?_
  ·intro hlt2
   have hlt2' : j < c.edits.length := by simpa using hlt2
   obtain ⟨y, hy, hey, hty⟩ := round encEdt c.edits j zEdt hlt2'
   have hys := hf.es c hm y (List.mem_of_getElem? hy)
   (repeat (first | refine nvB ?_ | refine goA (wr := false) (by simp only [kB, kG, k7, Nat.reduceAdd, Nat.reduceLT, Nat.reduceEqDiff, ↓reduceIte, reduceCtorEq, hey]; first | done | rfl) ?_))
   refine ifA ?_ ?_
   ·intro _
    try refine v7H8 ?_
    refine rtA (by simp only [kR, Tryz.results7, ↓reduceIte, Nat.reduceEqDiff, reduceCtorEq]; first | done | rfl) ([]) ?_
    refine ⟨?_, rfl⟩
    exact ⟨_, rfl, fun h => by cases h⟩
   intro hb
   have hb' : sE y := by simp at hb; unfold sE; omega
   try refine v7H8 ?_
   refine ⟨j + 1, ⟨by omega, ?_⟩, by omega, ?_⟩
   ·intro u hu
    rw [hty, List.mem_append] at hu
    rcases hu with hu | hu
    ·exact hej u hu
    ·simp at hu; rw [hu]; exact hb'
   ·exact enA
  intro hge2
  have hge2' : j = c.edits.length := by have : ¬ j < c.edits.length := by simpa using hge2
                                        omega
  rw [hge2', List.take_length] at hej
  try refine v7H8 ?_
  refine T_loop (ι := Nat) (I := fun j => ⟨65, [(0, .c (.d (.ps 5 (l.map encChg)))), (3, I .i64 (tot (l.take (k + 1)))), (10, .c (.d (.ps 5 (l.map encChg)))), (11, I .i64 l.length), (12, I .i64 k), (42, .c (.d (.ps 6 (c.recs.map encRcd)))), (43, I .i64 c.recs.length), (44, I .i64 j)], []⟩)
   (Inv := fun j => j ≤ c.recs.length ∧ ∀ e ∈ c.recs.take j, sR e) (μ := fun j => c.recs.length - j) 0 ⟨by omega, by simp⟩ ?_ ?_
  ·exact enA
  rintro j2 ⟨hj2, hrj⟩
  try refine v7H8 ?_
  refine ifA ?_ ?_
  ·intro hlt2
   have hlt2' : j2 < c.recs.length := by simpa using hlt2
   obtain ⟨y, hy, hey, hty⟩ := round encRcd c.recs j2 zRcd hlt2'
   have hys := hf.rs c hm y (List.mem_of_getElem? hy)
   (repeat (first | refine nvB ?_ | refine goA (wr := false) (by simp only [kB, kG, k7, Nat.reduceAdd, Nat.reduceLT, Nat.reduceEqDiff, ↓reduceIte, reduceCtorEq, hey]; first | done | rfl) ?_))
   refine ifA ?_ ?_
   ·intro _
    try refine v7H8 ?_
    refine rtA (by simp only [kR, Tryz.results7, ↓reduceIte, Nat.reduceEqDiff, reduceCtorEq]; first | done | rfl) ([]) ?_
    refine ⟨?_, rfl⟩
    exact ⟨_, rfl, fun h => by cases h⟩
   intro hb
   have hb' : sR y := by simp at hb; unfold sR; omega
   try refine v7H8 ?_
   refine ⟨j2 + 1, ⟨by omega, ?_⟩, by omega, ?_⟩
   ·intro u hu
    rw [hty, List.mem_append] at hu
    rcases hu with hu | hu
    ·exact hrj u hu
    ·simp at hu; rw [hu]; exact hb'
   ·exact enA
  intro hge3
  have hge3' : j2 = c.recs.length := by have : ¬ j2 < c.recs.length := by simpa using hge3
                                        omega
  rw [hge3', List.take_length] at hrj
  try refine v7H8 ?_
  refine ⟨k + 1, ⟨by omega, ?_⟩, by omega, ?_⟩
  ·intro u hu
   rw [htk, List.mem_append] at hu
   rcases hu with hu | hu
   ·exact hall u hu
   ·simp at hu; rw [hu]; exact ⟨hej, hrj⟩
  ·exact enA
 intro hge
 have hge' : k = l.length := by have : ¬ k < l.length := by simpa using hge
                                omega
 rw [hge', List.take_length] at hall
 try refine v7H8 ?_
 refine rtA (by simp only [kR, Tryz.results7, ↓reduceIte, Nat.reduceEqDiff, reduceCtorEq]; first | done | rfl) ([]) ?_
 refine ⟨?_, rfl⟩
 refine ⟨_, rfl, fun h => ?_⟩
 rw [hge', List.take_length] at h
 simp at h
 exact ⟨by omega, by omega, hall⟩
def Plus {κ : Type} (a b c : List κ) : Prop := ∀ k, k ∈ a ↔ k ∈ b ∨ k ∈ c
theorem Plus.nil {κ : Type} {a b : List κ} (h : Plus a b []) : ∀ k, k ∈ a ↔ k ∈ b := fun k => by rw [h k]; simp
def k69 := And.intro @Tryz.ntmps69 <| And.intro @bld37 <| And.intro @kyt37 <| And.intro @mpt157 <| And.intro @ti157 <| And.intro @ti37 <| @ti4
theorem v69S3 {G G' : Prop} (g : G') (h : Hid G' → G := by intro h9; (first | refine nvB ?_ | refine goA (wr := false) (by simp only [kB, kM, k69, Nat.reduceAdd, Nat.reduceLT, Nat.reduceEqDiff, ↓reduceIte, reduceCtorEq]; first | done | rfl) ?_); (repeat (first | refine nvB ?_ | refine goA (wr := false) (by simp only [kB, kM, k69, Nat.reduceAdd, Nat.reduceLT, Nat.reduceEqDiff, ↓reduceIte, reduceCtorEq]; first | done | rfl) ?_)); exact h9.out) : G := h ⟨g⟩
set_option maxRecDepth 100000 in
set_option maxHeartbeats 4000000 in
theorem add_ac (id : Nat) (h4 : ¬ id = 4) (h6 : ¬ id = 6) (l0 : List Fil) (t : Option (List Fil)) : AC Tryz.prog 69 [.c (.mp id), .c (.d (dSet kF t))] [(id, uMap kF l0)] (fun r st => ∃ l, Plus l l0 (t.getD []) ∧ st = [(id, uMap kF l)]) := by
 have g4 : ¬ 4 = id := fun h => h4 h.symm
 have g6 : ¬ 6 = id := fun h => h6 h.symm
 refine AC_enter Tryz.func69 rfl rfl (by simp only [Tryz.ntmps69, List.length]; omega) ?_
 intro x hx
 simp only [List.range, List.range.loop, List.length, List.zip, List.zipWith, Nat.reduceAdd, Tryz.ntmps69]
 cases t with
 | none =>
   (repeat (first | refine nvB ?_ | refine goA (wr := false) (by simp only [kB, kM, k69, Nat.reduceAdd, Nat.reduceLT, Nat.reduceEqDiff, ↓reduceIte, reduceCtorEq, h4, h6, g4, g6, if_false]; first | done | rfl) ?_))
   refine T_loop (ι := Option EntD × List Fil × List Fil) (I := fun i => ⟨13, [(0, .c (.mp id)), (6, .c (.ptr 6 0))], [(id, uMap kF i.2.2), (6, .iter i.1 (sEnt kF i.2.1))]⟩)
    (Inv := fun i => ∀ k, (k ∈ i.2.2 ∨ k ∈ i.2.1) ↔ (k ∈ l0 ∨ k ∈ Option.getD none [])) (μ := fun i => i.2.1.length) (none, [], l0) (by simp) ?_ ?_
   ·(refine Ent_sub (fun i => i) rfl ?_ ⟨?_, ?_, ?_, keepI hx (by simp [domOf, Ab.get])⟩ <;> first | (simp only [kE, dArr, ↓reduceIte, Nat.reduceEqDiff, reduceCtorEq, h6, g6]; done) | simp [renAV_id, renAO_id, flat_up, Ab.get, clAV, clC, clCs, clAO, cl_f1, cl_s1, cl_f2, cl_s2, cl_a1, domOf, List.flatten, h6, g6])
   rintro ⟨cur, rest, l⟩ h
   simp only at h ⊢
   refine nvA ?_
   refine TO_next (id := 6) (cur := cur) (left := sEnt kF rest) (by simp) rfl (by simp [Ab.get, h6]) ?_ ?_
   ·intro h0
    simp only [kP, Nat.reduceEqDiff, ↓reduceIte, reduceCtorEq, h4, h6, g4, g6]
    try refine v69S3 ?_
    refine ifA ?_ ?_
    ·intro hh; cases hh
    intro _
    try refine v69S3 ?_
    refine RetQ_norm (by simp only [kR, Tryz.results69, ↓reduceIte, Nat.reduceEqDiff, reduceCtorEq]; first | done | rfl) (by first | exact trivial | (simp only [kO]; omega) | (simp [All, InR]; first | done | omega) | (simp +contextual [All, InR]; first | done | grind)) [(id, uMap kF l)] ⟨by simp [Ab.get, renAO_id, h6, g6], by simp, by simp [clAO, cl_f1, cl_s1, cl_f2, cl_s2, cl_a1, flat_up, clCs, clC, domOf, Ab.get, h6, g6], keepI hx (by simp [domOf, Ab.get, h6, g6])⟩ (by simp [clAV, clPs, clCs, clC, domOf, Ab.get, h6, g6]) ?_
    have : rest = [] := by simpa [sEnt] using h0
    subst this
    exact ⟨l, fun k => by rw [← h k]; simp, rfl⟩
   intro l1 e l2 hsp
   obtain ⟨xs, k, y, rfl, rfl, rfl, rfl⟩ := sEnt_split hsp
   simp only [kP, Nat.reduceEqDiff, ↓reduceIte, reduceCtorEq, h4, h6, g4, g6]
   (repeat (first | refine nvB ?_ | refine goA (wr := false) (by simp only [kB, kM, k69, Nat.reduceAdd, Nat.reduceLT, Nat.reduceEqDiff, ↓reduceIte, reduceCtorEq, upD, h4, h6, g4, g6]; first | done | rfl) ?_))
   refine ifA ?_ ?_
   rotate_left
   ·intro hh; cases hh
   intro _
   (repeat (first | refine nvB ?_ | refine goA (wr := false) (by simp only [kB, kM, k69, Nat.reduceAdd, Nat.reduceLT, Nat.reduceEqDiff, ↓reduceIte, reduceCtorEq, upD, h4, h6, g4, g6]; first | done | rfl) ?_))
   refine TO_go (wr := false) 400 (by simp only [kB, kM, k69, Nat.reduceAdd, Nat.reduceLT, Nat.reduceEqDiff, ↓reduceIte, reduceCtorEq, ins_F, h4, h6, g4, g6]; first | done | rfl) ?_ ?_
   ·exact obT (ty_F l)
   try refine v69S3 ?_
   refine ⟨(some (kF k, (false, [.v (.bool true)])), xs ++ y, addS l k), ?_, by simp, ?_⟩
   ·intro j
    rw [← h j, mem_addS]
    simp only [List.mem_append, List.mem_cons]
    constructor
    ·rintro ((h | h) | h | h)
     ·exact .inl h
     ·exact .inr (.inr (.inl h))
     ·exact .inr (.inl h)
     ·exact .inr (.inr (.inr h))
    ·rintro (h | h | h | h)
     ·exact .inl (.inl h)
     ·exact .inr (.inl h)
     ·exact .inl (.inr h)
     ·exact .inr (.inr h)
   ·(refine Ent_sub (fun i => i) rfl ?_ ⟨?_, ?_, ?_, keepI hx (by simp [domOf, Ab.get])⟩ <;> first | (simp only [kE, dArr, ↓reduceIte, Nat.reduceEqDiff, reduceCtorEq, h6, g6]; done) | simp [renAV_id, renAO_id, flat_up, Ab.get, clAV, clC, clCs, clAO, cl_f1, cl_s1, cl_f2, cl_s2, cl_a1, domOf, List.flatten, h6, g6])
 | some m =>
   (repeat (first | refine nvB ?_ | refine goA (wr := false) (by simp only [kB, kM, k69, Nat.reduceAdd, Nat.reduceLT, Nat.reduceEqDiff, ↓reduceIte, reduceCtorEq, h4, h6, g4, g6, if_false]; first | done | rfl) ?_))
   refine T_loop (ι := Option EntD × List Fil × List Fil) (I := fun i => ⟨13, [(0, .c (.mp id)), (6, .c (.ptr 6 0))], [(id, uMap kF i.2.2), (6, .iter i.1 (sEnt kF i.2.1))]⟩)
    (Inv := fun i => ∀ k, (k ∈ i.2.2 ∨ k ∈ i.2.1) ↔ (k ∈ l0 ∨ k ∈ Option.getD (some m) [])) (μ := fun i => i.2.1.length) (none, m, l0) (by simp) ?_ ?_
   ·(refine Ent_sub (fun i => i) rfl ?_ ⟨?_, ?_, ?_, keepI hx (by simp [domOf, Ab.get])⟩ <;> first | (simp only [kE, dArr, ↓reduceIte, Nat.reduceEqDiff, reduceCtorEq, h6, g6]; done) | simp [renAV_id, renAO_id, flat_up, Ab.get, clAV, clC, clCs, clAO, cl_f1, cl_s1, cl_f2, cl_s2, cl_a1, domOf, List.flatten, h6, g6])
   rintro ⟨cur, rest, l⟩ h
   simp only at h ⊢
   refine nvA ?_
   refine TO_next (id := 6) (cur := cur) (left := sEnt kF rest) (by simp) rfl (by simp [Ab.get, h6]) ?_ ?_
   ·intro h0
    simp only [kP, Nat.reduceEqDiff, ↓reduceIte, reduceCtorEq, h4, h6, g4, g6]
    try refine v69S3 ?_
    refine ifA ?_ ?_
    ·intro hh; cases hh
    intro _
    try refine v69S3 ?_
    refine RetQ_norm (by simp only [kR, Tryz.results69, ↓reduceIte, Nat.reduceEqDiff, reduceCtorEq]; first | done | rfl) (by first | exact trivial | (simp only [kO]; omega) | (simp [All, InR]; first | done | omega) | (simp +contextual [All, InR]; first | done | grind)) [(id, uMap kF l)] ⟨by simp [Ab.get, renAO_id, h6, g6], by simp, by simp [clAO, cl_f1, cl_s1, cl_f2, cl_s2, cl_a1, flat_up, clCs, clC, domOf, Ab.get, h6, g6], keepI hx (by simp [domOf, Ab.get, h6, g6])⟩ (by simp [clAV, clPs, clCs, clC, domOf, Ab.get, h6, g6]) ?_
    have : rest = [] := by simpa [sEnt] using h0
    subst this
    exact ⟨l, fun k => by rw [← h k]; simp, rfl⟩
   intro l1 e l2 hsp
   obtain ⟨xs, k, y, rfl, rfl, rfl, rfl⟩ := sEnt_split hsp
   simp only [kP, Nat.reduceEqDiff, ↓reduceIte, reduceCtorEq, h4, h6, g4, g6]
   (repeat (first | refine nvB ?_ | refine goA (wr := false) (by simp only [kB, kM, k69, Nat.reduceAdd, Nat.reduceLT, Nat.reduceEqDiff, ↓reduceIte, reduceCtorEq, upD, h4, h6, g4, g6]; first | done | rfl) ?_))
   refine ifA ?_ ?_
   rotate_left
   ·intro hh; cases hh
   intro _
   (repeat (first | refine nvB ?_ | refine goA (wr := false) (by simp only [kB, kM, k69, Nat.reduceAdd, Nat.reduceLT, Nat.reduceEqDiff, ↓reduceIte, reduceCtorEq, upD, h4, h6, g4, g6]; first | done | rfl) ?_))
   refine TO_go (wr := false) 400 (by simp only [kB, kM, k69, Nat.reduceAdd, Nat.reduceLT, Nat.reduceEqDiff, ↓reduceIte, reduceCtorEq, ins_F, h4, h6, g4, g6]; first | done | rfl) ?_ ?_
   ·exact obT (ty_F l)
   try refine v69S3 ?_
   refine ⟨(some (kF k, (false, [.v (.bool true)])), xs ++ y, addS l k), ?_, by simp, ?_⟩
   ·intro j
    rw [← h j, mem_addS]
    simp only [List.mem_append, List.mem_cons]
    constructor
    ·rintro ((h | h) | h | h)
     ·exact .inl h
     ·exact .inr (.inr (.inl h))
     ·exact .inr (.inl h)
     ·exact .inr (.inr (.inr h))
    ·rintro (h | h | h | h)
     ·exact .inl (.inl h)
     ·exact .inr (.inl h)
     ·exact .inl (.inr h)
     ·exact .inr (.inr h)
   ·(refine Ent_sub (fun i => i) rfl ?_ ⟨?_, ?_, ?_, keepI hx (by simp [domOf, Ab.get])⟩ <;> first | (simp only [kE, dArr, ↓reduceIte, Nat.reduceEqDiff, reduceCtorEq, h6, g6]; done) | simp [renAV_id, renAO_id, flat_up, Ab.get, clAV, clC, clCs, clAO, cl_f1, cl_s1, cl_f2, cl_s2, cl_a1, domOf, List.flatten, h6, g6])
end Go.Proofs.YtmhboloicpieeaaGreatDoor

/- A part of the proof. -/
import Derived.Test.YtbllfnmabmamfaaGreatDoorRBd2
import Derived.Test.YtbllfnmabmamfaaGreatDoorQP0
set_option linter.all false
namespace Go.Proofs.YtbllfnmabmamfaaGreatDoor
open Go.Ab Tys
def zSet : Option (List Int) := none
def k138 := And.intro @Tryz.ntmps138 <| And.intro @Tryz.underlying137 <| And.intro @elt137 <| And.intro @kyt3 <| And.intro @mpt191 <| And.intro @ti137 <| And.intro @ti191 <| And.intro @ti3 <| @ti4
theorem v138S4 {G G' : Prop} (g : G') (h : Hid G' → G := by intro h9; (first | refine nvB ?_ | refine goA (wr := false) (by simp only [kB, kM, k138, Nat.reduceAdd, Nat.reduceLT, Nat.reduceEqDiff, ↓reduceIte, reduceCtorEq]; first | done | rfl) ?_); (repeat (first | refine nvB ?_ | refine goA (wr := false) (by simp only [kB, kM, k138, Nat.reduceAdd, Nat.reduceLT, Nat.reduceEqDiff, ↓reduceIte, reduceCtorEq]; first | done | rfl) ?_)); exact h9.out) : G := h ⟨g⟩
set_option maxRecDepth 100000 in
set_option maxHeartbeats 4000000 in
theorem union_ac (sets : List (Option (List Int))) (hn : sets.length ≤ 100000000) : AC Tryz.prog 138 [.c (.d (.ps 1 (sets.map eSet)))] [] (fun r st => (∃ l, (∀ k, k ∈ l ↔ ∃ o ∈ sets, k ∈ o.getD []) ∧ r = .c (.d (.pm (sEnt kN l)))) ∧ st = []) := by
  refine AC_enter Tryz.func138 rfl rfl (by simp only [Tryz.ntmps138, List.length]; omega) ?_
  intro x hx
  simp only [List.range, List.range.loop, List.length, List.zip, List.zipWith, Nat.reduceAdd, Tryz.ntmps138]
  try refine v138S4 ?_
  refine T_loop (ι := Nat × List Int) (I := fun i => ⟨24, [(3, .c (.mp 7)), (8, .c (.d (.ps 1 (sets.map eSet)))), (9, I .i64 sets.length), (10, I .i64 i.1)], [(7, uMap kN i.2)]⟩)
    (Inv := fun i => i.1 ≤ sets.length ∧ ∀ k, k ∈ i.2 ↔ ∃ o ∈ sets.take i.1, k ∈ o.getD []) (μ := fun i => sets.length - i.1) (0, []) ⟨by simp, by simp⟩ ?_ ?_
  · exact enA
  rintro ⟨j, l⟩ ⟨hj, hl⟩
  simp only at hj hl ⊢
  try refine v138S4 ?_
  refine ifA ?_ ?_
  · intro hlt
    have hlt' : j < sets.length := by simpa using hlt
    obtain ⟨o, ho, he, htk⟩ := round eSet sets j zSet hlt'
    cases o with
    | none =>
      (repeat (first | refine nvB ?_ | refine goA (wr := false) (by simp only [kB, kM, k138, Nat.reduceAdd, Nat.reduceLT, Nat.reduceEqDiff, ↓reduceIte, reduceCtorEq, he]; first | done | rfl) ?_))
      refine T_loop (ι := Option EntD × List Int × List Int) (I := fun i => ⟨24, [(3, .c (.mp 7)), (8, .c (.d (.ps 1 (sets.map eSet)))), (9, I .i64 sets.length), (10, I .i64 j), (15, .c (.ptr 15 0))], [(7, uMap kN i.2.2), (15, .iter i.1 (sEnt kN i.2.1))]⟩)
        (Inv := fun i => ∀ k, (k ∈ i.2.2 ∨ k ∈ i.2.1) ↔ (k ∈ l ∨ k ∈ Option.getD (none : Option (List Int)) [])) (μ := fun i => i.2.1.length) (none, [], l) (by simp) ?_ ?_
      · exact enA
      rintro ⟨cur, rest, m⟩ h
      simp only at h ⊢
      refine nvA ?_
      refine TO_next (id := 15) (by simp) (by simp only [kV, ↓reduceIte, Nat.reduceEqDiff, reduceCtorEq]; first | done | rfl) rfl ?_ ?_
      · intro h0
        refine fzA ?_
        try refine v138S4 ?_
        refine ifA ?_ ?_
        · intro hh; cases hh
        intro _
        try refine v138S4 ?_
        have : rest = [] := by simpa [sEnt] using h0
        subst this
        refine ⟨(j + 1, m), ⟨by simp; omega, ?_⟩, by simp; omega, ?_⟩
        · intro k
          have hk := h k
          simp only [List.not_mem_nil, or_false] at hk
          rw [hk, hl k, htk]
          simp
        · exact enA
      intro l1 e l2 hsp
      obtain ⟨xs, k, y, rfl, rfl, rfl, rfl⟩ := sEnt_split hsp
      refine fzA ?_
      (repeat (first | refine nvB ?_ | refine goA (wr := false) (by simp only [kB, kM, k138, Nat.reduceAdd, Nat.reduceLT, Nat.reduceEqDiff, ↓reduceIte, reduceCtorEq, upD]; first | done | rfl) ?_))
      refine ifA ?_ ?_
      rotate_left
      · intro hh; cases hh
      intro _
      (repeat (first | refine nvB ?_ | refine goA (wr := false) (by simp only [kB, kM, k138, Nat.reduceAdd, Nat.reduceLT, Nat.reduceEqDiff, ↓reduceIte, reduceCtorEq, upD]; first | done | rfl) ?_))
      refine TO_go (wr := false) 400 (by simp only [kB, kM, k138, Nat.reduceAdd, Nat.reduceLT, Nat.reduceEqDiff, ↓reduceIte, reduceCtorEq, ins_N]; first | done | rfl) ?_ ?_
      · exact obT (ty_N m)
      try refine v138S4 ?_
      refine ⟨(some (kN k, (false, [.v (.bool true)])), xs ++ y, addS m k), ?_, by simp, ?_⟩
      · intro i
        rw [← h i, mem_addS]
        simp only [List.mem_append, List.mem_cons]
        constructor
        · rintro ((h | h) | h | h)
          · exact .inl h
          · exact .inr (.inr (.inl h))
          · exact .inr (.inl h)
          · exact .inr (.inr (.inr h))
        · rintro (h | h | h | h)
          · exact .inl (.inl h)
          · exact .inr (.inl h)
          · exact .inl (.inr h)
          · exact .inr (.inr h)
      · exact enA
    | some t =>
      (repeat (first | refine nvB ?_ | refine goA (wr := false) (by simp only [kB, kM, k138, Nat.reduceAdd, Nat.reduceLT, Nat.reduceEqDiff, ↓reduceIte, reduceCtorEq, he]; first | done | rfl) ?_))
      refine T_loop (ι := Option EntD × List Int × List Int) (I := fun i => ⟨24, [(3, .c (.mp 7)), (8, .c (.d (.ps 1 (sets.map eSet)))), (9, I .i64 sets.length), (10, I .i64 j), (15, .c (.ptr 15 0))], [(7, uMap kN i.2.2), (15, .iter i.1 (sEnt kN i.2.1))]⟩)
        (Inv := fun i => ∀ k, (k ∈ i.2.2 ∨ k ∈ i.2.1) ↔ (k ∈ l ∨ k ∈ Option.getD (some t) [])) (μ := fun i => i.2.1.length) (none, t, l) (by simp) ?_ ?_
      · exact enA
      rintro ⟨cur, rest, m⟩ h
      simp only at h ⊢
      refine nvA ?_
      refine TO_next (id := 15) (by simp) (by simp only [kV, ↓reduceIte, Nat.reduceEqDiff, reduceCtorEq]; first | done | rfl) rfl ?_ ?_
      · intro h0
        refine fzA ?_
        try refine v138S4 ?_
        refine ifA ?_ ?_
        · intro hh; cases hh
        intro _
        try refine v138S4 ?_
        have : rest = [] := by simpa [sEnt] using h0
        subst this
        refine ⟨(j + 1, m), ⟨by simp; omega, ?_⟩, by simp; omega, ?_⟩
        · intro k
          have hk := h k
          simp only [List.not_mem_nil, or_false] at hk
          rw [hk, hl k, htk]
          simp
        · exact enA
      intro l1 e l2 hsp
      obtain ⟨xs, k, y, rfl, rfl, rfl, rfl⟩ := sEnt_split hsp
      refine fzA ?_
      (repeat (first | refine nvB ?_ | refine goA (wr := false) (by simp only [kB, kM, k138, Nat.reduceAdd, Nat.reduceLT, Nat.reduceEqDiff, ↓reduceIte, reduceCtorEq, upD]; first | done | rfl) ?_))
      refine ifA ?_ ?_
      rotate_left
      · intro hh; cases hh
      intro _
      (repeat (first | refine nvB ?_ | refine goA (wr := false) (by simp only [kB, kM, k138, Nat.reduceAdd, Nat.reduceLT, Nat.reduceEqDiff, ↓reduceIte, reduceCtorEq, upD]; first | done | rfl) ?_))
      refine TO_go (wr := false) 400 (by simp only [kB, kM, k138, Nat.reduceAdd, Nat.reduceLT, Nat.reduceEqDiff, ↓reduceIte, reduceCtorEq, ins_N]; first | done | rfl) ?_ ?_
      · exact obT (ty_N m)
      try refine v138S4 ?_
      refine ⟨(some (kN k, (false, [.v (.bool true)])), xs ++ y, addS m k), ?_, by simp, ?_⟩
      · intro i
        rw [← h i, mem_addS]
        simp only [List.mem_append, List.mem_cons]
        constructor
        · rintro ((h | h) | h | h)
          · exact .inl h
          · exact .inr (.inr (.inl h))
          · exact .inr (.inl h)
          · exact .inr (.inr (.inr h))
        · rintro (h | h | h | h)
          · exact .inl (.inl h)
          · exact .inr (.inl h)
          · exact .inl (.inr h)
          · exact .inr (.inr h)
      · exact enA
  intro hge
  have hge' : j = sets.length := by have : ¬ j < sets.length := by simpa using hge
                                    omega
  rw [hge', List.take_length] at hl
  refine nvA ?_
  refine TO_ent (Ent_frzMapSlot (i := 3) (id := 7) (es := sEnt kN l) rfl rfl) ?_
  refine fzA ?_
  try refine v138S4 ?_
  refine rtA (by simp only [kR, Tryz.results138, ↓reduceIte, Nat.reduceEqDiff, reduceCtorEq]; first | done | rfl) ([]) ?_
  refine ⟨?_, rfl⟩
  exact ⟨l, hl, rfl⟩
end Go.Proofs.YtbllfnmabmamfaaGreatDoor
namespace Go.Proofs.YtbllfnmabmamfaaGreatDoor
open Go.Ab Tys
theorem look0 (k : List C) : findE k [] = none := rfl
theorem all_take {κ : Type} (p : κ → Bool) (x : List κ) (k : κ) (y : List κ) : (x ++ k :: y).all p = (p k && (x ++ y).all p) := by
  simp only [List.all_append, List.all_cons]
  cases x.all p <;> cases p k <;> cases y.all p <;> rfl
def k101 := And.intro @Tryz.ntmps101 <| And.intro @kyt3 <| And.intro @mpt191 <| And.intro @ti191 <| And.intro @ti3 <| @ti4
theorem v101S2 {G G' : Prop} (g : G') (h : Hid G' → G := by intro h9; (first | refine nvB ?_ | refine goA (wr := false) (by simp only [kB, kM, k101, Nat.reduceAdd, Nat.reduceLT, Nat.reduceEqDiff, ↓reduceIte, reduceCtorEq]; first | done | rfl) ?_); (repeat (first | refine nvB ?_ | refine goA (wr := false) (by simp only [kB, kM, k101, Nat.reduceAdd, Nat.reduceLT, Nat.reduceEqDiff, ↓reduceIte, reduceCtorEq]; first | done | rfl) ?_)); exact h9.out) : G := h ⟨g⟩
set_option maxRecDepth 100000 in
set_option maxHeartbeats 4000000 in
theorem within_ac (l m : List Int) : AC Tryz.prog 101 [.c (.d (.pm (sEnt kN l))), .c (.d (.pm (sEnt kN m)))] [] (fun r st => r = B (subB l m) ∧ st = []) := by
  refine AC_enter Tryz.func101 rfl rfl (by simp only [Tryz.ntmps101, List.length]; omega) ?_
  intro x hx
  simp only [List.range, List.range.loop, List.length, List.zip, List.zipWith, Nat.reduceAdd, Tryz.ntmps101]
  try refine v101S2 ?_
  refine T_loop (ι := Option EntD × List Int) (I := fun i => ⟨16, [(1, .c (.d (.pm (sEnt kN m)))), (7, .c (.ptr 7 0))], [(7, .iter i.1 (sEnt kN i.2))]⟩) (Inv := fun i => subB l m = i.2.all (fun k => decide (k ∈ m))) (μ := fun i => i.2.length) (none, l) rfl ?_ ?_
  · exact enA
  rintro ⟨cur, rest⟩ h
  simp only at h ⊢
  refine nvA ?_
  refine TO_next (id := 7) (by simp) (by simp only [kV, ↓reduceIte, Nat.reduceEqDiff, reduceCtorEq]; first | done | rfl) rfl ?_ ?_
  · intro h0
    refine fzA ?_
    try refine v101S2 ?_
    refine ifA ?_ ?_
    · intro hh; cases hh
    intro _
    try refine v101S2 ?_
    refine rtA (by simp only [kR, Tryz.results101, ↓reduceIte, Nat.reduceEqDiff, reduceCtorEq]; first | done | rfl) ([]) ?_
    refine ⟨?_, rfl⟩
    have : rest = [] := by simpa [sEnt] using h0
    rw [h, this]; rfl
  intro l1 e l2 hsp
  obtain ⟨xs, k, y, rfl, rfl, rfl, rfl⟩ := sEnt_split hsp
  refine fzA ?_
  (repeat (first | refine nvB ?_ | refine goA (wr := false) (by simp only [kB, kM, k101, Nat.reduceAdd, Nat.reduceLT, Nat.reduceEqDiff, ↓reduceIte, reduceCtorEq, upD]; first | done | rfl) ?_))
  refine ifA ?_ ?_
  rotate_left
  · intro hh; cases hh
  intro _
  (repeat (first | refine nvB ?_ | refine goA (wr := false) (by simp only [kB, kM, k101, Nat.reduceAdd, Nat.reduceLT, Nat.reduceEqDiff, ↓reduceIte, reduceCtorEq, upD]; first | done | rfl) ?_))
  refine TO_go (wr := false) 400 (by simp only [kB, kM, k101, Nat.reduceAdd, Nat.reduceLT, Nat.reduceEqDiff, ↓reduceIte, reduceCtorEq, look_N]; first | done | rfl) ?_ ?_
  · exact obT (ty_N m)
  try refine v101S2 ?_
  refine ifA ?_ ?_
  · intro hk
    try refine v101S2 ?_
    refine rtA (by simp only [kR, Tryz.results101, ↓reduceIte, Nat.reduceEqDiff, reduceCtorEq]; first | done | rfl) ([]) ?_
    refine ⟨?_, rfl⟩
    rw [h, all_take]
    simp at hk
    simp [hk]
  · intro hk
    try refine v101S2 ?_
    refine ⟨(some (kN k, (false, [.v (.bool true)])), xs ++ y), ?_, by simp, ?_⟩
    · rw [h, all_take]
      simp at hk
      simp [hk]
    · exact enA
end Go.Proofs.YtbllfnmabmamfaaGreatDoor
namespace Go.Proofs.YtbllfnmabmamfaaGreatDoor
open Go.Ab Tys
def k139 := And.intro @Tryz.ntmps139 <| And.intro @kyt3 <| And.intro @mpt191 <| And.intro @ti191 <| And.intro @ti3 <| @ti4
theorem v139S5 {G G' : Prop} (g : G') (h : Hid G' → G := by intro h9; (first | refine nvB ?_ | refine goA (wr := false) (by simp only [kB, kM, k139, Nat.reduceAdd, Nat.reduceLT, Nat.reduceEqDiff, ↓reduceIte, reduceCtorEq]; first | done | rfl) ?_); (repeat (first | refine nvB ?_ | refine goA (wr := false) (by simp only [kB, kM, k139, Nat.reduceAdd, Nat.reduceLT, Nat.reduceEqDiff, ↓reduceIte, reduceCtorEq]; first | done | rfl) ?_)); exact h9.out) : G := h ⟨g⟩
set_option maxRecDepth 100000 in
set_option maxHeartbeats 4000000 in
theorem without_ac (l : List Int) (t : Option (List Int)) : AC Tryz.prog 139 [.c (.d (.pm (sEnt kN l))), .c (.d (dSet kN t))] [] (fun r st => (∃ m, (∀ k, k ∈ m ↔ k ∈ l ∧ ¬ k ∈ t.getD []) ∧ r = .c (.d (.pm (sEnt kN m)))) ∧ st = []) := by
  refine AC_enter Tryz.func139 rfl rfl (by simp only [Tryz.ntmps139, List.length]; omega) ?_
  intro x hx
  simp only [List.range, List.range.loop, List.length, List.zip, List.zipWith, Nat.reduceAdd, Tryz.ntmps139]
  cases t with
  | none =>
    try refine v139S5 ?_
    refine T_loop (ι := Option EntD × List Int × List Int) (I := fun i => ⟨21, [(1, .c (.d (dSet kN none))), (5, .c (.mp 7)), (9, .c (.ptr 9 0))], [(7, uMap kN i.2.2), (9, .iter i.1 (sEnt kN i.2.1))]⟩)
      (Inv := fun i => ∀ k, (k ∈ i.2.2 ∨ k ∈ i.2.1 ∧ ¬ k ∈ Option.getD (none : Option (List Int)) []) ↔ (k ∈ l ∧ ¬ k ∈ Option.getD (none : Option (List Int)) [])) (μ := fun i => i.2.1.length) (none, l, []) (by simp) ?_ ?_
    · exact enA
    rintro ⟨cur, rest, m⟩ h
    simp only at h ⊢
    refine nvA ?_
    refine TO_next (id := 9) (by simp) (by simp only [kV, ↓reduceIte, Nat.reduceEqDiff, reduceCtorEq]; first | done | rfl) rfl ?_ ?_
    · intro h0
      refine fzA ?_
      try refine v139S5 ?_
      refine ifA ?_ ?_
      · intro hh; cases hh
      intro _
      refine nvA ?_
      refine TO_ent (Ent_frzMapSlot (i := 5) (id := 7) (es := sEnt kN m) rfl rfl) ?_
      refine fzA ?_
      try refine v139S5 ?_
      refine rtA (by simp only [kR, Tryz.results139, ↓reduceIte, Nat.reduceEqDiff, reduceCtorEq]; first | done | rfl) ([]) ?_
      refine ⟨?_, rfl⟩
      have : rest = [] := by simpa [sEnt] using h0
      subst this
      exact ⟨m, fun k => by have := h k; simpa using this, rfl⟩
    intro l1 e l2 hsp
    obtain ⟨xs, k, y, rfl, rfl, rfl, rfl⟩ := sEnt_split hsp
    refine fzA ?_
    (repeat (first | refine nvB ?_ | refine goA (wr := false) (by simp only [kB, kM, k139, Nat.reduceAdd, Nat.reduceLT, Nat.reduceEqDiff, ↓reduceIte, reduceCtorEq, upD]; first | done | rfl) ?_))
    refine ifA ?_ ?_
    rotate_left
    · intro hh; cases hh
    intro _
    (repeat (first | refine nvB ?_ | refine goA (wr := false) (by simp only [kB, kM, k139, Nat.reduceAdd, Nat.reduceLT, Nat.reduceEqDiff, ↓reduceIte, reduceCtorEq, upD]; first | done | rfl) ?_))
    refine TO_go (wr := false) 400 (by simp only [kB, kM, k139, Nat.reduceAdd, Nat.reduceLT, Nat.reduceEqDiff, ↓reduceIte, reduceCtorEq, look0]; first | done | rfl) ?_ ?_
    · simp only [All, List.cons_append, List.nil_append, InR, List.mem_cons, List.not_mem_nil, or_false, forall_eq_or_imp, forall_eq, clAV, clCs, clC, clCaps, clCap, and_true, true_and, implies_true, List.length_map, List.length_cons, List.length_nil, dArr, cl_arr, tyCs]
      repeat' (first | exact trivial | exact by simp | refine And.intro ?_ ?_ | intro _ | assumption | rfl | omega | (rw [Bool.not_eq_true']; assumption) | (simp; done) | (simp only [decide_eq_true_eq] at *; omega) | (simp_all; done))
    refine nvA ?_
    refine ifA ?_ ?_
    · intro _
      have hk' : ¬ k ∈ Option.getD (none : Option (List Int)) [] := by simp
      try refine v139S5 ?_
      refine TO_go (wr := false) 400 (by simp only [kB, kM, k139, Nat.reduceAdd, Nat.reduceLT, Nat.reduceEqDiff, ↓reduceIte, reduceCtorEq, ins_N]; first | done | rfl) ?_ ?_
      · exact obT (ty_N m)
      try refine v139S5 ?_
      refine ⟨(some (kN k, (false, [.v (.bool true)])), xs ++ y, addS m k), ?_, by simp, ?_⟩
      · intro i
        rw [← h i, mem_addS]
        simp only [List.mem_append, List.mem_cons]
        constructor
        · rintro ((h | rfl) | ⟨h | h, g⟩)
          · exact .inl h
          · exact .inr ⟨.inr (.inl rfl), hk'⟩
          · exact .inr ⟨.inl h, g⟩
          · exact .inr ⟨.inr (.inr h), g⟩
        · rintro (h | ⟨h | h | h, g⟩)
          · exact .inl (.inl h)
          · exact .inr ⟨.inl h, g⟩
          · exact .inl (.inr h)
          · exact .inr ⟨.inr h, g⟩
      · exact enA
    · intro hh; cases hh
  | some t =>
    try refine v139S5 ?_
    refine T_loop (ι := Option EntD × List Int × List Int) (I := fun i => ⟨21, [(1, .c (.d (dSet kN (some t)))), (5, .c (.mp 7)), (9, .c (.ptr 9 0))], [(7, uMap kN i.2.2), (9, .iter i.1 (sEnt kN i.2.1))]⟩)
      (Inv := fun i => ∀ k, (k ∈ i.2.2 ∨ k ∈ i.2.1 ∧ ¬ k ∈ Option.getD (some t) []) ↔ (k ∈ l ∧ ¬ k ∈ Option.getD (some t) [])) (μ := fun i => i.2.1.length) (none, l, []) (by simp) ?_ ?_
    · exact enA
    rintro ⟨cur, rest, m⟩ h
    simp only at h ⊢
    refine nvA ?_
    refine TO_next (id := 9) (by simp) (by simp only [kV, ↓reduceIte, Nat.reduceEqDiff, reduceCtorEq]; first | done | rfl) rfl ?_ ?_
    · intro h0
      refine fzA ?_
      try refine v139S5 ?_
      refine ifA ?_ ?_
      · intro hh; cases hh
      intro _
      refine nvA ?_
      refine TO_ent (Ent_frzMapSlot (i := 5) (id := 7) (es := sEnt kN m) rfl rfl) ?_
      refine fzA ?_
      try refine v139S5 ?_
      refine rtA (by simp only [kR, Tryz.results139, ↓reduceIte, Nat.reduceEqDiff, reduceCtorEq]; first | done | rfl) ([]) ?_
      refine ⟨?_, rfl⟩
      have : rest = [] := by simpa [sEnt] using h0
      subst this
      exact ⟨m, fun k => by have := h k; simpa using this, rfl⟩
    intro l1 e l2 hsp
    obtain ⟨xs, k, y, rfl, rfl, rfl, rfl⟩ := sEnt_split hsp
    refine fzA ?_
    (repeat (first | refine nvB ?_ | refine goA (wr := false) (by simp only [kB, kM, k139, Nat.reduceAdd, Nat.reduceLT, Nat.reduceEqDiff, ↓reduceIte, reduceCtorEq, upD]; first | done | rfl) ?_))
    refine ifA ?_ ?_
    rotate_left
    · intro hh; cases hh
    intro _
    (repeat (first | refine nvB ?_ | refine goA (wr := false) (by simp only [kB, kM, k139, Nat.reduceAdd, Nat.reduceLT, Nat.reduceEqDiff, ↓reduceIte, reduceCtorEq, upD]; first | done | rfl) ?_))
    refine TO_go (wr := false) 400 (by simp only [kB, kM, k139, Nat.reduceAdd, Nat.reduceLT, Nat.reduceEqDiff, ↓reduceIte, reduceCtorEq, look_N]; first | done | rfl) ?_ ?_
    · exact obT (ty_N t)
    refine nvA ?_
    refine ifA ?_ ?_
    · intro hk
      have hk' : ¬ k ∈ Option.getD (some t) [] := by simpa using hk
      try refine v139S5 ?_
      refine TO_go (wr := false) 400 (by simp only [kB, kM, k139, Nat.reduceAdd, Nat.reduceLT, Nat.reduceEqDiff, ↓reduceIte, reduceCtorEq, ins_N]; first | done | rfl) ?_ ?_
      · exact obT (ty_N m)
      try refine v139S5 ?_
      refine ⟨(some (kN k, (false, [.v (.bool true)])), xs ++ y, addS m k), ?_, by simp, ?_⟩
      · intro i
        rw [← h i, mem_addS]
        simp only [List.mem_append, List.mem_cons]
        constructor
        · rintro ((h | rfl) | ⟨h | h, g⟩)
          · exact .inl h
          · exact .inr ⟨.inr (.inl rfl), hk'⟩
          · exact .inr ⟨.inl h, g⟩
          · exact .inr ⟨.inr (.inr h), g⟩
        · rintro (h | ⟨h | h | h, g⟩)
          · exact .inl (.inl h)
          · exact .inr ⟨.inl h, g⟩
          · exact .inl (.inr h)
          · exact .inr ⟨.inr h, g⟩
      · exact enA
    · intro hk
      have hk' : k ∈ Option.getD (some t) [] := by simpa using hk
      try refine v139S5 ?_
      refine ⟨(some (kN k, (false, [.v (.bool true)])), xs ++ y, m), ?_, by simp, ?_⟩
      · intro i
        rw [← h i]
        simp only [List.mem_append, List.mem_cons]
        constructor
        · rintro (h | ⟨h | h, g⟩)
          · exact .inl h
          · exact .inr ⟨.inl h, g⟩
          · exact .inr ⟨.inr (.inr h), g⟩
        · rintro (h | ⟨h | rfl | h, g⟩)
          · exact .inl h
          · exact .inr ⟨.inl h, g⟩
          · exact absurd hk' g
          · exact .inr ⟨.inr h, g⟩
      · exact enA
end Go.Proofs.YtbllfnmabmamfaaGreatDoor

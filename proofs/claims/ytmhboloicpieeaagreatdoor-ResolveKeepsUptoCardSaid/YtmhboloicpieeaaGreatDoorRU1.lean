/- A part of the proof. -/
import Derived.Test.YtmhboloicpieeaaGreatDoorRPD
import Derived.Test.YtmhboloicpieeaaGreatDoorRP14
set_option linter.all false
namespace Go.Proofs.YtmhboloicpieeaaGreatDoor
open Go.Ab Tys
variable [Dr]
theorem look0 (k : List C) : findE k [] = none := rfl
theorem all_take {κ : Type} (p : κ → Bool) (x : List κ) (k : κ) (y : List κ) : (x ++ k :: y).all p = (p k && (x ++ y).all p) := by
  simp only [List.all_append, List.all_cons]
  cases x.all p <;> cases p k <;> cases y.all p <;> rfl
def k74 := And.intro @Tryz.ntmps74 <| And.intro @bld37 <| And.intro @kyt37 <| And.intro @mpt157 <| And.intro @ti157 <| And.intro @ti37 <| @ti4
theorem v74S2 {G G' : Prop} (g : G') (h : Hid G' → G := by intro h9; (first | refine nvB ?_ | refine goA (wr := false) (by simp only [kB, kM, k74, Nat.reduceAdd, Nat.reduceLT, Nat.reduceEqDiff, ↓reduceIte, reduceCtorEq]; first | done | rfl) ?_); (repeat (first | refine nvB ?_ | refine goA (wr := false) (by simp only [kB, kM, k74, Nat.reduceAdd, Nat.reduceLT, Nat.reduceEqDiff, ↓reduceIte, reduceCtorEq]; first | done | rfl) ?_)); exact h9.out) : G := h ⟨g⟩
set_option maxRecDepth 100000 in
set_option maxHeartbeats 4000000 in
theorem Within_ac (l m : List Fil) : AC Tryz.prog 74 [.c (.d (.pm (sEnt kF l))), .c (.d (.pm (sEnt kF m)))] [] (fun r st => r = B (subB l m) ∧ st = []) := by
  refine AC_enter Tryz.func74 rfl rfl (by simp only [Tryz.ntmps74, List.length]; omega) ?_
  intro x hx
  simp only [List.range, List.range.loop, List.length, List.zip, List.zipWith, Nat.reduceAdd, Tryz.ntmps74]
  try refine v74S2 ?_
  refine T_loop (ι := Option EntD × List Fil) (I := fun i => ⟨16, [(1, .c (.d (.pm (sEnt kF m)))), (7, .c (.ptr 7 0))], [(7, .iter i.1 (sEnt kF i.2))]⟩) (Inv := fun i => subB l m = i.2.all (fun k => decide (k ∈ m))) (μ := fun i => i.2.length) (none, l) rfl ?_ ?_
  · exact enA
  rintro ⟨cur, rest⟩ h
  simp only at h ⊢
  refine nvA ?_
  refine TO_next (id := 7) (by simp) (by simp only [kV, ↓reduceIte, Nat.reduceEqDiff, reduceCtorEq]; first | done | rfl) rfl ?_ ?_
  · intro h0
    refine fzA ?_
    try refine v74S2 ?_
    refine ifA ?_ ?_
    · intro hh; cases hh
    intro _
    try refine v74S2 ?_
    refine rtA (by simp only [kR, Tryz.results74, ↓reduceIte, Nat.reduceEqDiff, reduceCtorEq]; first | done | rfl) ([]) ?_
    refine ⟨?_, rfl⟩
    have : rest = [] := by simpa [sEnt] using h0
    rw [h, this]; rfl
  intro l1 e l2 hsp
  obtain ⟨xs, k, y, rfl, rfl, rfl, rfl⟩ := sEnt_split hsp
  refine fzA ?_
  (repeat (first | refine nvB ?_ | refine goA (wr := false) (by simp only [kB, kM, k74, Nat.reduceAdd, Nat.reduceLT, Nat.reduceEqDiff, ↓reduceIte, reduceCtorEq, upD]; first | done | rfl) ?_))
  refine ifA ?_ ?_
  rotate_left
  · intro hh; cases hh
  intro _
  (repeat (first | refine nvB ?_ | refine goA (wr := false) (by simp only [kB, kM, k74, Nat.reduceAdd, Nat.reduceLT, Nat.reduceEqDiff, ↓reduceIte, reduceCtorEq, upD]; first | done | rfl) ?_))
  refine TO_go (wr := false) 400 (by simp only [kB, kM, k74, Nat.reduceAdd, Nat.reduceLT, Nat.reduceEqDiff, ↓reduceIte, reduceCtorEq, look_F]; first | done | rfl) ?_ ?_
  · exact obT (ty_F m)
  try refine v74S2 ?_
  refine ifA ?_ ?_
  · intro hk
    try refine v74S2 ?_
    refine rtA (by simp only [kR, Tryz.results74, ↓reduceIte, Nat.reduceEqDiff, reduceCtorEq]; first | done | rfl) ([]) ?_
    refine ⟨?_, rfl⟩
    rw [h, all_take]
    simp at hk
    simp [hk]
  · intro hk
    try refine v74S2 ?_
    refine ⟨(some (kF k, (false, [.v (.bool true)])), xs ++ y), ?_, by simp, ?_⟩
    · rw [h, all_take]
      simp at hk
      simp [hk]
    · exact enA
end Go.Proofs.YtmhboloicpieeaaGreatDoor
namespace Go.Proofs.YtmhboloicpieeaaGreatDoor
open Go.Ab Tys
variable [Dr]
end Go.Proofs.YtmhboloicpieeaaGreatDoor
namespace Go.Proofs.YtmhboloicpieeaaGreatDoor
open Go.Ab Tys
variable [Dr]
def isB (b : Int) : Bool := (decide (65 ≤ b) && decide (b ≤ 90)) || (decide (97 ≤ b) && decide (b ≤ 122)) || (decide (48 ≤ b) && decide (b ≤ 57)) || decide (b = 95) || decide (b = 46) || decide (b = 43) || decide (b = 45)
theorem isB_tab : ((List.range 256).all fun n => okB n == isB n) = true := by kernel_rfl
theorem isB_ok {b : Int} (h0 : 0 ≤ b) (h1 : b < 256) : okB b = isB b := by
  have := List.all_eq_true.1 isB_tab b.toNat (List.mem_range.2 (by omega))
  rw [show ((b.toNat : Nat) : Int) = b by omega] at this
  simpa using this
def k235 := And.intro @Tryz.ntmps235 <| trivial
theorem v235U1 {G G' : Prop} (g : G') (h : Hid G' → G := by intro h9; (first | refine nvB ?_ | refine goA (wr := false) (by simp only [kB, kG, k235, Nat.reduceAdd, Nat.reduceLT, Nat.reduceEqDiff, ↓reduceIte, reduceCtorEq]; first | done | rfl) ?_); (repeat (first | refine nvB ?_ | refine goA (wr := false) (by simp only [kB, kG, k235, Nat.reduceAdd, Nat.reduceLT, Nat.reduceEqDiff, ↓reduceIte, reduceCtorEq]; first | done | rfl) ?_)); exact h9.out) : G := h ⟨g⟩
set_option maxRecDepth 100000 in
set_option maxHeartbeats 4000000 in
theorem isByte_ac (b : Int) (h0 : 0 ≤ b) (h1 : b < 256) : AC Tryz.prog 235 [I .u8 b] [] (fun r st => r = B (okB b) ∧ st = []) := by
  rw [isB_ok h0 h1]
  refine AC_enter Tryz.func235 rfl rfl (by simp only [Tryz.ntmps235, List.length]; omega) ?_
  intro x hx
  simp only [List.range, List.range.loop, List.length, List.zip, List.zipWith, Nat.reduceAdd, Tryz.ntmps235]
  try refine v235U1 ?_
  refine T_join ⟨36, [(0, I .u8 b), (2, B false), (3, B ((decide (65 ≤ b) && decide (b ≤ 90)) || (decide (97 ≤ b) && decide (b ≤ 122)) || (decide (48 ≤ b) && decide (b ≤ 57))))], []⟩ ?_ ?_
  · refine ifA ?_ ?_
    · intro h
      have h' : (decide (65 ≤ b) && decide (b ≤ 90)) = true := by rw [← h]; cases decide (65 ≤ b) <;> rfl
      refine nvA ?_
      refine ⟨rfl, ?_⟩
      (refine Ent_sub (fun i => i) rfl ?_ ⟨?_, ?_, ?_, keepI hx (by simp [domOf, Ab.get])⟩ <;> first | (simp only [kE, dArr, ↓reduceIte, Nat.reduceEqDiff, reduceCtorEq, h', h]; done) | simp [renAV_id, renAO_id, flat_up, Ab.get, clAV, clC, clCs, clAO, cl_f1, cl_s1, cl_f2, cl_s2, cl_a1, domOf, List.flatten, h', h])
    · intro h
      have h' : (decide (65 ≤ b) && decide (b ≤ 90)) = false := by rw [← h]; cases decide (65 ≤ b) <;> rfl
      try refine v235U1 ?_
      refine ifA ?_ ?_
      · intro h2
        have h2' : (decide (97 ≤ b) && decide (b ≤ 122)) = true := by rw [← h2]; cases decide (97 ≤ b) <;> rfl
        refine nvA ?_
        refine ⟨rfl, ?_⟩
        (refine Ent_sub (fun i => i) rfl ?_ ⟨?_, ?_, ?_, keepI hx (by simp [domOf, Ab.get])⟩ <;> first | (simp only [kE, dArr, ↓reduceIte, Nat.reduceEqDiff, reduceCtorEq, h', h, h2', h2]; done) | simp [renAV_id, renAO_id, flat_up, Ab.get, clAV, clC, clCs, clAO, cl_f1, cl_s1, cl_f2, cl_s2, cl_a1, domOf, List.flatten, h', h, h2', h2])
      · intro h2
        have h2' : (decide (97 ≤ b) && decide (b ≤ 122)) = false := by rw [← h2]; cases decide (97 ≤ b) <;> rfl
        try refine v235U1 ?_
        refine ⟨rfl, ?_⟩
        have h3 : (bif decide (48 ≤ b) then decide (b ≤ 57) else false) = (decide (48 ≤ b) && decide (b ≤ 57)) := by cases decide (48 ≤ b) <;> rfl
        (refine Ent_sub (fun i => i) rfl ?_ ⟨?_, ?_, ?_, keepI hx (by simp [domOf, Ab.get])⟩ <;> first | (simp only [kE, dArr, ↓reduceIte, Nat.reduceEqDiff, reduceCtorEq, h', h, h2', h2, h3]; done) | simp [renAV_id, renAO_id, flat_up, Ab.get, clAV, clC, clCs, clAO, cl_f1, cl_s1, cl_f2, cl_s2, cl_a1, domOf, List.flatten, h', h, h2', h2, h3])
  refine nvA ?_
  refine ifA ?_ ?_
  · intro h
    try refine v235U1 ?_
    refine rtA (by simp only [kR, Tryz.results235, ↓reduceIte, Nat.reduceEqDiff, reduceCtorEq]; first | done | rfl) ([]) ?_
    refine ⟨?_, rfl⟩
    simp only [isB, h, Bool.true_or]
  · intro h
    try refine v235U1 ?_
    refine rtA (by simp only [kR, Tryz.results235, ↓reduceIte, Nat.reduceEqDiff, reduceCtorEq]; first | done | rfl) ([]) ?_
    refine ⟨?_, rfl⟩
    simp only [isB, h, Bool.false_or]
    cases decide (b = 95) <;> cases decide (b = 46) <;> cases decide (b = 43) <;> rfl
def k193 := And.intro @Tryz.ntmps193 <| And.intro @Tryz.underlying9 <| @ti9
theorem v193U1 {G G' : Prop} (g : G') (h : Hid G' → G := by intro h9; (first | refine nvB ?_ | refine goA (wr := false) (by simp only [kB, kG, k193, Nat.reduceAdd, Nat.reduceLT, Nat.reduceEqDiff, ↓reduceIte, reduceCtorEq]; first | done | rfl) ?_); (repeat (first | refine nvB ?_ | refine goA (wr := false) (by simp only [kB, kG, k193, Nat.reduceAdd, Nat.reduceLT, Nat.reduceEqDiff, ↓reduceIte, reduceCtorEq]; first | done | rfl) ?_)); exact h9.out) : G := h ⟨g⟩
set_option maxRecDepth 100000 in
set_option maxHeartbeats 4000000 in
theorem component_ac (s : ByteArray) (hs : s.size ≤ 1000000) : AC Tryz.prog 193 [Str s] [] (fun r st => r = B (comp s) ∧ st = []) := by
  refine AC_enter Tryz.func193 rfl rfl (by simp only [Tryz.ntmps193, List.length]; omega) ?_
  intro x hx
  simp only [List.range, List.range.loop, List.length, List.zip, List.zipWith, Nat.reduceAdd, Tryz.ntmps193]
  refine nvA ?_
  refine goA (wr := false) (by simp only [kB, kG, k193, Nat.reduceAdd, Nat.reduceLT, Nat.reduceEqDiff, ↓reduceIte, reduceCtorEq]; first | done | rfl) ?_
  refine nvA ?_
  refine TO_go (wr := false) 400 (by simp only [kB, kG, k193, Nat.reduceAdd, Nat.reduceLT, Nat.reduceEqDiff, ↓reduceIte, reduceCtorEq]; first | done | rfl) ?_ ?_
  · simp only [All, List.cons_append, List.nil_append, and_true, true_and, implies_true, forall_const, Bool.not_eq_true', decide_eq_false_iff_not, cond_eq_ite]
    repeat' (first | exact trivial | refine And.intro ?_ ?_ | intro _ | omega | (rename_i h; exact_mod_cast empty_size (by simpa using h)) | (simp_all; done))
  refine nvA ?_
  refine ifA ?_ ?_
  · intro h
    try refine v193U1 ?_
    refine rtA (by simp only [kR, Tryz.results193, ↓reduceIte, Nat.reduceEqDiff, reduceCtorEq]; first | done | rfl) ([]) ?_
    refine ⟨?_, rfl⟩
    have h2 : (decide (s = { data := #[] }) || decide (byteAt s 0 = 46)) = true := by rw [← h]; cases decide (s = { data := #[] }) <;> rfl
    simp [comp, h2]
  · intro h
    have h2 : (decide (s = { data := #[] }) || decide (byteAt s 0 = 46)) = false := by rw [← h]; cases decide (s = { data := #[] }) <;> rfl
    try refine v193U1 ?_
    refine T_loop (ι := Nat) (I := fun k => ⟨22, [(0, Str s), (12, I .i64 s.size), (13, I .i64 k)], []⟩) (Inv := fun k => k ≤ s.size ∧ ∀ j, j < k → okB (byteAt s j) = true) (μ := fun k => s.size - k) 0 ⟨by omega, by omega⟩ ?_ ?_
    · exact enA
    · rintro k ⟨hk, hall⟩
      try refine v193U1 ?_
      refine ifA ?_ ?_
      · intro hlt
        have hlt' : k < s.size := by simpa using hlt
        have hb0 := byteAt_get hlt'
        (repeat (first | refine v193U1 ?_ | (refine caA [] (isByte_ac (byteAt s k) (by simp [byteAt]) (by simp only [byteAt]; have := (s.data.getD k 0).toNat_lt; omega)) ?_; rintro r st' ⟨rfl, rfl⟩; refine frA ?_)))
        refine ifA ?_ ?_
        · intro hb
          try refine v193U1 ?_
          refine rtA (by simp only [kR, Tryz.results193, ↓reduceIte, Nat.reduceEqDiff, reduceCtorEq]; first | done | rfl) ([]) ?_
          refine ⟨?_, rfl⟩
          have hb' : okB (byteAt s k) = false := by simpa using hb
          have : ((List.range s.size).all fun k => okB (byteAt s k)) = false := by
            cases e : (List.range s.size).all fun k => okB (byteAt s k)
            · rfl
            · have := range_all _ k _ hlt' e
              rw [hb'] at this; cases this
          simp only [comp, this, Bool.and_false]
        · intro hb
          try refine v193U1 ?_
          refine ⟨k + 1, ⟨by omega, ?_⟩, by omega, ?_⟩
          · intro j hj
            rcases Nat.lt_succ_iff_lt_or_eq.1 hj with hj | rfl
            · exact hall j hj
            · simpa using hb
          · exact enA
      · intro hge
        try refine v193U1 ?_
        refine rtA (by simp only [kR, Tryz.results193, ↓reduceIte, Nat.reduceEqDiff, reduceCtorEq]; first | done | rfl) ([]) ?_
        refine ⟨?_, rfl⟩
        have hk' : k = s.size := by have : ¬ k < s.size := by simpa using hge
                                    omega
        have : ((List.range s.size).all fun k => okB (byteAt s k)) = true := by
          rw [List.all_eq_true]; intro j hj; exact hall j (by rw [hk']; exact List.mem_range.1 hj)
        simp only [comp, this, h2]; rfl
end Go.Proofs.YtmhboloicpieeaaGreatDoor

/- A part of the proof. -/
import Derived.Test.YtmhboloicpieeaaGreatDoorRPD
import Derived.Test.YtmhboloicpieeaaGreatDoorRU8
import Derived.Test.YtmhboloicpieeaaGreatDoorRH3
import Derived.Test.YtmhboloicpieeaaGreatDoorRH4
set_option linter.all false
namespace Go.Proofs.YtmhboloicpieeaaGreatDoor
open Go.Ab Tys
variable [Dr]
def k59 := And.intro @Tryz.ntmps59 <| And.intro @Tryz.underlying27 <| And.intro @Tryz.underlying28 <| And.intro @Tryz.underlying50 <| And.intro @bld30 <| And.intro @bld46 <| And.intro @bld56 <| And.intro @bld62 <| And.intro @bld76 <| And.intro @elt27 <| And.intro @elt28 <| And.intro @elt50 <| And.intro @fld30_0 <| And.intro @fld30_1 <| And.intro @fld46_2 <| And.intro @fld62_0 <| And.intro @fld62_3 <| And.intro @fld62_4 <| And.intro @ti27 <| And.intro @ti28 <| And.intro @ti3 <| And.intro @ti30 <| And.intro @ti46 <| And.intro @ti50 <| And.intro @ti56 <| And.intro @ti62 <| @ti76
theorem v59H5 {G G' : Prop} (g : G') (h : Hid G' → G := by intro h9; (first | refine nvB ?_ | refine goA (wr := false) (by simp only [kB, kG, k59, Nat.reduceAdd, Nat.reduceLT, Nat.reduceEqDiff, ↓reduceIte, reduceCtorEq]; first | done | rfl) ?_); (repeat (first | refine nvB ?_ | refine goA (wr := false) (by simp only [kB, kG, k59, Nat.reduceAdd, Nat.reduceLT, Nat.reduceEqDiff, ↓reduceIte, reduceCtorEq]; first | done | rfl) ?_)); exact h9.out) : G := h ⟨g⟩
set_option maxRecDepth 100000 in
set_option maxHeartbeats 16000000 in
theorem check_ac (d : Dep) (c : Chg) (hd : d.revs.length ≤ 1000000) (hd2 : d.recs.length ≤ 1000000) (hc : ∀ e ∈ c.edits, eOK e) (hr : ∀ r ∈ c.recs, rOK r) (hl : c.edits.length ≤ 1000000) (hl2 : c.recs.length ≤ 1000000) :
    AC Tryz.prog 59 [aDep d, aChg c] [] (fun r st => (∃ e : Int, r = I .i64 e ∧ (e = 0 → ChkOK d c)) ∧ st = []) := by
  refine AC_enter Tryz.func59 rfl rfl (by simp only [Tryz.ntmps59, List.length]; omega) ?_
  intro x hx
  simp only [List.range, List.range.loop, List.length, List.zip, List.zipWith, Nat.reduceAdd, Tryz.ntmps59]
  try refine v59H5 ?_
  refine ifA ?_ ?_
  · intro _
    try refine v59H5 ?_
    refine rtA (by simp only [kR, Tryz.results59, ↓reduceIte, Nat.reduceEqDiff, reduceCtorEq]; first | done | rfl) ([]) ?_
    refine ⟨?_, rfl⟩
    exact ⟨_, rfl, fun h => absurd h (by decide)⟩
  intro hA
  have hA' : 1 ≤ c.edits.length ∧ c.edits.length ≤ 64 ∧ c.recs.length ≤ 64 := by simp at hA; have := hA.1.1; rcases Nat.eq_zero_or_pos c.edits.length with h | h <;> simp_all <;> omega
  obtain ⟨a1, a2, a3⟩ := hA'
  try refine v59H5 ?_
  refine ifA ?_ ?_
  · intro _
    try refine v59H5 ?_
    refine rtA (by simp only [kR, Tryz.results59, ↓reduceIte, Nat.reduceEqDiff, reduceCtorEq]; first | done | rfl) ([]) ?_
    refine ⟨?_, rfl⟩
    exact ⟨_, rfl, fun h => absurd h (by decide)⟩
  intro hB
  have hB' : 1 ≤ c.num ∧ c.num ≤ 1073741824 := by simp at hB; omega
  try refine v59H5 ?_
  refine T_loop (ι := Nat) (I := fun k => ⟨105, [(2, .c (.ptr 2 0)), (3, .c (.ptr 3 0)), (37, aRevs d.revs), (38, I .i64 d.revs.length), (39, I .i64 k)], [(2, .box ((encDep d).map C.d)), (3, .box ((encChg c).map C.d))]⟩)
    (Inv := fun k => k ≤ d.revs.length ∧ ∀ v ∈ d.revs.take k, v.chg < c.num) (μ := fun k => d.revs.length - k) 0 ⟨by omega, by simp⟩ ?_ ?_
  · exact enA
  rintro k ⟨hk, hall⟩
  try refine v59H5 ?_
  refine ifA ?_ ?_
  · intro hlt
    have hlt' : k < d.revs.length := by simpa using hlt
    obtain ⟨v, hv, he, htk⟩ := round encRev d.revs k zRev hlt'
    (repeat (first | refine nvB ?_ | refine goA (wr := false) (by simp only [kB, kG, k59, Nat.reduceAdd, Nat.reduceLT, Nat.reduceEqDiff, ↓reduceIte, reduceCtorEq, he]; first | done | rfl) ?_))
    refine ifA ?_ ?_
    · intro _
      try refine v59H5 ?_
      refine rtA (by simp only [kR, Tryz.results59, ↓reduceIte, Nat.reduceEqDiff, reduceCtorEq]; first | done | rfl) ([]) ?_
      refine ⟨?_, rfl⟩
      exact ⟨_, rfl, fun h => absurd h (by decide)⟩
    intro hb
    have hb' : v.chg < c.num := by simpa using hb
    try refine v59H5 ?_
    refine ⟨k + 1, ⟨by omega, ?_⟩, by omega, ?_⟩
    · intro u hu
      rw [htk, List.mem_append] at hu
      rcases hu with hu | hu
      · exact hall u hu
      · simp at hu; rw [hu]; exact hb'
    · exact enA
  intro hge
  have hge' : k = d.revs.length := by have : ¬ k < d.revs.length := by simpa using hge
                                      omega
  rw [hge', List.take_length] at hall
  try refine v59H5 ?_
  refine T_loop (ι := Nat) (I := fun k => ⟨105, [(2, .c (.ptr 2 0)), (3, .c (.ptr 3 0)), (51, I .i64 c.edits.length), (52, I .i64 k)], [(2, .box ((encDep d).map C.d)), (3, .box ((encChg c).map C.d))]⟩)
    (Inv := fun k => k ≤ c.edits.length ∧ ∀ i, i < k → EditOK d c i (c.edits.getD i zEdt)) (μ := fun k => c.edits.length - k) 0 ⟨by omega, by omega⟩ ?_ ?_
  · exact enA
  rintro k2 ⟨hk2, hed⟩
  try refine v59H5 ?_
  refine ifA ?_ ?_
  · intro hlt
    have hlt' : k2 < c.edits.length := by simpa using hlt
    try refine v59H5 ?_
    refine caA [] (edit_ac d c k2 hlt' hd hc hl) ?_
    rintro r st' ⟨⟨e, rfl, he⟩, rfl⟩ <;> refine frA ?_
    try refine v59H5 ?_
    refine ifA ?_ ?_
    · intro hne
      have hne' : ¬ e = 0 := by simpa using hne
      try refine v59H5 ?_
      refine rtA (by simp only [kR, Tryz.results59, ↓reduceIte, Nat.reduceEqDiff, reduceCtorEq]; first | done | rfl) ([]) ?_
      refine ⟨?_, rfl⟩
      exact ⟨_, rfl, fun h => absurd h hne'⟩
    intro heq
    have heq' : e = 0 := by simpa using heq
    try refine v59H5 ?_
    refine ⟨k2 + 1, ⟨by omega, ?_⟩, by omega, ?_⟩
    · intro i hi
      rcases Nat.lt_succ_iff_lt_or_eq.1 hi with h | rfl
      · exact hed i h
      · exact he heq'
    · exact enA
  intro hge2
  have hge2' : k2 = c.edits.length := by have : ¬ k2 < c.edits.length := by simpa using hge2
                                         omega
  try refine v59H5 ?_
  refine T_loop (ι := Nat) (I := fun k => ⟨105, [(2, .c (.ptr 2 0)), (3, .c (.ptr 3 0)), (64, .c (.d (.ps 12 (c.edits.map encEdt)))), (65, I .i64 c.edits.length), (66, I .i64 k)], [(2, .box ((encDep d).map C.d)), (3, .box ((encChg c).map C.d))]⟩)
    (Inv := fun k => k ≤ c.edits.length ∧ ∀ e ∈ c.edits.take k, movedB c e = true) (μ := fun k => c.edits.length - k) 0 ⟨by omega, by simp⟩ ?_ ?_
  · exact enA
  rintro k3 ⟨hk3, hmv⟩
  try refine v59H5 ?_
  refine ifA ?_ ?_
  · intro hlt
    have hlt' : k3 < c.edits.length := by simpa using hlt
    obtain ⟨y, hy, he, htk⟩ := round encEdt c.edits k3 zEdt hlt'
    (repeat (first | refine nvB ?_ | refine goA (wr := false) (by simp only [kB, kG, k59, Nat.reduceAdd, Nat.reduceLT, Nat.reduceEqDiff, ↓reduceIte, reduceCtorEq, he]; first | done | rfl) ?_ | (refine caA [] (moved_ac c y hl) ?_; rintro r st' ⟨rfl, rfl⟩; refine frA ?_)))
    refine ifA ?_ ?_
    · intro _
      try refine v59H5 ?_
      refine rtA (by simp only [kR, Tryz.results59, ↓reduceIte, Nat.reduceEqDiff, reduceCtorEq]; first | done | rfl) ([]) ?_
      refine ⟨?_, rfl⟩
      exact ⟨_, rfl, fun h => absurd h (by decide)⟩
    intro hb
    have hb' : movedB c y = true := by simpa using hb
    try refine v59H5 ?_
    refine ⟨k3 + 1, ⟨by omega, ?_⟩, by omega, ?_⟩
    · intro u hu
      rw [htk, List.mem_append] at hu
      rcases hu with hu | hu
      · exact hmv u hu
      · simp at hu; rw [hu]; exact hb'
    · exact enA
  intro hge3
  have hge3' : k3 = c.edits.length := by have : ¬ k3 < c.edits.length := by simpa using hge3
                                         omega
  rw [hge3', List.take_length] at hmv
  try refine v59H5 ?_
  refine T_loop (ι := Nat) (I := fun k => ⟨105, [(2, .c (.ptr 2 0)), (3, .c (.ptr 3 0)), (77, I .i64 c.recs.length), (78, I .i64 k)], [(2, .box ((encDep d).map C.d)), (3, .box ((encChg c).map C.d))]⟩)
    (Inv := fun k => k ≤ c.recs.length ∧ ∀ i, i < k → RecOK d c (c.recs.getD i zRcd)) (μ := fun k => c.recs.length - k) 0 ⟨by omega, by omega⟩ ?_ ?_
  · exact enA
  rintro k4 ⟨hk4, hrc⟩
  try refine v59H5 ?_
  refine ifA ?_ ?_
  · intro hlt
    have hlt' : k4 < c.recs.length := by simpa using hlt
    try refine v59H5 ?_
    refine caA [] (record_ac d c k4 hlt' hd hr hl hl2) ?_
    rintro r st' ⟨⟨b, rfl, he⟩, rfl⟩ <;> refine frA ?_
    try refine v59H5 ?_
    refine ifA ?_ ?_
    · intro _
      try refine v59H5 ?_
      refine rtA (by simp only [kR, Tryz.results59, ↓reduceIte, Nat.reduceEqDiff, reduceCtorEq]; first | done | rfl) ([]) ?_
      refine ⟨?_, rfl⟩
      exact ⟨_, rfl, fun h => absurd h (by decide)⟩
    intro heq
    have heq' : b = true := by simpa using heq
    try refine v59H5 ?_
    refine ⟨k4 + 1, ⟨by omega, ?_⟩, by omega, ?_⟩
    · intro i hi
      rcases Nat.lt_succ_iff_lt_or_eq.1 hi with h | rfl
      · exact hrc i h
      · exact he heq'
    · exact enA
  intro hge4
  have hge4' : k4 = c.recs.length := by have : ¬ k4 < c.recs.length := by simpa using hge4
                                        omega
  try refine v59H5 ?_
  refine ifA ?_ ?_
  · intro _
    try refine v59H5 ?_
    refine rtA (by simp only [kR, Tryz.results59, ↓reduceIte, Nat.reduceEqDiff, reduceCtorEq]; first | done | rfl) ([]) ?_
    refine ⟨?_, rfl⟩
    exact ⟨_, rfl, fun h => absurd h (by decide)⟩
  intro hT
  have hT' : d.revs.length + c.edits.length ≤ 512 ∧ d.recs.length + c.recs.length ≤ 512 := by simp at hT; omega
  try refine v59H5 ?_
  refine rtA (by simp only [kR, Tryz.results59, ↓reduceIte, Nat.reduceEqDiff, reduceCtorEq]; first | done | rfl) ([]) ?_
  refine ⟨?_, rfl⟩
  exact ⟨_, rfl, fun _ => ⟨a1, a2, a3, hB', hall, fun i hi => hed i (by omega), hmv, fun i hi => hrc i (by omega), hT'.1, hT'.2⟩⟩
end Go.Proofs.YtmhboloicpieeaaGreatDoor

/- A part of the proof. -/
import Derived.Test.YtmhboloicpieeaaGreatDoorRU15
set_option linter.all false
namespace Go.Proofs.YtmhboloicpieeaaGreatDoor
open Go.Ab Tys
variable [Dr]
section
variable (d : Dep) (n : Int) (cl tx : ByteArray) (z : Edt) (L : List (ByteArray × Rev)) (E : List (ByteArray × Edt)) (N : List (Fil × Fil))
def k92 := And.intro @Tryz.ntmps92 <| And.intro @Tryz.underlying28 <| And.intro @bld179 <| And.intro @bld56 <| And.intro @bld62 <| And.intro @bld76 <| And.intro @elt28 <| And.intro @fld179_1 <| And.intro @fld179_3 <| And.intro @fld62_4 <| And.intro @fld76_3 <| And.intro @fld76_5 <| And.intro @kyt9 <| And.intro @mpt162 <| And.intro @mpt176 <| And.intro @ti162 <| And.intro @ti176 <| And.intro @ti179 <| And.intro @ti28 <| And.intro @ti3 <| And.intro @ti4 <| And.intro @ti56 <| And.intro @ti62 <| And.intro @ti76 <| @ti9
theorem v92Y8 {G G' : Prop} (g : G') (h : Hid G' → G := by intro h9; (first | refine nvB ?_ | refine goA (wr := false) (by simp only [kB, kG, kM, k92, Nat.reduceAdd, Nat.reduceLT, Nat.reduceEqDiff, ↓reduceIte, reduceCtorEq]; first | done | rfl) ?_); (repeat (first | refine nvB ?_ | refine goA (wr := false) (by simp only [kB, kG, kM, k92, Nat.reduceAdd, Nat.reduceLT, Nat.reduceEqDiff, ↓reduceIte, reduceCtorEq]; first | done | rfl) ?_)); exact h9.out) : G := h ⟨g⟩
set_option maxRecDepth 100000 in
set_option maxHeartbeats 8000000 in
theorem crecords_ac : AC Tryz.prog 92 [.c (.ptr 2000 0)] (stC d (oneC n cl tx z) L E N) (fun r st => (∃ e : Int, r = I .i64 e) ∧ st = stC d (oneC n cl tx z) L E N) := by
 refine AC_enter Tryz.func92 rfl rfl (by simp only [Tryz.ntmps92, List.length]; omega) ?_
 intro x hx
 simp only [List.range, List.range.loop, List.length, List.zip, List.zipWith, Nat.reduceAdd, Tryz.ntmps92]
 try refine v92Y8 ?_
 refine T_loop (ι := Unit) (I := fun _ => ⟨77, [(0, .c (.ptr 2000 0)), (13, .c (.d (.ps 6 []))), (14, I .i64 0), (15, I .i64 0)], stC d (oneC n cl tx z) L E N⟩)
  (Inv := fun _ => True) (μ := fun _ => 0) () trivial ?_ ?_
 ·exact enA
 intro _ _
 try refine v92Y8 ?_
 refine ifA ?_ ?_
 ·intro h; simp at h
 intro _
 try refine v92Y8 ?_
 refine T_loop (ι := Unit) (I := fun _ => ⟨77, [(0, .c (.ptr 2000 0)), (30, .c (.d (.ps 6 []))), (31, I .i64 0), (32, I .i64 0)], stC d (oneC n cl tx z) L E N⟩)
  (Inv := fun _ => True) (μ := fun _ => 0) () trivial ?_ ?_
 ·exact enA
 intro _ _
 try refine v92Y8 ?_
 refine ifA ?_ ?_
 ·intro h; simp at h
 intro _
 try refine v92Y8 ?_
 refine rtA (by simp only [kR, Tryz.results92, ↓reduceIte, Nat.reduceEqDiff, reduceCtorEq]; first | done | rfl) ((stC d (oneC n cl tx z) L E N)) ?_
 refine ⟨?_, rfl⟩
 exact ⟨_, rfl⟩
def k138 := And.intro @Tryz.ntmps138 <| And.intro @bld41 <| And.intro @bld44 <| And.intro @bld46 <| And.intro @bld56 <| And.intro @eqt41 <| And.intro @eqt44 <| And.intro @fld44_1 <| And.intro @fld46_1 <| And.intro @fld46_4 <| And.intro @fld56_0 <| And.intro @fld56_1 <| And.intro @fld56_2 <| And.intro @fld56_3 <| And.intro @fld56_4 <| And.intro @fld56_5 <| And.intro @fld56_6 <| And.intro @ti3 <| And.intro @ti41 <| And.intro @ti44 <| And.intro @ti46 <| And.intro @ti56 <| @ti9
theorem v138Y8 {G G' : Prop} (g : G') (h : Hid G' → G := by intro h9; (first | refine nvB ?_ | refine goA (wr := false) (by simp only [kB, kG, kS, k138, Nat.reduceAdd, Nat.reduceLT, Nat.reduceEqDiff, ↓reduceIte, reduceCtorEq]; first | done | rfl) ?_); (repeat (first | refine nvB ?_ | refine goA (wr := false) (by simp only [kB, kG, kS, k138, Nat.reduceAdd, Nat.reduceLT, Nat.reduceEqDiff, ↓reduceIte, reduceCtorEq]; first | done | rfl) ?_)); exact h9.out) : G := h ⟨g⟩
set_option maxRecDepth 100000 in
set_option maxHeartbeats 8000000 in
theorem coneEdit_ac (hz : z.act = 1 ∨ z.act = 2) : AC Tryz.prog 138 [.c (.ptr 2000 0), aEdt z] (stC d (oneC n cl tx z) L E N) (fun r st => (∃ e : Int, r = I .i64 e) ∧ st = stC d (oneC n cl tx z) L E N) := by
 have z4 : ¬ z.act = 4 := by omega
 have z3 : ¬ z.act = 3 := by omega
 have z5 : ¬ z.act = 5 := by omega
 have hty := ftype_ac z.base z.kw z.ex z.xe
 have hpl := pisLive_ac z.act
 generalize (if typBad z.base z.kw z.xe then (90 : Int) else 0) = te at hty
 refine AC_enter Tryz.func138 rfl rfl (by simp only [Tryz.ntmps138, List.length]; omega) ?_
 intro x hx
 simp only [List.range, List.range.loop, List.length, List.zip, List.zipWith, Nat.reduceAdd, Tryz.ntmps138]
 try refine v138Y8 ?_
 refine caA ((stC d (oneC n cl tx z) L E N)) (clive_ac d (oneC n cl tx z) L E N z.path) ?_
 rintro rv9 st' ⟨⟨b, rfl⟩, rfl⟩ <;> refine frA ?_
 generalize (alook L z.path).getD zRev = u
 try refine v138Y8 ?_
 refine ifA ?_ ?_
 ·intro h
  try refine v138Y8 ?_
  refine ifA ?_ ?_
  rotate_left
  ·intro h2; rw [h] at h2; cases h2
  intro _
  try refine v138Y8 ?_
  refine ifA ?_ ?_
  ·intro _
   try refine v138Y8 ?_
   refine rtA (by simp only [kR, Tryz.results138, ↓reduceIte, Nat.reduceEqDiff, reduceCtorEq]; first | done | rfl) ((stC d (oneC n cl tx z) L E N)) ?_
   refine ⟨?_, rfl⟩
   exact ⟨_, rfl⟩
  intro _
  try refine v138Y8 ?_
  refine ifA ?_ ?_
  ·intro _
   try refine v138Y8 ?_
   refine rtA (by simp only [kR, Tryz.results138, ↓reduceIte, Nat.reduceEqDiff, reduceCtorEq]; first | done | rfl) ((stC d (oneC n cl tx z) L E N)) ?_
   refine ⟨?_, rfl⟩
   exact ⟨_, rfl⟩
  intro _
  try refine v138Y8 ?_
  refine ifA ?_ ?_
  ·intro h9; exact absurd (by simpa using h9) z4
  intro _
  try refine v138Y8 ?_
  refine ifA ?_ ?_
  ·intro _
   try refine v138Y8 ?_
   refine rtA (by simp only [kR, Tryz.results138, ↓reduceIte, Nat.reduceEqDiff, reduceCtorEq]; first | done | rfl) ((stC d (oneC n cl tx z) L E N)) ?_
   refine ⟨?_, rfl⟩
   exact ⟨_, rfl⟩
  intro _
  (repeat (first | refine v138Y8 ?_ | (refine caA [] (hty) ?_; rintro r st' ⟨rfl, rfl⟩; refine frA ?_)))
  refine ifA ?_ ?_
  ·intro _
   try refine v138Y8 ?_
   refine rtA (by simp only [kR, Tryz.results138, ↓reduceIte, Nat.reduceEqDiff, reduceCtorEq]; first | done | rfl) ((stC d (oneC n cl tx z) L E N)) ?_
   refine ⟨?_, rfl⟩
   exact ⟨_, rfl⟩
  intro _
  (repeat (first | refine v138Y8 ?_ | (refine caA [] (hpl) ?_; rintro r st' ⟨rfl, rfl⟩; refine frA ?_)))
  refine ifA ?_ ?_
  ·intro _
   try refine v138Y8 ?_
   refine rtA (by simp only [kR, Tryz.results138, ↓reduceIte, Nat.reduceEqDiff, reduceCtorEq]; first | done | rfl) ((stC d (oneC n cl tx z) L E N)) ?_
   refine ⟨?_, rfl⟩
   exact ⟨_, rfl⟩
  intro _
  try refine v138Y8 ?_
  refine rtA (by simp only [kR, Tryz.results138, ↓reduceIte, Nat.reduceEqDiff, reduceCtorEq]; first | done | rfl) ((stC d (oneC n cl tx z) L E N)) ?_
  refine ⟨?_, rfl⟩
  exact ⟨_, rfl⟩
 intro h
 have z1 : ¬ z.act = 1 := by simpa using h
 have z2 : z.act = 2 := by omega
 try refine v138Y8 ?_
 refine ifA ?_ ?_
 ·intro h2; exact absurd (by simpa using h2) z4
 intro _
 try refine v138Y8 ?_
 refine ifA ?_ ?_
 rotate_left
 ·intro h2; exact absurd z2 (by simpa using h2)
 intro h3
 try refine v138Y8 ?_
 refine ifA ?_ ?_
 rotate_left
 ·intro h2; rw [h3] at h2; cases h2
 intro _
 try refine v138Y8 ?_
 refine ifA ?_ ?_
 ·intro _
  try refine v138Y8 ?_
  refine rtA (by simp only [kR, Tryz.results138, ↓reduceIte, Nat.reduceEqDiff, reduceCtorEq]; first | done | rfl) ((stC d (oneC n cl tx z) L E N)) ?_
  refine ⟨?_, rfl⟩
  exact ⟨_, rfl⟩
 intro _
 try refine v138Y8 ?_
 refine ifA ?_ ?_
 ·intro _
  try refine v138Y8 ?_
  refine rtA (by simp only [kR, Tryz.results138, ↓reduceIte, Nat.reduceEqDiff, reduceCtorEq]; first | done | rfl) ((stC d (oneC n cl tx z) L E N)) ?_
  refine ⟨?_, rfl⟩
  exact ⟨_, rfl⟩
 intro _
 try refine v138Y8 ?_
 refine ifA ?_ ?_
 ·intro h9; exact absurd (by simpa using h9) z4
 intro _
 try refine v138Y8 ?_
 refine ifA ?_ ?_
 ·intro _
  try refine v138Y8 ?_
  refine rtA (by simp only [kR, Tryz.results138, ↓reduceIte, Nat.reduceEqDiff, reduceCtorEq]; first | done | rfl) ((stC d (oneC n cl tx z) L E N)) ?_
  refine ⟨?_, rfl⟩
  exact ⟨_, rfl⟩
 intro _
 (repeat (first | refine v138Y8 ?_ | (refine caA [] (hty) ?_; rintro r st' ⟨rfl, rfl⟩; refine frA ?_)))
 refine ifA ?_ ?_
 ·intro _
  try refine v138Y8 ?_
  refine rtA (by simp only [kR, Tryz.results138, ↓reduceIte, Nat.reduceEqDiff, reduceCtorEq]; first | done | rfl) ((stC d (oneC n cl tx z) L E N)) ?_
  refine ⟨?_, rfl⟩
  exact ⟨_, rfl⟩
 intro _
 (repeat (first | refine v138Y8 ?_ | (refine caA [] (hpl) ?_; rintro r st' ⟨rfl, rfl⟩; refine frA ?_)))
 refine ifA ?_ ?_
 ·intro _
  try refine v138Y8 ?_
  refine rtA (by simp only [kR, Tryz.results138, ↓reduceIte, Nat.reduceEqDiff, reduceCtorEq]; first | done | rfl) ((stC d (oneC n cl tx z) L E N)) ?_
  refine ⟨?_, rfl⟩
  exact ⟨_, rfl⟩
 intro _
 try refine v138Y8 ?_
 refine rtA (by simp only [kR, Tryz.results138, ↓reduceIte, Nat.reduceEqDiff, reduceCtorEq]; first | done | rfl) ((stC d (oneC n cl tx z) L E N)) ?_
 refine ⟨?_, rfl⟩
 exact ⟨_, rfl⟩
end
end Go.Proofs.YtmhboloicpieeaaGreatDoor

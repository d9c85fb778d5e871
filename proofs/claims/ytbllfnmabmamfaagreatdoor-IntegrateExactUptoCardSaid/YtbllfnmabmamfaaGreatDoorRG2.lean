/- A part of the proof. -/
import Derived.Test.YtbllfnmabmamfaaGreatDoorRBd2
import Derived.Test.YtbllfnmabmamfaaGreatDoorQPD
set_option linter.all false
namespace Go.Proofs.YtbllfnmabmamfaaGreatDoor
open Go.Ab Tys
def k152 := And.intro @Tryz.ntmps152 <| trivial
theorem v152G1 {G G' : Prop} (g : G') (h : Hid G' → G := by intro h9; (first | refine nvB ?_ | refine goA (wr := false) (by simp only [kB, k152, Nat.reduceAdd, Nat.reduceLT, Nat.reduceEqDiff, ↓reduceIte, reduceCtorEq]; first | done | rfl) ?_); (repeat (first | refine nvB ?_ | refine goA (wr := false) (by simp only [kB, k152, Nat.reduceAdd, Nat.reduceLT, Nat.reduceEqDiff, ↓reduceIte, reduceCtorEq]; first | done | rfl) ?_)); exact h9.out) : G := h ⟨g⟩
set_option maxRecDepth 100000 in
set_option maxHeartbeats 4000000 in
theorem cmpString_ac (a b : ByteArray) : AC Tryz.prog 152 [Str a, Str b] [] (fun r st => r = I .i64 (Lib.compareBytes a.data.toList b.data.toList) ∧ st = []) := by
  refine AC_enter Tryz.func152 rfl rfl (by simp only [Tryz.ntmps152, List.length]; omega) ?_
  intro x hx
  simp only [List.range, List.range.loop, List.length, List.zip, List.zipWith, Nat.reduceAdd, Tryz.ntmps152]
  try refine v152G1 ?_
  refine TO_ext [.string a, .string b] (by simp) (by simp only [evAll, kB, k152, Nat.reduceAdd, Nat.reduceLT, Nat.reduceEqDiff, ↓reduceIte, reduceCtorEq]; first | done | rfl) (fun w => by rw [run_callFunc_extern Tryz.func173 (by kernel_rfl) (by kernel_rfl) (by kernel_rfl) (e := Extern.BytealgCompare.compare) (by kernel_rfl)]; simp only [Lib.run_compareString, Result.andThen]; first | done | rfl) rfl ?_
  simp only [putD, Ab.put, Nat.reduceEqDiff, ↓reduceIte, reduceCtorEq]
  try refine v152G1 ?_
  refine rtA (by simp only [kR, Tryz.results152, ↓reduceIte, Nat.reduceEqDiff, reduceCtorEq]; first | done | rfl) ([]) ?_
  refine ⟨?_, rfl⟩
  rfl
def k113 := And.intro @Tryz.ntmps113 <| trivial
theorem v113G1 {G G' : Prop} (g : G') (h : Hid G' → G := by intro h9; (first | refine nvB ?_ | refine goA (wr := false) (by simp only [kB, k113, Nat.reduceAdd, Nat.reduceLT, Nat.reduceEqDiff, ↓reduceIte, reduceCtorEq]; first | done | rfl) ?_); (repeat (first | refine nvB ?_ | refine goA (wr := false) (by simp only [kB, k113, Nat.reduceAdd, Nat.reduceLT, Nat.reduceEqDiff, ↓reduceIte, reduceCtorEq]; first | done | rfl) ?_)); exact h9.out) : G := h ⟨g⟩
set_option maxRecDepth 100000 in
set_option maxHeartbeats 4000000 in
theorem strCompare_ac (a b : ByteArray) : AC Tryz.prog 113 [Str a, Str b] [] (fun r st => r = I .i64 (Lib.compareBytes a.data.toList b.data.toList) ∧ st = []) := by
  refine AC_enter Tryz.func113 rfl rfl (by simp only [Tryz.ntmps113, List.length]; omega) ?_
  intro x hx
  simp only [List.range, List.range.loop, List.length, List.zip, List.zipWith, Nat.reduceAdd, Tryz.ntmps113]
  (repeat (first | refine v113G1 ?_ | (refine caA [] (cmpString_ac a b) ?_; rintro r st' ⟨rfl, rfl⟩; refine frA ?_)))
  refine rtA (by simp only [kR, Tryz.results113, ↓reduceIte, Nat.reduceEqDiff, reduceCtorEq]; first | done | rfl) ([]) ?_
  refine ⟨?_, rfl⟩
  rfl
def k189 := And.intro @Tryz.ntmps189 <| trivial
theorem v189G1 {G G' : Prop} (g : G') (h : Hid G' → G := by intro h9; (first | refine nvB ?_ | refine goA (wr := false) (by simp only [kB, k189, Nat.reduceAdd, Nat.reduceLT, Nat.reduceEqDiff, ↓reduceIte, reduceCtorEq]; first | done | rfl) ?_); (repeat (first | refine nvB ?_ | refine goA (wr := false) (by simp only [kB, k189, Nat.reduceAdd, Nat.reduceLT, Nat.reduceEqDiff, ↓reduceIte, reduceCtorEq]; first | done | rfl) ?_)); exact h9.out) : G := h ⟨g⟩
set_option maxRecDepth 100000 in
set_option maxHeartbeats 4000000 in
theorem slIndexByte_ac (a : ByteArray) (c : Int) : AC Tryz.prog 189 [Str a, I .u8 c] [] (fun r st => r = I .i64 (Lib.indexByte a.data.toList c.toNat.toUInt8) ∧ st = []) := by
  refine AC_enter Tryz.func189 rfl rfl (by simp only [Tryz.ntmps189, List.length]; omega) ?_
  intro x hx
  simp only [List.range, List.range.loop, List.length, List.zip, List.zipWith, Nat.reduceAdd, Tryz.ntmps189]
  try refine v189G1 ?_
  refine TO_ext [.string a, .int .u8 c] (by simp) (by simp only [evAll, kB, k189, Nat.reduceAdd, Nat.reduceLT, Nat.reduceEqDiff, ↓reduceIte, reduceCtorEq]; first | done | rfl) (fun w => by rw [run_callFunc_extern Tryz.func201 (by kernel_rfl) (by kernel_rfl) (by kernel_rfl) (e := Extern.BytealgIndexByte.indexByte) (by kernel_rfl)]; simp only [Lib.run_indexByteString, Result.andThen]; first | done | rfl) rfl ?_
  simp only [putD, Ab.put, Nat.reduceEqDiff, ↓reduceIte, reduceCtorEq]
  try refine v189G1 ?_
  refine rtA (by simp only [kR, Tryz.results189, ↓reduceIte, Nat.reduceEqDiff, reduceCtorEq]; first | done | rfl) ([]) ?_
  refine ⟨?_, rfl⟩
  rfl
def k170 := And.intro @Tryz.ntmps170 <| trivial
theorem v170G1 {G G' : Prop} (g : G') (h : Hid G' → G := by intro h9; (first | refine nvB ?_ | refine goA (wr := false) (by simp only [kB, k170, Nat.reduceAdd, Nat.reduceLT, Nat.reduceEqDiff, ↓reduceIte, reduceCtorEq]; first | done | rfl) ?_); (repeat (first | refine nvB ?_ | refine goA (wr := false) (by simp only [kB, k170, Nat.reduceAdd, Nat.reduceLT, Nat.reduceEqDiff, ↓reduceIte, reduceCtorEq]; first | done | rfl) ?_)); exact h9.out) : G := h ⟨g⟩
set_option maxRecDepth 100000 in
set_option maxHeartbeats 4000000 in
theorem indexByte_ac (a : ByteArray) (c : Int) : AC Tryz.prog 170 [Str a, I .u8 c] [] (fun r st => r = I .i64 (Lib.indexByte a.data.toList c.toNat.toUInt8) ∧ st = []) := by
  refine AC_enter Tryz.func170 rfl rfl (by simp only [Tryz.ntmps170, List.length]; omega) ?_
  intro x hx
  simp only [List.range, List.range.loop, List.length, List.zip, List.zipWith, Nat.reduceAdd, Tryz.ntmps170]
  (repeat (first | refine v170G1 ?_ | (refine caA [] (slIndexByte_ac a c) ?_; rintro r st' ⟨rfl, rfl⟩; refine frA ?_)))
  refine rtA (by simp only [kR, Tryz.results170, ↓reduceIte, Nat.reduceEqDiff, reduceCtorEq]; first | done | rfl) ([]) ?_
  refine ⟨?_, rfl⟩
  rfl
def k178 := And.intro @Tryz.ntmps178 <| And.intro @Tryz.underlying9 <| @ti9
theorem v178G1 {G G' : Prop} (g : G') (h : Hid G' → G := by intro h9; (first | refine nvB ?_ | refine goA (wr := false) (by simp only [kB, kG, kS, k178, Nat.reduceAdd, Nat.reduceLT, Nat.reduceEqDiff, ↓reduceIte, reduceCtorEq]; first | done | rfl) ?_); (repeat (first | refine nvB ?_ | refine goA (wr := false) (by simp only [kB, kG, kS, k178, Nat.reduceAdd, Nat.reduceLT, Nat.reduceEqDiff, ↓reduceIte, reduceCtorEq]; first | done | rfl) ?_)); exact h9.out) : G := h ⟨g⟩
set_option maxRecDepth 100000 in
set_option maxHeartbeats 4000000 in
theorem slHasPrefix_ac (s p : ByteArray) : AC Tryz.prog 178 [Str s, Str p] [] (fun r st => r = B (hasPrefix s p) ∧ st = []) := by
  refine AC_enter Tryz.func178 rfl rfl (by simp only [Tryz.ntmps178, List.length]; omega) ?_
  intro x hx
  simp only [List.range, List.range.loop, List.length, List.zip, List.zipWith, Nat.reduceAdd, Tryz.ntmps178]
  try refine v178G1 ?_
  refine TO_go (wr := false) 400 (by simp only [kB, kG, kS, k178, Nat.reduceAdd, Nat.reduceLT, Nat.reduceEqDiff, ↓reduceIte, reduceCtorEq]; first | done | rfl) ?_ ?_
  · simp only [All, List.cons_append, List.nil_append, InR, List.mem_cons, List.not_mem_nil, or_false, forall_eq_or_imp, forall_eq, clAV, clCs, clC, clCaps, clCap, and_true, true_and, implies_true, List.length_map, List.length_cons, List.length_nil, dArr, cl_arr, tyCs]
    repeat' (first | exact trivial | exact of_decide_eq_true (by assumption) | refine And.intro ?_ ?_ | intro _ | assumption | rfl | omega | (rw [Bool.not_eq_true']; assumption) | (simp; done) | (simp only [decide_eq_true_eq] at *; omega) | (simp_all; done))
  refine nvA ?_
  refine rtA (by simp only [kR, Tryz.results178, ↓reduceIte, Nat.reduceEqDiff, reduceCtorEq]; first | done | rfl) ([]) ?_
  refine ⟨?_, rfl⟩
  cases h : decide (p.size ≤ s.size) <;> simp_all [hasPrefix]
def k158 := And.intro @Tryz.ntmps158 <| trivial
theorem v158G1 {G G' : Prop} (g : G') (h : Hid G' → G := by intro h9; (first | refine nvB ?_ | refine goA (wr := false) (by simp only [kB, k158, Nat.reduceAdd, Nat.reduceLT, Nat.reduceEqDiff, ↓reduceIte, reduceCtorEq]; first | done | rfl) ?_); (repeat (first | refine nvB ?_ | refine goA (wr := false) (by simp only [kB, k158, Nat.reduceAdd, Nat.reduceLT, Nat.reduceEqDiff, ↓reduceIte, reduceCtorEq]; first | done | rfl) ?_)); exact h9.out) : G := h ⟨g⟩
set_option maxRecDepth 100000 in
set_option maxHeartbeats 4000000 in
theorem hasPrefix_ac (s p : ByteArray) : AC Tryz.prog 158 [Str s, Str p] [] (fun r st => r = B (hasPrefix s p) ∧ st = []) := by
  refine AC_enter Tryz.func158 rfl rfl (by simp only [Tryz.ntmps158, List.length]; omega) ?_
  intro x hx
  simp only [List.range, List.range.loop, List.length, List.zip, List.zipWith, Nat.reduceAdd, Tryz.ntmps158]
  (repeat (first | refine v158G1 ?_ | (refine caA [] (slHasPrefix_ac s p) ?_; rintro r st' ⟨rfl, rfl⟩; refine frA ?_)))
  refine rtA (by simp only [kR, Tryz.results158, ↓reduceIte, Nat.reduceEqDiff, reduceCtorEq]; first | done | rfl) ([]) ?_
  refine ⟨?_, rfl⟩
  rfl
end Go.Proofs.YtbllfnmabmamfaaGreatDoor
namespace Go.Proofs.YtbllfnmabmamfaaGreatDoor
open Go.Ab Tys
def k196 := And.intro @Tryz.ntmps196 <| And.intro @Tryz.underlying9 <| @ti9
theorem v196G2 {G G' : Prop} (g : G') (h : Hid G' → G := by intro h9; (first | refine nvB ?_ | refine goA (wr := false) (by simp only [kB, kS, k196, Nat.reduceAdd, Nat.reduceLT, Nat.reduceEqDiff, ↓reduceIte, reduceCtorEq]; first | done | rfl) ?_); (repeat (first | refine nvB ?_ | refine goA (wr := false) (by simp only [kB, kS, k196, Nat.reduceAdd, Nat.reduceLT, Nat.reduceEqDiff, ↓reduceIte, reduceCtorEq]; first | done | rfl) ?_)); exact h9.out) : G := h ⟨g⟩
set_option maxRecDepth 100000 in
set_option maxHeartbeats 4000000 in
theorem count_ac (a : ByteArray) : AC Tryz.prog 196 [Str a, Str slash] [] (fun r st => r = I .i64 (cntS a) ∧ st = []) := by
  refine AC_enter Tryz.func196 rfl rfl (by simp only [Tryz.ntmps196, List.length]; omega) ?_
  intro x hx
  simp only [List.range, List.range.loop, List.length, List.zip, List.zipWith, Nat.reduceAdd, Tryz.ntmps196]
  (repeat (first | refine nvB ?_ | refine goA (wr := false) (by simp only [kB, kS, k196, Nat.reduceAdd, Nat.reduceLT, Nat.reduceEqDiff, ↓reduceIte, reduceCtorEq, slash_size]; first | done | rfl) ?_))
  refine ifA ?_ ?_
  · intro h; simp at h
  intro _
  (repeat (first | refine nvB ?_ | refine goA (wr := false) (by simp only [kB, kS, k196, Nat.reduceAdd, Nat.reduceLT, Nat.reduceEqDiff, ↓reduceIte, reduceCtorEq, slash_size]; first | done | rfl) ?_))
  refine ifA ?_ ?_
  rotate_left
  · intro h; simp at h
  intro _
  (repeat (first | refine nvB ?_ | refine goA (wr := false) (by simp only [kB, kS, k196, Nat.reduceAdd, Nat.reduceLT, Nat.reduceEqDiff, ↓reduceIte, reduceCtorEq, slash_size]; first | done | rfl) ?_))
  refine TO_ext [.string a, .int .u8 (((slash.data.getD (Int.toNat 0) 0).toNat : Nat) : Int)] (by simp) (by simp only [evAll, kB, kS, k196, Nat.reduceAdd, Nat.reduceLT, Nat.reduceEqDiff, ↓reduceIte, reduceCtorEq]; first | done | rfl) (fun w => by rw [run_callFunc_extern Tryz.func206 (by kernel_rfl) (by kernel_rfl) (by kernel_rfl) (e := Extern.BytealgCount.count) (by kernel_rfl)]; simp only [Lib.run_countString, Result.andThen]; first | done | rfl) rfl ?_
  simp only [putD, Ab.put, Nat.reduceEqDiff, ↓reduceIte, reduceCtorEq]
  try refine v196G2 ?_
  refine rtA (by simp only [kR, Tryz.results196, ↓reduceIte, Nat.reduceEqDiff, reduceCtorEq]; first | done | rfl) ([]) ?_
  refine ⟨?_, rfl⟩
  first | rfl | (simp only [slash_byte]; rfl) | (simp [cntS]; done)
def k207 := And.intro @Tryz.ntmps207 <| And.intro @Tryz.underlying9 <| And.intro @ti3 <| @ti9
theorem v207G2 {G G' : Prop} (g : G') (h : Hid G' → G := by intro h9; (first | refine nvB ?_ | refine goA (wr := false) (by simp only [kB, kG, kS, k207, Nat.reduceAdd, Nat.reduceLT, Nat.reduceEqDiff, ↓reduceIte, reduceCtorEq]; first | done | rfl) ?_); (repeat (first | refine nvB ?_ | refine goA (wr := false) (by simp only [kB, kG, kS, k207, Nat.reduceAdd, Nat.reduceLT, Nat.reduceEqDiff, ↓reduceIte, reduceCtorEq]; first | done | rfl) ?_)); exact h9.out) : G := h ⟨g⟩
set_option maxRecDepth 100000 in
set_option maxHeartbeats 4000000 in
theorem slIndex_ac (a : ByteArray) : AC Tryz.prog 207 [Str a, Str slash] [] (fun r st => r = I .i64 (idxS a) ∧ st = []) := by
  refine AC_enter Tryz.func207 rfl rfl (by simp only [Tryz.ntmps207, List.length]; omega) ?_
  intro x hx
  simp only [List.range, List.range.loop, List.length, List.zip, List.zipWith, Nat.reduceAdd, Tryz.ntmps207]
  (repeat (first | refine nvB ?_ | refine goA (wr := false) (by simp only [kB, kG, kS, k207, Nat.reduceAdd, Nat.reduceLT, Nat.reduceEqDiff, ↓reduceIte, reduceCtorEq, slash_size]; first | done | rfl) ?_))
  refine ifA ?_ ?_
  · intro h
    have h' : slash = a := by simpa using h
    try refine v207G2 ?_
    refine rtA (by simp only [kR, Tryz.results207, ↓reduceIte, Nat.reduceEqDiff, reduceCtorEq]; first | done | rfl) ([]) ?_
    refine ⟨?_, rfl⟩
    rw [← h', show idxS slash = 0 by decide]
  intro h
  try refine v207G2 ?_
  refine ifA ?_ ?_
  rotate_left
  · intro h; simp at h
  intro _
  (repeat (first | refine nvB ?_ | refine goA (wr := false) (by simp only [kB, kG, kS, k207, Nat.reduceAdd, Nat.reduceLT, Nat.reduceEqDiff, ↓reduceIte, reduceCtorEq, slash_size]; first | done | rfl) ?_ | (refine caA [] (slIndexByte_ac a (((slash.data.getD (Int.toNat 0) 0).toNat : Nat) : Int)) ?_; rintro r st' ⟨rfl, rfl⟩; refine frA ?_)))
  refine rtA (by simp only [kR, Tryz.results207, ↓reduceIte, Nat.reduceEqDiff, reduceCtorEq]; first | done | rfl) ([]) ?_
  refine ⟨?_, rfl⟩
  simp only [Int.toNat_natCast, idxS]
  rfl
def k197 := And.intro @Tryz.ntmps197 <| trivial
theorem v197G2 {G G' : Prop} (g : G') (h : Hid G' → G := by intro h9; (first | refine nvB ?_ | refine goA (wr := false) (by simp only [kB, k197, Nat.reduceAdd, Nat.reduceLT, Nat.reduceEqDiff, ↓reduceIte, reduceCtorEq]; first | done | rfl) ?_); (repeat (first | refine nvB ?_ | refine goA (wr := false) (by simp only [kB, k197, Nat.reduceAdd, Nat.reduceLT, Nat.reduceEqDiff, ↓reduceIte, reduceCtorEq]; first | done | rfl) ?_)); exact h9.out) : G := h ⟨g⟩
set_option maxRecDepth 100000 in
set_option maxHeartbeats 4000000 in
theorem index_ac (a : ByteArray) : AC Tryz.prog 197 [Str a, Str slash] [] (fun r st => r = I .i64 (idxS a) ∧ st = []) := by
  refine AC_enter Tryz.func197 rfl rfl (by simp only [Tryz.ntmps197, List.length]; omega) ?_
  intro x hx
  simp only [List.range, List.range.loop, List.length, List.zip, List.zipWith, Nat.reduceAdd, Tryz.ntmps197]
  (repeat (first | refine v197G2 ?_ | (refine caA [] (slIndex_ac a) ?_; rintro r st' ⟨rfl, rfl⟩; refine frA ?_)))
  refine rtA (by simp only [kR, Tryz.results197, ↓reduceIte, Nat.reduceEqDiff, reduceCtorEq]; first | done | rfl) ([]) ?_
  refine ⟨?_, rfl⟩
  rfl
def k177 := And.intro @Tryz.ntmps177 <| And.intro @Tryz.underlying77 <| And.intro @Tryz.underlying9 <| And.intro @elt77 <| And.intro @ti77 <| @ti9
theorem v177G2 {G G' : Prop} (g : G') (h : Hid G' → G := by intro h9; (first | refine nvB ?_ | refine goA (wr := false) (by simp only [kB, kS, k177, Nat.reduceAdd, Nat.reduceLT, Nat.reduceEqDiff, ↓reduceIte, reduceCtorEq]; first | done | rfl) ?_); (repeat (first | refine nvB ?_ | refine goA (wr := false) (by simp only [kB, kS, k177, Nat.reduceAdd, Nat.reduceLT, Nat.reduceEqDiff, ↓reduceIte, reduceCtorEq]; first | done | rfl) ?_)); exact h9.out) : G := h ⟨g⟩
set_option maxRecDepth 100000 in
set_option maxHeartbeats 8000000 in
theorem genSplit_ac (s0 : ByteArray) (hs : s0.size ≤ 1000000) : AC Tryz.prog 177 [Str s0, Str slash, I .i64 0, I .i64 (-1)] [] (fun r st => r = aStrs (split s0) ∧ st = []) := by
  have hc := cntS_le s0
  have hmin : min ((cntS s0 : Int) + 1) ((s0.size : Int) + 1) = (cntS s0 : Int) + 1 := by omega
  have hnat : ((cntS s0 : Int) + 1).toNat = cntS s0 + 1 := by omega
  refine AC_enter Tryz.func177 rfl rfl (by simp only [Tryz.ntmps177, List.length]; omega) ?_
  intro x hx
  simp only [List.range, List.range.loop, List.length, List.zip, List.zipWith, Nat.reduceAdd, Tryz.ntmps177]
  try refine v177G2 ?_
  refine ifA ?_ ?_
  · intro h; simp at h
  intro _
  try refine v177G2 ?_
  refine ifA ?_ ?_
  · intro h; exact absurd h (by decide)
  intro _
  try refine v177G2 ?_
  refine ifA ?_ ?_
  rotate_left
  · intro h; simp at h
  intro _
  (repeat (first | refine nvB ?_ | refine goA (wr := false) (by simp only [kB, kS, k177, Nat.reduceAdd, Nat.reduceLT, Nat.reduceEqDiff, ↓reduceIte, reduceCtorEq, hmin, hnat]; first | done | rfl) ?_ | (refine caA [] (count_ac s0) ?_; rintro r st' ⟨rfl, rfl⟩; refine frA ?_)))
  refine T_loop (ι := List ByteArray × ByteArray) (I := fun i => ⟨66, [(0, Str i.2), (1, Str slash), (2, I .i64 0), (3, I .i64 (cntS s0)), (9, .c (.ms 31 1 0 (cntS s0 + 1))), (10, I .i64 i.1.length)],
      [(31, dArr 1 ((i.1 ++ List.replicate (cntS s0 + 1 - i.1.length) ByteArray.empty).map encS))]⟩)
    (Inv := fun i => i.1.length ≤ cntS s0 ∧ i.2.size ≤ 1000000 ∧ i.1 ++ splitN (cntS s0 - i.1.length) i.2 = split s0) (μ := fun i => cntS s0 - i.1.length) ([], s0) ⟨by simp, hs, by simp [split]⟩ ?_ ?_
  · (refine Ent_sub (fun i => i) rfl ?_ ⟨?_, ?_, ?_, keepI hx (by simp [domOf, Ab.get])⟩ <;> first | (simp only [kE, dArr, ↓reduceIte, Nat.reduceEqDiff, reduceCtorEq, List.replicate_succ]; done) | simp [renAV_id, renAO_id, flat_up, Ab.get, clAV, clC, clCs, clAO, cl_f1, cl_s1, cl_f2, cl_s2, cl_a1, domOf, List.flatten, List.replicate_succ])
  · rintro ⟨done, rest⟩ ⟨h1, h2, h3⟩
    simp only at h1 h2 h3 ⊢
    have hi := idxS_lt rest
    have hg := idxS_ge rest
    try refine v177G2 ?_
    refine ifA ?_ ?_
    · intro hlt
      have hlt' : done.length < cntS s0 := by simpa using hlt
      (repeat (first | refine v177G2 ?_ | (refine caA [] (index_ac rest) ?_; rintro r st' ⟨rfl, rfl⟩; refine frA ?_)))
      refine ifA ?_ ?_
      · intro hneg
        have hneg' : idxS rest < 0 := by simpa using hneg
        have ht := cut_fill done (cntS s0 + 1 - done.length) rest (by omega)
        have hn : ((done.length : Int) + 1).toNat = done.length + 1 := by omega
        (repeat (first | refine nvB ?_ | refine goA (wr := false) (by simp only [kB, kS, k177, Nat.reduceAdd, Nat.reduceLT, Nat.reduceEqDiff, ↓reduceIte, reduceCtorEq, set_S]; first | done | rfl) ?_))
        refine TO_ent (Ent_frzSlot (i := 62) (id := 31) (sz := 1) (ys := ((done ++ List.replicate (cntS s0 + 1 - done.length) ByteArray.empty).set done.length rest).map encS) rfl rfl (by simp; omega)) ?_
        refine fzA ?_
        (repeat (first | refine nvB ?_ | refine goA (wr := false) (by simp only [kB, kS, k177, Nat.reduceAdd, Nat.reduceLT, Nat.reduceEqDiff, ↓reduceIte, reduceCtorEq, hn]; first | done | rfl) ?_))
        refine rtA (by simp only [kR, Tryz.results177, ↓reduceIte, Nat.reduceEqDiff, reduceCtorEq]; first | done | rfl) ([]) ?_
        refine ⟨?_, rfl⟩
        rw [splitN_neg hneg'] at h3
        rw [← List.map_take, ht, h3]
      · intro hpos
        have hpos' : 0 ≤ idxS rest := by simpa using hpos
        have e0 : (idxS rest + 0).toNat = (idxS rest).toNat := by omega
        have e1 : (idxS rest + ((1 : Nat) : Int)).toNat = (idxS rest).toNat + 1 := by omega
        have hk : cntS s0 + 1 - done.length = (cntS s0 - done.length) + 1 := by omega
        have hk' : cntS s0 - done.length = (cntS s0 - (done.length + 1)) + 1 := by omega
        (repeat (first | refine nvB ?_ | refine goA (wr := false) (by simp only [kB, kS, k177, Nat.reduceAdd, Nat.reduceLT, Nat.reduceEqDiff, ↓reduceIte, reduceCtorEq, slash_size, set_S, e0, e1, hk, fill_next]; first | done | rfl) ?_))
        refine ⟨(done ++ [rest.extract 0 (idxS rest).toNat], rest.extract ((idxS rest).toNat + 1) rest.size), ⟨by simp; omega, by simp; omega, ?_⟩, by simp; omega, ?_⟩
        · rw [← h3, hk', splitN, if_neg (by omega)]; simp
        · have hk2 : cntS s0 + 1 - (done.length + 1) = cntS s0 - done.length := by omega
          (refine Ent_sub (fun i => i) rfl ?_ ⟨?_, ?_, ?_, keepI hx (by simp [domOf, Ab.get])⟩ <;> first | (simp only [kE, dArr, ↓reduceIte, Nat.reduceEqDiff, reduceCtorEq, hk2]; done) | simp [renAV_id, renAO_id, flat_up, Ab.get, clAV, clC, clCs, clAO, cl_f1, cl_s1, cl_f2, cl_s2, cl_a1, domOf, List.flatten, hk2])
    · intro hge
      have hge' : done.length = cntS s0 := by have : ¬ done.length < cntS s0 := by simpa using hge
                                              omega
      have ht := cut_fill done (cntS s0 + 1 - done.length) rest (by omega)
      have hn : ((done.length : Int) + 1).toNat = done.length + 1 := by omega
      (repeat (first | refine nvB ?_ | refine goA (wr := false) (by simp only [kB, kS, k177, Nat.reduceAdd, Nat.reduceLT, Nat.reduceEqDiff, ↓reduceIte, reduceCtorEq, set_S]; first | done | rfl) ?_))
      refine TO_ent (Ent_frzSlot (i := 62) (id := 31) (sz := 1) (ys := ((done ++ List.replicate (cntS s0 + 1 - done.length) ByteArray.empty).set done.length rest).map encS) rfl rfl (by simp; omega)) ?_
      refine fzA ?_
      (repeat (first | refine nvB ?_ | refine goA (wr := false) (by simp only [kB, kS, k177, Nat.reduceAdd, Nat.reduceLT, Nat.reduceEqDiff, ↓reduceIte, reduceCtorEq, hn]; first | done | rfl) ?_))
      refine rtA (by simp only [kR, Tryz.results177, ↓reduceIte, Nat.reduceEqDiff, reduceCtorEq]; first | done | rfl) ([]) ?_
      refine ⟨?_, rfl⟩
      rw [show cntS s0 - done.length = 0 by omega, splitN] at h3
      rw [← List.map_take, ht, h3]
def k156 := And.intro @Tryz.ntmps156 <| trivial
theorem v156G2 {G G' : Prop} (g : G') (h : Hid G' → G := by intro h9; (first | refine nvB ?_ | refine goA (wr := false) (by simp only [kB, k156, Nat.reduceAdd, Nat.reduceLT, Nat.reduceEqDiff, ↓reduceIte, reduceCtorEq]; first | done | rfl) ?_); (repeat (first | refine nvB ?_ | refine goA (wr := false) (by simp only [kB, k156, Nat.reduceAdd, Nat.reduceLT, Nat.reduceEqDiff, ↓reduceIte, reduceCtorEq]; first | done | rfl) ?_)); exact h9.out) : G := h ⟨g⟩
set_option maxRecDepth 100000 in
set_option maxHeartbeats 4000000 in
theorem split_ac (s0 : ByteArray) (hs : s0.size ≤ 1000000) : AC Tryz.prog 156 [Str s0, Str slash] [] (fun r st => r = aStrs (split s0) ∧ st = []) := by
  refine AC_enter Tryz.func156 rfl rfl (by simp only [Tryz.ntmps156, List.length]; omega) ?_
  intro x hx
  simp only [List.range, List.range.loop, List.length, List.zip, List.zipWith, Nat.reduceAdd, Tryz.ntmps156]
  (repeat (first | refine v156G2 ?_ | (refine caA [] (genSplit_ac s0 hs) ?_; rintro r st' ⟨rfl, rfl⟩; refine frA ?_)))
  refine rtA (by simp only [kR, Tryz.results156, ↓reduceIte, Nat.reduceEqDiff, reduceCtorEq]; first | done | rfl) ([]) ?_
  refine ⟨?_, rfl⟩
  rfl
end Go.Proofs.YtbllfnmabmamfaaGreatDoor

/- A part of the proof. -/
import Derived.Test.YtmhboloicpieeaaGreatDoorRPD
set_option maxRecDepth 100000
set_option maxHeartbeats 8000000
set_option linter.all false
namespace Go.Proofs.YtmhboloicpieeaaGreatDoor
open Go.Ab Tys
variable [Dr]
def k187 := And.intro @Tryz.ntmps187 <| trivial
theorem v187G1 {G G' : Prop} (g : G') (h : Hid G' → G := by intro h9; (first | refine nvB ?_ | refine goA (wr := false) (by simp only [kB, k187, Nat.reduceAdd, Nat.reduceLT, Nat.reduceEqDiff, ↓reduceIte, reduceCtorEq]; first | done | rfl) ?_); (repeat (first | refine nvB ?_ | refine goA (wr := false) (by simp only [kB, k187, Nat.reduceAdd, Nat.reduceLT, Nat.reduceEqDiff, ↓reduceIte, reduceCtorEq]; first | done | rfl) ?_)); exact h9.out) : G := h ⟨g⟩
theorem cmpString_ac (a b : ByteArray) : AC Tryz.prog 187 [Str a, Str b] [] (fun r st => r = I .i64 (Lib.compareBytes a.data.toList b.data.toList) ∧ st = []) := by
 refine AC_enter Tryz.func187 rfl rfl (by simp only [Tryz.ntmps187, List.length]; omega) ?_
 intro x hx
 simp only [List.range, List.range.loop, List.length, List.zip, List.zipWith, Nat.reduceAdd, Tryz.ntmps187]
 try refine v187G1 ?_
 refine TO_ext [.string a, .string b] (by simp) (by simp only [evAll, kB, k187, Nat.reduceAdd, Nat.reduceLT, Nat.reduceEqDiff, ↓reduceIte, reduceCtorEq]; first | done | rfl) (fun w => by rw [run_callFunc_extern Tryz.func232 (by kernel_rfl) (by kernel_rfl) (by kernel_rfl) (e := Extern.BytealgCompare.compare) (by kernel_rfl)]; simp only [Lib.run_compareString, Result.andThen]; first | done | rfl) rfl ?_
 simp only [putD, Ab.put, Nat.reduceEqDiff, ↓reduceIte, reduceCtorEq]
 try refine v187G1 ?_
 refine rtA (by simp only [kR, Tryz.results187, ↓reduceIte, Nat.reduceEqDiff, reduceCtorEq]; first | done | rfl) ([]) ?_
 refine ⟨?_, rfl⟩
 rfl
def k132 := And.intro @Tryz.ntmps132 <| trivial
theorem v132G1 {G G' : Prop} (g : G') (h : Hid G' → G := by intro h9; (first | refine nvB ?_ | refine goA (wr := false) (by simp only [kB, k132, Nat.reduceAdd, Nat.reduceLT, Nat.reduceEqDiff, ↓reduceIte, reduceCtorEq]; first | done | rfl) ?_); (repeat (first | refine nvB ?_ | refine goA (wr := false) (by simp only [kB, k132, Nat.reduceAdd, Nat.reduceLT, Nat.reduceEqDiff, ↓reduceIte, reduceCtorEq]; first | done | rfl) ?_)); exact h9.out) : G := h ⟨g⟩
theorem strCompare_ac (a b : ByteArray) : AC Tryz.prog 132 [Str a, Str b] [] (fun r st => r = I .i64 (Lib.compareBytes a.data.toList b.data.toList) ∧ st = []) := by
 refine AC_enter Tryz.func132 rfl rfl (by simp only [Tryz.ntmps132, List.length]; omega) ?_
 intro x hx
 simp only [List.range, List.range.loop, List.length, List.zip, List.zipWith, Nat.reduceAdd, Tryz.ntmps132]
 (repeat (first | refine v132G1 ?_ | (refine caA [] (cmpString_ac a b) ?_; rintro r st' ⟨rfl, rfl⟩; refine frA ?_)))
 refine rtA (by simp only [kR, Tryz.results132, ↓reduceIte, Nat.reduceEqDiff, reduceCtorEq]; first | done | rfl) ([]) ?_
 refine ⟨?_, rfl⟩
 rfl
def k253 := And.intro @Tryz.ntmps253 <| trivial
theorem v253G1 {G G' : Prop} (g : G') (h : Hid G' → G := by intro h9; (first | refine nvB ?_ | refine goA (wr := false) (by simp only [kB, k253, Nat.reduceAdd, Nat.reduceLT, Nat.reduceEqDiff, ↓reduceIte, reduceCtorEq]; first | done | rfl) ?_); (repeat (first | refine nvB ?_ | refine goA (wr := false) (by simp only [kB, k253, Nat.reduceAdd, Nat.reduceLT, Nat.reduceEqDiff, ↓reduceIte, reduceCtorEq]; first | done | rfl) ?_)); exact h9.out) : G := h ⟨g⟩
theorem slIndexByte_ac (a : ByteArray) (c : Int) : AC Tryz.prog 253 [Str a, I .u8 c] [] (fun r st => r = I .i64 (Lib.indexByte a.data.toList c.toNat.toUInt8) ∧ st = []) := by
 refine AC_enter Tryz.func253 rfl rfl (by simp only [Tryz.ntmps253, List.length]; omega) ?_
 intro x hx
 simp only [List.range, List.range.loop, List.length, List.zip, List.zipWith, Nat.reduceAdd, Tryz.ntmps253]
 try refine v253G1 ?_
 refine TO_ext [.string a, .int .u8 c] (by simp) (by simp only [evAll, kB, k253, Nat.reduceAdd, Nat.reduceLT, Nat.reduceEqDiff, ↓reduceIte, reduceCtorEq]; first | done | rfl) (fun w => by rw [run_callFunc_extern Tryz.func269 (by kernel_rfl) (by kernel_rfl) (by kernel_rfl) (e := Extern.BytealgIndexByte.indexByte) (by kernel_rfl)]; simp only [Lib.run_indexByteString, Result.andThen]; first | done | rfl) rfl ?_
 simp only [putD, Ab.put, Nat.reduceEqDiff, ↓reduceIte, reduceCtorEq]
 try refine v253G1 ?_
 refine rtA (by simp only [kR, Tryz.results253, ↓reduceIte, Nat.reduceEqDiff, reduceCtorEq]; first | done | rfl) ([]) ?_
 refine ⟨?_, rfl⟩
 rfl
def k229 := And.intro @Tryz.ntmps229 <| trivial
theorem v229G1 {G G' : Prop} (g : G') (h : Hid G' → G := by intro h9; (first | refine nvB ?_ | refine goA (wr := false) (by simp only [kB, k229, Nat.reduceAdd, Nat.reduceLT, Nat.reduceEqDiff, ↓reduceIte, reduceCtorEq]; first | done | rfl) ?_); (repeat (first | refine nvB ?_ | refine goA (wr := false) (by simp only [kB, k229, Nat.reduceAdd, Nat.reduceLT, Nat.reduceEqDiff, ↓reduceIte, reduceCtorEq]; first | done | rfl) ?_)); exact h9.out) : G := h ⟨g⟩
theorem indexByte_ac (a : ByteArray) (c : Int) : AC Tryz.prog 229 [Str a, I .u8 c] [] (fun r st => r = I .i64 (Lib.indexByte a.data.toList c.toNat.toUInt8) ∧ st = []) := by
 refine AC_enter Tryz.func229 rfl rfl (by simp only [Tryz.ntmps229, List.length]; omega) ?_
 intro x hx
 simp only [List.range, List.range.loop, List.length, List.zip, List.zipWith, Nat.reduceAdd, Tryz.ntmps229]
 (repeat (first | refine v229G1 ?_ | (refine caA [] (slIndexByte_ac a c) ?_; rintro r st' ⟨rfl, rfl⟩; refine frA ?_)))
 refine rtA (by simp only [kR, Tryz.results229, ↓reduceIte, Nat.reduceEqDiff, reduceCtorEq]; first | done | rfl) ([]) ?_
 refine ⟨?_, rfl⟩
 rfl
def k234 := And.intro @Tryz.ntmps234 <| And.intro @Tryz.underlying9 <| @ti9
theorem v234G1 {G G' : Prop} (g : G') (h : Hid G' → G := by intro h9; (first | refine nvB ?_ | refine goA (wr := false) (by simp only [kB, kG, kS, k234, Nat.reduceAdd, Nat.reduceLT, Nat.reduceEqDiff, ↓reduceIte, reduceCtorEq]; first | done | rfl) ?_); (repeat (first | refine nvB ?_ | refine goA (wr := false) (by simp only [kB, kG, kS, k234, Nat.reduceAdd, Nat.reduceLT, Nat.reduceEqDiff, ↓reduceIte, reduceCtorEq]; first | done | rfl) ?_)); exact h9.out) : G := h ⟨g⟩
theorem slHasPrefix_ac (s p : ByteArray) : AC Tryz.prog 234 [Str s, Str p] [] (fun r st => r = B (hasPrefix s p) ∧ st = []) := by
 refine AC_enter Tryz.func234 rfl rfl (by simp only [Tryz.ntmps234, List.length]; omega) ?_
 intro x hx
 simp only [List.range, List.range.loop, List.length, List.zip, List.zipWith, Nat.reduceAdd, Tryz.ntmps234]
 try refine v234G1 ?_
 refine TO_go (wr := false) 400 (by simp only [kB, kG, kS, k234, Nat.reduceAdd, Nat.reduceLT, Nat.reduceEqDiff, ↓reduceIte, reduceCtorEq]; first | done | rfl) ?_ ?_
 ·simp only [All, List.cons_append, List.nil_append, InR, List.mem_cons, List.not_mem_nil, or_false, forall_eq_or_imp, forall_eq, clAV, clCs, clC, clCaps, clCap, and_true, true_and, implies_true, List.length_map, List.length_cons, List.length_nil, dArr, cl_arr, tyCs]
  repeat' (first | exact trivial | exact of_decide_eq_true (by assumption) | refine And.intro ?_ ?_ | intro _ | assumption | rfl | omega | (rw [Bool.not_eq_true']; assumption) | (simp; done) | (simp only [decide_eq_true_eq] at *; omega) | (simp_all; done))
 refine nvA ?_
 refine rtA (by simp only [kR, Tryz.results234, ↓reduceIte, Nat.reduceEqDiff, reduceCtorEq]; first | done | rfl) ([]) ?_
 refine ⟨?_, rfl⟩
 cases h : decide (p.size ≤ s.size) <;> simp_all [hasPrefix]
def k192 := And.intro @Tryz.ntmps192 <| trivial
theorem v192G1 {G G' : Prop} (g : G') (h : Hid G' → G := by intro h9; (first | refine nvB ?_ | refine goA (wr := false) (by simp only [kB, k192, Nat.reduceAdd, Nat.reduceLT, Nat.reduceEqDiff, ↓reduceIte, reduceCtorEq]; first | done | rfl) ?_); (repeat (first | refine nvB ?_ | refine goA (wr := false) (by simp only [kB, k192, Nat.reduceAdd, Nat.reduceLT, Nat.reduceEqDiff, ↓reduceIte, reduceCtorEq]; first | done | rfl) ?_)); exact h9.out) : G := h ⟨g⟩
theorem hasPrefix_ac (s p : ByteArray) : AC Tryz.prog 192 [Str s, Str p] [] (fun r st => r = B (hasPrefix s p) ∧ st = []) := by
 refine AC_enter Tryz.func192 rfl rfl (by simp only [Tryz.ntmps192, List.length]; omega) ?_
 intro x hx
 simp only [List.range, List.range.loop, List.length, List.zip, List.zipWith, Nat.reduceAdd, Tryz.ntmps192]
 (repeat (first | refine v192G1 ?_ | (refine caA [] (slHasPrefix_ac s p) ?_; rintro r st' ⟨rfl, rfl⟩; refine frA ?_)))
 refine rtA (by simp only [kR, Tryz.results192, ↓reduceIte, Nat.reduceEqDiff, reduceCtorEq]; first | done | rfl) ([]) ?_
 refine ⟨?_, rfl⟩
 rfl
def k258 := And.intro @Tryz.ntmps258 <| And.intro @Tryz.underlying9 <| @ti9
theorem v258G2 {G G' : Prop} (g : G') (h : Hid G' → G := by intro h9; (first | refine nvB ?_ | refine goA (wr := false) (by simp only [kB, kS, k258, Nat.reduceAdd, Nat.reduceLT, Nat.reduceEqDiff, ↓reduceIte, reduceCtorEq]; first | done | rfl) ?_); (repeat (first | refine nvB ?_ | refine goA (wr := false) (by simp only [kB, kS, k258, Nat.reduceAdd, Nat.reduceLT, Nat.reduceEqDiff, ↓reduceIte, reduceCtorEq]; first | done | rfl) ?_)); exact h9.out) : G := h ⟨g⟩
theorem count_ac (a : ByteArray) : AC Tryz.prog 258 [Str a, Str slash] [] (fun r st => r = I .i64 (cntS a) ∧ st = []) := by
 refine AC_enter Tryz.func258 rfl rfl (by simp only [Tryz.ntmps258, List.length]; omega) ?_
 intro x hx
 simp only [List.range, List.range.loop, List.length, List.zip, List.zipWith, Nat.reduceAdd, Tryz.ntmps258]
 (repeat (first | refine nvB ?_ | refine goA (wr := false) (by simp only [kB, kS, k258, Nat.reduceAdd, Nat.reduceLT, Nat.reduceEqDiff, ↓reduceIte, reduceCtorEq, slash_size]; first | done | rfl) ?_))
 refine ifA ?_ ?_
 ·intro h; simp at h
 intro _
 (repeat (first | refine nvB ?_ | refine goA (wr := false) (by simp only [kB, kS, k258, Nat.reduceAdd, Nat.reduceLT, Nat.reduceEqDiff, ↓reduceIte, reduceCtorEq, slash_size]; first | done | rfl) ?_))
 refine ifA ?_ ?_
 rotate_left
 ·intro h; simp at h
 intro _
 (repeat (first | refine nvB ?_ | refine goA (wr := false) (by simp only [kB, kS, k258, Nat.reduceAdd, Nat.reduceLT, Nat.reduceEqDiff, ↓reduceIte, reduceCtorEq, slash_size]; first | done | rfl) ?_))
 refine TO_ext [.string a, .int .u8 (((slash.data.getD (Int.toNat 0) 0).toNat : Nat) : Int)] (by simp) (by simp only [evAll, kB, kS, k258, Nat.reduceAdd, Nat.reduceLT, Nat.reduceEqDiff, ↓reduceIte, reduceCtorEq]; first | done | rfl) (fun w => by rw [run_callFunc_extern Tryz.func272 (by kernel_rfl) (by kernel_rfl) (by kernel_rfl) (e := Extern.BytealgCount.count) (by kernel_rfl)]; simp only [Lib.run_countString, Result.andThen]; first | done | rfl) rfl ?_
 simp only [putD, Ab.put, Nat.reduceEqDiff, ↓reduceIte, reduceCtorEq]
 try refine v258G2 ?_
 refine rtA (by simp only [kR, Tryz.results258, ↓reduceIte, Nat.reduceEqDiff, reduceCtorEq]; first | done | rfl) ([]) ?_
 refine ⟨?_, rfl⟩
 first | rfl | (simp only [slash_byte]; rfl) | (simp [cntS]; done)
def k273 := And.intro @Tryz.ntmps273 <| And.intro @Tryz.underlying9 <| And.intro @ti3 <| @ti9
theorem v273G2 {G G' : Prop} (g : G') (h : Hid G' → G := by intro h9; (first | refine nvB ?_ | refine goA (wr := false) (by simp only [kB, kG, kS, k273, Nat.reduceAdd, Nat.reduceLT, Nat.reduceEqDiff, ↓reduceIte, reduceCtorEq]; first | done | rfl) ?_); (repeat (first | refine nvB ?_ | refine goA (wr := false) (by simp only [kB, kG, kS, k273, Nat.reduceAdd, Nat.reduceLT, Nat.reduceEqDiff, ↓reduceIte, reduceCtorEq]; first | done | rfl) ?_)); exact h9.out) : G := h ⟨g⟩
theorem slIndex_ac (a : ByteArray) : AC Tryz.prog 273 [Str a, Str slash] [] (fun r st => r = I .i64 (idxS a) ∧ st = []) := by
 refine AC_enter Tryz.func273 rfl rfl (by simp only [Tryz.ntmps273, List.length]; omega) ?_
 intro x hx
 simp only [List.range, List.range.loop, List.length, List.zip, List.zipWith, Nat.reduceAdd, Tryz.ntmps273]
 (repeat (first | refine nvB ?_ | refine goA (wr := false) (by simp only [kB, kG, kS, k273, Nat.reduceAdd, Nat.reduceLT, Nat.reduceEqDiff, ↓reduceIte, reduceCtorEq, slash_size]; first | done | rfl) ?_))
 refine ifA ?_ ?_
 ·intro h
  have h' : slash = a := by simpa using h
  try refine v273G2 ?_
  refine rtA (by simp only [kR, Tryz.results273, ↓reduceIte, Nat.reduceEqDiff, reduceCtorEq]; first | done | rfl) ([]) ?_
  refine ⟨?_, rfl⟩
  rw [← h', show idxS slash = 0 by decide]
 intro h
 try refine v273G2 ?_
 refine ifA ?_ ?_
 rotate_left
 ·intro h; simp at h
 intro _
 (repeat (first | refine nvB ?_ | refine goA (wr := false) (by simp only [kB, kG, kS, k273, Nat.reduceAdd, Nat.reduceLT, Nat.reduceEqDiff, ↓reduceIte, reduceCtorEq, slash_size]; first | done | rfl) ?_ | (refine caA [] (slIndexByte_ac a (((slash.data.getD (Int.toNat 0) 0).toNat : Nat) : Int)) ?_; rintro r st' ⟨rfl, rfl⟩; refine frA ?_)))
 refine rtA (by simp only [kR, Tryz.results273, ↓reduceIte, Nat.reduceEqDiff, reduceCtorEq]; first | done | rfl) ([]) ?_
 refine ⟨?_, rfl⟩
 simp only [Int.toNat_natCast, idxS]
 rfl
def k259 := And.intro @Tryz.ntmps259 <| trivial
theorem v259G2 {G G' : Prop} (g : G') (h : Hid G' → G := by intro h9; (first | refine nvB ?_ | refine goA (wr := false) (by simp only [kB, k259, Nat.reduceAdd, Nat.reduceLT, Nat.reduceEqDiff, ↓reduceIte, reduceCtorEq]; first | done | rfl) ?_); (repeat (first | refine nvB ?_ | refine goA (wr := false) (by simp only [kB, k259, Nat.reduceAdd, Nat.reduceLT, Nat.reduceEqDiff, ↓reduceIte, reduceCtorEq]; first | done | rfl) ?_)); exact h9.out) : G := h ⟨g⟩
theorem index_ac (a : ByteArray) : AC Tryz.prog 259 [Str a, Str slash] [] (fun r st => r = I .i64 (idxS a) ∧ st = []) := by
 refine AC_enter Tryz.func259 rfl rfl (by simp only [Tryz.ntmps259, List.length]; omega) ?_
 intro x hx
 simp only [List.range, List.range.loop, List.length, List.zip, List.zipWith, Nat.reduceAdd, Tryz.ntmps259]
 (repeat (first | refine v259G2 ?_ | (refine caA [] (slIndex_ac a) ?_; rintro r st' ⟨rfl, rfl⟩; refine frA ?_)))
 refine rtA (by simp only [kR, Tryz.results259, ↓reduceIte, Nat.reduceEqDiff, reduceCtorEq]; first | done | rfl) ([]) ?_
 refine ⟨?_, rfl⟩
 rfl
def k233 := And.intro @Tryz.ntmps233 <| And.intro @Tryz.underlying77 <| And.intro @Tryz.underlying9 <| And.intro @elt77 <| And.intro @ti77 <| @ti9
theorem v233G2 {G G' : Prop} (g : G') (h : Hid G' → G := by intro h9; (first | refine nvB ?_ | refine goA (wr := false) (by simp only [kB, kS, k233, Nat.reduceAdd, Nat.reduceLT, Nat.reduceEqDiff, ↓reduceIte, reduceCtorEq]; first | done | rfl) ?_); (repeat (first | refine nvB ?_ | refine goA (wr := false) (by simp only [kB, kS, k233, Nat.reduceAdd, Nat.reduceLT, Nat.reduceEqDiff, ↓reduceIte, reduceCtorEq]; first | done | rfl) ?_)); exact h9.out) : G := h ⟨g⟩
theorem genSplit_ac (s0 : ByteArray) (hs : s0.size ≤ 1000000) : AC Tryz.prog 233 [Str s0, Str slash, I .i64 0, I .i64 (-1)] [] (fun r st => r = aStrs (split s0) ∧ st = []) := by
 have hc := cntS_le s0
 have hmin : min ((cntS s0 : Int) + 1) ((s0.size : Int) + 1) = (cntS s0 : Int) + 1 := by omega
 have hnat : ((cntS s0 : Int) + 1).toNat = cntS s0 + 1 := by omega
 refine AC_enter Tryz.func233 rfl rfl (by simp only [Tryz.ntmps233, List.length]; omega) ?_
 intro x hx
 simp only [List.range, List.range.loop, List.length, List.zip, List.zipWith, Nat.reduceAdd, Tryz.ntmps233]
 try refine v233G2 ?_
 refine ifA ?_ ?_
 ·intro h; simp at h
 intro _
 try refine v233G2 ?_
 refine ifA ?_ ?_
 ·intro h; exact absurd h (by decide)
 intro _
 try refine v233G2 ?_
 refine ifA ?_ ?_
 rotate_left
 ·intro h; simp at h
 intro _
 (repeat (first | refine nvB ?_ | refine goA (wr := false) (by simp only [kB, kS, k233, Nat.reduceAdd, Nat.reduceLT, Nat.reduceEqDiff, ↓reduceIte, reduceCtorEq, hmin, hnat]; first | done | rfl) ?_ | (refine caA [] (count_ac s0) ?_; rintro r st' ⟨rfl, rfl⟩; refine frA ?_)))
 refine T_loop (ι := List ByteArray × ByteArray) (I := fun i => ⟨66, [(0, Str i.2), (1, Str slash), (2, I .i64 0), (3, I .i64 (cntS s0)), (9, .c (.ms 31 1 0 (cntS s0 + 1))), (10, I .i64 i.1.length)],
   [(31, dArr 1 ((i.1 ++ List.replicate (cntS s0 + 1 - i.1.length) ByteArray.empty).map encS))]⟩)
  (Inv := fun i => i.1.length ≤ cntS s0 ∧ i.2.size ≤ 1000000 ∧ i.1 ++ splitN (cntS s0 - i.1.length) i.2 = split s0) (μ := fun i => cntS s0 - i.1.length) ([], s0) ⟨by simp, hs, by simp [split]⟩ ?_ ?_
 ·(refine Ent_sub (fun i => i) rfl ?_ ⟨?_, ?_, ?_, keepI hx (by simp [domOf, Ab.get])⟩ <;> first | (simp only [kE, dArr, ↓reduceIte, Nat.reduceEqDiff, reduceCtorEq, List.replicate_succ]; done) | simp [renAV_id, renAO_id, flat_up, Ab.get, clAV, clC, clCs, clAO, cl_f1, cl_s1, cl_f2, cl_s2, cl_a1, domOf, List.flatten, List.replicate_succ])
 ·rintro ⟨done, rest⟩ ⟨h1, h2, h3⟩
  simp only at h1 h2 h3 ⊢
  have hi := idxS_lt rest
  have hg := idxS_ge rest
  try refine v233G2 ?_
  refine ifA ?_ ?_
  ·intro hlt
   have hlt' : done.length < cntS s0 := by simpa using hlt
   (repeat (first | refine v233G2 ?_ | (refine caA [] (index_ac rest) ?_; rintro r st' ⟨rfl, rfl⟩; refine frA ?_)))
   refine ifA ?_ ?_
   ·intro hneg
    have hneg' : idxS rest < 0 := by simpa using hneg
    have ht := cut_fill done (cntS s0 + 1 - done.length) rest (by omega)
    have hn : ((done.length : Int) + 1).toNat = done.length + 1 := by omega
    (repeat (first | refine nvB ?_ | refine goA (wr := false) (by simp only [kB, kS, k233, Nat.reduceAdd, Nat.reduceLT, Nat.reduceEqDiff, ↓reduceIte, reduceCtorEq, set_S]; first | done | rfl) ?_))
    refine TO_ent (Ent_frzSlot (i := 62) (id := 31) (sz := 1) (ys := ((done ++ List.replicate (cntS s0 + 1 - done.length) ByteArray.empty).set done.length rest).map encS) rfl rfl (by simp; omega)) ?_
    refine fzA ?_
    (repeat (first | refine nvB ?_ | refine goA (wr := false) (by simp only [kB, kS, k233, Nat.reduceAdd, Nat.reduceLT, Nat.reduceEqDiff, ↓reduceIte, reduceCtorEq, hn]; first | done | rfl) ?_))
    refine rtA (by simp only [kR, Tryz.results233, ↓reduceIte, Nat.reduceEqDiff, reduceCtorEq]; first | done | rfl) ([]) ?_
    refine ⟨?_, rfl⟩
    rw [splitN_neg hneg'] at h3
    rw [← List.map_take, ht, h3]
   ·intro hpos
    have hpos' : 0 ≤ idxS rest := by simpa using hpos
    have e0 : (idxS rest + 0).toNat = (idxS rest).toNat := by omega
    have e1 : (idxS rest + ((1 : Nat) : Int)).toNat = (idxS rest).toNat + 1 := by omega
    have hk : cntS s0 + 1 - done.length = (cntS s0 - done.length) + 1 := by omega
    have hk' : cntS s0 - done.length = (cntS s0 - (done.length + 1)) + 1 := by omega
    (repeat (first | refine nvB ?_ | refine goA (wr := false) (by simp only [kB, kS, k233, Nat.reduceAdd, Nat.reduceLT, Nat.reduceEqDiff, ↓reduceIte, reduceCtorEq, slash_size, set_S, e0, e1, hk, fill_next]; first | done | rfl) ?_))
    refine ⟨(done ++ [rest.extract 0 (idxS rest).toNat], rest.extract ((idxS rest).toNat + 1) rest.size), ⟨by simp; omega, by simp; omega, ?_⟩, by simp; omega, ?_⟩
    ·rw [← h3, hk', splitN, if_neg (by omega)]; simp
    ·have hk2 : cntS s0 + 1 - (done.length + 1) = cntS s0 - done.length := by omega
     (refine Ent_sub (fun i => i) rfl ?_ ⟨?_, ?_, ?_, keepI hx (by simp [domOf, Ab.get])⟩ <;> first | (simp only [kE, dArr, ↓reduceIte, Nat.reduceEqDiff, reduceCtorEq, hk2]; done) | simp [renAV_id, renAO_id, flat_up, Ab.get, clAV, clC, clCs, clAO, cl_f1, cl_s1, cl_f2, cl_s2, cl_a1, domOf, List.flatten, hk2])
  ·intro hge
   have hge' : done.length = cntS s0 := by have : ¬ done.length < cntS s0 := by simpa using hge
                                           omega
   have ht := cut_fill done (cntS s0 + 1 - done.length) rest (by omega)
   have hn : ((done.length : Int) + 1).toNat = done.length + 1 := by omega
   (repeat (first | refine nvB ?_ | refine goA (wr := false) (by simp only [kB, kS, k233, Nat.reduceAdd, Nat.reduceLT, Nat.reduceEqDiff, ↓reduceIte, reduceCtorEq, set_S]; first | done | rfl) ?_))
   refine TO_ent (Ent_frzSlot (i := 62) (id := 31) (sz := 1) (ys := ((done ++ List.replicate (cntS s0 + 1 - done.length) ByteArray.empty).set done.length rest).map encS) rfl rfl (by simp; omega)) ?_
   refine fzA ?_
   (repeat (first | refine nvB ?_ | refine goA (wr := false) (by simp only [kB, kS, k233, Nat.reduceAdd, Nat.reduceLT, Nat.reduceEqDiff, ↓reduceIte, reduceCtorEq, hn]; first | done | rfl) ?_))
   refine rtA (by simp only [kR, Tryz.results233, ↓reduceIte, Nat.reduceEqDiff, reduceCtorEq]; first | done | rfl) ([]) ?_
   refine ⟨?_, rfl⟩
   rw [show cntS s0 - done.length = 0 by omega, splitN] at h3
   rw [← List.map_take, ht, h3]
def k190 := And.intro @Tryz.ntmps190 <| trivial
theorem v190G2 {G G' : Prop} (g : G') (h : Hid G' → G := by intro h9; (first | refine nvB ?_ | refine goA (wr := false) (by simp only [kB, k190, Nat.reduceAdd, Nat.reduceLT, Nat.reduceEqDiff, ↓reduceIte, reduceCtorEq]; first | done | rfl) ?_); (repeat (first | refine nvB ?_ | refine goA (wr := false) (by simp only [kB, k190, Nat.reduceAdd, Nat.reduceLT, Nat.reduceEqDiff, ↓reduceIte, reduceCtorEq]; first | done | rfl) ?_)); exact h9.out) : G := h ⟨g⟩
theorem split_ac (s0 : ByteArray) (hs : s0.size ≤ 1000000) : AC Tryz.prog 190 [Str s0, Str slash] [] (fun r st => r = aStrs (split s0) ∧ st = []) := by
 refine AC_enter Tryz.func190 rfl rfl (by simp only [Tryz.ntmps190, List.length]; omega) ?_
 intro x hx
 simp only [List.range, List.range.loop, List.length, List.zip, List.zipWith, Nat.reduceAdd, Tryz.ntmps190]
 (repeat (first | refine v190G2 ?_ | (refine caA [] (genSplit_ac s0 hs) ?_; rintro r st' ⟨rfl, rfl⟩; refine frA ?_)))
 refine rtA (by simp only [kR, Tryz.results190, ↓reduceIte, Nat.reduceEqDiff, reduceCtorEq]; first | done | rfl) ([]) ?_
 refine ⟨?_, rfl⟩
 rfl
end Go.Proofs.YtmhboloicpieeaaGreatDoor

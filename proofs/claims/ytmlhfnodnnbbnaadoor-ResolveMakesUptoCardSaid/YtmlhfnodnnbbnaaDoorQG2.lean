/- A part of the proof: contracts of functions of the program over abstract states. -/
import Derived.Test.YtmlhfnodnnbbnaaDoorQG1
set_option linter.all false
namespace Go.Proofs.YtmlhfnodnnbbnaaDoor
open Go.Ab Tys
@[reducible] def slash : ByteArray := { data := #[47] }
theorem slash_size : slash.size = 1 := rfl
theorem slash_byte : ((#[47] : Array UInt8).getD 0 0).toNat.toUInt8 = 47 := by decide
theorem indexByte_lt (l : List UInt8) (c : UInt8) : Lib.indexByte l c < l.length := by
  induction l with
  | nil => simp [Lib.indexByte]
  | cons b l ih =>
    unfold Lib.indexByte
    split
    · simp
    · split
      · simp; omega
      · simp; omega
def cntS (s : ByteArray) : Nat := Lib.countByte s.data.toList 47
def idxS (s : ByteArray) : Int := Lib.indexByte s.data.toList 47
theorem cntS_le (s : ByteArray) : cntS s ≤ s.size := by
  unfold cntS Lib.countByte
  have := List.count_le_length (a := (47 : UInt8)) (l := s.data.toList)
  simpa using this
theorem idxS_lt (s : ByteArray) : idxS s < s.size := by
  have := indexByte_lt s.data.toList 47
  simpa [idxS] using this
theorem idxS_ge (s : ByteArray) : -1 ≤ idxS s := Lib.indexByte_ge _ _
def k97 := And.intro @Tryd.ntmps97 <| And.intro @Tryd.underlying9 <| @ti9
set_option maxRecDepth 100000 in
set_option maxHeartbeats 4000000 in
theorem count_ac (a : ByteArray) : AC Tryd.prog 97 [Str a, Str slash] [] (fun r st => r = I .i64 (cntS a) ∧ st = []) := by
  refine AC_enter Tryd.func97 rfl rfl (by simp only [Tryd.ntmps97, List.length]; omega) ?_
  intro x hx
  simp only [List.range, List.range.loop, List.length, List.zip, List.zipWith, Nat.reduceAdd, Tryd.ntmps97]
  (repeat (first | (with_reducible first | refine na ?_ | refine nb ?_ | refine nc ?_ | refine nd ?_ | refine ne ?_ | refine nf ?_ | refine ng ?_ | refine nh ?_ | refine ni ?_ | refine nj ?_ | refine nk ?_ | refine nl ?_ | refine nm (by decide) ?_ | refine nn ?_) | refine TO_go (wr := false) 400 (by simp only [kB, kS, k97, Nat.reduceAdd, Nat.reduceLT, Nat.reduceEqDiff, ↓reduceIte, reduceCtorEq, slash_size]; first | done | rfl) (by first | exact trivial | (simp only [kO]; omega) | (simp [All, InR]; first | done | omega) | (simp +contextual [All, InR]; first | done | grind)) ?_))
  refine T_cond (by simp only [kV, ↓reduceIte, Nat.reduceEqDiff, reduceCtorEq]; first | done | rfl) ?_ ?_
  · intro h; simp at h
  intro _
  (repeat (first | (with_reducible first | refine na ?_ | refine nb ?_ | refine nc ?_ | refine nd ?_ | refine ne ?_ | refine nf ?_ | refine ng ?_ | refine nh ?_ | refine ni ?_ | refine nj ?_ | refine nk ?_ | refine nl ?_ | refine nm (by decide) ?_ | refine nn ?_) | refine TO_go (wr := false) 400 (by simp only [kB, kS, k97, Nat.reduceAdd, Nat.reduceLT, Nat.reduceEqDiff, ↓reduceIte, reduceCtorEq, slash_size]; first | done | rfl) (by first | exact trivial | (simp only [kO]; omega) | (simp [All, InR]; first | done | omega) | (simp +contextual [All, InR]; first | done | grind)) ?_))
  refine T_cond (by simp only [kV, ↓reduceIte, Nat.reduceEqDiff, reduceCtorEq]; first | done | rfl) ?_ ?_
  rotate_left
  · intro h; simp at h
  intro _
  (repeat (first | (with_reducible first | refine na ?_ | refine nb ?_ | refine nc ?_ | refine nd ?_ | refine ne ?_ | refine nf ?_ | refine ng ?_ | refine nh ?_ | refine ni ?_ | refine nj ?_ | refine nk ?_ | refine nl ?_ | refine nm (by decide) ?_ | refine nn ?_) | refine TO_go (wr := false) 400 (by simp only [kB, kS, k97, Nat.reduceAdd, Nat.reduceLT, Nat.reduceEqDiff, ↓reduceIte, reduceCtorEq, slash_size]; first | done | rfl) (by first | exact trivial | (simp only [kO]; omega) | (simp [All, InR]; first | done | omega) | (simp +contextual [All, InR]; first | done | grind)) ?_))
  refine TO_ext [.string a, .int .u8 (((slash.data.getD (Int.toNat 0) 0).toNat : Nat) : Int)] (by simp) (by simp only [evAll, kB, kS, k97, Nat.reduceAdd, Nat.reduceLT, Nat.reduceEqDiff, ↓reduceIte, reduceCtorEq]; first | done | rfl) (fun w => by rw [run_callFunc_extern Tryd.func102 (by kernel_rfl) (by kernel_rfl) (by kernel_rfl) (e := Extern.BytealgCount.count) (by kernel_rfl)]; simp only [Lib.run_countString, Result.andThen]; first | done | rfl) rfl ?_
  simp only [putD, Ab.put, Nat.reduceEqDiff, ↓reduceIte, reduceCtorEq]
  (repeat (first | (with_reducible first | refine na ?_ | refine nb ?_ | refine nc ?_ | refine nd ?_ | refine ne ?_ | refine nf ?_ | refine ng ?_ | refine nh ?_ | refine ni ?_ | refine nj ?_ | refine nk ?_ | refine nl ?_ | refine nm (by decide) ?_ | refine nn ?_) | refine TO_go (wr := false) 400 (by simp only [kB, kS, k97, Nat.reduceAdd, Nat.reduceLT, Nat.reduceEqDiff, ↓reduceIte, reduceCtorEq]; first | done | rfl) (by first | exact trivial | (simp only [kO]; omega) | (simp [All, InR]; first | done | omega) | (simp +contextual [All, InR]; first | done | grind)) ?_))
  refine RetQ_intro (by simp only [kR, Tryd.results97, ↓reduceIte, Nat.reduceEqDiff, reduceCtorEq]; first | done | rfl) (by first | exact trivial | (simp only [kO]; omega) | (simp [All, InR]; first | done | omega) | (simp +contextual [All, InR]; first | done | grind)) [] ⟨by simp [Ab.get, renAO_id], by simp, by simp [clAO, cl_f1, cl_s1, cl_f2, cl_s2, cl_a1, flat_up, clCs, clC, domOf, Ab.get], keepI hx (by simp [domOf, Ab.get])⟩ (by simp [clAV, clPs, clCs, clC, domOf, Ab.get]) ⟨?_, rfl⟩
  first | rfl | (simp only [slash_byte]; rfl) | (simp [cntS]; done)
def k103 := And.intro @Tryd.ntmps103 <| And.intro @Tryd.underlying9 <| And.intro @ti3 <| @ti9
set_option maxRecDepth 100000 in
set_option maxHeartbeats 4000000 in
theorem slIndex_ac (a : ByteArray) : AC Tryd.prog 103 [Str a, Str slash] [] (fun r st => r = I .i64 (idxS a) ∧ st = []) := by
  refine AC_enter Tryd.func103 rfl rfl (by simp only [Tryd.ntmps103, List.length]; omega) ?_
  intro x hx
  simp only [List.range, List.range.loop, List.length, List.zip, List.zipWith, Nat.reduceAdd, Tryd.ntmps103]
  (repeat (first | (with_reducible first | refine na ?_ | refine nb ?_ | refine nc ?_ | refine nd ?_ | refine ne ?_ | refine nf ?_ | refine ng ?_ | refine nh ?_ | refine ni ?_ | refine nj ?_ | refine nk ?_ | refine nl ?_ | refine nm (by decide) ?_ | refine nn ?_) | refine TO_go (wr := false) 400 (by simp only [kB, kG, kS, k103, Nat.reduceAdd, Nat.reduceLT, Nat.reduceEqDiff, ↓reduceIte, reduceCtorEq, slash_size]; first | done | rfl) (by first | exact trivial | (simp only [kO]; omega) | (simp [All, InR]; first | done | omega) | (simp +contextual [All, InR]; first | done | grind)) ?_))
  refine T_cond (by simp only [kV, ↓reduceIte, Nat.reduceEqDiff, reduceCtorEq]; first | done | rfl) ?_ ?_
  · intro h
    have h' : slash = a := by simpa using h
    (repeat (first | (with_reducible first | refine na ?_ | refine nb ?_ | refine nc ?_ | refine nd ?_ | refine ne ?_ | refine nf ?_ | refine ng ?_ | refine nh ?_ | refine ni ?_ | refine nj ?_ | refine nk ?_ | refine nl ?_ | refine nm (by decide) ?_ | refine nn ?_) | refine TO_go (wr := false) 400 (by simp only [kB, kG, kS, k103, Nat.reduceAdd, Nat.reduceLT, Nat.reduceEqDiff, ↓reduceIte, reduceCtorEq]; first | done | rfl) (by first | exact trivial | (simp only [kO]; omega) | (simp [All, InR]; first | done | omega) | (simp +contextual [All, InR]; first | done | grind)) ?_))
    refine RetQ_intro (by simp only [kR, Tryd.results103, ↓reduceIte, Nat.reduceEqDiff, reduceCtorEq]; first | done | rfl) (by first | exact trivial | (simp only [kO]; omega) | (simp [All, InR]; first | done | omega) | (simp +contextual [All, InR]; first | done | grind)) [] ⟨by simp [Ab.get, renAO_id], by simp, by simp [clAO, cl_f1, cl_s1, cl_f2, cl_s2, cl_a1, flat_up, clCs, clC, domOf, Ab.get], keepI hx (by simp [domOf, Ab.get])⟩ (by simp [clAV, clPs, clCs, clC, domOf, Ab.get]) ⟨?_, rfl⟩
    rw [← h', show idxS slash = 0 by decide]
  intro h
  (repeat (first | (with_reducible first | refine na ?_ | refine nb ?_ | refine nc ?_ | refine nd ?_ | refine ne ?_ | refine nf ?_ | refine ng ?_ | refine nh ?_ | refine ni ?_ | refine nj ?_ | refine nk ?_ | refine nl ?_ | refine nm (by decide) ?_ | refine nn ?_) | refine TO_go (wr := false) 400 (by simp only [kB, kG, kS, k103, Nat.reduceAdd, Nat.reduceLT, Nat.reduceEqDiff, ↓reduceIte, reduceCtorEq]; first | done | rfl) (by first | exact trivial | (simp only [kO]; omega) | (simp [All, InR]; first | done | omega) | (simp +contextual [All, InR]; first | done | grind)) ?_))
  refine T_cond (by simp only [kV, ↓reduceIte, Nat.reduceEqDiff, reduceCtorEq]; first | done | rfl) ?_ ?_
  rotate_left
  · intro h; simp at h
  intro _
  (repeat (first | (with_reducible first | refine na ?_ | refine nb ?_ | refine nc ?_ | refine nd ?_ | refine ne ?_ | refine nf ?_ | refine ng ?_ | refine nh ?_ | refine ni ?_ | refine nj ?_ | refine nk ?_ | refine nl ?_ | refine nm (by decide) ?_ | refine nn ?_) | refine TO_go (wr := false) 400 (by simp only [kB, kG, kS, k103, Nat.reduceAdd, Nat.reduceLT, Nat.reduceEqDiff, ↓reduceIte, reduceCtorEq, slash_size]; first | done | rfl) (by first | exact trivial | (simp only [kO]; omega) | (simp [All, InR]; first | done | omega) | (simp +contextual [All, InR]; first | done | grind)) ?_ | (refine TO_call [] (by simp) (by simp only [kV, ↓reduceIte, Nat.reduceEqDiff, reduceCtorEq]; first | done | rfl) ⟨by simp, by simp, by simp [clAV, clC, clCs, clCaps, clCap]⟩ (slIndexByte_ac a (((slash.data.getD (Int.toNat 0) 0).toNat : Nat) : Int)) ?_; (rintro r st' ⟨rfl, rfl⟩; refine ⟨by simp [Fresh], ?_⟩; simp only [kP, Nat.reduceEqDiff, ↓reduceIte, reduceCtorEq]))))
  refine RetQ_intro (by simp only [kR, Tryd.results103, ↓reduceIte, Nat.reduceEqDiff, reduceCtorEq]; first | done | rfl) (by first | exact trivial | (simp only [kO]; omega) | (simp [All, InR]; first | done | omega) | (simp +contextual [All, InR]; first | done | grind)) [] ⟨by simp [Ab.get, renAO_id], by simp, by simp [clAO, cl_f1, cl_s1, cl_f2, cl_s2, cl_a1, flat_up, clCs, clC, domOf, Ab.get], keepI hx (by simp [domOf, Ab.get])⟩ (by simp [clAV, clPs, clCs, clC, domOf, Ab.get]) ⟨?_, rfl⟩
  simp only [Int.toNat_natCast, idxS]
  rfl
def k98 := And.intro @Tryd.ntmps98 <| trivial
set_option maxRecDepth 100000 in
set_option maxHeartbeats 4000000 in
theorem index_ac (a : ByteArray) : AC Tryd.prog 98 [Str a, Str slash] [] (fun r st => r = I .i64 (idxS a) ∧ st = []) := by
  refine AC_enter Tryd.func98 rfl rfl (by simp only [Tryd.ntmps98, List.length]; omega) ?_
  intro x hx
  simp only [List.range, List.range.loop, List.length, List.zip, List.zipWith, Nat.reduceAdd, Tryd.ntmps98]
  (repeat (first | (with_reducible first | refine na ?_ | refine nb ?_ | refine nc ?_ | refine nd ?_ | refine ne ?_ | refine nf ?_ | refine ng ?_ | refine nh ?_ | refine ni ?_ | refine nj ?_ | refine nk ?_ | refine nl ?_ | refine nm (by decide) ?_ | refine nn ?_) | refine TO_go (wr := false) 400 (by simp only [kB, k98, Nat.reduceAdd, Nat.reduceLT, Nat.reduceEqDiff, ↓reduceIte, reduceCtorEq]; first | done | rfl) (by first | exact trivial | (simp only [kO]; omega) | (simp [All, InR]; first | done | omega) | (simp +contextual [All, InR]; first | done | grind)) ?_ | (refine TO_call [] (by simp) (by simp only [kV, ↓reduceIte, Nat.reduceEqDiff, reduceCtorEq]; first | done | rfl) ⟨by simp, by simp, by simp [clAV, clC, clCs, clCaps, clCap]⟩ (slIndex_ac a) ?_; (rintro r st' ⟨rfl, rfl⟩; refine ⟨by simp [Fresh], ?_⟩; simp only [kP, Nat.reduceEqDiff, ↓reduceIte, reduceCtorEq]))))
  refine RetQ_intro (by simp only [kR, Tryd.results98, ↓reduceIte, Nat.reduceEqDiff, reduceCtorEq]; first | done | rfl) (by first | exact trivial | (simp only [kO]; omega) | (simp [All, InR]; first | done | omega) | (simp +contextual [All, InR]; first | done | grind)) [] ⟨by simp [Ab.get, renAO_id], by simp, by simp [clAO, cl_f1, cl_s1, cl_f2, cl_s2, cl_a1, flat_up, clCs, clC, domOf, Ab.get], keepI hx (by simp [domOf, Ab.get])⟩ (by simp [clAV, clPs, clCs, clC, domOf, Ab.get]) ⟨?_, rfl⟩
  rfl
def splitN : Nat → ByteArray → List ByteArray
  | 0, s => [s]
  | n + 1, s => if idxS s < 0 then [s] else s.extract 0 (idxS s).toNat :: splitN n (s.extract ((idxS s).toNat + 1) s.size)
def split (s : ByteArray) : List ByteArray := splitN (cntS s) s
@[reducible] def encS (b : ByteArray) : List D := [.v (.string b)]
@[reducible] def aStrs (l : List ByteArray) : AV := .c (.d (.ps 1 (l.map encS)))
theorem splitN_len : ∀ (n : Nat) (s : ByteArray), (splitN n s).length ≤ n + 1
  | 0, s => by simp [splitN]
  | n + 1, s => by
    simp only [splitN]
    split
    · simp
    · simpa using splitN_len n _
theorem set_gen {α : Type} (e : α → List D) (l : List α) (i : Nat) (v : α) (n : Nat) (hn : ∀ a, (e a).length = n) :
    ((l.map e).map fun l => l.map C.d).set i ((e v).map C.d ++ List.drop n (((l.map e).map fun l => l.map C.d).getD i [])) = ((l.set i v).map e).map fun l => l.map C.d := by
  by_cases h : i < l.length
  · have : (((l.map e).map fun l => l.map C.d).getD i []).length = n := by simp [List.getD, h, hn]
    rw [List.drop_eq_nil_of_le (by omega), List.append_nil]; simp [List.map_set]
  · rw [List.set_eq_of_length_le (by simp; omega), List.set_eq_of_length_le (by omega)]
theorem set_S (l : List ByteArray) (i : Nat) (v : ByteArray) : ((l.map encS).map fun l => l.map C.d).set i (C.d (.v (.string v)) :: List.drop 1 (((l.map encS).map fun l => l.map C.d).getD i [])) = ((l.set i v).map encS).map fun l => l.map C.d :=
  set_gen encS l i v 1 (fun _ => rfl)
theorem splitN_neg {n : Nat} {s : ByteArray} (h : idxS s < 0) : splitN n s = [s] := by
  cases n with
  | zero => rfl
  | succ n => simp [splitN, h]
theorem set_up (l : List ByteArray) (i : Nat) (v : ByteArray) : ((l.map encS).map fun l => l.map C.d).set i [C.d (.v (.string v))] = ((l.set i v).map encS).map fun l => l.map C.d := by
  simp only [List.map_map, List.map_set]; rfl
theorem fill_next (done : List ByteArray) (k : Nat) (e v : ByteArray) : (done ++ List.replicate (k + 1) e).set done.length v = (done ++ [v]) ++ List.replicate k e := by
  rw [List.set_append, if_neg (by omega)]; simp [List.replicate_succ]
theorem cut_fill (done : List ByteArray) (k : Nat) (rest : ByteArray) (h : 0 < k) : ((done ++ List.replicate k ByteArray.empty).set done.length rest).take (done.length + 1) = done ++ [rest] := by
  obtain ⟨j, rfl⟩ : ∃ j, k = j + 1 := ⟨k - 1, by omega⟩
  rw [fill_next, List.take_append_of_le_length (by simp), List.take_of_length_le (by simp)]
def k94 := And.intro @Tryd.ntmps94 <| And.intro @Tryd.underlying139 <| And.intro @Tryd.underlying9 <| And.intro @elt139 <| And.intro @ti139 <| @ti9
set_option maxRecDepth 100000 in
set_option maxHeartbeats 8000000 in
theorem genSplit_ac (s0 : ByteArray) (hs : s0.size ≤ 1000000) : AC Tryd.prog 94 [Str s0, Str slash, I .i64 0, I .i64 (-1)] [] (fun r st => r = aStrs (split s0) ∧ st = []) := by
  have hc := cntS_le s0
  have hmin : min ((cntS s0 : Int) + 1) ((s0.size : Int) + 1) = (cntS s0 : Int) + 1 := by omega
  have hnat : ((cntS s0 : Int) + 1).toNat = cntS s0 + 1 := by omega
  refine AC_enter Tryd.func94 rfl rfl (by simp only [Tryd.ntmps94, List.length]; omega) ?_
  intro x hx
  simp only [List.range, List.range.loop, List.length, List.zip, List.zipWith, Nat.reduceAdd, Tryd.ntmps94]
  (repeat (first | (with_reducible first | refine na ?_ | refine nb ?_ | refine nc ?_ | refine nd ?_ | refine ne ?_ | refine nf ?_ | refine ng ?_ | refine nh ?_ | refine ni ?_ | refine nj ?_ | refine nk ?_ | refine nl ?_ | refine nm (by decide) ?_ | refine nn ?_) | refine TO_go (wr := false) 400 (by simp only [kB, kS, k94, Nat.reduceAdd, Nat.reduceLT, Nat.reduceEqDiff, ↓reduceIte, reduceCtorEq]; first | done | rfl) (by first | exact trivial | (simp only [kO]; omega) | (simp [All, InR]; first | done | omega) | (simp +contextual [All, InR]; first | done | grind)) ?_))
  refine T_cond (by simp only [kV, ↓reduceIte, Nat.reduceEqDiff, reduceCtorEq]; first | done | rfl) ?_ ?_
  · intro h; simp at h
  intro _
  (repeat (first | (with_reducible first | refine na ?_ | refine nb ?_ | refine nc ?_ | refine nd ?_ | refine ne ?_ | refine nf ?_ | refine ng ?_ | refine nh ?_ | refine ni ?_ | refine nj ?_ | refine nk ?_ | refine nl ?_ | refine nm (by decide) ?_ | refine nn ?_) | refine TO_go (wr := false) 400 (by simp only [kB, kS, k94, Nat.reduceAdd, Nat.reduceLT, Nat.reduceEqDiff, ↓reduceIte, reduceCtorEq]; first | done | rfl) (by first | exact trivial | (simp only [kO]; omega) | (simp [All, InR]; first | done | omega) | (simp +contextual [All, InR]; first | done | grind)) ?_))
  refine T_cond (by simp only [kV, ↓reduceIte, Nat.reduceEqDiff, reduceCtorEq]; first | done | rfl) ?_ ?_
  · intro h; exact absurd h (by decide)
  intro _
  (repeat (first | (with_reducible first | refine na ?_ | refine nb ?_ | refine nc ?_ | refine nd ?_ | refine ne ?_ | refine nf ?_ | refine ng ?_ | refine nh ?_ | refine ni ?_ | refine nj ?_ | refine nk ?_ | refine nl ?_ | refine nm (by decide) ?_ | refine nn ?_) | refine TO_go (wr := false) 400 (by simp only [kB, kS, k94, Nat.reduceAdd, Nat.reduceLT, Nat.reduceEqDiff, ↓reduceIte, reduceCtorEq]; first | done | rfl) (by first | exact trivial | (simp only [kO]; omega) | (simp [All, InR]; first | done | omega) | (simp +contextual [All, InR]; first | done | grind)) ?_))
  refine T_cond (by simp only [kV, ↓reduceIte, Nat.reduceEqDiff, reduceCtorEq]; first | done | rfl) ?_ ?_
  rotate_left
  · intro h; simp at h
  intro _
  (repeat (first | (with_reducible first | refine na ?_ | refine nb ?_ | refine nc ?_ | refine nd ?_ | refine ne ?_ | refine nf ?_ | refine ng ?_ | refine nh ?_ | refine ni ?_ | refine nj ?_ | refine nk ?_ | refine nl ?_ | refine nm (by decide) ?_ | refine nn ?_) | refine TO_go (wr := false) 400 (by simp only [kB, kS, k94, Nat.reduceAdd, Nat.reduceLT, Nat.reduceEqDiff, ↓reduceIte, reduceCtorEq, hmin, hnat]; first | done | rfl) (by first | exact trivial | (simp only [kO]; omega) | (simp [All, InR]; first | done | omega) | (simp +contextual [All, InR]; first | done | grind)) ?_ | (refine TO_call [] (by simp) (by simp only [kV, ↓reduceIte, Nat.reduceEqDiff, reduceCtorEq]; first | done | rfl) ⟨by simp, by simp, by simp [clAV, clC, clCs, clCaps, clCap]⟩ (count_ac s0) ?_; (rintro r st' ⟨rfl, rfl⟩; refine ⟨by simp [Fresh], ?_⟩; simp only [kP, Nat.reduceEqDiff, ↓reduceIte, reduceCtorEq]))))
  refine T_loop (ι := List ByteArray × ByteArray) (I := fun i => ⟨66, [(0, Str i.2), (1, Str slash), (2, I .i64 0), (3, I .i64 (cntS s0)), (9, .c (.ms 31 1 0 (cntS s0 + 1))), (10, I .i64 i.1.length)],
      [(31, dArr 1 ((i.1 ++ List.replicate (cntS s0 + 1 - i.1.length) ByteArray.empty).map encS))]⟩)
    (Inv := fun i => i.1.length ≤ cntS s0 ∧ i.2.size ≤ 1000000 ∧ i.1 ++ splitN (cntS s0 - i.1.length) i.2 = split s0) (μ := fun i => cntS s0 - i.1.length) ([], s0) ⟨by simp, hs, by simp [split]⟩ ?_ ?_
  · (refine Ent_sub (fun i => i) rfl ?_ ⟨?_, ?_, ?_, keepI hx (by simp [domOf, Ab.get])⟩ <;> first | (simp only [kE, dArr, ↓reduceIte, Nat.reduceEqDiff, reduceCtorEq, List.replicate_succ]; done) | simp [renAV_id, renAO_id, flat_up, Ab.get, clAV, clC, clCs, clAO, cl_f1, cl_s1, cl_f2, cl_s2, cl_a1, domOf, List.flatten, List.replicate_succ])
  · rintro ⟨done, rest⟩ ⟨h1, h2, h3⟩
    simp only at h1 h2 h3 ⊢
    have hi := idxS_lt rest
    have hg := idxS_ge rest
    (repeat (first | (with_reducible first | refine na ?_ | refine nb ?_ | refine nc ?_ | refine nd ?_ | refine ne ?_ | refine nf ?_ | refine ng ?_ | refine nh ?_ | refine ni ?_ | refine nj ?_ | refine nk ?_ | refine nl ?_ | refine nm (by decide) ?_ | refine nn ?_) | refine TO_go (wr := false) 400 (by simp only [kB, kS, k94, Nat.reduceAdd, Nat.reduceLT, Nat.reduceEqDiff, ↓reduceIte, reduceCtorEq]; first | done | rfl) (by first | exact trivial | (simp only [kO]; omega) | (simp [All, InR]; first | done | omega) | (simp +contextual [All, InR]; first | done | grind)) ?_))
    refine T_cond (by simp only [kV, ↓reduceIte, Nat.reduceEqDiff, reduceCtorEq]; first | done | rfl) ?_ ?_
    · intro hlt
      have hlt' : done.length < cntS s0 := by simpa using hlt
      (repeat (first | (with_reducible first | refine na ?_ | refine nb ?_ | refine nc ?_ | refine nd ?_ | refine ne ?_ | refine nf ?_ | refine ng ?_ | refine nh ?_ | refine ni ?_ | refine nj ?_ | refine nk ?_ | refine nl ?_ | refine nm (by decide) ?_ | refine nn ?_) | refine TO_go (wr := false) 400 (by simp only [kB, kS, k94, Nat.reduceAdd, Nat.reduceLT, Nat.reduceEqDiff, ↓reduceIte, reduceCtorEq]; first | done | rfl) (by first | exact trivial | (simp only [kO]; omega) | (simp [All, InR]; first | done | omega) | (simp +contextual [All, InR]; first | done | grind)) ?_ | (refine TO_call [] (by simp) (by simp only [kV, ↓reduceIte, Nat.reduceEqDiff, reduceCtorEq]; first | done | rfl) ⟨by simp, by simp, by simp [clAV, clC, clCs, clCaps, clCap]⟩ (index_ac rest) ?_; (rintro r st' ⟨rfl, rfl⟩; refine ⟨by simp [Fresh], ?_⟩; simp only [kP, Nat.reduceEqDiff, ↓reduceIte, reduceCtorEq]))))
      refine T_cond (by simp only [kV, ↓reduceIte, Nat.reduceEqDiff, reduceCtorEq]; first | done | rfl) ?_ ?_
      · intro hneg
        have hneg' : idxS rest < 0 := by simpa using hneg
        have ht := cut_fill done (cntS s0 + 1 - done.length) rest (by omega)
        have hn : ((done.length : Int) + 1).toNat = done.length + 1 := by omega
        (repeat (first | (with_reducible first | refine na ?_ | refine nb ?_ | refine nc ?_ | refine nd ?_ | refine ne ?_ | refine nf ?_ | refine ng ?_ | refine nh ?_ | refine ni ?_ | refine nj ?_ | refine nk ?_ | refine nl ?_ | refine nm (by decide) ?_ | refine nn ?_) | refine TO_go (wr := false) 400 (by simp only [kB, kS, k94, Nat.reduceAdd, Nat.reduceLT, Nat.reduceEqDiff, ↓reduceIte, reduceCtorEq, set_S]; first | done | rfl) (by first | exact trivial | (simp only [kO]; omega) | (simp [All, InR]; first | done | omega) | (simp +contextual [All, InR]; first | done | grind)) ?_))
        refine TO_ent (Ent_frzSlot (i := 62) (id := 31) (sz := 1) (ys := ((done ++ List.replicate (cntS s0 + 1 - done.length) ByteArray.empty).set done.length rest).map encS) rfl rfl (by simp; omega)) ?_
        simp only [Ab.put, Nat.reduceEqDiff, ↓reduceIte, reduceCtorEq, if_false, if_true]
        (repeat (first | (with_reducible first | refine na ?_ | refine nb ?_ | refine nc ?_ | refine nd ?_ | refine ne ?_ | refine nf ?_ | refine ng ?_ | refine nh ?_ | refine ni ?_ | refine nj ?_ | refine nk ?_ | refine nl ?_ | refine nm (by decide) ?_ | refine nn ?_) | refine TO_go (wr := false) 400 (by simp only [kB, kS, k94, Nat.reduceAdd, Nat.reduceLT, Nat.reduceEqDiff, ↓reduceIte, reduceCtorEq, hn]; first | done | rfl) (by first | exact trivial | (simp only [kO]; omega) | (simp [All, InR]; first | done | omega) | (simp +contextual [All, InR]; first | done | grind)) ?_))
        refine RetQ_intro (by simp only [kR, Tryd.results94, ↓reduceIte, Nat.reduceEqDiff, reduceCtorEq]; first | done | rfl) (by first | exact trivial | (simp only [kO]; omega) | (simp [All, InR]; first | done | omega) | (simp +contextual [All, InR]; first | done | grind)) [] ⟨by simp [Ab.get, renAO_id], by simp, by simp [clAO, cl_f1, cl_s1, cl_f2, cl_s2, cl_a1, flat_up, clCs, clC, domOf, Ab.get], keepI hx (by simp [domOf, Ab.get])⟩ (by simp [clAV, clPs, clCs, clC, domOf, Ab.get]) ⟨?_, rfl⟩
        rw [splitN_neg hneg'] at h3
        rw [← List.map_take, ht, h3]
      · intro hpos
        have hpos' : 0 ≤ idxS rest := by simpa using hpos
        have e0 : (idxS rest + 0).toNat = (idxS rest).toNat := by omega
        have e1 : (idxS rest + ((1 : Nat) : Int)).toNat = (idxS rest).toNat + 1 := by omega
        have hk : cntS s0 + 1 - done.length = (cntS s0 - done.length) + 1 := by omega
        have hk' : cntS s0 - done.length = (cntS s0 - (done.length + 1)) + 1 := by omega
        (repeat (first | (with_reducible first | refine na ?_ | refine nb ?_ | refine nc ?_ | refine nd ?_ | refine ne ?_ | refine nf ?_ | refine ng ?_ | refine nh ?_ | refine ni ?_ | refine nj ?_ | refine nk ?_ | refine nl ?_ | refine nm (by decide) ?_ | refine nn ?_) | refine TO_go (wr := false) 400 (by simp only [kB, kS, k94, Nat.reduceAdd, Nat.reduceLT, Nat.reduceEqDiff, ↓reduceIte, reduceCtorEq, slash_size, set_S, e0, e1, hk, fill_next]; first | done | rfl) (by first | exact trivial | (simp only [kO]; omega) | (simp [All, InR]; first | done | omega) | (simp +contextual [All, InR]; first | done | grind)) ?_))
        refine ⟨(done ++ [rest.extract 0 (idxS rest).toNat], rest.extract ((idxS rest).toNat + 1) rest.size), ⟨by simp; omega, by simp; omega, ?_⟩, by simp; omega, ?_⟩
        · rw [← h3, hk', splitN, if_neg (by omega)]; simp
        · have hk2 : cntS s0 + 1 - (done.length + 1) = cntS s0 - done.length := by omega
          (refine Ent_sub (fun i => i) rfl ?_ ⟨?_, ?_, ?_, keepI hx (by simp [domOf, Ab.get])⟩ <;> first | (simp only [kE, dArr, ↓reduceIte, Nat.reduceEqDiff, reduceCtorEq, hk2]; done) | simp [renAV_id, renAO_id, flat_up, Ab.get, clAV, clC, clCs, clAO, cl_f1, cl_s1, cl_f2, cl_s2, cl_a1, domOf, List.flatten, hk2])
    · intro hge
      have hge' : done.length = cntS s0 := by have : ¬ done.length < cntS s0 := by simpa using hge
                                              omega
      have ht := cut_fill done (cntS s0 + 1 - done.length) rest (by omega)
      have hn : ((done.length : Int) + 1).toNat = done.length + 1 := by omega
      (repeat (first | (with_reducible first | refine na ?_ | refine nb ?_ | refine nc ?_ | refine nd ?_ | refine ne ?_ | refine nf ?_ | refine ng ?_ | refine nh ?_ | refine ni ?_ | refine nj ?_ | refine nk ?_ | refine nl ?_ | refine nm (by decide) ?_ | refine nn ?_) | refine TO_go (wr := false) 400 (by simp only [kB, kS, k94, Nat.reduceAdd, Nat.reduceLT, Nat.reduceEqDiff, ↓reduceIte, reduceCtorEq, set_S]; first | done | rfl) (by first | exact trivial | (simp only [kO]; omega) | (simp [All, InR]; first | done | omega) | (simp +contextual [All, InR]; first | done | grind)) ?_))
      refine TO_ent (Ent_frzSlot (i := 62) (id := 31) (sz := 1) (ys := ((done ++ List.replicate (cntS s0 + 1 - done.length) ByteArray.empty).set done.length rest).map encS) rfl rfl (by simp; omega)) ?_
      simp only [Ab.put, Nat.reduceEqDiff, ↓reduceIte, reduceCtorEq, if_false, if_true]
      (repeat (first | (with_reducible first | refine na ?_ | refine nb ?_ | refine nc ?_ | refine nd ?_ | refine ne ?_ | refine nf ?_ | refine ng ?_ | refine nh ?_ | refine ni ?_ | refine nj ?_ | refine nk ?_ | refine nl ?_ | refine nm (by decide) ?_ | refine nn ?_) | refine TO_go (wr := false) 400 (by simp only [kB, kS, k94, Nat.reduceAdd, Nat.reduceLT, Nat.reduceEqDiff, ↓reduceIte, reduceCtorEq, hn]; first | done | rfl) (by first | exact trivial | (simp only [kO]; omega) | (simp [All, InR]; first | done | omega) | (simp +contextual [All, InR]; first | done | grind)) ?_))
      refine RetQ_intro (by simp only [kR, Tryd.results94, ↓reduceIte, Nat.reduceEqDiff, reduceCtorEq]; first | done | rfl) (by first | exact trivial | (simp only [kO]; omega) | (simp [All, InR]; first | done | omega) | (simp +contextual [All, InR]; first | done | grind)) [] ⟨by simp [Ab.get, renAO_id], by simp, by simp [clAO, cl_f1, cl_s1, cl_f2, cl_s2, cl_a1, flat_up, clCs, clC, domOf, Ab.get], keepI hx (by simp [domOf, Ab.get])⟩ (by simp [clAV, clPs, clCs, clC, domOf, Ab.get]) ⟨?_, rfl⟩
      rw [show cntS s0 - done.length = 0 by omega, splitN] at h3
      rw [← List.map_take, ht, h3]
def k89 := And.intro @Tryd.ntmps89 <| trivial
set_option maxRecDepth 100000 in
set_option maxHeartbeats 4000000 in
theorem split_ac (s0 : ByteArray) (hs : s0.size ≤ 1000000) : AC Tryd.prog 89 [Str s0, Str slash] [] (fun r st => r = aStrs (split s0) ∧ st = []) := by
  refine AC_enter Tryd.func89 rfl rfl (by simp only [Tryd.ntmps89, List.length]; omega) ?_
  intro x hx
  simp only [List.range, List.range.loop, List.length, List.zip, List.zipWith, Nat.reduceAdd, Tryd.ntmps89]
  (repeat (first | (with_reducible first | refine na ?_ | refine nb ?_ | refine nc ?_ | refine nd ?_ | refine ne ?_ | refine nf ?_ | refine ng ?_ | refine nh ?_ | refine ni ?_ | refine nj ?_ | refine nk ?_ | refine nl ?_ | refine nm (by decide) ?_ | refine nn ?_) | refine TO_go (wr := false) 400 (by simp only [kB, k89, Nat.reduceAdd, Nat.reduceLT, Nat.reduceEqDiff, ↓reduceIte, reduceCtorEq]; first | done | rfl) (by first | exact trivial | (simp only [kO]; omega) | (simp [All, InR]; first | done | omega) | (simp +contextual [All, InR]; first | done | grind)) ?_ | (refine TO_call [] (by simp) (by simp only [kV, ↓reduceIte, Nat.reduceEqDiff, reduceCtorEq]; first | done | rfl) ⟨by simp, by simp, by simp [clAV, clC, clCs, clCaps, clCap]⟩ (genSplit_ac s0 hs) ?_; (rintro r st' ⟨rfl, rfl⟩; refine ⟨by simp [Fresh], ?_⟩; simp only [kP, Nat.reduceEqDiff, ↓reduceIte, reduceCtorEq]))))
  refine RetQ_intro (by simp only [kR, Tryd.results89, ↓reduceIte, Nat.reduceEqDiff, reduceCtorEq]; first | done | rfl) (by first | exact trivial | (simp only [kO]; omega) | (simp [All, InR]; first | done | omega) | (simp +contextual [All, InR]; first | done | grind)) [] ⟨by simp [Ab.get, renAO_id], by simp, by simp [clAO, cl_f1, cl_s1, cl_f2, cl_s2, cl_a1, flat_up, clCs, clC, domOf, Ab.get], keepI hx (by simp [domOf, Ab.get])⟩ (by simp [clAV, clPs, clCs, clC, domOf, Ab.get]) ⟨?_, rfl⟩
  rfl
end Go.Proofs.YtmlhfnodnnbbnaaDoor

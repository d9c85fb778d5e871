/- A part of the proof. -/
import Derived.Test.YtbllfnmabmamfaaGreatDoorRBd2
import Derived.Test.YtbllfnmabmamfaaGreatDoorRT1
import Derived.Test.YtbllfnmabmamfaaGreatDoorRT4
import Derived.Test.YtbllfnmabmamfaaGreatDoorRS5
set_option linter.all false
namespace Go.Proofs.YtbllfnmabmamfaaGreatDoor
open Go.Ab Tys
@[reducible] def vL (l : List Int) : Bool × List D := (false, [.ps 1 (l.map eI)])
@[reducible] def ledD (L : Led) (la : List (ByteArray × Int)) (me : List (Int × List Int)) : List D :=
  [.ps 12 (L.revs.map encRev), .pm (mEnt kF vI L.index), .pm (mEnt kS' vI la), .ps 1 (L.prev.map eI), .ps 1 (L.fst.map eI), .pm (mEnt kN vL me), .ps 1 (L.car.map eSet), .ps 1 (L.con.map eSet), .ps 1 (L.cre.map eSet)]
def k53 := And.intro @Tryz.ntmps53 <| And.intro @bld139 <| And.intro @bld37 <| And.intro @elt59 <| And.intro @fld139_1 <| And.intro @fld139_4 <| And.intro @kyt37 <| And.intro @mpt134 <| And.intro @ti134 <| And.intro @ti139 <| And.intro @ti3 <| And.intro @ti37 <| @ti59
theorem v53T2 {G G' : Prop} (g : G') (h : Hid G' → G := by intro h9; (first | refine nvB ?_ | refine goA (wr := false) (by simp only [kB, kG, kM, k53, Nat.reduceAdd, Nat.reduceLT, Nat.reduceEqDiff, ↓reduceIte, reduceCtorEq]; first | done | rfl) ?_); (repeat (first | refine nvB ?_ | refine goA (wr := false) (by simp only [kB, kG, kM, k53, Nat.reduceAdd, Nat.reduceLT, Nat.reduceEqDiff, ↓reduceIte, reduceCtorEq]; first | done | rfl) ?_)); exact h9.out) : G := h ⟨g⟩
set_option maxRecDepth 100000 in
set_option maxHeartbeats 8000000 in
theorem member_ac (L : Led) (hL : LedOK L) (la : List (ByteArray × Int)) (me : List (Int × List Int)) (f : Fil) :
    AC Tryz.prog 53 [.c (.pp (ledD L la me)), aFil f] [] (fun r st => (∃ i : Int, r = .tup [pI i, pB (memB L f).isSome] ∧ ∀ k, memB L f = some k → i = k) ∧ st = []) := by
  cases hk : alook L.index f with
  | none =>
    have hm : memB L f = none := by simp [memB, hk]
    rw [hm]
    cases hf : L.fst with
    | nil =>
      refine AC_enter Tryz.func53 rfl rfl (by simp only [Tryz.ntmps53, List.length]; omega) ?_
      intro x hx
      simp only [List.range, List.range.loop, List.length, List.zip, List.zipWith, Nat.reduceAdd, Tryz.ntmps53]
      try refine v53T2 ?_
      refine drA (wr := false) ([] : List (Nat × AV)) (by simp only [kD, kB, kG, kM, k53, Nat.reduceAdd, Nat.reduceLT, Nat.reduceEqDiff, ↓reduceIte, reduceCtorEq, look_I, hk, Option.map_none, Option.isSome]; first | done | rfl) ?_ ?_
      · exact obF ty_I
      refine nvA ?_
      refine drA (wr := false) ([] : List (Nat × AV)) (by simp only [kD, kB, kG, kM, k53, Nat.reduceAdd, Nat.reduceLT, Nat.reduceEqDiff, ↓reduceIte, reduceCtorEq, hf, List.getD_nil]; first | done | rfl) ?_ ?_
      · exact obN
      try refine v53T2 ?_
      refine rtA (by simp only [kR, Tryz.results53, ↓reduceIte, Nat.reduceEqDiff, reduceCtorEq]; first | done | rfl) ([]) ?_
      refine ⟨?_, rfl⟩
      exact ⟨0, rfl, fun k h => by cases h⟩
    | cons a l =>
      refine AC_enter Tryz.func53 rfl rfl (by simp only [Tryz.ntmps53, List.length]; omega) ?_
      intro x hx
      simp only [List.range, List.range.loop, List.length, List.zip, List.zipWith, Nat.reduceAdd, Tryz.ntmps53]
      try refine v53T2 ?_
      refine drA (wr := false) ([] : List (Nat × AV)) (by simp only [kD, kB, kG, kM, k53, Nat.reduceAdd, Nat.reduceLT, Nat.reduceEqDiff, ↓reduceIte, reduceCtorEq, look_I, hk, Option.map_none, Option.isSome]; first | done | rfl) ?_ ?_
      · exact obF ty_I
      refine nvA ?_
      refine drA (wr := false) ([] : List (Nat × AV)) (by simp only [kD, kB, kG, kM, k53, Nat.reduceAdd, Nat.reduceLT, Nat.reduceEqDiff, ↓reduceIte, reduceCtorEq, hf, Int.toNat_zero]; first | done | rfl) ?_ ?_
      · exact obN
      try refine v53T2 ?_
      refine rtA (by simp only [kR, Tryz.results53, ↓reduceIte, Nat.reduceEqDiff, reduceCtorEq]; first | done | rfl) ([]) ?_
      refine ⟨?_, rfl⟩
      exact ⟨0, rfl, fun k h => by cases h⟩
  | some i =>
    obtain ⟨i1, i2⟩ := hL.ix _ _ hk
    have hcl := hL.fst
    have hil : i.toNat < L.fst.length := by omega
    have hi2 : i < (L.fst.length : Int) := by omega
    have eg := getD_enc eI L.fst i.toNat 0 hil
    refine AC_enter Tryz.func53 rfl rfl (by simp only [Tryz.ntmps53, List.length]; omega) ?_
    intro x hx
    simp only [List.range, List.range.loop, List.length, List.zip, List.zipWith, Nat.reduceAdd, Tryz.ntmps53]
    try refine v53T2 ?_
    refine drA (wr := false) ([] : List (Nat × AV)) (by simp only [kD, kB, kG, kM, k53, Nat.reduceAdd, Nat.reduceLT, Nat.reduceEqDiff, ↓reduceIte, reduceCtorEq, look_I, hk, Option.isSome]; first | done | rfl) ?_ ?_
    · exact obF ty_I
    refine nvA ?_
    refine drA (wr := false) ([] : List (Nat × AV)) (by simp only [kD, kB, kG, kM, k53, Nat.reduceAdd, Nat.reduceLT, Nat.reduceEqDiff, ↓reduceIte, reduceCtorEq, eg]; first | done | rfl) ?_ ?_
    · exact obN
    try refine v53T2 ?_
    refine rtA (by simp only [kR, Tryz.results53, ↓reduceIte, Nat.reduceEqDiff, reduceCtorEq]; first | done | rfl) ([]) ?_
    refine ⟨?_, rfl⟩
    refine ⟨i, ?_, fun k h => ?_⟩
    · simp only [memB, hk]
      generalize L.fst.getD i.toNat 0 = z
      by_cases h : 0 ≤ z <;> simp [h]
    · simp only [memB, hk] at h
      split at h
      · cases h; rfl
      · cases h
end Go.Proofs.YtbllfnmabmamfaaGreatDoor
namespace Go.Proofs.YtbllfnmabmamfaaGreatDoor
open Go.Ab Tys
theorem tyN_ins (n : Int) (w : Bool × List C) : ∀ es : List Ent1, (∀ e ∈ es, e.1.1 = false ∧ tyCs [.int .i64] e.1.2) → ∀ e ∈ insE (false, [C.d (.v (.int .i64 n))]) w es, e.1.1 = false ∧ tyCs [.int .i64] e.1.2
  | [], _ => by intro e he; simp [insE] at he; subst he; simp [tyCs]
  | a :: es, h => by
    intro e he
    simp only [insE] at he
    split at he
    · rcases List.mem_cons.1 he with rfl | he
      · simp [tyCs]
      · exact h e (List.mem_cons_of_mem _ he)
    · rcases List.mem_cons.1 he with rfl | he
      · exact h _ List.mem_cons_self
      · exact tyN_ins n w es (fun e he => h e (List.mem_cons_of_mem _ he)) e he
set_option maxRecDepth 100000 in
set_option maxHeartbeats 8000000 in
theorem enterO_ac (L : Led) (hL : LedOK L) (el em : List EntD) (i : Nat) (v : Rev) (hv : L.revs[i]? = some v) (h5 : ¬ v.act = 5) (hn : 1 ≤ v.num ∧ v.num ≤ 1000000) (u ln : Int) (hk : alook L.index (befF v) = some u) (hu : 0 ≤ u ∧ u < i)
    (hln : L.fst.getD u.toNat 0 = ln) (h0 : 0 ≤ ln) (hty : ∀ e ∈ em.map upE, e.1.1 = false ∧ tyCs [.int .i64] e.1.2) (ys : List Int) (hys : ys.length ≤ 1000) :
    AC Tryz.prog 99 [.c (.ptr 1000 0), I .i64 i] (ledSt1 L el (insE (false, [C.d (.v (.int .i64 ln))]) (false, [.ms 2003 1 0 ys.length]) (em.map upE)) ++ [(2003, dArr 1 (ys.map eI))])
      (fun _ st => st = ledSt1 (enterL L i v) el (insE (false, [C.d (.v (.int .i64 ln))]) (false, [.ms 115 1 0 (ys.length + 1)]) (em.map upE)) ++ [(2003, .dead), (115, dArr 1 ((ys ++ [(i : Int)]).map eI))]) := by
    have hil : i < L.revs.length := (List.getElem?_eq_some_iff.1 hv).1
    have er : (L.revs.map encRev).getD i [] = encRev v := by rw [getD_enc encRev L.revs i zRev hil, List.getD, hv]; rfl
    have hN := hL.n
    have hp := hL.prev
    have hf := hL.fst
    have ep := uG eI L.prev i 0 (by omega)
    have ef := uG eI L.fst i 0 (by omega)
    have hul : u.toNat < (L.fst.set i (i : Int)).length := by simp; omega
    have efu := uG eI (L.fst.set i i) u.toNat 0 hul
    have hgu : (L.fst.set i (i : Int)).getD u.toNat 0 = ln := by rw [← hln]; simp [List.getD, List.getElem?_set, show ¬ i = u.toNat by omega]
    rw [hgu] at efu
    have kk : keyB [C.d (.v (.int .i64 ln))] [C.d (.v (.int .i64 ln))] = true := by simp [keyB, eqC]
    have hfi := find_ins (false, [C.d (.v (.int .i64 ln))]) (false, [.ms 2003 1 0 ys.length]) (em.map upE) kk
    have hii := fun w => ins_ins (false, [C.d (.v (.int .i64 ln))]) (false, [.ms 2003 1 0 ys.length]) w (em.map upE) kk
    have hty2 := tyN_ins ln (false, [.ms 2003 1 0 ys.length]) (em.map upE) hty
    simp only at hfi hii
    have efi : (List.map (fun l => List.map C.d l) (List.map eI (L.fst.set i ln))).getD i [] = [C.d (.v (.int .i64 ln))] := by rw [uG eI (L.fst.set i ln) i 0 (by simp; omega)]; simp [List.getD, show i < L.fst.length by omega]
    refine AC_enter Tryz.func99 rfl rfl (by simp only [Tryz.ntmps99, List.length]; omega) ?_
    intro x hx
    simp only [List.range, List.range.loop, List.length, List.zip, List.zipWith, Nat.reduceAdd, Tryz.ntmps99]
    refine nvA ?_
    refine drA (wr := false) ([] : List (Nat × AV)) (by simp only [kD, kB, kG, kS, kM, k99, Nat.reduceAdd, Nat.reduceLT, Nat.reduceEqDiff, ↓reduceIte, reduceCtorEq, set_I, set_I2]; first | done | rfl) ?_ ?_
    · exact obN
    (repeat (first | refine nvB ?_ | refine goA (wr := false) (by simp only [kB, kG, kS, kM, k99, Nat.reduceAdd, Nat.reduceLT, Nat.reduceEqDiff, ↓reduceIte, reduceCtorEq, er]; first | done | rfl) ?_))
    refine ifA ?_ ?_
    · intro h; exact absurd (by simpa using h) h5
    intro _
    (repeat (first | refine nvB ?_ | refine goA (wr := false) (by simp only [kB, kG, kS, kM, k99, Nat.reduceAdd, Nat.reduceLT, Nat.reduceEqDiff, ↓reduceIte, reduceCtorEq, er]; first | done | rfl) ?_))
    refine ifA ?_ ?_
    · intro h
      have hb : befF v = ⟨ByteArray.empty, 0⟩ := by simp [befF, show v.act = 1 by simpa using h, zFil]
      rw [hb] at hk
      (repeat (first | refine nvB ?_ | refine goA (wr := false) (by simp only [kB, kG, kS, kM, k99, Nat.reduceAdd, Nat.reduceLT, Nat.reduceEqDiff, ↓reduceIte, reduceCtorEq, set_I, set_I2, List.set_set]; first | done | rfl) ?_))
      refine drA (wr := false) ([] : List (Nat × AV)) (by simp only [kD, kB, kG, kS, kM, k99, Nat.reduceAdd, Nat.reduceLT, Nat.reduceEqDiff, ↓reduceIte, reduceCtorEq, look_I, hk, Option.isSome]; first | done | rfl) ?_ ?_
      · exact obF ty_I
      (repeat (first | refine nvB ?_ | refine goA (wr := false) (by simp only [kB, kG, kS, kM, k99, Nat.reduceAdd, Nat.reduceLT, Nat.reduceEqDiff, ↓reduceIte, reduceCtorEq, efu]; first | done | rfl) ?_))
      refine ifA ?_ ?_
      rotate_left
      · intro h; exact absurd h (by simp [h0])
      intro _
      refine nvA ?_
      refine drA (wr := false) ([] : List (Nat × AV)) (by simp only [kD, kB, kG, kS, kM, k99, Nat.reduceAdd, Nat.reduceLT, Nat.reduceEqDiff, ↓reduceIte, reduceCtorEq, efu, set_I, set_I2, List.set_set]; first | done | rfl) ?_ ?_
      · exact obN
      (repeat (first | refine nvB ?_ | refine goA (wr := false) (by simp only [kB, kG, kS, kM, k99, Nat.reduceAdd, Nat.reduceLT, Nat.reduceEqDiff, ↓reduceIte, reduceCtorEq, efi]; first | done | rfl) ?_))
      refine drA (wr := false) ([] : List (Nat × AV)) (by simp only [kD, kB, kG, kS, kM, k99, Nat.reduceAdd, Nat.reduceLT, Nat.reduceEqDiff, ↓reduceIte, reduceCtorEq, hfi, hii, Option.getD]; first | done | rfl) ?_ ?_
      · exact obT (hty2)
      refine nvA ?_
      have hE : enterL L i v = ⟨L.revs, L.index, L.prev.set i u, L.fst.set i ln, L.car, L.con, L.cre⟩ := by simp only [enterL, h5, prevOf, lineOf, memB, hb, hk, hln, h0, if_true, if_false]
      rw [hE]
      generalize L.prev.set i u = P'
      generalize L.fst.set i ln = F'
      refine RetQ_any (by first | exact .inl rfl | exact .inr rfl) (by simp only [kR, Tryz.results99, ↓reduceIte, Nat.reduceEqDiff, reduceCtorEq]; first | done | rfl) (by first | exact trivial | (simp only [kO]; omega) | (simp [All, InR]; first | done | omega) | (simp +contextual [All, InR]; first | done | grind)) (ledSt1 ⟨L.revs, L.index, P', F', L.car, L.con, L.cre⟩ el (insE (false, [C.d (.v (.int .i64 ln))]) (false, [.ms 115 1 0 (ys.length + 1)]) (em.map upE)) ++ [(2003, .dead), (115, dArr 1 ((ys ++ [(i : Int)]).map eI))]) ⟨by simp [Ab.get, renAO_id, clF_ins, clS_ins, clCs_append], by simp, by simp [clAO, cl_f1, cl_s1, cl_f2, cl_s2, cl_a1, flat_up, clCs, clC, domOf, Ab.get, clF_ins, clS_ins, clCs_append], keepI hx (by simp [domOf, Ab.get, clF_ins, clS_ins, clCs_append])⟩ (by simp [clAV, clPs, clCs, clC, domOf, Ab.get, clF_ins, clS_ins, clCs_append]) ?_
      rfl
    intro _
    (repeat (first | refine nvB ?_ | refine goA (wr := false) (by simp only [kB, kG, kS, kM, k99, Nat.reduceAdd, Nat.reduceLT, Nat.reduceEqDiff, ↓reduceIte, reduceCtorEq, er]; first | done | rfl) ?_))
    refine ifA ?_ ?_
    · intro h
      have hb : befF v = ⟨v.frm, v.fnum⟩ := by simp [befF, show v.act = 4 by simpa using h]
      rw [hb] at hk
      (repeat (first | refine nvB ?_ | refine goA (wr := false) (by simp only [kB, kG, kS, kM, k99, Nat.reduceAdd, Nat.reduceLT, Nat.reduceEqDiff, ↓reduceIte, reduceCtorEq, set_I, set_I2, List.set_set]; first | done | rfl) ?_))
      refine drA (wr := false) ([] : List (Nat × AV)) (by simp only [kD, kB, kG, kS, kM, k99, Nat.reduceAdd, Nat.reduceLT, Nat.reduceEqDiff, ↓reduceIte, reduceCtorEq, look_I, hk, Option.isSome]; first | done | rfl) ?_ ?_
      · exact obF ty_I
      (repeat (first | refine nvB ?_ | refine goA (wr := false) (by simp only [kB, kG, kS, kM, k99, Nat.reduceAdd, Nat.reduceLT, Nat.reduceEqDiff, ↓reduceIte, reduceCtorEq, efu]; first | done | rfl) ?_))
      refine ifA ?_ ?_
      rotate_left
      · intro h; exact absurd h (by simp [h0])
      intro _
      refine nvA ?_
      refine drA (wr := false) ([] : List (Nat × AV)) (by simp only [kD, kB, kG, kS, kM, k99, Nat.reduceAdd, Nat.reduceLT, Nat.reduceEqDiff, ↓reduceIte, reduceCtorEq, efu, set_I, set_I2, List.set_set]; first | done | rfl) ?_ ?_
      · exact obN
      (repeat (first | refine nvB ?_ | refine goA (wr := false) (by simp only [kB, kG, kS, kM, k99, Nat.reduceAdd, Nat.reduceLT, Nat.reduceEqDiff, ↓reduceIte, reduceCtorEq, efi]; first | done | rfl) ?_))
      refine drA (wr := false) ([] : List (Nat × AV)) (by simp only [kD, kB, kG, kS, kM, k99, Nat.reduceAdd, Nat.reduceLT, Nat.reduceEqDiff, ↓reduceIte, reduceCtorEq, hfi, hii, Option.getD]; first | done | rfl) ?_ ?_
      · exact obT (hty2)
      refine nvA ?_
      have hE : enterL L i v = ⟨L.revs, L.index, L.prev.set i u, L.fst.set i ln, L.car, L.con, L.cre⟩ := by simp only [enterL, h5, prevOf, lineOf, memB, hb, hk, hln, h0, if_true, if_false]
      rw [hE]
      generalize L.prev.set i u = P'
      generalize L.fst.set i ln = F'
      refine RetQ_any (by first | exact .inl rfl | exact .inr rfl) (by simp only [kR, Tryz.results99, ↓reduceIte, Nat.reduceEqDiff, reduceCtorEq]; first | done | rfl) (by first | exact trivial | (simp only [kO]; omega) | (simp [All, InR]; first | done | omega) | (simp +contextual [All, InR]; first | done | grind)) (ledSt1 ⟨L.revs, L.index, P', F', L.car, L.con, L.cre⟩ el (insE (false, [C.d (.v (.int .i64 ln))]) (false, [.ms 115 1 0 (ys.length + 1)]) (em.map upE)) ++ [(2003, .dead), (115, dArr 1 ((ys ++ [(i : Int)]).map eI))]) ⟨by simp [Ab.get, renAO_id, clF_ins, clS_ins, clCs_append], by simp, by simp [clAO, cl_f1, cl_s1, cl_f2, cl_s2, cl_a1, flat_up, clCs, clC, domOf, Ab.get, clF_ins, clS_ins, clCs_append], keepI hx (by simp [domOf, Ab.get, clF_ins, clS_ins, clCs_append])⟩ (by simp [clAV, clPs, clCs, clC, domOf, Ab.get, clF_ins, clS_ins, clCs_append]) ?_
      rfl
    · intro h
      have hb : befF v = ⟨v.path, v.num - 1⟩ := by simp_all [befF]
      rw [hb] at hk
      (repeat (first | refine nvB ?_ | refine goA (wr := false) (by simp only [kB, kG, kS, kM, k99, Nat.reduceAdd, Nat.reduceLT, Nat.reduceEqDiff, ↓reduceIte, reduceCtorEq, set_I, set_I2, List.set_set]; first | done | rfl) ?_))
      refine drA (wr := false) ([] : List (Nat × AV)) (by simp only [kD, kB, kG, kS, kM, k99, Nat.reduceAdd, Nat.reduceLT, Nat.reduceEqDiff, ↓reduceIte, reduceCtorEq, look_I, hk, Option.isSome]; first | done | rfl) ?_ ?_
      · exact obF ty_I
      (repeat (first | refine nvB ?_ | refine goA (wr := false) (by simp only [kB, kG, kS, kM, k99, Nat.reduceAdd, Nat.reduceLT, Nat.reduceEqDiff, ↓reduceIte, reduceCtorEq, efu]; first | done | rfl) ?_))
      refine ifA ?_ ?_
      rotate_left
      · intro h; exact absurd h (by simp [h0])
      intro _
      refine nvA ?_
      refine drA (wr := false) ([] : List (Nat × AV)) (by simp only [kD, kB, kG, kS, kM, k99, Nat.reduceAdd, Nat.reduceLT, Nat.reduceEqDiff, ↓reduceIte, reduceCtorEq, efu, set_I, set_I2, List.set_set]; first | done | rfl) ?_ ?_
      · exact obN
      (repeat (first | refine nvB ?_ | refine goA (wr := false) (by simp only [kB, kG, kS, kM, k99, Nat.reduceAdd, Nat.reduceLT, Nat.reduceEqDiff, ↓reduceIte, reduceCtorEq, efi]; first | done | rfl) ?_))
      refine drA (wr := false) ([] : List (Nat × AV)) (by simp only [kD, kB, kG, kS, kM, k99, Nat.reduceAdd, Nat.reduceLT, Nat.reduceEqDiff, ↓reduceIte, reduceCtorEq, hfi, hii, Option.getD]; first | done | rfl) ?_ ?_
      · exact obT (hty2)
      refine nvA ?_
      have hE : enterL L i v = ⟨L.revs, L.index, L.prev.set i u, L.fst.set i ln, L.car, L.con, L.cre⟩ := by simp only [enterL, h5, prevOf, lineOf, memB, hb, hk, hln, h0, if_true, if_false]
      rw [hE]
      generalize L.prev.set i u = P'
      generalize L.fst.set i ln = F'
      refine RetQ_any (by first | exact .inl rfl | exact .inr rfl) (by simp only [kR, Tryz.results99, ↓reduceIte, Nat.reduceEqDiff, reduceCtorEq]; first | done | rfl) (by first | exact trivial | (simp only [kO]; omega) | (simp [All, InR]; first | done | omega) | (simp +contextual [All, InR]; first | done | grind)) (ledSt1 ⟨L.revs, L.index, P', F', L.car, L.con, L.cre⟩ el (insE (false, [C.d (.v (.int .i64 ln))]) (false, [.ms 115 1 0 (ys.length + 1)]) (em.map upE)) ++ [(2003, .dead), (115, dArr 1 ((ys ++ [(i : Int)]).map eI))]) ⟨by simp [Ab.get, renAO_id, clF_ins, clS_ins, clCs_append], by simp, by simp [clAO, cl_f1, cl_s1, cl_f2, cl_s2, cl_a1, flat_up, clCs, clC, domOf, Ab.get, clF_ins, clS_ins, clCs_append], keepI hx (by simp [domOf, Ab.get, clF_ins, clS_ins, clCs_append])⟩ (by simp [clAV, clPs, clCs, clC, domOf, Ab.get, clF_ins, clS_ins, clCs_append]) ?_
      rfl
end Go.Proofs.YtbllfnmabmamfaaGreatDoor
namespace Go.Proofs.YtbllfnmabmamfaaGreatDoor
open Go.Ab Tys
theorem look_M (m : List (Int × List Int)) (n : Int) : findE [C.d (.v (.int .i64 n))] ((mEnt kN vL m).map upE) = (alook m n).map fun v => (false, [C.d (.ps 1 (v.map eI))]) :=
  findE_ent (ve := vL) kN_eq m n
theorem ty_M (m : List (Int × List Int)) : ∀ e ∈ (mEnt kN vL m).map upE, e.1.1 = false ∧ tyCs [.int .i64] e.1.2 := by
  intro e he
  simp only [mEnt, List.mem_map] at he
  obtain ⟨_, ⟨f, _, rfl⟩, rfl⟩ := he
  exact ⟨rfl, by simp [upE, upD, tyCs]⟩
@[reducible] def eB (b : Bool) : List D := [.v (.bool b)]
def k54 := And.intro @Tryz.ntmps54 <| And.intro @Tryz.underlying131 <| And.intro @Tryz.underlying59 <| And.intro @bld139 <| And.intro @elt131 <| And.intro @elt137 <| And.intro @elt59 <| And.intro @fld139_4 <| And.intro @fld139_5 <| And.intro @fld139_7 <| And.intro @fld139_8 <| And.intro @kyt3 <| And.intro @mpt136 <| And.intro @ti131 <| And.intro @ti136 <| And.intro @ti137 <| And.intro @ti139 <| And.intro @ti191 <| And.intro @ti3 <| And.intro @ti4 <| @ti59
theorem v54T3 {G G' : Prop} (g : G') (h : Hid G' → G := by intro h9; (first | refine nvB ?_ | refine goA (wr := false) (by simp only [kB, kS, kM, k54, Nat.reduceAdd, Nat.reduceLT, Nat.reduceEqDiff, ↓reduceIte, reduceCtorEq]; first | done | rfl) ?_); (repeat (first | refine nvB ?_ | refine goA (wr := false) (by simp only [kB, kS, kM, k54, Nat.reduceAdd, Nat.reduceLT, Nat.reduceEqDiff, ↓reduceIte, reduceCtorEq]; first | done | rfl) ?_)); exact h9.out) : G := h ⟨g⟩
set_option maxRecDepth 100000 in
set_option maxHeartbeats 8000000 in
theorem lremaining_ac (L : Led) (hL : LedOK L) (la : List (ByteArray × Int)) (me : List (Int × List Int)) (s t : Int) (hs : 0 ≤ s ∧ s < L.revs.length) (ht : 0 ≤ t ∧ t < L.revs.length) (ms : List Int) (hm : alook me (L.fst.getD s.toNat 0) = some ms)
    (hms : ∀ i ∈ ms, 0 ≤ i ∧ i < L.revs.length ∧ ∃ l, L.con.getD i.toNat none = some l) (hcr : ∃ l, L.cre.getD t.toNat none = some l) (hml : ms.length ≤ 1000) :
    AC Tryz.prog 54 [.c (.pp (ledD L la me)), I .i64 s, I .i64 t] [] (fun r st => r = .tup [(false, [.d (.ps 1 ((upto ms s).map eI))]), (false, [.d (.ps 1 (((upto ms s).map (openB L t)).map eB))])] ∧ st = []) := by
  obtain ⟨s1, s2⟩ := hs
  have hfl := hL.fst
  have hil : s.toNat < L.fst.length := by omega
  have hi2 : s < (L.fst.length : Int) := by omega
  have eg := getD_enc eI L.fst s.toNat 0 hil
  refine AC_enter Tryz.func54 rfl rfl (by simp only [Tryz.ntmps54, List.length]; omega) ?_
  intro x hx
  simp only [List.range, List.range.loop, List.length, List.zip, List.zipWith, Nat.reduceAdd, Tryz.ntmps54]
  try refine v54T3 ?_
  refine drA (wr := false) ([] : List (Nat × AV)) (by simp only [kD, kB, kS, kM, k54, Nat.reduceAdd, Nat.reduceLT, Nat.reduceEqDiff, ↓reduceIte, reduceCtorEq, eg, look_M, hm]; first | done | rfl) ?_ ?_
  · exact obF ty_M
  refine nvA ?_
  refine T_ent (Ent_adopt (i := 6) (id := 100) (sz := 1) rfl rfl (by omega)) ?_
  refine fzA ?_
  refine T_ent (Ent_adopt (i := 7) (id := 101) (sz := 1) rfl rfl (by omega)) ?_
  refine fzA ?_
  refine T_loop (ι := Nat) (I := fun k => ⟨56, [(0, .c (.pp (ledD L la me))), (1, I .i64 s), (2, I .i64 t), (6, .c (.ms 100 1 0 (ms.take k).length)), (7, .c (.ms 101 1 0 (ms.take k).length)), (21, .c (.d (.ps 1 (ms.map eI)))), (22, I .i64 ms.length), (23, I .i64 k)],
      [(100, dArr 1 ((ms.take k).map eI)), (101, dArr 1 (((ms.take k).map (openB L t)).map eB))]⟩)
    (Inv := fun k => k ≤ ms.length ∧ ¬ s ∈ ms.take k) (μ := fun k => ms.length - k) 0 ⟨by omega, by simp⟩ ?_ ?_
  · exact enA
  rintro k ⟨hk, hns⟩
  have hkl : (ms.take k).length = k := by simp; omega
  try refine v54T3 ?_
  refine ifA ?_ ?_
  · intro hlt
    have hlt' : k < ms.length := by simpa using hlt
    obtain ⟨v, hv, he, htk⟩ := round eI ms k 0 hlt'
    obtain ⟨v1, v2, c1, hc1⟩ := hms v (List.mem_of_getElem? hv)
    obtain ⟨c2, hc2⟩ := hcr
    have hcl1 := hL.con
    have hcl2 := hL.cre
    have e1 := getD_enc eSet L.con v.toNat none (by omega)
    have e2 := getD_enc eSet L.cre t.toNat none (by omega)
    rw [hc1] at e1
    rw [hc2] at e2
    have hob : (!subB c1 c2) = openB L t v := by simp only [openB, hc1, hc2, Option.getD]
    (repeat (first | refine nvB ?_ | refine goA (wr := false) (by simp only [kB, kS, kM, k54, Nat.reduceAdd, Nat.reduceLT, Nat.reduceEqDiff, ↓reduceIte, reduceCtorEq, he]; first | done | rfl) ?_))
    refine drA (wr := false) ([(46, B (subB c1 c2))] : List (Nat × AV)) (by simp only [kD, kB, kS, kM, k54, Nat.reduceAdd, Nat.reduceLT, Nat.reduceEqDiff, ↓reduceIte, reduceCtorEq, e1, e2]; first | done | rfl) ?_ ?_
    · exact obT (within_ac c1 c2)
    try refine v54T3 ?_
    refine ifA ?_ ?_
    · intro heq
      have heq' : v = s := by simpa using heq
      have hup : upto ms s = ms.take (k + 1) := upto_hit hns (by rw [← heq']; exact hv)
      refine T_ent (s' := ⟨56, [(6, .c (.ms 100 1 0 (ms.take (k + 1)).length)), (7, .c (.ms 101 1 0 (ms.take (k + 1)).length))], [(100, dArr 1 ((ms.take (k + 1)).map eI)), (101, dArr 1 (((ms.take (k + 1)).map (openB L t)).map eB))]⟩) ?_ ?_
      · rw [htk]
        (refine Ent_sub (fun i => if i = 100 then 30 else if i = 101 then 49 else i) rfl ?_ ⟨?_, ?_, ?_, keepR hx (by simp [domOf, Ab.get])⟩ <;> first | (intro i hi; have h0 := hx i hi; constructor <;> (revert h0; simp only [domOf, Ab.get]; (repeat' split) <;> simp_all); done) | (simp only [kE, dArr, ↓reduceIte, Nat.reduceEqDiff, reduceCtorEq]; done) | (simp only [dArr, ren_arr, ren_map, List.mem_cons, List.not_mem_nil, or_false, forall_eq_or_imp, forall_eq]; simp [renAV, renC, renAO, ren_up, flat_up, Ab.get, clAV, clC, clCs, clAO, cl_f1, cl_s1, cl_f2, cl_s2, cl_a1, domOf, List.flatten, hob]; done) | simp [renAV, renC, renAO, ren_up, flat_up, Ab.get, clAV, clC, clCs, clAO, cl_f1, cl_s1, cl_f2, cl_s2, cl_a1, domOf, List.flatten, hob])
      refine nvA ?_
      refine TO_ent (Ent_frzSlot (i := 6) (id := 100) (ys := (ms.take (k + 1)).map eI) rfl rfl (by simp)) ?_
      refine fzA ?_
      refine TO_ent (Ent_frzSlot (i := 7) (id := 101) (ys := ((ms.take (k + 1)).map (openB L t)).map eB) rfl rfl (by simp)) ?_
      refine fzA ?_
      try refine v54T3 ?_
      refine rtA (by simp only [kR, Tryz.results54, ↓reduceIte, Nat.reduceEqDiff, reduceCtorEq]; first | done | rfl) ([]) ?_
      refine ⟨?_, rfl⟩
      rw [hup]
    · intro hne
      have hne' : ¬ v = s := by simpa using hne
      try refine v54T3 ?_
      refine ⟨k + 1, ⟨by omega, ?_⟩, by omega, ?_⟩
      · rw [htk, List.mem_append]
        rintro (h | h)
        · exact hns h
        · simp at h; exact hne' h.symm
      · rw [htk]
        (refine Ent_sub (fun i => if i = 100 then 30 else if i = 101 then 49 else i) rfl ?_ ⟨?_, ?_, ?_, keepR hx (by simp [domOf, Ab.get])⟩ <;> first | (intro i hi; have h0 := hx i hi; constructor <;> (revert h0; simp only [domOf, Ab.get]; (repeat' split) <;> simp_all); done) | (simp only [kE, dArr, ↓reduceIte, Nat.reduceEqDiff, reduceCtorEq]; done) | (simp only [dArr, ren_arr, ren_map, List.mem_cons, List.not_mem_nil, or_false, forall_eq_or_imp, forall_eq]; simp [renAV, renC, renAO, ren_up, flat_up, Ab.get, clAV, clC, clCs, clAO, cl_f1, cl_s1, cl_f2, cl_s2, cl_a1, domOf, List.flatten, hob]; done) | simp [renAV, renC, renAO, ren_up, flat_up, Ab.get, clAV, clC, clCs, clAO, cl_f1, cl_s1, cl_f2, cl_s2, cl_a1, domOf, List.flatten, hob])
  · intro hge
    have hge' : k = ms.length := by have : ¬ k < ms.length := by simpa using hge
                                    omega
    refine nvA ?_
    refine TO_ent (Ent_frzSlot (i := 6) (id := 100) (ys := (ms.take k).map eI) rfl rfl (by simp)) ?_
    refine fzA ?_
    refine TO_ent (Ent_frzSlot (i := 7) (id := 101) (ys := ((ms.take k).map (openB L t)).map eB) rfl rfl (by simp)) ?_
    refine fzA ?_
    try refine v54T3 ?_
    refine rtA (by simp only [kR, Tryz.results54, ↓reduceIte, Nat.reduceEqDiff, reduceCtorEq]; first | done | rfl) ([]) ?_
    refine ⟨?_, rfl⟩
    rw [hge', List.take_length] at hns ⊢
    rw [upto_miss hns]
end Go.Proofs.YtbllfnmabmamfaaGreatDoor

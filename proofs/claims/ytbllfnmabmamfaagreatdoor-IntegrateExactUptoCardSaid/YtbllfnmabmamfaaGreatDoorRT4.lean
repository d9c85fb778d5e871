/- A part of the proof. -/
import Derived.Test.YtbllfnmabmamfaaGreatDoorRBd2
import Derived.Test.YtbllfnmabmamfaaGreatDoorRT1
import Derived.Test.YtbllfnmabmamfaaGreatDoorRAbDl
set_option linter.all false
namespace Go.Proofs.YtbllfnmabmamfaaGreatDoor
open Go.Ab Tys
@[reducible] def ledSt1 (L : Led) (el : List EntD) (em : List Ent1) : List (Nat × AO) :=
  [(1000, ledBox L), (1001, .map ((mEnt kF vI L.index).map upE)), (1002, .map (el.map upE)), (1003, dArr 1 (L.prev.map eI)), (1004, dArr 1 (L.fst.map eI)), (1005, .map em), (1006, dArr 1 (L.car.map eSet)), (1007, dArr 1 (L.con.map eSet)), (1008, dArr 1 (L.cre.map eSet))]
theorem set_I (l : List Int) (i : Nat) (v : Int) : ((l.map eI).map fun l => l.map C.d).set i (C.d (.v (.int .i64 v)) :: List.drop 1 (((l.map eI).map fun l => l.map C.d).getD i [])) = ((l.set i v).map eI).map fun l => l.map C.d :=
  set_gen eI l i v 1 (fun _ => rfl)
theorem set_I2 (l : List Int) (i : Nat) (v : Int) : ((l.map eI).map fun l => l.map C.d).set i [C.d (.v (.int .i64 v))] = ((l.set i v).map eI).map fun l => l.map C.d := by
  simp [List.map_set]
theorem clF_ins (dom : Nat → Bool) (y : D) (v : Bool × List C) : ∀ es : List EntD, clPs dom ((insE (false, [C.d y]) v (es.map upE)).map (fun x => x.1)) = True
  | [] => by simp [insE, clPs, clCs, clC]
  | e :: es => by
    have ih := clF_ins dom y v es
    simp only [List.map_cons, insE]
    split
    · simp only [List.map_cons, clPs, cl_f0]; simp [clCs, clC]
    · simp only [List.map_cons, clPs, ih, and_true]; exact eq_true (cl_up _ _)
theorem clS_ins (dom : Nat → Bool) (y : D) (q : C) : ∀ es : List EntD, clPs dom ((insE (false, [C.d y]) (false, [q]) (es.map upE)).map (fun x => x.2)) = clC dom q
  | [] => by simp [insE, clPs, clCs]
  | e :: es => by
    have ih := clS_ins dom y q es
    simp only [List.map_cons, insE]
    split
    · simp only [List.map_cons, clPs, cl_s0]; simp [clCs]
    · simp only [List.map_cons, clPs, ih]; exact propext ⟨fun h => h.2, fun h => ⟨cl_up _ _, h⟩⟩
theorem find_ins (k v : Bool × List C) : ∀ es : List Ent1, keyB k.2 k.2 = true → findE k.2 (insE k v es) = some v
  | [], h => by simp [insE, findE, h]
  | e :: es, h => by
    simp only [insE]
    by_cases c : keyB k.2 e.1.2 = true
    · rw [if_pos c]; simp [findE, h]
    · rw [if_neg c]; simp only [findE]; rw [if_neg c]; exact find_ins k v es h
theorem ins_ins (k v w : Bool × List C) : ∀ es : List Ent1, keyB k.2 k.2 = true → insE k w (insE k v es) = insE k w es
  | [], h => by simp [insE, h]
  | e :: es, h => by
    simp only [insE]
    by_cases c : keyB k.2 e.1.2 = true
    · rw [if_pos c]; simp [insE, h, c]
    · rw [if_neg c]; simp only [insE]; rw [if_neg c, ins_ins k v w es h]
      simp [c]
def k99 := And.intro @Tryz.ntmps99 <| And.intro @Tryz.underlying59 <| And.intro @bld139 <| And.intro @bld37 <| And.intro @bld46 <| And.intro @elt27 <| And.intro @elt59 <| And.intro @fld139_0 <| And.intro @fld139_1 <| And.intro @fld139_3 <| And.intro @fld139_4 <| And.intro @fld139_5 <| And.intro @fld37_0 <| And.intro @fld37_1 <| And.intro @fld46_0 <| And.intro @fld46_1 <| And.intro @fld46_3 <| And.intro @fld46_6 <| And.intro @fld46_7 <| And.intro @kyt3 <| And.intro @kyt37 <| And.intro @mpt134 <| And.intro @mpt136 <| And.intro @ti134 <| And.intro @ti136 <| And.intro @ti139 <| And.intro @ti27 <| And.intro @ti3 <| And.intro @ti37 <| And.intro @ti46 <| And.intro @ti59 <| @ti9
theorem v99T4 {G G' : Prop} (g : G') (h : Hid G' → G := by intro h9; (first | refine nvB ?_ | refine goA (wr := false) (by simp only [kB, kG, kS, kM, k99, Nat.reduceAdd, Nat.reduceLT, Nat.reduceEqDiff, ↓reduceIte, reduceCtorEq]; first | done | rfl) ?_); (repeat (first | refine nvB ?_ | refine goA (wr := false) (by simp only [kB, kG, kS, kM, k99, Nat.reduceAdd, Nat.reduceLT, Nat.reduceEqDiff, ↓reduceIte, reduceCtorEq]; first | done | rfl) ?_)); exact h9.out) : G := h ⟨g⟩
set_option maxRecDepth 100000 in
set_option maxHeartbeats 8000000 in
theorem enter5_ac (L : Led) (hL : LedOK L) (el em : List EntD) (i : Nat) (v : Rev) (hv : L.revs[i]? = some v) (h5 : v.act = 5) (hn : 1 ≤ v.num ∧ v.num ≤ 1000000) :
    AC Tryz.prog 99 [.c (.ptr 1000 0), I .i64 i] (ledSt L el em) (fun _ st => st = ledSt (enterL L i v) el em) := by
  have hil : i < L.revs.length := (List.getElem?_eq_some_iff.1 hv).1
  have er : (L.revs.map encRev).getD i [] = encRev v := by rw [getD_enc encRev L.revs i zRev hil, List.getD, hv]; rfl
  have hN := hL.n
  have hp := hL.prev
  have hf := hL.fst
  have ep := uG eI L.prev i 0 (by omega)
  have ef := uG eI L.fst i 0 (by omega)
  refine AC_enter Tryz.func99 rfl rfl (by simp only [Tryz.ntmps99, List.length]; omega) ?_
  intro x hx
  simp only [List.range, List.range.loop, List.length, List.zip, List.zipWith, Nat.reduceAdd, Tryz.ntmps99]
  refine nvA ?_
  refine drA (wr := false) ([] : List (Nat × AV)) (by simp only [kD, kB, kG, kS, kM, k99, Nat.reduceAdd, Nat.reduceLT, Nat.reduceEqDiff, ↓reduceIte, reduceCtorEq, set_I, set_I2]; first | done | rfl) ?_ ?_
  · exact obN
  (repeat (first | refine nvB ?_ | refine goA (wr := false) (by simp only [kB, kG, kS, kM, k99, Nat.reduceAdd, Nat.reduceLT, Nat.reduceEqDiff, ↓reduceIte, reduceCtorEq, er, h5]; first | done | rfl) ?_))
  refine ifA ?_ ?_
  rotate_left
  · intro h; cases h
  intro _
  try refine v99T4 ?_
  have hE : enterL L i v = ⟨L.revs, L.index, L.prev.set i (-1), L.fst.set i (-1), L.car, L.con, L.cre⟩ := by simp [enterL, h5]
  rw [hE]
  generalize L.prev.set i (-1) = P'
  generalize L.fst.set i (-1) = F'
  refine rtV (by simp only [kR, Tryz.results99, ↓reduceIte, Nat.reduceEqDiff, reduceCtorEq]; first | done | rfl) ((ledSt ⟨L.revs, L.index, P', F', L.car, L.con, L.cre⟩ el em)) ?_
  rfl
set_option maxRecDepth 100000 in
set_option maxHeartbeats 8000000 in
theorem enterN_ac (L : Led) (hL : LedOK L) (el em : List EntD) (i : Nat) (v : Rev) (hv : L.revs[i]? = some v) (h5 : ¬ v.act = 5) (hn : 1 ≤ v.num ∧ v.num ≤ 1000000) (hk : alook L.index (befF v) = none)
    (hty : ∀ e ∈ em.map upE, e.1.1 = false ∧ tyCs [.int .i64] e.1.2) (hfi : findE [C.d (.v (.int .i64 i))] (em.map upE) = none) :
    AC Tryz.prog 99 [.c (.ptr 1000 0), I .i64 i] (ledSt L el em) (fun _ st => st = ledSt1 (enterL L i v) el (insE (false, [C.d (.v (.int .i64 i))]) (false, [.ms 115 1 0 1]) (em.map upE)) ++ [(115, dArr 1 ([(i : Int)].map eI))]) := by
    have hil : i < L.revs.length := (List.getElem?_eq_some_iff.1 hv).1
    have er : (L.revs.map encRev).getD i [] = encRev v := by rw [getD_enc encRev L.revs i zRev hil, List.getD, hv]; rfl
    have hN := hL.n
    have hp := hL.prev
    have hf := hL.fst
    have ep := uG eI L.prev i 0 (by omega)
    have ef := uG eI L.fst i 0 (by omega)
    have ef0 := uG eI (L.fst.set i i) 0 0 (by simp; omega)
    have efi : (List.map (fun l => List.map C.d l) (List.map eI (L.fst.set i i))).getD i [] = [C.d (.v (.int .i64 i))] := by rw [uG eI (L.fst.set i i) i 0 (by simp; omega)]; simp [List.getD, show i < L.fst.length by omega]
    refine AC_enter Tryz.func99 rfl rfl (by simp only [Tryz.ntmps99, List.length]; omega) ?_
    intro x hx
    simp only [List.range, List.range.loop, List.length, List.zip, List.zipWith, Nat.reduceAdd, Tryz.ntmps99]
    refine nvA ?_
    refine drA (wr := false) ([] : List (Nat × AV)) (by simp only [kD, kB, kG, kS, kM, k99, Nat.reduceAdd, Nat.reduceLT, Nat.reduceEqDiff, ↓reduceIte, reduceCtorEq, set_I, set_I2]; first | done | rfl) ?_ ?_
    · exact obN
    (repeat (first | refine nvB ?_ | refine goA (wr := false) (by simp only [kB, kG, kS, kM, k99, Nat.reduceAdd, Nat.reduceLT, Nat.reduceEqDiff, ↓reduceIte, reduceCtorEq, er]; first | done | rfl) ?_))
    refine ifA ?_ ?_
    · intro h; exact absurd (by simpa using h) h5
    intro _
    (repeat (first | refine nvB ?_ | refine goA (wr := false) (by simp only [kB, kG, kS, kM, k99, Nat.reduceAdd, Nat.reduceLT, Nat.reduceEqDiff, ↓reduceIte, reduceCtorEq, er]; first | done | rfl) ?_))
    refine ifA ?_ ?_
    · intro h
      have hb : befF v = ⟨ByteArray.empty, 0⟩ := by simp [befF, show v.act = 1 by simpa using h, zFil]
      rw [hb] at hk
      (repeat (first | refine nvB ?_ | refine goA (wr := false) (by simp only [kB, kG, kS, kM, k99, Nat.reduceAdd, Nat.reduceLT, Nat.reduceEqDiff, ↓reduceIte, reduceCtorEq, set_I, set_I2, List.set_set]; first | done | rfl) ?_))
      refine drA (wr := false) ([] : List (Nat × AV)) (by simp only [kD, kB, kG, kS, kM, k99, Nat.reduceAdd, Nat.reduceLT, Nat.reduceEqDiff, ↓reduceIte, reduceCtorEq, look_I, hk, Option.map_none, Option.isSome]; first | done | rfl) ?_ ?_
      · exact obF ty_I
      (repeat (first | refine nvB ?_ | refine goA (wr := false) (by simp only [kB, kG, kS, kM, k99, Nat.reduceAdd, Nat.reduceLT, Nat.reduceEqDiff, ↓reduceIte, reduceCtorEq, ef0, Int.toNat_zero]; first | done | rfl) ?_))
      refine ifA ?_ ?_
      · intro h; cases h
      intro _
      (repeat (first | refine nvB ?_ | refine goA (wr := false) (by simp only [kB, kG, kS, kM, k99, Nat.reduceAdd, Nat.reduceLT, Nat.reduceEqDiff, ↓reduceIte, reduceCtorEq, efi]; first | done | rfl) ?_))
      refine drA (wr := false) ([] : List (Nat × AV)) (by simp only [kD, kB, kG, kS, kM, k99, Nat.reduceAdd, Nat.reduceLT, Nat.reduceEqDiff, ↓reduceIte, reduceCtorEq, hfi, Option.getD]; first | done | rfl) ?_ ?_
      · exact obT (hty)
      refine nvA ?_
      have hE : enterL L i v = ⟨L.revs, L.index, L.prev.set i (-1), L.fst.set i i, L.car, L.con, L.cre⟩ := by simp [enterL, h5, prevOf, lineOf, memB, hb, hk]
      rw [hE]
      generalize L.prev.set i (-1) = P'
      generalize L.fst.set i (i : Int) = F'
      refine RetQ_any (by first | exact .inl rfl | exact .inr rfl) (by simp only [kR, Tryz.results99, ↓reduceIte, Nat.reduceEqDiff, reduceCtorEq]; first | done | rfl) (by first | exact trivial | (simp only [kO]; omega) | (simp [All, InR]; first | done | omega) | (simp +contextual [All, InR]; first | done | grind)) (ledSt1 ⟨L.revs, L.index, P', F', L.car, L.con, L.cre⟩ el (insE (false, [C.d (.v (.int .i64 i))]) (false, [.ms 115 1 0 1]) (em.map upE)) ++ [(115, dArr 1 ([(i : Int)].map eI))]) ⟨by simp [Ab.get, renAO_id, clF_ins, clS_ins], by simp, by simp [clAO, cl_f1, cl_s1, cl_f2, cl_s2, cl_a1, flat_up, clCs, clC, domOf, Ab.get, clF_ins, clS_ins], keepI hx (by simp [domOf, Ab.get, clF_ins, clS_ins])⟩ (by simp [clAV, clPs, clCs, clC, domOf, Ab.get, clF_ins, clS_ins]) ?_
      rfl
    intro _
    (repeat (first | refine nvB ?_ | refine goA (wr := false) (by simp only [kB, kG, kS, kM, k99, Nat.reduceAdd, Nat.reduceLT, Nat.reduceEqDiff, ↓reduceIte, reduceCtorEq, er]; first | done | rfl) ?_))
    refine ifA ?_ ?_
    · intro h
      have hb : befF v = ⟨v.frm, v.fnum⟩ := by simp [befF, show v.act = 4 by simpa using h]
      rw [hb] at hk
      (repeat (first | refine nvB ?_ | refine goA (wr := false) (by simp only [kB, kG, kS, kM, k99, Nat.reduceAdd, Nat.reduceLT, Nat.reduceEqDiff, ↓reduceIte, reduceCtorEq, set_I, set_I2, List.set_set]; first | done | rfl) ?_))
      refine drA (wr := false) ([] : List (Nat × AV)) (by simp only [kD, kB, kG, kS, kM, k99, Nat.reduceAdd, Nat.reduceLT, Nat.reduceEqDiff, ↓reduceIte, reduceCtorEq, look_I, hk, Option.map_none, Option.isSome]; first | done | rfl) ?_ ?_
      · exact obF ty_I
      (repeat (first | refine nvB ?_ | refine goA (wr := false) (by simp only [kB, kG, kS, kM, k99, Nat.reduceAdd, Nat.reduceLT, Nat.reduceEqDiff, ↓reduceIte, reduceCtorEq, ef0, Int.toNat_zero]; first | done | rfl) ?_))
      refine ifA ?_ ?_
      · intro h; cases h
      intro _
      (repeat (first | refine nvB ?_ | refine goA (wr := false) (by simp only [kB, kG, kS, kM, k99, Nat.reduceAdd, Nat.reduceLT, Nat.reduceEqDiff, ↓reduceIte, reduceCtorEq, efi]; first | done | rfl) ?_))
      refine drA (wr := false) ([] : List (Nat × AV)) (by simp only [kD, kB, kG, kS, kM, k99, Nat.reduceAdd, Nat.reduceLT, Nat.reduceEqDiff, ↓reduceIte, reduceCtorEq, hfi, Option.getD]; first | done | rfl) ?_ ?_
      · exact obT (hty)
      refine nvA ?_
      have hE : enterL L i v = ⟨L.revs, L.index, L.prev.set i (-1), L.fst.set i i, L.car, L.con, L.cre⟩ := by simp [enterL, h5, prevOf, lineOf, memB, hb, hk]
      rw [hE]
      generalize L.prev.set i (-1) = P'
      generalize L.fst.set i (i : Int) = F'
      refine RetQ_any (by first | exact .inl rfl | exact .inr rfl) (by simp only [kR, Tryz.results99, ↓reduceIte, Nat.reduceEqDiff, reduceCtorEq]; first | done | rfl) (by first | exact trivial | (simp only [kO]; omega) | (simp [All, InR]; first | done | omega) | (simp +contextual [All, InR]; first | done | grind)) (ledSt1 ⟨L.revs, L.index, P', F', L.car, L.con, L.cre⟩ el (insE (false, [C.d (.v (.int .i64 i))]) (false, [.ms 115 1 0 1]) (em.map upE)) ++ [(115, dArr 1 ([(i : Int)].map eI))]) ⟨by simp [Ab.get, renAO_id, clF_ins, clS_ins], by simp, by simp [clAO, cl_f1, cl_s1, cl_f2, cl_s2, cl_a1, flat_up, clCs, clC, domOf, Ab.get, clF_ins, clS_ins], keepI hx (by simp [domOf, Ab.get, clF_ins, clS_ins])⟩ (by simp [clAV, clPs, clCs, clC, domOf, Ab.get, clF_ins, clS_ins]) ?_
      rfl
    · intro h
      have hb : befF v = ⟨v.path, v.num - 1⟩ := by simp_all [befF]
      rw [hb] at hk
      (repeat (first | refine nvB ?_ | refine goA (wr := false) (by simp only [kB, kG, kS, kM, k99, Nat.reduceAdd, Nat.reduceLT, Nat.reduceEqDiff, ↓reduceIte, reduceCtorEq, set_I, set_I2, List.set_set]; first | done | rfl) ?_))
      refine drA (wr := false) ([] : List (Nat × AV)) (by simp only [kD, kB, kG, kS, kM, k99, Nat.reduceAdd, Nat.reduceLT, Nat.reduceEqDiff, ↓reduceIte, reduceCtorEq, look_I, hk, Option.map_none, Option.isSome]; first | done | rfl) ?_ ?_
      · exact obF ty_I
      (repeat (first | refine nvB ?_ | refine goA (wr := false) (by simp only [kB, kG, kS, kM, k99, Nat.reduceAdd, Nat.reduceLT, Nat.reduceEqDiff, ↓reduceIte, reduceCtorEq, ef0, Int.toNat_zero]; first | done | rfl) ?_))
      refine ifA ?_ ?_
      · intro h; cases h
      intro _
      (repeat (first | refine nvB ?_ | refine goA (wr := false) (by simp only [kB, kG, kS, kM, k99, Nat.reduceAdd, Nat.reduceLT, Nat.reduceEqDiff, ↓reduceIte, reduceCtorEq, efi]; first | done | rfl) ?_))
      refine drA (wr := false) ([] : List (Nat × AV)) (by simp only [kD, kB, kG, kS, kM, k99, Nat.reduceAdd, Nat.reduceLT, Nat.reduceEqDiff, ↓reduceIte, reduceCtorEq, hfi, Option.getD]; first | done | rfl) ?_ ?_
      · exact obT (hty)
      refine nvA ?_
      have hE : enterL L i v = ⟨L.revs, L.index, L.prev.set i (-1), L.fst.set i i, L.car, L.con, L.cre⟩ := by simp [enterL, h5, prevOf, lineOf, memB, hb, hk]
      rw [hE]
      generalize L.prev.set i (-1) = P'
      generalize L.fst.set i (i : Int) = F'
      refine RetQ_any (by first | exact .inl rfl | exact .inr rfl) (by simp only [kR, Tryz.results99, ↓reduceIte, Nat.reduceEqDiff, reduceCtorEq]; first | done | rfl) (by first | exact trivial | (simp only [kO]; omega) | (simp [All, InR]; first | done | omega) | (simp +contextual [All, InR]; first | done | grind)) (ledSt1 ⟨L.revs, L.index, P', F', L.car, L.con, L.cre⟩ el (insE (false, [C.d (.v (.int .i64 i))]) (false, [.ms 115 1 0 1]) (em.map upE)) ++ [(115, dArr 1 ([(i : Int)].map eI))]) ⟨by simp [Ab.get, renAO_id, clF_ins, clS_ins], by simp, by simp [clAO, cl_f1, cl_s1, cl_f2, cl_s2, cl_a1, flat_up, clCs, clC, domOf, Ab.get, clF_ins, clS_ins], keepI hx (by simp [domOf, Ab.get, clF_ins, clS_ins])⟩ (by simp [clAV, clPs, clCs, clC, domOf, Ab.get, clF_ins, clS_ins]) ?_
      rfl
end Go.Proofs.YtbllfnmabmamfaaGreatDoor

/- A part of the proof: contracts of functions of the program over abstract states. -/
import Derived.Test.YtmlhfnodnnbbnaaDoorQT2
import Derived.Test.YtmlhfnodnnbbnaaDoorQG2
set_option linter.all false
namespace Go.Proofs.YtmlhfnodnnbbnaaDoor
open Go.Ab Tys
def befF (v : Rev) : Fil := if v.act = 1 then zFil else if v.act = 4 then ⟨v.frm, v.fnum⟩ else ⟨v.path, v.num - 1⟩
def lineOf (L : Led) (i : Nat) (v : Rev) : Int := match memB L (befF v) with | some u => L.fst.getD u.toNat 0 | none => i
def prevOf (L : Led) (v : Rev) : Int := match memB L (befF v) with | some u => u | none => -1
def enterL (L : Led) (i : Nat) (v : Rev) : Led := { L with prev := L.prev.set i (if v.act = 5 then -1 else prevOf L v), fst := L.fst.set i (if v.act = 5 then -1 else lineOf L i v) }
@[reducible] def ledSt1 (L : Led) (el : List EntD) (em : List Ent1) : List (Nat × AO) :=
  [(1000, ledBox L), (1001, .map ((mEnt kF vI L.index).map upE)), (1002, .map (el.map upE)), (1003, dArr 1 (L.prev.map eI)), (1004, dArr 1 (L.fst.map eI)), (1005, .map em), (1006, dArr 1 (L.car.map eSet)), (1007, dArr 1 (L.con.map eSet)), (1008, dArr 1 (L.cre.map eSet))]
theorem set_I (l : List Int) (i : Nat) (v : Int) : ((l.map eI).map fun l => l.map C.d).set i (C.d (.v (.int .i64 v)) :: List.drop 1 (((l.map eI).map fun l => l.map C.d).getD i [])) = ((l.set i v).map eI).map fun l => l.map C.d :=
  set_gen eI l i v 1 (fun _ => rfl)
theorem set_I2 (l : List Int) (i : Nat) (v : Int) : ((l.map eI).map fun l => l.map C.d).set i [C.d (.v (.int .i64 v))] = ((l.set i v).map eI).map fun l => l.map C.d := by
  simp [List.map_set]
theorem RetQ_any {P : Program} {rs : List ResultVar} {x : X} {R : AV → List (Nat × AO) → Prop} {s : S} {r : AV} {obl : List Prop} {e : Exit} (he : e = .ret ∨ e = .normal) (h : retV P rs s = some (r, obl)) (ho : All obl)
    (st' : List (Nat × AO)) (hsub : Sub x (fun i => i) s.st st') (hcl : clAV (domOf st') r) (hR : R r st') : RetQ P rs x R e s := ⟨he, r, obl, h, ho, st', hsub, hcl, hR⟩
theorem clF_ins (dom : Nat → Bool) (y : D) (v : Bool × List C) : ∀ es : List EntD, clPs dom ((insE (false, [C.d y]) v (es.map upE)).map (fun x => x.1)) = True
  | [] => by simp [insE, clPs, clCs, clC]
  | e :: es => by
    have ih := clF_ins dom y v es
    simp only [List.map_cons, insE]
    split
    · simp only [List.map_cons, clPs, cl_f0]; simp [clCs, clC]
    · simp only [List.map_cons, clPs, ih, and_true]; exact eq_true (cl_up _ _)
theorem clS_ins (dom : Nat → Bool) (y : D) (q : C) : ∀ es : List EntD, clPs dom ((insE (false, [C.d y]) (false, [q]) (es.map upE)).map (fun x => x.2)) = clC dom q
  | [] => by simp [insE, clPs, clCs]
  | e :: es => by
    have ih := clS_ins dom y q es
    simp only [List.map_cons, insE]
    split
    · simp only [List.map_cons, clPs, cl_s0]; simp [clCs]
    · simp only [List.map_cons, clPs, ih]; exact propext ⟨fun h => h.2, fun h => ⟨cl_up _ _, h⟩⟩
theorem find_ins (k v : Bool × List C) : ∀ es : List Ent1, keyB k.2 k.2 = true → findE k.2 (insE k v es) = some v
  | [], h => by simp [insE, findE, h]
  | e :: es, h => by
    simp only [insE]
    by_cases c : keyB k.2 e.1.2 = true
    · rw [if_pos c]; simp [findE, h]
    · rw [if_neg c]; simp only [findE]; rw [if_neg c]; exact find_ins k v es h
theorem ins_ins (k v w : Bool × List C) : ∀ es : List Ent1, keyB k.2 k.2 = true → insE k w (insE k v es) = insE k w es
  | [], h => by simp [insE, h]
  | e :: es, h => by
    simp only [insE]
    by_cases c : keyB k.2 e.1.2 = true
    · rw [if_pos c]; simp [insE, h, c]
    · rw [if_neg c]; simp only [insE]; rw [if_neg c, ins_ins k v w es h]
      simp [c]
def k42 := And.intro @Tryd.ntmps42 <| And.intro @Tryd.underlying76 <| And.intro @bld24 <| And.intro @bld50 <| And.intro @bld86 <| And.intro @elt27 <| And.intro @elt76 <| And.intro @fld24_0 <| And.intro @fld24_1 <| And.intro @fld50_0 <| And.intro @fld50_1 <| And.intro @fld50_3 <| And.intro @fld50_6 <| And.intro @fld50_7 <| And.intro @fld86_0 <| And.intro @fld86_1 <| And.intro @fld86_3 <| And.intro @fld86_4 <| And.intro @fld86_5 <| And.intro @kyt24 <| And.intro @kyt3 <| And.intro @mpt81 <| And.intro @mpt83 <| And.intro @ti24 <| And.intro @ti27 <| And.intro @ti3 <| And.intro @ti50 <| And.intro @ti76 <| And.intro @ti81 <| And.intro @ti83 <| And.intro @ti86 <| @ti9
set_option maxRecDepth 100000 in
set_option maxHeartbeats 8000000 in
theorem enter5_ac (L : Led) (hL : LedOK L) (el em : List EntD) (i : Nat) (v : Rev) (hv : L.revs[i]? = some v) (h5 : v.act = 5) (hn : 1 ≤ v.num ∧ v.num ≤ 1000000) :
    AC Tryd.prog 42 [.c (.ptr 1000 0), I .i64 i] (ledSt L el em) (fun _ st => st = ledSt (enterL L i v) el em) := by
  have hil : i < L.revs.length := (List.getElem?_eq_some_iff.1 hv).1
  have er : (L.revs.map encRev).getD i [] = encRev v := by rw [getD_enc encRev L.revs i zRev hil, List.getD, hv]; rfl
  have hN := hL.n
  have hp := hL.prev
  have hf := hL.fst
  have ep := uG eI L.prev i 0 (by omega)
  have ef := uG eI L.fst i 0 (by omega)
  refine AC_enter Tryd.func42 rfl rfl (by simp only [Tryd.ntmps42, List.length]; omega) ?_
  intro x hx
  simp only [List.range, List.range.loop, List.length, List.zip, List.zipWith, Nat.reduceAdd, Tryd.ntmps42]
  (repeat (with_reducible first | refine na ?_ | refine nb ?_ | refine nc ?_ | refine nd ?_ | refine ne ?_ | refine nf ?_ | refine ng ?_ | refine nh ?_ | refine ni ?_ | refine nj ?_ | refine nk ?_ | refine nl ?_ | refine nm (by decide) ?_ | refine nn ?_))
  refine T_draw (wr := false) ([] : List (Nat × AV)) (by kernel_rfl) (by simp only [kD, kB, kG, kS, kM, k42, Nat.reduceAdd, Nat.reduceLT, Nat.reduceEqDiff, ↓reduceIte, reduceCtorEq, set_I, set_I2]; first | done | rfl) ?_ (by kernel_rfl) ?_
  · simp only [All, List.cons_append, List.nil_append, InR, List.mem_cons, List.not_mem_nil, or_false, forall_eq_or_imp, forall_eq, clAV, clCs, clC, and_true, true_and, implies_true, List.length_map, List.length_cons, List.length_nil, dArr, cl_arr, tyCs]
    repeat' (first | exact trivial | refine And.intro ?_ ?_ | intro _ | assumption | rfl | omega | (rw [Bool.not_eq_true']; assumption) | (simp; done) | (simp only [decide_eq_true_eq] at *; omega) | (simp_all; done))
  (repeat (first | (with_reducible first | refine na ?_ | refine nb ?_ | refine nc ?_ | refine nd ?_ | refine ne ?_ | refine nf ?_ | refine ng ?_ | refine nh ?_ | refine ni ?_ | refine nj ?_ | refine nk ?_ | refine nl ?_ | refine nm (by decide) ?_ | refine nn ?_) | refine TO_go (wr := false) 400 (by simp only [kB, kG, kS, kM, k42, Nat.reduceAdd, Nat.reduceLT, Nat.reduceEqDiff, ↓reduceIte, reduceCtorEq, er, h5]; first | done | rfl) (by first | exact trivial | (simp only [kO]; omega) | (simp [All, InR]; first | done | omega) | (simp +contextual [All, InR]; first | done | grind)) ?_))
  refine T_cond (by simp only [kV, ↓reduceIte, Nat.reduceEqDiff, reduceCtorEq]; first | done | rfl) ?_ ?_
  rotate_left
  · intro h; cases h
  intro _
  (repeat (first | (with_reducible first | refine na ?_ | refine nb ?_ | refine nc ?_ | refine nd ?_ | refine ne ?_ | refine nf ?_ | refine ng ?_ | refine nh ?_ | refine ni ?_ | refine nj ?_ | refine nk ?_ | refine nl ?_ | refine nm (by decide) ?_ | refine nn ?_) | refine TO_go (wr := false) 400 (by simp only [kB, kG, kS, kM, k42, Nat.reduceAdd, Nat.reduceLT, Nat.reduceEqDiff, ↓reduceIte, reduceCtorEq]; first | done | rfl) (by first | exact trivial | (simp only [kO]; omega) | (simp [All, InR]; first | done | omega) | (simp +contextual [All, InR]; first | done | grind)) ?_))
  have hE : enterL L i v = ⟨L.revs, L.index, L.prev.set i (-1), L.fst.set i (-1), L.car, L.con, L.cre⟩ := by simp [enterL, h5]
  rw [hE]
  generalize L.prev.set i (-1) = P'
  generalize L.fst.set i (-1) = F'
  refine RetQ_any (by first | exact .inl rfl | exact .inr rfl) (by simp only [kR, Tryd.results42, ↓reduceIte, Nat.reduceEqDiff, reduceCtorEq]; first | done | rfl) (by first | exact trivial | (simp only [kO]; omega) | (simp [All, InR]; first | done | omega) | (simp +contextual [All, InR]; first | done | grind)) (ledSt ⟨L.revs, L.index, P', F', L.car, L.con, L.cre⟩ el em) ⟨by simp [Ab.get, renAO_id], by simp, by simp [clAO, cl_f1, cl_s1, cl_f2, cl_s2, cl_a1, flat_up, clCs, clC, domOf, Ab.get], keepI hx (by simp [domOf, Ab.get])⟩ (by simp [clAV, clPs, clCs, clC, domOf, Ab.get]) ?_
  rfl
set_option maxRecDepth 100000 in
set_option maxHeartbeats 8000000 in
theorem enterN_ac (L : Led) (hL : LedOK L) (el em : List EntD) (i : Nat) (v : Rev) (hv : L.revs[i]? = some v) (h5 : ¬ v.act = 5) (hn : 1 ≤ v.num ∧ v.num ≤ 1000000) (hk : alook L.index (befF v) = none)
    (hty : ∀ e ∈ em.map upE, e.1.1 = false ∧ tyCs [.int .i64] e.1.2) (hfi : findE [C.d (.v (.int .i64 i))] (em.map upE) = none) :
    AC Tryd.prog 42 [.c (.ptr 1000 0), I .i64 i] (ledSt L el em) (fun _ st => st = ledSt1 (enterL L i v) el (insE (false, [C.d (.v (.int .i64 i))]) (false, [.ms 115 1 0 1]) (em.map upE)) ++ [(115, dArr 1 ([(i : Int)].map eI))]) := by
    have hil : i < L.revs.length := (List.getElem?_eq_some_iff.1 hv).1
    have er : (L.revs.map encRev).getD i [] = encRev v := by rw [getD_enc encRev L.revs i zRev hil, List.getD, hv]; rfl
    have hN := hL.n
    have hp := hL.prev
    have hf := hL.fst
    have ep := uG eI L.prev i 0 (by omega)
    have ef := uG eI L.fst i 0 (by omega)
    have ef0 := uG eI (L.fst.set i i) 0 0 (by simp; omega)
    have efi : (List.map (fun l => List.map C.d l) (List.map eI (L.fst.set i i))).getD i [] = [C.d (.v (.int .i64 i))] := by rw [uG eI (L.fst.set i i) i 0 (by simp; omega)]; simp [List.getD, show i < L.fst.length by omega]
    refine AC_enter Tryd.func42 rfl rfl (by simp only [Tryd.ntmps42, List.length]; omega) ?_
    intro x hx
    simp only [List.range, List.range.loop, List.length, List.zip, List.zipWith, Nat.reduceAdd, Tryd.ntmps42]
    (repeat (with_reducible first | refine na ?_ | refine nb ?_ | refine nc ?_ | refine nd ?_ | refine ne ?_ | refine nf ?_ | refine ng ?_ | refine nh ?_ | refine ni ?_ | refine nj ?_ | refine nk ?_ | refine nl ?_ | refine nm (by decide) ?_ | refine nn ?_))
    refine T_draw (wr := false) ([] : List (Nat × AV)) (by kernel_rfl) (by simp only [kD, kB, kG, kS, kM, k42, Nat.reduceAdd, Nat.reduceLT, Nat.reduceEqDiff, ↓reduceIte, reduceCtorEq, set_I, set_I2]; first | done | rfl) ?_ (by kernel_rfl) ?_
    · simp only [All, List.cons_append, List.nil_append, InR, List.mem_cons, List.not_mem_nil, or_false, forall_eq_or_imp, forall_eq, clAV, clCs, clC, and_true, true_and, implies_true, List.length_map, List.length_cons, List.length_nil, dArr, cl_arr, tyCs]
      repeat' (first | exact trivial | refine And.intro ?_ ?_ | intro _ | assumption | rfl | omega | (rw [Bool.not_eq_true']; assumption) | (simp; done) | (simp only [decide_eq_true_eq] at *; omega) | (simp_all; done))
    (repeat (first | (with_reducible first | refine na ?_ | refine nb ?_ | refine nc ?_ | refine nd ?_ | refine ne ?_ | refine nf ?_ | refine ng ?_ | refine nh ?_ | refine ni ?_ | refine nj ?_ | refine nk ?_ | refine nl ?_ | refine nm (by decide) ?_ | refine nn ?_) | refine TO_go (wr := false) 400 (by simp only [kB, kG, kS, kM, k42, Nat.reduceAdd, Nat.reduceLT, Nat.reduceEqDiff, ↓reduceIte, reduceCtorEq, er]; first | done | rfl) (by first | exact trivial | (simp only [kO]; omega) | (simp [All, InR]; first | done | omega) | (simp +contextual [All, InR]; first | done | grind)) ?_))
    refine T_cond (by simp only [kV, ↓reduceIte, Nat.reduceEqDiff, reduceCtorEq]; first | done | rfl) ?_ ?_
    · intro h; exact absurd (by simpa using h) h5
    intro _
    (repeat (first | (with_reducible first | refine na ?_ | refine nb ?_ | refine nc ?_ | refine nd ?_ | refine ne ?_ | refine nf ?_ | refine ng ?_ | refine nh ?_ | refine ni ?_ | refine nj ?_ | refine nk ?_ | refine nl ?_ | refine nm (by decide) ?_ | refine nn ?_) | refine TO_go (wr := false) 400 (by simp only [kB, kG, kS, kM, k42, Nat.reduceAdd, Nat.reduceLT, Nat.reduceEqDiff, ↓reduceIte, reduceCtorEq, er]; first | done | rfl) (by first | exact trivial | (simp only [kO]; omega) | (simp [All, InR]; first | done | omega) | (simp +contextual [All, InR]; first | done | grind)) ?_))
    refine T_cond (by simp only [kV, ↓reduceIte, Nat.reduceEqDiff, reduceCtorEq]; first | done | rfl) ?_ ?_
    · intro h
      have hb : befF v = ⟨ByteArray.empty, 0⟩ := by simp [befF, show v.act = 1 by simpa using h, zFil]
      rw [hb] at hk
      (repeat (first | (with_reducible first | refine na ?_ | refine nb ?_ | refine nc ?_ | refine nd ?_ | refine ne ?_ | refine nf ?_ | refine ng ?_ | refine nh ?_ | refine ni ?_ | refine nj ?_ | refine nk ?_ | refine nl ?_ | refine nm (by decide) ?_ | refine nn ?_) | refine TO_go (wr := false) 400 (by simp only [kB, kG, kS, kM, k42, Nat.reduceAdd, Nat.reduceLT, Nat.reduceEqDiff, ↓reduceIte, reduceCtorEq, set_I, set_I2, List.set_set]; first | done | rfl) (by first | exact trivial | (simp only [kO]; omega) | (simp [All, InR]; first | done | omega) | (simp +contextual [All, InR]; first | done | grind)) ?_))
      refine T_draw (wr := false) ([] : List (Nat × AV)) (by kernel_rfl) (by simp only [kD, kB, kG, kS, kM, k42, Nat.reduceAdd, Nat.reduceLT, Nat.reduceEqDiff, ↓reduceIte, reduceCtorEq, look_I, hk, Option.map_none, Option.isSome]; first | done | rfl) ?_ (by kernel_rfl) ?_
      · simp only [All, List.cons_append, List.nil_append, InR, List.mem_cons, List.not_mem_nil, or_false, forall_eq_or_imp, forall_eq, clAV, clCs, clC, and_true, true_and, implies_true, List.length_map, List.length_cons, List.length_nil, dArr, cl_arr, tyCs]
        repeat' (first | exact trivial | exact ty_I _ | refine And.intro ?_ ?_ | intro _ | assumption | rfl | omega | (rw [Bool.not_eq_true']; assumption) | (simp; done) | (simp only [decide_eq_true_eq] at *; omega) | (simp_all; done))
      (repeat (first | (with_reducible first | refine na ?_ | refine nb ?_ | refine nc ?_ | refine nd ?_ | refine ne ?_ | refine nf ?_ | refine ng ?_ | refine nh ?_ | refine ni ?_ | refine nj ?_ | refine nk ?_ | refine nl ?_ | refine nm (by decide) ?_ | refine nn ?_) | refine TO_go (wr := false) 400 (by simp only [kB, kG, kS, kM, k42, Nat.reduceAdd, Nat.reduceLT, Nat.reduceEqDiff, ↓reduceIte, reduceCtorEq, ef0, Int.toNat_zero]; first | done | rfl) (by first | exact trivial | (simp only [kO]; omega) | (simp [All, InR]; first | done | omega) | (simp +contextual [All, InR]; first | done | grind)) ?_))
      refine T_cond (by simp only [kV, ↓reduceIte, Nat.reduceEqDiff, reduceCtorEq]; first | done | rfl) ?_ ?_
      · intro h; cases h
      intro _
      (repeat (first | (with_reducible first | refine na ?_ | refine nb ?_ | refine nc ?_ | refine nd ?_ | refine ne ?_ | refine nf ?_ | refine ng ?_ | refine nh ?_ | refine ni ?_ | refine nj ?_ | refine nk ?_ | refine nl ?_ | refine nm (by decide) ?_ | refine nn ?_) | refine TO_go (wr := false) 400 (by simp only [kB, kG, kS, kM, k42, Nat.reduceAdd, Nat.reduceLT, Nat.reduceEqDiff, ↓reduceIte, reduceCtorEq, efi]; first | done | rfl) (by first | exact trivial | (simp only [kO]; omega) | (simp [All, InR]; first | done | omega) | (simp +contextual [All, InR]; first | done | grind)) ?_))
      refine T_draw (wr := false) ([] : List (Nat × AV)) (by kernel_rfl) (by simp only [kD, kB, kG, kS, kM, k42, Nat.reduceAdd, Nat.reduceLT, Nat.reduceEqDiff, ↓reduceIte, reduceCtorEq, hfi, Option.getD]; first | done | rfl) ?_ (by kernel_rfl) ?_
      · simp only [All, List.cons_append, List.nil_append, InR, List.mem_cons, List.not_mem_nil, or_false, forall_eq_or_imp, forall_eq, clAV, clCs, clC, and_true, true_and, implies_true, List.length_map, List.length_cons, List.length_nil, dArr, cl_arr, tyCs]
        repeat' (first | exact trivial | exact hty | refine And.intro ?_ ?_ | intro _ | assumption | rfl | omega | (rw [Bool.not_eq_true']; assumption) | (simp; done) | (simp only [decide_eq_true_eq] at *; omega) | (simp_all; done))
      (repeat (with_reducible first | refine na ?_ | refine nb ?_ | refine nc ?_ | refine nd ?_ | refine ne ?_ | refine nf ?_ | refine ng ?_ | refine nh ?_ | refine ni ?_ | refine nj ?_ | refine nk ?_ | refine nl ?_ | refine nm (by decide) ?_ | refine nn ?_))
      have hE : enterL L i v = ⟨L.revs, L.index, L.prev.set i (-1), L.fst.set i i, L.car, L.con, L.cre⟩ := by simp [enterL, h5, prevOf, lineOf, memB, hb, hk]
      rw [hE]
      generalize L.prev.set i (-1) = P'
      generalize L.fst.set i (i : Int) = F'
      refine RetQ_any (by first | exact .inl rfl | exact .inr rfl) (by simp only [kR, Tryd.results42, ↓reduceIte, Nat.reduceEqDiff, reduceCtorEq]; first | done | rfl) (by first | exact trivial | (simp only [kO]; omega) | (simp [All, InR]; first | done | omega) | (simp +contextual [All, InR]; first | done | grind)) (ledSt1 ⟨L.revs, L.index, P', F', L.car, L.con, L.cre⟩ el (insE (false, [C.d (.v (.int .i64 i))]) (false, [.ms 115 1 0 1]) (em.map upE)) ++ [(115, dArr 1 ([(i : Int)].map eI))]) ⟨by simp [Ab.get, renAO_id, clF_ins, clS_ins], by simp, by simp [clAO, cl_f1, cl_s1, cl_f2, cl_s2, cl_a1, flat_up, clCs, clC, domOf, Ab.get, clF_ins, clS_ins], keepI hx (by simp [domOf, Ab.get, clF_ins, clS_ins])⟩ (by simp [clAV, clPs, clCs, clC, domOf, Ab.get, clF_ins, clS_ins]) ?_
      rfl
    intro _
    (repeat (first | (with_reducible first | refine na ?_ | refine nb ?_ | refine nc ?_ | refine nd ?_ | refine ne ?_ | refine nf ?_ | refine ng ?_ | refine nh ?_ | refine ni ?_ | refine nj ?_ | refine nk ?_ | refine nl ?_ | refine nm (by decide) ?_ | refine nn ?_) | refine TO_go (wr := false) 400 (by simp only [kB, kG, kS, kM, k42, Nat.reduceAdd, Nat.reduceLT, Nat.reduceEqDiff, ↓reduceIte, reduceCtorEq, er]; first | done | rfl) (by first | exact trivial | (simp only [kO]; omega) | (simp [All, InR]; first | done | omega) | (simp +contextual [All, InR]; first | done | grind)) ?_))
    refine T_cond (by simp only [kV, ↓reduceIte, Nat.reduceEqDiff, reduceCtorEq]; first | done | rfl) ?_ ?_
    · intro h
      have hb : befF v = ⟨v.frm, v.fnum⟩ := by simp [befF, show v.act = 4 by simpa using h]
      rw [hb] at hk
      (repeat (first | (with_reducible first | refine na ?_ | refine nb ?_ | refine nc ?_ | refine nd ?_ | refine ne ?_ | refine nf ?_ | refine ng ?_ | refine nh ?_ | refine ni ?_ | refine nj ?_ | refine nk ?_ | refine nl ?_ | refine nm (by decide) ?_ | refine nn ?_) | refine TO_go (wr := false) 400 (by simp only [kB, kG, kS, kM, k42, Nat.reduceAdd, Nat.reduceLT, Nat.reduceEqDiff, ↓reduceIte, reduceCtorEq, set_I, set_I2, List.set_set]; first | done | rfl) (by first | exact trivial | (simp only [kO]; omega) | (simp [All, InR]; first | done | omega) | (simp +contextual [All, InR]; first | done | grind)) ?_))
      refine T_draw (wr := false) ([] : List (Nat × AV)) (by kernel_rfl) (by simp only [kD, kB, kG, kS, kM, k42, Nat.reduceAdd, Nat.reduceLT, Nat.reduceEqDiff, ↓reduceIte, reduceCtorEq, look_I, hk, Option.map_none, Option.isSome]; first | done | rfl) ?_ (by kernel_rfl) ?_
      · simp only [All, List.cons_append, List.nil_append, InR, List.mem_cons, List.not_mem_nil, or_false, forall_eq_or_imp, forall_eq, clAV, clCs, clC, and_true, true_and, implies_true, List.length_map, List.length_cons, List.length_nil, dArr, cl_arr, tyCs]
        repeat' (first | exact trivial | exact ty_I _ | refine And.intro ?_ ?_ | intro _ | assumption | rfl | omega | (rw [Bool.not_eq_true']; assumption) | (simp; done) | (simp only [decide_eq_true_eq] at *; omega) | (simp_all; done))
      (repeat (first | (with_reducible first | refine na ?_ | refine nb ?_ | refine nc ?_ | refine nd ?_ | refine ne ?_ | refine nf ?_ | refine ng ?_ | refine nh ?_ | refine ni ?_ | refine nj ?_ | refine nk ?_ | refine nl ?_ | refine nm (by decide) ?_ | refine nn ?_) | refine TO_go (wr := false) 400 (by simp only [kB, kG, kS, kM, k42, Nat.reduceAdd, Nat.reduceLT, Nat.reduceEqDiff, ↓reduceIte, reduceCtorEq, ef0, Int.toNat_zero]; first | done | rfl) (by first | exact trivial | (simp only [kO]; omega) | (simp [All, InR]; first | done | omega) | (simp +contextual [All, InR]; first | done | grind)) ?_))
      refine T_cond (by simp only [kV, ↓reduceIte, Nat.reduceEqDiff, reduceCtorEq]; first | done | rfl) ?_ ?_
      · intro h; cases h
      intro _
      (repeat (first | (with_reducible first | refine na ?_ | refine nb ?_ | refine nc ?_ | refine nd ?_ | refine ne ?_ | refine nf ?_ | refine ng ?_ | refine nh ?_ | refine ni ?_ | refine nj ?_ | refine nk ?_ | refine nl ?_ | refine nm (by decide) ?_ | refine nn ?_) | refine TO_go (wr := false) 400 (by simp only [kB, kG, kS, kM, k42, Nat.reduceAdd, Nat.reduceLT, Nat.reduceEqDiff, ↓reduceIte, reduceCtorEq, efi]; first | done | rfl) (by first | exact trivial | (simp only [kO]; omega) | (simp [All, InR]; first | done | omega) | (simp +contextual [All, InR]; first | done | grind)) ?_))
      refine T_draw (wr := false) ([] : List (Nat × AV)) (by kernel_rfl) (by simp only [kD, kB, kG, kS, kM, k42, Nat.reduceAdd, Nat.reduceLT, Nat.reduceEqDiff, ↓reduceIte, reduceCtorEq, hfi, Option.getD]; first | done | rfl) ?_ (by kernel_rfl) ?_
      · simp only [All, List.cons_append, List.nil_append, InR, List.mem_cons, List.not_mem_nil, or_false, forall_eq_or_imp, forall_eq, clAV, clCs, clC, and_true, true_and, implies_true, List.length_map, List.length_cons, List.length_nil, dArr, cl_arr, tyCs]
        repeat' (first | exact trivial | exact hty | refine And.intro ?_ ?_ | intro _ | assumption | rfl | omega | (rw [Bool.not_eq_true']; assumption) | (simp; done) | (simp only [decide_eq_true_eq] at *; omega) | (simp_all; done))
      (repeat (with_reducible first | refine na ?_ | refine nb ?_ | refine nc ?_ | refine nd ?_ | refine ne ?_ | refine nf ?_ | refine ng ?_ | refine nh ?_ | refine ni ?_ | refine nj ?_ | refine nk ?_ | refine nl ?_ | refine nm (by decide) ?_ | refine nn ?_))
      have hE : enterL L i v = ⟨L.revs, L.index, L.prev.set i (-1), L.fst.set i i, L.car, L.con, L.cre⟩ := by simp [enterL, h5, prevOf, lineOf, memB, hb, hk]
      rw [hE]
      generalize L.prev.set i (-1) = P'
      generalize L.fst.set i (i : Int) = F'
      refine RetQ_any (by first | exact .inl rfl | exact .inr rfl) (by simp only [kR, Tryd.results42, ↓reduceIte, Nat.reduceEqDiff, reduceCtorEq]; first | done | rfl) (by first | exact trivial | (simp only [kO]; omega) | (simp [All, InR]; first | done | omega) | (simp +contextual [All, InR]; first | done | grind)) (ledSt1 ⟨L.revs, L.index, P', F', L.car, L.con, L.cre⟩ el (insE (false, [C.d (.v (.int .i64 i))]) (false, [.ms 115 1 0 1]) (em.map upE)) ++ [(115, dArr 1 ([(i : Int)].map eI))]) ⟨by simp [Ab.get, renAO_id, clF_ins, clS_ins], by simp, by simp [clAO, cl_f1, cl_s1, cl_f2, cl_s2, cl_a1, flat_up, clCs, clC, domOf, Ab.get, clF_ins, clS_ins], keepI hx (by simp [domOf, Ab.get, clF_ins, clS_ins])⟩ (by simp [clAV, clPs, clCs, clC, domOf, Ab.get, clF_ins, clS_ins]) ?_
      rfl
    · intro h
      have hb : befF v = ⟨v.path, v.num - 1⟩ := by simp_all [befF]
      rw [hb] at hk
      (repeat (first | (with_reducible first | refine na ?_ | refine nb ?_ | refine nc ?_ | refine nd ?_ | refine ne ?_ | refine nf ?_ | refine ng ?_ | refine nh ?_ | refine ni ?_ | refine nj ?_ | refine nk ?_ | refine nl ?_ | refine nm (by decide) ?_ | refine nn ?_) | refine TO_go (wr := false) 400 (by simp only [kB, kG, kS, kM, k42, Nat.reduceAdd, Nat.reduceLT, Nat.reduceEqDiff, ↓reduceIte, reduceCtorEq, set_I, set_I2, List.set_set]; first | done | rfl) (by first | exact trivial | (simp only [kO]; omega) | (simp [All, InR]; first | done | omega) | (simp +contextual [All, InR]; first | done | grind)) ?_))
      refine T_draw (wr := false) ([] : List (Nat × AV)) (by kernel_rfl) (by simp only [kD, kB, kG, kS, kM, k42, Nat.reduceAdd, Nat.reduceLT, Nat.reduceEqDiff, ↓reduceIte, reduceCtorEq, look_I, hk, Option.map_none, Option.isSome]; first | done | rfl) ?_ (by kernel_rfl) ?_
      · simp only [All, List.cons_append, List.nil_append, InR, List.mem_cons, List.not_mem_nil, or_false, forall_eq_or_imp, forall_eq, clAV, clCs, clC, and_true, true_and, implies_true, List.length_map, List.length_cons, List.length_nil, dArr, cl_arr, tyCs]
        repeat' (first | exact trivial | exact ty_I _ | refine And.intro ?_ ?_ | intro _ | assumption | rfl | omega | (rw [Bool.not_eq_true']; assumption) | (simp; done) | (simp only [decide_eq_true_eq] at *; omega) | (simp_all; done))
      (repeat (first | (with_reducible first | refine na ?_ | refine nb ?_ | refine nc ?_ | refine nd ?_ | refine ne ?_ | refine nf ?_ | refine ng ?_ | refine nh ?_ | refine ni ?_ | refine nj ?_ | refine nk ?_ | refine nl ?_ | refine nm (by decide) ?_ | refine nn ?_) | refine TO_go (wr := false) 400 (by simp only [kB, kG, kS, kM, k42, Nat.reduceAdd, Nat.reduceLT, Nat.reduceEqDiff, ↓reduceIte, reduceCtorEq, ef0, Int.toNat_zero]; first | done | rfl) (by first | exact trivial | (simp only [kO]; omega) | (simp [All, InR]; first | done | omega) | (simp +contextual [All, InR]; first | done | grind)) ?_))
      refine T_cond (by simp only [kV, ↓reduceIte, Nat.reduceEqDiff, reduceCtorEq]; first | done | rfl) ?_ ?_
      · intro h; cases h
      intro _
      (repeat (first | (with_reducible first | refine na ?_ | refine nb ?_ | refine nc ?_ | refine nd ?_ | refine ne ?_ | refine nf ?_ | refine ng ?_ | refine nh ?_ | refine ni ?_ | refine nj ?_ | refine nk ?_ | refine nl ?_ | refine nm (by decide) ?_ | refine nn ?_) | refine TO_go (wr := false) 400 (by simp only [kB, kG, kS, kM, k42, Nat.reduceAdd, Nat.reduceLT, Nat.reduceEqDiff, ↓reduceIte, reduceCtorEq, efi]; first | done | rfl) (by first | exact trivial | (simp only [kO]; omega) | (simp [All, InR]; first | done | omega) | (simp +contextual [All, InR]; first | done | grind)) ?_))
      refine T_draw (wr := false) ([] : List (Nat × AV)) (by kernel_rfl) (by simp only [kD, kB, kG, kS, kM, k42, Nat.reduceAdd, Nat.reduceLT, Nat.reduceEqDiff, ↓reduceIte, reduceCtorEq, hfi, Option.getD]; first | done | rfl) ?_ (by kernel_rfl) ?_
      · simp only [All, List.cons_append, List.nil_append, InR, List.mem_cons, List.not_mem_nil, or_false, forall_eq_or_imp, forall_eq, clAV, clCs, clC, and_true, true_and, implies_true, List.length_map, List.length_cons, List.length_nil, dArr, cl_arr, tyCs]
        repeat' (first | exact trivial | exact hty | refine And.intro ?_ ?_ | intro _ | assumption | rfl | omega | (rw [Bool.not_eq_true']; assumption) | (simp; done) | (simp only [decide_eq_true_eq] at *; omega) | (simp_all; done))
      (repeat (with_reducible first | refine na ?_ | refine nb ?_ | refine nc ?_ | refine nd ?_ | refine ne ?_ | refine nf ?_ | refine ng ?_ | refine nh ?_ | refine ni ?_ | refine nj ?_ | refine nk ?_ | refine nl ?_ | refine nm (by decide) ?_ | refine nn ?_))
      have hE : enterL L i v = ⟨L.revs, L.index, L.prev.set i (-1), L.fst.set i i, L.car, L.con, L.cre⟩ := by simp [enterL, h5, prevOf, lineOf, memB, hb, hk]
      rw [hE]
      generalize L.prev.set i (-1) = P'
      generalize L.fst.set i (i : Int) = F'
      refine RetQ_any (by first | exact .inl rfl | exact .inr rfl) (by simp only [kR, Tryd.results42, ↓reduceIte, Nat.reduceEqDiff, reduceCtorEq]; first | done | rfl) (by first | exact trivial | (simp only [kO]; omega) | (simp [All, InR]; first | done | omega) | (simp +contextual [All, InR]; first | done | grind)) (ledSt1 ⟨L.revs, L.index, P', F', L.car, L.con, L.cre⟩ el (insE (false, [C.d (.v (.int .i64 i))]) (false, [.ms 115 1 0 1]) (em.map upE)) ++ [(115, dArr 1 ([(i : Int)].map eI))]) ⟨by simp [Ab.get, renAO_id, clF_ins, clS_ins], by simp, by simp [clAO, cl_f1, cl_s1, cl_f2, cl_s2, cl_a1, flat_up, clCs, clC, domOf, Ab.get, clF_ins, clS_ins], keepI hx (by simp [domOf, Ab.get, clF_ins, clS_ins])⟩ (by simp [clAV, clPs, clCs, clC, domOf, Ab.get, clF_ins, clS_ins]) ?_
      rfl
end Go.Proofs.YtmlhfnodnnbbnaaDoor

namespace Go.Proofs.YtmlhfnodnnbbnaaDoor
open Go.Ab Tys
structure Acc where
  car : List (Option (List Int))
  ign : List (Option (List Int))
  orig : Bool
def accStep (L : Led) (a : Acc) (r : Rcd) : Acc :=
  if r.how = 1 then (match alook L.index ⟨r.frm, r.last⟩ with | some k => ⟨a.car ++ [L.car.getD k.toNat none], a.ign, a.orig⟩ | none => a)
  else if r.how = 3 then ⟨a.car, a.ign ++ conts L r, a.orig⟩
  else ⟨a.car ++ conts L r, a.ign, a.orig || decide (r.how = 4)⟩
def befS (L : Led) (i : Nat) : Option (List Int) := if 0 ≤ L.prev.getD i 0 then L.car.getD (L.prev.getD i 0).toNat none else none
def knoS (L : Led) (i : Nat) : Option (List Int) := if 0 ≤ L.prev.getD i 0 then L.cre.getD (L.prev.getD i 0).toNat none else none
def acc0 (L : Led) (i : Nat) (b : Bool) : Acc := ⟨[befS L i], [knoS L i], b⟩
def accAll (L : Led) (i : Nat) (rs : List Rcd) : Acc := rs.foldl (accStep L) (acc0 L i (decide ((rs.length : Int) = 0)))
def accK (L : Led) (i : Nat) (rs : List Rcd) (k : Nat) : Acc := (rs.take k).foldl (accStep L) (acc0 L i (decide ((rs.length : Int) = 0)))
def accCar (L : Led) (i : Nat) (rs : List Rcd) : List (Option (List Int)) := (accAll L i rs).car ++ (if (accAll L i rs).orig then [some [(i : Int)]] else [])
def Uni (l : List Int) (s : List (Option (List Int))) : Prop := ∀ k, k ∈ l ↔ ∃ o ∈ s, k ∈ o.getD []
structure AccR (L : Led) (i : Nat) (rs : List Rcd) (c k cr : List Int) : Prop where
  car : Uni c (accCar L i rs)
  con : ∀ x, x ∈ k ↔ x ∈ c ∧ ¬ x ∈ (befS L i).getD []
  cre : Uni cr ((accAll L i rs).ign ++ [some c])
def setL (L : Led) (i : Nat) (c k cr : List Int) : Led := { L with car := L.car.set i (some c), con := L.con.set i (some k), cre := L.cre.set i (some cr) }
theorem conts_len (L : Led) (r : Rcd) : (conts L r).length ≤ 512 := by
  have := contsF_len L r.frm (min r.last 512 - max r.first 1 + 1).toNat (max r.first 1)
  simp only [conts]; omega
theorem accStep_len (L : Led) (a : Acc) (r : Rcd) : (accStep L a r).car.length ≤ a.car.length + 512 ∧ (accStep L a r).ign.length ≤ a.ign.length + 512 := by
  have := conts_len L r
  unfold accStep
  split
  · split <;> simp
  · split <;> simp <;> omega
theorem acc_len (L : Led) : ∀ (rs : List Rcd) (a : Acc), (rs.foldl (accStep L) a).car.length ≤ a.car.length + 512 * rs.length ∧ (rs.foldl (accStep L) a).ign.length ≤ a.ign.length + 512 * rs.length
  | [], a => by simp
  | r :: rs, a => by
    have h1 := accStep_len L a r
    have h2 := acc_len L rs (accStep L a r)
    simp only [List.foldl_cons, List.length_cons]; omega
theorem set_S1 (l : List (Option (List Int))) (i : Nat) (v : List Int) : ((l.map eSet).map fun l => l.map C.d).set i (C.d (.pm (sEnt kN v)) :: List.drop 1 (((l.map eSet).map fun l => l.map C.d).getD i [])) = ((l.set i (some v)).map eSet).map fun l => l.map C.d :=
  set_gen eSet l i (some v) 1 (fun _ => rfl)
end Go.Proofs.YtmlhfnodnnbbnaaDoor

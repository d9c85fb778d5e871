/- A part of the proof: contracts of functions of the program over abstract states. -/
import Derived.Test.YtmlhfnodnnbbnaaDoorQS5
import Derived.Test.YtmlhfnodnnbbnaaDoorQAbCl
set_option linter.all false
namespace Go.Proofs.YtmlhfnodnnbbnaaDoor
open Go.Ab Tys
structure Led where
  revs : List Rev
  index : List (Fil × Int)
  prev : List Int
  fst : List Int
  car : List (Option (List Int))
  con : List (Option (List Int))
  cre : List (Option (List Int))
@[reducible] def eI (i : Int) : List D := [.v (.int .i64 i)]
@[reducible] def ledBox (L : Led) : AO := .box [.d (.ps 12 (L.revs.map encRev)), .mp 1001, .mp 1002, .ms 1003 1 0 L.revs.length, .ms 1004 1 0 L.revs.length, .mp 1005, .ms 1006 1 0 L.revs.length, .ms 1007 1 0 L.revs.length, .ms 1008 1 0 L.revs.length]
@[reducible] def ledSt (L : Led) (el em : List EntD) : List (Nat × AO) :=
  [(1000, ledBox L), (1001, .map ((mEnt kF vI L.index).map upE)), (1002, .map (el.map upE)), (1003, dArr 1 (L.prev.map eI)), (1004, dArr 1 (L.fst.map eI)), (1005, .map (em.map upE)), (1006, dArr 1 (L.car.map eSet)), (1007, dArr 1 (L.con.map eSet)), (1008, dArr 1 (L.cre.map eSet))]
structure LedOK (L : Led) : Prop where
  n : L.revs.length ≤ 512
  prev : L.prev.length = L.revs.length
  fst : L.fst.length = L.revs.length
  car : L.car.length = L.revs.length
  con : L.con.length = L.revs.length
  cre : L.cre.length = L.revs.length
  ix : ∀ p k, alook L.index p = some k → 0 ≤ k ∧ k < L.revs.length
theorem look_I (m : List (Fil × Int)) (p : ByteArray) (n : Int) : findE [C.d (.v (.string p)), C.d (.v (.int .i64 n))] ((mEnt kF vI m).map upE) = (alook m ⟨p, n⟩).map fun v => (false, [C.d (.v (.int .i64 v))]) :=
  findE_ent (ve := vI) kF_eq m ⟨p, n⟩
theorem ty_I (m : List (Fil × Int)) : ∀ e ∈ (mEnt kF vI m).map upE, e.1.1 = true ∧ tyCs [.str, .int .i64] e.1.2 := by
  intro e he
  simp only [mEnt, List.mem_map] at he
  obtain ⟨_, ⟨f, _, rfl⟩, rfl⟩ := he
  exact ⟨rfl, by simp [upE, upD, tyCs]⟩
def contsF (L : Led) (f : ByteArray) (n : Int) : Nat → List (Option (List Int))
  | 0 => []
  | k + 1 => (match alook L.index ⟨f, n⟩ with | some i => [L.con.getD i.toNat none] | none => []) ++ contsF L f (n + 1) k
def conts (L : Led) (r : Rcd) : List (Option (List Int)) := contsF L r.frm (max r.first 1) (min r.last 512 - max r.first 1 + 1).toNat
theorem contsF_len (L : Led) (f : ByteArray) : ∀ (k : Nat) (n : Int), (contsF L f n k).length ≤ k
  | 0, n => by simp [contsF]
  | k + 1, n => by
    have := contsF_len L f k (n + 1)
    simp only [contsF]
    split <;> simp <;> omega
theorem uG {α : Type} (e : α → List D) (l : List α) (k : Nat) (z : α) (h : k < l.length) : ((l.map e).map fun l => l.map C.d).getD k [] = (e (l.getD k z)).map C.d := by
  simp [List.getD, h]
def k74 := And.intro @Tryd.ntmps74 <| And.intro @Tryd.underlying84 <| And.intro @bld24 <| And.intro @bld69 <| And.intro @bld86 <| And.intro @elt84 <| And.intro @fld24_0 <| And.intro @fld24_1 <| And.intro @fld69_0 <| And.intro @fld69_1 <| And.intro @fld69_2 <| And.intro @fld86_1 <| And.intro @fld86_7 <| And.intro @kyt24 <| And.intro @mpt81 <| And.intro @ti117 <| And.intro @ti24 <| And.intro @ti3 <| And.intro @ti69 <| And.intro @ti81 <| And.intro @ti84 <| And.intro @ti86 <| @ti9
set_option maxRecDepth 100000 in
set_option maxHeartbeats 8000000 in
theorem contributions_ac (L : Led) (hL : LedOK L) (el em : List EntD) (r : Rcd) :
    AC Tryd.prog 74 [.c (.ptr 1000 0), aRcd r] (ledSt L el em) (fun r' st => r' = .c (.d (.ps 1 ((conts L r).map eSet))) ∧ st = ledSt L el em) := by
  have hN := hL.n
  refine AC_enter Tryd.func74 rfl rfl (by simp only [Tryd.ntmps74, List.length]; omega) ?_
  intro x hx
  simp only [List.range, List.range.loop, List.length, List.zip, List.zipWith, Nat.reduceAdd, Tryd.ntmps74]
  (repeat (first | (with_reducible first | refine na ?_ | refine nb ?_ | refine nc ?_ | refine nd ?_ | refine ne ?_ | refine nf ?_ | refine ng ?_ | refine nh ?_ | refine ni ?_ | refine nj ?_ | refine nk ?_ | refine nl ?_ | refine nm (by decide) ?_ | refine nn ?_) | refine TO_go (wr := false) 400 (by simp only [kB, kS, kM, k74, Nat.reduceAdd, Nat.reduceLT, Nat.reduceEqDiff, ↓reduceIte, reduceCtorEq]; first | done | rfl) (by first | exact trivial | (simp only [kO]; omega) | (simp [All, InR]; first | done | omega) | (simp +contextual [All, InR]; first | done | grind)) ?_))
  refine T_ent (Ent_adopt (i := 5) (id := 100) (sz := 1) rfl rfl (by omega)) ?_
  simp only [Ab.put, Nat.reduceEqDiff, ↓reduceIte, reduceCtorEq, if_false, if_true]
  refine T_loop (ι := Int × List (Option (List Int))) (I := fun i => ⟨43, [(0, .c (.ptr 1000 0)), (3, .c (.ptr 3 0)), (5, .c (.ms 100 1 0 i.2.length)), (6, I .i64 i.1)], ledSt L el em ++ [(3, .box ((encRcd r).map C.d)), (100, dArr 1 (i.2.map eSet))]⟩)
    (Inv := fun i => max r.first 1 ≤ i.1 ∧ i.2.length ≤ 512 ∧ i.2.length ≤ i.1 - 1 ∧ i.2 ++ contsF L r.frm i.1 (min r.last 512 - i.1 + 1).toNat = conts L r) (μ := fun i => (min r.last 512 - i.1 + 1).toNat) (max r.first 1, []) ⟨by simp, by simp, by simp; omega, by simp [conts]⟩ ?_ ?_
  · (refine Ent_sub (fun i => i) rfl ?_ ⟨?_, ?_, ?_, keepI hx (by simp [domOf, Ab.get])⟩ <;> first | (simp only [kE, dArr, ↓reduceIte, Nat.reduceEqDiff, reduceCtorEq]; done) | simp [renAV_id, renAO_id, flat_up, Ab.get, clAV, clC, clCs, clAO, cl_f1, cl_s1, cl_f2, cl_s2, cl_a1, domOf, List.flatten])
  rintro ⟨n, l⟩ ⟨h1, h2, h3, h4⟩
  simp only at h1 h2 h3 h4 ⊢
  (repeat (first | (with_reducible first | refine na ?_ | refine nb ?_ | refine nc ?_ | refine nd ?_ | refine ne ?_ | refine nf ?_ | refine ng ?_ | refine nh ?_ | refine ni ?_ | refine nj ?_ | refine nk ?_ | refine nl ?_ | refine nm (by decide) ?_ | refine nn ?_) | refine TO_go (wr := false) 400 (by simp only [kB, kS, kM, k74, Nat.reduceAdd, Nat.reduceLT, Nat.reduceEqDiff, ↓reduceIte, reduceCtorEq]; first | done | rfl) (by first | exact trivial | (simp only [kO]; omega) | (simp [All, InR]; first | done | omega) | (simp +contextual [All, InR]; first | done | grind)) ?_))
  refine T_cond (by simp only [kV, ↓reduceIte, Nat.reduceEqDiff, reduceCtorEq]; first | done | rfl) ?_ ?_
  · intro hlt
    have hlt' : n ≤ min r.last 512 := by simpa using hlt
    have hn1 : n ≤ 512 := by omega
    obtain ⟨q, hq⟩ : ∃ q, (min r.last 512 - n + 1).toNat = q + 1 := ⟨(min r.last 512 - n).toNat, by omega⟩
    have hq2 : (min r.last 512 - (n + 1) + 1).toNat = q := by omega
    rw [hq, contsF] at h4
    cases hk : alook L.index ⟨r.frm, n⟩ with
    | none =>
      rw [hk] at h4
      simp only [List.nil_append] at h4
      (repeat (with_reducible first | refine na ?_ | refine nb ?_ | refine nc ?_ | refine nd ?_ | refine ne ?_ | refine nf ?_ | refine ng ?_ | refine nh ?_ | refine ni ?_ | refine nj ?_ | refine nk ?_ | refine nl ?_ | refine nm (by decide) ?_ | refine nn ?_))
      refine T_draw (wr := false) ([] : List (Nat × AV)) (by kernel_rfl) (by simp only [kD, kB, kS, kM, k74, Nat.reduceAdd, Nat.reduceLT, Nat.reduceEqDiff, ↓reduceIte, reduceCtorEq, look_I, hk, Option.map_none, Option.isSome]; first | done | rfl) ?_ (by kernel_rfl) ?_
      · simp only [All, List.cons_append, List.nil_append, InR, List.mem_cons, List.not_mem_nil, or_false, forall_eq_or_imp, forall_eq, clAV, clCs, clC, and_true, true_and, implies_true, List.length_map, List.length_cons, List.length_nil, dArr, cl_arr, tyCs]
        repeat' (first | exact trivial | exact ty_I _ | refine And.intro ?_ ?_ | intro _ | assumption | rfl | omega | (rw [Bool.not_eq_true']; assumption) | (simp; done) | (simp only [decide_eq_true_eq] at *; omega) | (simp_all; done))
      (repeat (first | (with_reducible first | refine na ?_ | refine nb ?_ | refine nc ?_ | refine nd ?_ | refine ne ?_ | refine nf ?_ | refine ng ?_ | refine nh ?_ | refine ni ?_ | refine nj ?_ | refine nk ?_ | refine nl ?_ | refine nm (by decide) ?_ | refine nn ?_) | refine TO_go (wr := false) 400 (by simp only [kB, kS, kM, k74, Nat.reduceAdd, Nat.reduceLT, Nat.reduceEqDiff, ↓reduceIte, reduceCtorEq]; first | done | rfl) (by first | exact trivial | (simp only [kO]; omega) | (simp [All, InR]; first | done | omega) | (simp +contextual [All, InR]; first | done | grind)) ?_))
      refine T_cond (by simp only [kV, ↓reduceIte, Nat.reduceEqDiff, reduceCtorEq]; first | done | rfl) ?_ ?_
      · intro h; cases h
      intro _
      (repeat (first | (with_reducible first | refine na ?_ | refine nb ?_ | refine nc ?_ | refine nd ?_ | refine ne ?_ | refine nf ?_ | refine ng ?_ | refine nh ?_ | refine ni ?_ | refine nj ?_ | refine nk ?_ | refine nl ?_ | refine nm (by decide) ?_ | refine nn ?_) | refine TO_go (wr := false) 400 (by simp only [kB, kS, kM, k74, Nat.reduceAdd, Nat.reduceLT, Nat.reduceEqDiff, ↓reduceIte, reduceCtorEq]; first | done | rfl) (by first | exact trivial | (simp only [kO]; omega) | (simp [All, InR]; first | done | omega) | (simp +contextual [All, InR]; first | done | grind)) ?_))
      refine ⟨(n + 1, l), ⟨by simp; omega, h2, by simp; omega, by rw [hq2]; exact h4⟩, by simp; omega, ?_⟩
      (refine Ent_sub (fun i => i) rfl ?_ ⟨?_, ?_, ?_, keepI hx (by simp [domOf, Ab.get])⟩ <;> first | (simp only [kE, dArr, ↓reduceIte, Nat.reduceEqDiff, reduceCtorEq]; done) | simp [renAV_id, renAO_id, flat_up, Ab.get, clAV, clC, clCs, clAO, cl_f1, cl_s1, cl_f2, cl_s2, cl_a1, domOf, List.flatten])
    | some i =>
      rw [hk] at h4
      simp only at h4
      obtain ⟨i1, i2⟩ := hL.ix _ _ hk
      have hcl := hL.con
      have hil : i.toNat < L.con.length := by omega
      have hi2 : i < (L.con.length : Int) := by omega
      have eg := uG eSet L.con i.toNat none hil
      generalize hoo : L.con.getD i.toNat none = o at eg h4
      (repeat (with_reducible first | refine na ?_ | refine nb ?_ | refine nc ?_ | refine nd ?_ | refine ne ?_ | refine nf ?_ | refine ng ?_ | refine nh ?_ | refine ni ?_ | refine nj ?_ | refine nk ?_ | refine nl ?_ | refine nm (by decide) ?_ | refine nn ?_))
      refine T_draw (wr := false) ([] : List (Nat × AV)) (by kernel_rfl) (by simp only [kD, kB, kS, kM, k74, Nat.reduceAdd, Nat.reduceLT, Nat.reduceEqDiff, ↓reduceIte, reduceCtorEq, look_I, hk, Option.isSome]; first | done | rfl) ?_ (by kernel_rfl) ?_
      · simp only [All, List.cons_append, List.nil_append, InR, List.mem_cons, List.not_mem_nil, or_false, forall_eq_or_imp, forall_eq, clAV, clCs, clC, and_true, true_and, implies_true, List.length_map, List.length_cons, List.length_nil, dArr, cl_arr, tyCs]
        repeat' (first | exact trivial | exact ty_I _ | refine And.intro ?_ ?_ | intro _ | assumption | rfl | omega | (rw [Bool.not_eq_true']; assumption) | (simp; done) | (simp only [decide_eq_true_eq] at *; omega) | (simp_all; done))
      (repeat (first | (with_reducible first | refine na ?_ | refine nb ?_ | refine nc ?_ | refine nd ?_ | refine ne ?_ | refine nf ?_ | refine ng ?_ | refine nh ?_ | refine ni ?_ | refine nj ?_ | refine nk ?_ | refine nl ?_ | refine nm (by decide) ?_ | refine nn ?_) | refine TO_go (wr := false) 400 (by simp only [kB, kS, kM, k74, Nat.reduceAdd, Nat.reduceLT, Nat.reduceEqDiff, ↓reduceIte, reduceCtorEq]; first | done | rfl) (by first | exact trivial | (simp only [kO]; omega) | (simp [All, InR]; first | done | omega) | (simp +contextual [All, InR]; first | done | grind)) ?_))
      refine T_cond (by simp only [kV, ↓reduceIte, Nat.reduceEqDiff, reduceCtorEq]; first | done | rfl) ?_ ?_
      rotate_left
      · intro h; cases h
      intro _
      (repeat (first | (with_reducible first | refine na ?_ | refine nb ?_ | refine nc ?_ | refine nd ?_ | refine ne ?_ | refine nf ?_ | refine ng ?_ | refine nh ?_ | refine ni ?_ | refine nj ?_ | refine nk ?_ | refine nl ?_ | refine nm (by decide) ?_ | refine nn ?_) | refine TO_go (wr := false) 400 (by simp only [kB, kS, kM, k74, Nat.reduceAdd, Nat.reduceLT, Nat.reduceEqDiff, ↓reduceIte, reduceCtorEq, eg, Nat.zero_add]; first | done | rfl) (by first | exact trivial | (simp only [kO]; omega) | (simp [All, InR]; first | done | omega) | (simp +contextual [All, InR]; first | done | grind)) ?_))
      refine ⟨(n + 1, l ++ [o]), ⟨by simp; omega, by simp; omega, by simp; omega, by rw [hq2]; simpa using h4⟩, by simp; omega, ?_⟩
      (refine Ent_sub (fun i => if i = 100 then 41 else i) rfl ?_ ⟨?_, ?_, ?_, keepR hx (by simp [domOf, Ab.get])⟩ <;> first | (intro i hi; have h0 := hx i hi; constructor <;> (revert h0; simp only [domOf, Ab.get]; (repeat' split) <;> simp_all); done) | (simp only [kE, dArr, ↓reduceIte, Nat.reduceEqDiff, reduceCtorEq]; done) | (simp only [dArr, ren_arr, ren_map, List.mem_cons, List.not_mem_nil, or_false, forall_eq_or_imp, forall_eq]; simp [renAV, renC, renAO, ren_up, flat_up, Ab.get, clAV, clC, clCs, clAO, cl_f1, cl_s1, cl_f2, cl_s2, cl_a1, domOf, List.flatten, ren_up1, clCs_append]; done) | simp [renAV, renC, renAO, ren_up, flat_up, Ab.get, clAV, clC, clCs, clAO, cl_f1, cl_s1, cl_f2, cl_s2, cl_a1, domOf, List.flatten, ren_up1, clCs_append])
  intro hge
  have hge' : ¬ n ≤ min r.last 512 := by simpa using hge
  have hz : (min r.last 512 - n + 1).toNat = 0 := by omega
  rw [hz, contsF, List.append_nil] at h4
  (repeat (with_reducible first | refine na ?_ | refine nb ?_ | refine nc ?_ | refine nd ?_ | refine ne ?_ | refine nf ?_ | refine ng ?_ | refine nh ?_ | refine ni ?_ | refine nj ?_ | refine nk ?_ | refine nl ?_ | refine nm (by decide) ?_ | refine nn ?_))
  refine TO_ent (Ent_frzSlot (i := 5) (id := 100) (ys := l.map eSet) rfl rfl (by simp)) ?_
  simp only [Ab.put, Nat.reduceEqDiff, ↓reduceIte, reduceCtorEq, if_false, if_true]
  (repeat (first | (with_reducible first | refine na ?_ | refine nb ?_ | refine nc ?_ | refine nd ?_ | refine ne ?_ | refine nf ?_ | refine ng ?_ | refine nh ?_ | refine ni ?_ | refine nj ?_ | refine nk ?_ | refine nl ?_ | refine nm (by decide) ?_ | refine nn ?_) | refine TO_go (wr := false) 400 (by simp only [kB, kS, kM, k74, Nat.reduceAdd, Nat.reduceLT, Nat.reduceEqDiff, ↓reduceIte, reduceCtorEq]; first | done | rfl) (by first | exact trivial | (simp only [kO]; omega) | (simp [All, InR]; first | done | omega) | (simp +contextual [All, InR]; first | done | grind)) ?_))
  refine RetQ_intro (by simp only [kR, Tryd.results74, ↓reduceIte, Nat.reduceEqDiff, reduceCtorEq]; first | done | rfl) (by first | exact trivial | (simp only [kO]; omega) | (simp [All, InR]; first | done | omega) | (simp +contextual [All, InR]; first | done | grind)) (ledSt L el em) ⟨by simp [Ab.get, renAO_id], by simp, by simp [clAO, cl_f1, cl_s1, cl_f2, cl_s2, cl_a1, flat_up, clCs, clC, domOf, Ab.get], keepI hx (by simp [domOf, Ab.get])⟩ (by simp [clAV, clPs, clCs, clC, domOf, Ab.get]) ⟨?_, rfl⟩
  rw [h4]
end Go.Proofs.YtmlhfnodnnbbnaaDoor

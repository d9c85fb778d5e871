/- A part of the proof: contracts of functions of the program over abstract states. -/
import Derived.Test.YtmlhfnodnnbbnaaDoorQR2
import Derived.Test.YtmlhfnodnnbbnaaDoorQT8
set_option linter.all false
namespace Go.Proofs.YtmlhfnodnnbbnaaDoor
open Go.Ab Tys
def opA (A : List (Fil × SV)) (t : Fil) (v u : Rev) : Bool := bif decide (u.chg ≤ v.chg) then !subB (((alook A (fileOf u)).map SV.con).getD []) (((alook A t).map SV.cre).getD []) else false
def remR (A : List (Fil × SV)) (t : Fil) (v : Rev) (l : List Rev) : List Fil := (l.filter (opA A t v)).map fileOf
theorem remR_len (A : List (Fil × SV)) (t : Fil) (v : Rev) (l : List Rev) : (remR A t v l).length ≤ l.length := by simp only [remR, List.length_map]; exact List.length_filter_le ..
theorem remR_eq {d : Dep} {A : List (Fil × SV)} (hA : SvOK A (SA d)) (t : Fil) (v : Rev) : remR A t v (line d (first d v)) = remL d v t := by
  rw [remR, line, remL, List.filter_filter]
  congr 1
  apply List.filter_congr
  intro u hu
  rw [Bool.eq_iff_iff]
  simp only [Bool.and_eq_true, inLine, opA, decide_eq_true_eq, Bool.not_eq_true', decide_eq_false_iff_not]
  have hs : subB (((alook A (fileOf u)).map SV.con).getD []) (((alook A t).map SV.cre).getD []) = true ↔ ∀ g, (SA d (fileOf u)).con g → (SA d t).cre g := by
    simp only [subB, List.all_eq_true, decide_eq_true_eq]
    exact ⟨fun h g hg => (hA.cre t g).2 (h g ((hA.con _ g).1 hg)), fun h g hg => (hA.cre t g).1 (h g ((hA.con _ g).2 hg))⟩
  by_cases hc : u.chg ≤ v.chg
  · rw [decide_eq_true hc]
    simp only [cond_true, Bool.not_eq_true', Open]
    rw [← hs]
    constructor
    · rintro ⟨h1, h2, h3⟩; exact ⟨h2, h3, hc, by simp [h1]⟩
    · rintro ⟨h1, h2, _, h3⟩; exact ⟨by simpa using h3, h1, h2⟩
  · rw [decide_eq_false hc]
    simp [hc]
theorem line_mem {d : Dep} {f : Fil} {u : Rev} (h : u ∈ line d f) : u ∈ d.revs ∧ ¬ u.act = 5 := by
  obtain ⟨h1, h2⟩ := List.mem_filter.1 h
  refine ⟨h1, ?_⟩
  simp [inLine] at h2
  exact h2.1
def k26 := And.intro @Tryd.ntmps26 <| And.intro @Tryd.underlying27 <| And.intro @Tryd.underlying32 <| And.intro @bld124 <| And.intro @bld24 <| And.intro @bld30 <| And.intro @bld50 <| And.intro @elt27 <| And.intro @elt32 <| And.intro @fld124_2 <| And.intro @fld124_3 <| And.intro @fld24_0 <| And.intro @fld24_1 <| And.intro @fld50_2 <| And.intro @kyt24 <| And.intro @mpt88 <| And.intro @ti122 <| And.intro @ti124 <| And.intro @ti24 <| And.intro @ti27 <| And.intro @ti3 <| And.intro @ti30 <| And.intro @ti32 <| And.intro @ti50 <| And.intro @ti88 <| @ti9
set_option maxRecDepth 100000 in
set_option maxHeartbeats 16000000 in
theorem remaining_ac (d : Dep) (hg : Good d.revs) (hn : d.revs.length ≤ 512) (A : List (Fil × SV)) (hA : SvOK A (SA d)) (hD : DomA d d.revs.length A) (s t : Fil) :
    AC Tryd.prog 26 [aDep d, .c (.d (.pm (mEnt kF vSV A))), aFil s, aFil t] [] (fun r st => r = remA d s t ∧ st = []) := by
  have h1 := Member_ac d s.path s.num (by omega)
  have h2 := Member_ac d t.path t.num (by omega)
  cases hs : member? d s.path s.num with
  | none =>
    rw [hs] at h1
    simp only [pRev, pB, Option.isSome, Option.getD] at h1
    generalize hmt : (member? d t.path t.num) = mt at h2
    generalize mt.getD zRev = tv at h2
    generalize mt.isSome = tb at h2
    refine AC_enter Tryd.func26 rfl rfl (by simp only [Tryd.ntmps26, List.length]; omega) ?_
    intro x hx
    simp only [List.range, List.range.loop, List.length, List.zip, List.zipWith, Nat.reduceAdd, Tryd.ntmps26]
    (repeat (first | (with_reducible first | refine na ?_ | refine nb ?_ | refine nc ?_ | refine nd ?_ | refine ne ?_ | refine nf ?_ | refine ng ?_ | refine nh ?_ | refine ni ?_ | refine nj ?_ | refine nk ?_ | refine nl ?_ | refine nm (by decide) ?_ | refine nn ?_) | refine TO_go (wr := false) 400 (by simp only [kB, kG, kS, kM, k26, Nat.reduceAdd, Nat.reduceLT, Nat.reduceEqDiff, ↓reduceIte, reduceCtorEq]; first | done | rfl) (by first | exact trivial | (simp only [kO]; omega) | (simp [All, InR]; first | done | omega) | (simp +contextual [All, InR]; first | done | grind)) ?_ | (refine TO_call [] (by simp) (by simp only [kV, ↓reduceIte, Nat.reduceEqDiff, reduceCtorEq]; first | done | rfl) ⟨by simp, by simp, by simp [clAV, clC, clCs]⟩ (h1) ?_; (rintro r st' ⟨rfl, rfl⟩; refine ⟨by simp [Fresh], ?_⟩; simp only [kP, Nat.reduceEqDiff, ↓reduceIte, reduceCtorEq])) | (refine TO_call [] (by simp) (by simp only [kV, ↓reduceIte, Nat.reduceEqDiff, reduceCtorEq]; first | done | rfl) ⟨by simp, by simp, by simp [clAV, clC, clCs]⟩ (h2) ?_; (rintro r st' ⟨rfl, rfl⟩; refine ⟨by simp [Fresh], ?_⟩; simp only [kP, Nat.reduceEqDiff, ↓reduceIte, reduceCtorEq]))))
    refine T_cond (by simp only [kV, ↓reduceIte, Nat.reduceEqDiff, reduceCtorEq]; first | done | rfl) ?_ ?_
    rotate_left
    · intro h; cases h
    intro _
    (repeat (with_reducible first | refine na ?_ | refine nb ?_ | refine nc ?_ | refine nd ?_ | refine ne ?_ | refine nf ?_ | refine ng ?_ | refine nh ?_ | refine ni ?_ | refine nj ?_ | refine nk ?_ | refine nl ?_ | refine nm (by decide) ?_ | refine nn ?_))
    refine TO_go (wr := false) 400 (by simp only [kB, kG, kS, kM, k26, Nat.reduceAdd, Nat.reduceLT, Nat.reduceEqDiff, ↓reduceIte, reduceCtorEq]; first | done | rfl) (by first | exact trivial | (simp only [kO]; omega) | (simp [All, InR]; first | done | omega) | (simp +contextual [All, InR]; first | done | grind)) ?_
    refine TO_ent (Ent_nilSlot (i := 8) 2 rfl) ?_
    simp only [Ab.put, Nat.reduceEqDiff, ↓reduceIte, reduceCtorEq, if_false, if_true]
    (repeat (first | (with_reducible first | refine na ?_ | refine nb ?_ | refine nc ?_ | refine nd ?_ | refine ne ?_ | refine nf ?_ | refine ng ?_ | refine nh ?_ | refine ni ?_ | refine nj ?_ | refine nk ?_ | refine nl ?_ | refine nm (by decide) ?_ | refine nn ?_) | refine TO_go (wr := false) 400 (by simp only [kB, kG, kS, kM, k26, Nat.reduceAdd, Nat.reduceLT, Nat.reduceEqDiff, ↓reduceIte, reduceCtorEq]; first | done | rfl) (by first | exact trivial | (simp only [kO]; omega) | (simp [All, InR]; first | done | omega) | (simp +contextual [All, InR]; first | done | grind)) ?_))
    refine RetQ_intro (by simp only [kR, Tryd.results26, ↓reduceIte, Nat.reduceEqDiff, reduceCtorEq]; first | done | rfl) (by first | exact trivial | (simp only [kO]; omega) | (simp [All, InR]; first | done | omega) | (simp +contextual [All, InR]; first | done | grind)) [] ⟨by simp [Ab.get, renAO_id], by simp, by simp [clAO, cl_f1, cl_s1, cl_f2, cl_s2, cl_a1, flat_up, clCs, clC, domOf, Ab.get], keepI hx (by simp [domOf, Ab.get])⟩ (by simp [clAV, clPs, clCs, clC, domOf, Ab.get]) ⟨?_, rfl⟩
    exact remA_none (by simp [remS, hs])
  | some v =>
    rw [hs] at h1
    simp only [pRev, pB, Option.isSome, Option.getD] at h1
    cases ht : member? d t.path t.num with
    | none =>
      rw [ht] at h2
      simp only [pRev, pB, Option.isSome, Option.getD] at h2
      refine AC_enter Tryd.func26 rfl rfl (by simp only [Tryd.ntmps26, List.length]; omega) ?_
      intro x hx
      simp only [List.range, List.range.loop, List.length, List.zip, List.zipWith, Nat.reduceAdd, Tryd.ntmps26]
      (repeat (first | (with_reducible first | refine na ?_ | refine nb ?_ | refine nc ?_ | refine nd ?_ | refine ne ?_ | refine nf ?_ | refine ng ?_ | refine nh ?_ | refine ni ?_ | refine nj ?_ | refine nk ?_ | refine nl ?_ | refine nm (by decide) ?_ | refine nn ?_) | refine TO_go (wr := false) 400 (by simp only [kB, kG, kS, kM, k26, Nat.reduceAdd, Nat.reduceLT, Nat.reduceEqDiff, ↓reduceIte, reduceCtorEq]; first | done | rfl) (by first | exact trivial | (simp only [kO]; omega) | (simp [All, InR]; first | done | omega) | (simp +contextual [All, InR]; first | done | grind)) ?_ | (refine TO_call [] (by simp) (by simp only [kV, ↓reduceIte, Nat.reduceEqDiff, reduceCtorEq]; first | done | rfl) ⟨by simp, by simp, by simp [clAV, clC, clCs]⟩ (h1) ?_; (rintro r st' ⟨rfl, rfl⟩; refine ⟨by simp [Fresh], ?_⟩; simp only [kP, Nat.reduceEqDiff, ↓reduceIte, reduceCtorEq])) | (refine TO_call [] (by simp) (by simp only [kV, ↓reduceIte, Nat.reduceEqDiff, reduceCtorEq]; first | done | rfl) ⟨by simp, by simp, by simp [clAV, clC, clCs]⟩ (h2) ?_; (rintro r st' ⟨rfl, rfl⟩; refine ⟨by simp [Fresh], ?_⟩; simp only [kP, Nat.reduceEqDiff, ↓reduceIte, reduceCtorEq]))))
      refine T_cond (by simp only [kV, ↓reduceIte, Nat.reduceEqDiff, reduceCtorEq]; first | done | rfl) ?_ ?_
      rotate_left
      · intro h; cases h
      intro _
      (repeat (with_reducible first | refine na ?_ | refine nb ?_ | refine nc ?_ | refine nd ?_ | refine ne ?_ | refine nf ?_ | refine ng ?_ | refine nh ?_ | refine ni ?_ | refine nj ?_ | refine nk ?_ | refine nl ?_ | refine nm (by decide) ?_ | refine nn ?_))
      refine TO_go (wr := false) 400 (by simp only [kB, kG, kS, kM, k26, Nat.reduceAdd, Nat.reduceLT, Nat.reduceEqDiff, ↓reduceIte, reduceCtorEq]; first | done | rfl) (by first | exact trivial | (simp only [kO]; omega) | (simp [All, InR]; first | done | omega) | (simp +contextual [All, InR]; first | done | grind)) ?_
      refine TO_ent (Ent_nilSlot (i := 8) 2 rfl) ?_
      simp only [Ab.put, Nat.reduceEqDiff, ↓reduceIte, reduceCtorEq, if_false, if_true]
      (repeat (first | (with_reducible first | refine na ?_ | refine nb ?_ | refine nc ?_ | refine nd ?_ | refine ne ?_ | refine nf ?_ | refine ng ?_ | refine nh ?_ | refine ni ?_ | refine nj ?_ | refine nk ?_ | refine nl ?_ | refine nm (by decide) ?_ | refine nn ?_) | refine TO_go (wr := false) 400 (by simp only [kB, kG, kS, kM, k26, Nat.reduceAdd, Nat.reduceLT, Nat.reduceEqDiff, ↓reduceIte, reduceCtorEq]; first | done | rfl) (by first | exact trivial | (simp only [kO]; omega) | (simp [All, InR]; first | done | omega) | (simp +contextual [All, InR]; first | done | grind)) ?_))
      refine RetQ_intro (by simp only [kR, Tryd.results26, ↓reduceIte, Nat.reduceEqDiff, reduceCtorEq]; first | done | rfl) (by first | exact trivial | (simp only [kO]; omega) | (simp [All, InR]; first | done | omega) | (simp +contextual [All, InR]; first | done | grind)) [] ⟨by simp [Ab.get, renAO_id], by simp, by simp [clAO, cl_f1, cl_s1, cl_f2, cl_s2, cl_a1, flat_up, clCs, clC, domOf, Ab.get], keepI hx (by simp [domOf, Ab.get])⟩ (by simp [clAV, clPs, clCs, clC, domOf, Ab.get]) ⟨?_, rfl⟩
      exact remA_none (by simp [remS, hs, ht])
    | some tv =>
      rw [ht] at h2
      simp only [pRev, pB, Option.isSome, Option.getD] at h2
      obtain ⟨jt, t1, t2, t3⟩ := (member?_iff hg).1 ht
      obtain ⟨xt, hxt⟩ := hD jt tv (List.getElem?_eq_some_iff.1 t1).1 t1 t3
      rw [t2] at hxt
      have hxt' : alook A ⟨t.path, t.num⟩ = some xt := hxt
      have hll : (line d (first d v)).length ≤ 512 := Nat.le_trans (List.length_filter_le ..) hn
      have hlm : ∀ u ∈ line d (first d v), u ∈ d.revs ∧ ¬ u.act = 5 := fun u hu => line_mem hu
      have hfin := remR_eq hA t v
      have hline := Line_ac d (first d v) (by omega)
      generalize hln : line d (first d v) = l at hll hlm hfin hline
      refine AC_enter Tryd.func26 rfl rfl (by simp only [Tryd.ntmps26, List.length]; omega) ?_
      intro x hx
      simp only [List.range, List.range.loop, List.length, List.zip, List.zipWith, Nat.reduceAdd, Tryd.ntmps26]
      (repeat (first | (with_reducible first | refine na ?_ | refine nb ?_ | refine nc ?_ | refine nd ?_ | refine ne ?_ | refine nf ?_ | refine ng ?_ | refine nh ?_ | refine ni ?_ | refine nj ?_ | refine nk ?_ | refine nl ?_ | refine nm (by decide) ?_ | refine nn ?_) | refine TO_go (wr := false) 400 (by simp only [kB, kG, kS, kM, k26, Nat.reduceAdd, Nat.reduceLT, Nat.reduceEqDiff, ↓reduceIte, reduceCtorEq]; first | done | rfl) (by first | exact trivial | (simp only [kO]; omega) | (simp [All, InR]; first | done | omega) | (simp +contextual [All, InR]; first | done | grind)) ?_ | (refine TO_call [] (by simp) (by simp only [kV, ↓reduceIte, Nat.reduceEqDiff, reduceCtorEq]; first | done | rfl) ⟨by simp, by simp, by simp [clAV, clC, clCs]⟩ (h1) ?_; (rintro r st' ⟨rfl, rfl⟩; refine ⟨by simp [Fresh], ?_⟩; simp only [kP, Nat.reduceEqDiff, ↓reduceIte, reduceCtorEq])) | (refine TO_call [] (by simp) (by simp only [kV, ↓reduceIte, Nat.reduceEqDiff, reduceCtorEq]; first | done | rfl) ⟨by simp, by simp, by simp [clAV, clC, clCs]⟩ (h2) ?_; (rintro r st' ⟨rfl, rfl⟩; refine ⟨by simp [Fresh], ?_⟩; simp only [kP, Nat.reduceEqDiff, ↓reduceIte, reduceCtorEq]))))
      refine T_cond (by simp only [kV, ↓reduceIte, Nat.reduceEqDiff, reduceCtorEq]; first | done | rfl) ?_ ?_
      · intro h; cases h
      intro _
      (repeat (with_reducible first | refine na ?_ | refine nb ?_ | refine nc ?_ | refine nd ?_ | refine ne ?_ | refine nf ?_ | refine ng ?_ | refine nh ?_ | refine ni ?_ | refine nj ?_ | refine nk ?_ | refine nl ?_ | refine nm (by decide) ?_ | refine nn ?_))
      refine TO_go (wr := false) 400 (by simp only [kB, kG, kS, kM, k26, Nat.reduceAdd, Nat.reduceLT, Nat.reduceEqDiff, ↓reduceIte, reduceCtorEq]; first | done | rfl) (by first | exact trivial | (simp only [kO]; omega) | (simp [All, InR]; first | done | omega) | (simp +contextual [All, InR]; first | done | grind)) ?_
      (repeat (with_reducible first | refine na ?_ | refine nb ?_ | refine nc ?_ | refine nd ?_ | refine ne ?_ | refine nf ?_ | refine ng ?_ | refine nh ?_ | refine ni ?_ | refine nj ?_ | refine nk ?_ | refine nl ?_ | refine nm (by decide) ?_ | refine nn ?_))
      refine T_draw (wr := false) ([(44, aFil (first d v)), (45, aRevs l)] : List (Nat × AV)) (by kernel_rfl) (by simp only [kD, kB, kG, kS, kM, k26, Nat.reduceAdd, Nat.reduceLT, Nat.reduceEqDiff, ↓reduceIte, reduceCtorEq]; first | done | rfl) ?_ (by kernel_rfl) ?_
      · simp only [All, List.cons_append, List.nil_append, InR, List.mem_cons, List.not_mem_nil, or_false, forall_eq_or_imp, forall_eq, clAV, clCs, clC, and_true, true_and, implies_true, List.length_map, List.length_cons, List.length_nil, dArr, cl_arr, tyCs]
        repeat' (first | exact trivial | exact first_ac d v (by omega) | exact hline | refine And.intro ?_ ?_ | intro _ | assumption | rfl | omega | (rw [Bool.not_eq_true']; assumption) | (simp; done) | (simp only [decide_eq_true_eq] at *; omega) | (simp_all; done))
      (repeat (with_reducible first | refine na ?_ | refine nb ?_ | refine nc ?_ | refine nd ?_ | refine ne ?_ | refine nf ?_ | refine ng ?_ | refine nh ?_ | refine ni ?_ | refine nj ?_ | refine nk ?_ | refine nl ?_ | refine nm (by decide) ?_ | refine nn ?_))
      refine T_ent (Ent_adopt (i := 14) (id := 100) (sz := 2) rfl rfl (by omega)) ?_
      simp only [Ab.put, Nat.reduceEqDiff, ↓reduceIte, reduceCtorEq, if_false, if_true]
      refine T_loop (ι := Nat) (I := fun k => ⟨76, [(1, .c (.d (.pm (mEnt kF vSV A)))), (7, .c (.ptr 7 0)), (10, .c (.ptr 10 0)), (14, .c (.ms 100 2 0 (remR A t v (l.take k)).length)), (45, aRevs l), (46, I .i64 l.length), (47, I .i64 k)],
          [(7, .box ((encFil t).map C.d)), (10, .box ((encRev v).map C.d)), (100, dArr 2 ((remR A t v (l.take k)).map encFil))]⟩)
        (Inv := fun k => k ≤ l.length) (μ := fun k => l.length - k) 0 (by simp) ?_ ?_
      · (refine Ent_sub (fun i => i) rfl ?_ ⟨?_, ?_, ?_, keepI hx (by simp [domOf, Ab.get])⟩ <;> first | (simp only [kE, dArr, ↓reduceIte, Nat.reduceEqDiff, reduceCtorEq, remR]; done) | simp [renAV_id, renAO_id, flat_up, Ab.get, clAV, clC, clCs, clAO, cl_f1, cl_s1, cl_f2, cl_s2, cl_a1, domOf, List.flatten, remR])
      intro k hk
      have hF := remR_len A t v (l.take k)
      have hF2 : (l.take k).length ≤ 512 := by simp; omega
      (repeat (first | (with_reducible first | refine na ?_ | refine nb ?_ | refine nc ?_ | refine nd ?_ | refine ne ?_ | refine nf ?_ | refine ng ?_ | refine nh ?_ | refine ni ?_ | refine nj ?_ | refine nk ?_ | refine nl ?_ | refine nm (by decide) ?_ | refine nn ?_) | refine TO_go (wr := false) 400 (by simp only [kB, kG, kS, kM, k26, Nat.reduceAdd, Nat.reduceLT, Nat.reduceEqDiff, ↓reduceIte, reduceCtorEq]; first | done | rfl) (by first | exact trivial | (simp only [kO]; omega) | (simp [All, InR]; first | done | omega) | (simp +contextual [All, InR]; first | done | grind)) ?_))
      refine T_cond (by simp only [kV, ↓reduceIte, Nat.reduceEqDiff, reduceCtorEq]; first | done | rfl) ?_ ?_
      · intro hlt
        have hlt' : k < l.length := by simpa using hlt
        obtain ⟨u, hu, he, htk⟩ := round encRev l k zRev hlt'
        obtain ⟨u1, u2⟩ := hlm u (List.mem_of_getElem? hu)
        obtain ⟨ju, hju⟩ := List.getElem?_of_mem u1
        obtain ⟨xu, hxu⟩ := hD ju u (List.getElem?_eq_some_iff.1 hju).1 hju u2
        have hxu' : alook A ⟨(fileOf u).path, (fileOf u).num⟩ = some xu := hxu
        have hop : (bif decide (u.chg ≤ v.chg) then !subB xu.con xt.cre else false) = opA A t v u := by simp only [opA, hxu, hxt, Option.map, Option.getD]
        (repeat (first | (with_reducible first | refine na ?_ | refine nb ?_ | refine nc ?_ | refine nd ?_ | refine ne ?_ | refine nf ?_ | refine ng ?_ | refine nh ?_ | refine ni ?_ | refine nj ?_ | refine nk ?_ | refine nl ?_ | refine nm (by decide) ?_ | refine nn ?_) | refine TO_go (wr := false) 400 (by simp only [kB, kG, kS, kM, k26, Nat.reduceAdd, Nat.reduceLT, Nat.reduceEqDiff, ↓reduceIte, reduceCtorEq, he]; first | done | rfl) (by first | exact trivial | (simp only [kO]; omega) | (simp [All, InR]; first | done | omega) | (simp +contextual [All, InR]; first | done | grind)) ?_))
        refine T_draw (wr := false) ([(59, aFil (fileOf u)), (66, B (subB xu.con xt.cre))] : List (Nat × AV)) (by kernel_rfl) (by simp only [kD, kB, kG, kS, kM, k26, Nat.reduceAdd, Nat.reduceLT, Nat.reduceEqDiff, ↓reduceIte, reduceCtorEq, look_SV, hxu', hxt']; first | done | rfl) ?_ (by kernel_rfl) ?_
        · simp only [All, List.cons_append, List.nil_append, InR, List.mem_cons, List.not_mem_nil, or_false, forall_eq_or_imp, forall_eq, clAV, clCs, clC, and_true, true_and, implies_true, List.length_map, List.length_cons, List.length_nil, dArr, cl_arr, tyCs]
          repeat' (first | exact trivial | exact file_ac u | exact Within_ac xu.con xt.cre | exact ty_SV A | refine And.intro ?_ ?_ | intro _ | assumption | rfl | omega | (rw [Bool.not_eq_true']; assumption) | (simp; done) | (simp only [decide_eq_true_eq] at *; omega) | (simp_all; done))
        (repeat (with_reducible first | refine na ?_ | refine nb ?_ | refine nc ?_ | refine nd ?_ | refine ne ?_ | refine nf ?_ | refine ng ?_ | refine nh ?_ | refine ni ?_ | refine nj ?_ | refine nk ?_ | refine nl ?_ | refine nm (by decide) ?_ | refine nn ?_))
        refine T_cond (by simp only [kV, ↓reduceIte, Nat.reduceEqDiff, reduceCtorEq]; first | done | rfl) ?_ ?_
        · intro ho
          rw [hop] at ho
          (repeat (first | (with_reducible first | refine na ?_ | refine nb ?_ | refine nc ?_ | refine nd ?_ | refine ne ?_ | refine nf ?_ | refine ng ?_ | refine nh ?_ | refine ni ?_ | refine nj ?_ | refine nk ?_ | refine nl ?_ | refine nm (by decide) ?_ | refine nn ?_) | refine TO_go (wr := false) 400 (by simp only [kB, kG, kS, kM, k26, Nat.reduceAdd, Nat.reduceLT, Nat.reduceEqDiff, ↓reduceIte, reduceCtorEq]; first | done | rfl) (by first | exact trivial | (simp only [kO]; omega) | (simp [All, InR]; first | done | omega) | (simp +contextual [All, InR]; first | done | grind)) ?_ | (refine TO_call [] (by simp) (by simp only [kV, ↓reduceIte, Nat.reduceEqDiff, reduceCtorEq]; first | done | rfl) ⟨by simp, by simp, by simp [clAV, clC, clCs]⟩ (file_ac u) ?_; (rintro r st' ⟨rfl, rfl⟩; refine ⟨by simp [Fresh], ?_⟩; simp only [kP, Nat.reduceEqDiff, ↓reduceIte, reduceCtorEq]))))
          refine ⟨k + 1, by omega, by omega, ?_⟩
          have e : remR A t v (l.take (k + 1)) = remR A t v (l.take k) ++ [fileOf u] := by rw [htk, remR, List.filter_append, List.map_append]; simp [remR, ho]
          rw [e]
          (refine Ent_sub (fun i => if i = 100 then 73 else i) rfl ?_ ⟨?_, ?_, ?_, keepR hx (by simp [domOf, Ab.get])⟩ <;> first | (intro i hi; have h0 := hx i hi; constructor <;> (revert h0; simp only [domOf, Ab.get]; (repeat' split) <;> simp_all); done) | (simp only [kE, dArr, ↓reduceIte, Nat.reduceEqDiff, reduceCtorEq]; done) | (simp only [dArr, ren_arr, ren_map, List.mem_cons, List.not_mem_nil, or_false, forall_eq_or_imp, forall_eq]; simp [renAV, renC, renAO, ren_up, flat_up, Ab.get, clAV, clC, clCs, clAO, cl_f1, cl_s1, cl_f2, cl_s2, cl_a1, domOf, List.flatten, clCs_append]; done) | simp [renAV, renC, renAO, ren_up, flat_up, Ab.get, clAV, clC, clCs, clAO, cl_f1, cl_s1, cl_f2, cl_s2, cl_a1, domOf, List.flatten, clCs_append])
        · intro ho
          rw [hop] at ho
          (repeat (first | (with_reducible first | refine na ?_ | refine nb ?_ | refine nc ?_ | refine nd ?_ | refine ne ?_ | refine nf ?_ | refine ng ?_ | refine nh ?_ | refine ni ?_ | refine nj ?_ | refine nk ?_ | refine nl ?_ | refine nm (by decide) ?_ | refine nn ?_) | refine TO_go (wr := false) 400 (by simp only [kB, kG, kS, kM, k26, Nat.reduceAdd, Nat.reduceLT, Nat.reduceEqDiff, ↓reduceIte, reduceCtorEq]; first | done | rfl) (by first | exact trivial | (simp only [kO]; omega) | (simp [All, InR]; first | done | omega) | (simp +contextual [All, InR]; first | done | grind)) ?_))
          refine ⟨k + 1, by omega, by omega, ?_⟩
          have e : remR A t v (l.take (k + 1)) = remR A t v (l.take k) := by rw [htk, remR, List.filter_append, List.map_append]; simp [remR, ho]
          rw [e]
          (refine Ent_sub (fun i => i) rfl ?_ ⟨?_, ?_, ?_, keepI hx (by simp [domOf, Ab.get])⟩ <;> first | (simp only [kE, dArr, ↓reduceIte, Nat.reduceEqDiff, reduceCtorEq]; done) | simp [renAV_id, renAO_id, flat_up, Ab.get, clAV, clC, clCs, clAO, cl_f1, cl_s1, cl_f2, cl_s2, cl_a1, domOf, List.flatten])
      · intro hge
        have hge' : k = l.length := by have : ¬ k < l.length := by simpa using hge
                                       omega
        (repeat (with_reducible first | refine na ?_ | refine nb ?_ | refine nc ?_ | refine nd ?_ | refine ne ?_ | refine nf ?_ | refine ng ?_ | refine nh ?_ | refine ni ?_ | refine nj ?_ | refine nk ?_ | refine nl ?_ | refine nm (by decide) ?_ | refine nn ?_))
        refine TO_ent (Ent_frzSlot (i := 14) (id := 100) (ys := (remR A t v (l.take k)).map encFil) rfl rfl (by simp)) ?_
        simp only [Ab.put, Nat.reduceEqDiff, ↓reduceIte, reduceCtorEq, if_false, if_true]
        (repeat (first | (with_reducible first | refine na ?_ | refine nb ?_ | refine nc ?_ | refine nd ?_ | refine ne ?_ | refine nf ?_ | refine ng ?_ | refine nh ?_ | refine ni ?_ | refine nj ?_ | refine nk ?_ | refine nl ?_ | refine nm (by decide) ?_ | refine nn ?_) | refine TO_go (wr := false) 400 (by simp only [kB, kG, kS, kM, k26, Nat.reduceAdd, Nat.reduceLT, Nat.reduceEqDiff, ↓reduceIte, reduceCtorEq]; first | done | rfl) (by first | exact trivial | (simp only [kO]; omega) | (simp [All, InR]; first | done | omega) | (simp +contextual [All, InR]; first | done | grind)) ?_))
        refine RetQ_intro (by simp only [kR, Tryd.results26, ↓reduceIte, Nat.reduceEqDiff, reduceCtorEq]; first | done | rfl) (by first | exact trivial | (simp only [kO]; omega) | (simp [All, InR]; first | done | omega) | (simp +contextual [All, InR]; first | done | grind)) [] ⟨by simp [Ab.get, renAO_id], by simp, by simp [clAO, cl_f1, cl_s1, cl_f2, cl_s2, cl_a1, flat_up, clCs, clC, domOf, Ab.get], keepI hx (by simp [domOf, Ab.get])⟩ (by simp [clAV, clPs, clCs, clC, domOf, Ab.get]) ⟨?_, rfl⟩
        rw [hge', List.take_length, hfin]
        exact remA_some (by simp [remS, hs, ht])
theorem spec_sub (d : Dep) : ∀ (k : Nat) (f g : Fil), (specA d k f).car g ∨ (specA d k f).con g ∨ (specA d k f).cre g → ∃ w ∈ d.revs, fileOf w = g
  | 0, f, g, h => by simp [specA, SS0] at h
  | k + 1, f, g, h => by
    have ih := spec_sub d k
    simp only [specA] at h
    cases hv : d.revs[k]? with
    | none => rw [hv] at h; exact ih f g h
    | some v =>
      rw [hv] at h
      simp only at h
      by_cases h5 : v.act = 5
      · rw [if_pos h5] at h; exact ih f g h
      · rw [if_neg h5] at h
        by_cases e : f = fileOf v
        · simp only [if_pos e, stepS] at h
          have hc : carS (intoR d (fileOf v)) (specA d k) (befF v) (fileOf v) g → ∃ w ∈ d.revs, fileOf w = g := by
            rintro (h | ⟨r, _, ⟨_, h⟩ | ⟨_, _, n, _, _, h⟩⟩ | ⟨_, h⟩)
            · exact ih _ g (.inl h)
            · exact ih _ g (.inl h)
            · exact ih _ g (.inr (.inl h))
            · exact ⟨v, List.mem_of_getElem? hv, h.symm⟩
          rcases h with h | h | (h | ⟨r, _, _, n, _, _, h⟩ | h)
          · exact hc h
          · exact hc h.1
          · exact ih _ g (.inr (.inr h))
          · exact ih _ g (.inr (.inl h))
          · exact hc h
        · simp only [if_neg e] at h; exact ih f g h
open Classical in
theorem fin_list (d : Dep) (P : Fil → Prop) (h : ∀ g, P g → ∃ w ∈ d.revs, fileOf w = g) : ∃ l : List Fil, ∀ g, g ∈ l ↔ P g := by
  refine ⟨(d.revs.map fileOf).filter fun g => decide (P g), fun g => ?_⟩
  rw [List.mem_filter]
  constructor
  · rintro ⟨_, h2⟩; exact of_decide_eq_true h2
  · intro hp
    obtain ⟨w, hw, e⟩ := h g hp
    exact ⟨List.mem_map.2 ⟨w, hw, e⟩, decide_eq_true hp⟩
theorem exA (d : Dep) : ∀ k : Nat, ∃ A, SvOK A (specA d k) ∧ DomA d k A
  | 0 => ⟨[], by constructor <;> simp [specA, SS0, alook], fun j w h => by simp at h⟩
  | k + 1 => by
    obtain ⟨A, hA, hD⟩ := exA d k
    cases hv : d.revs[k]? with
    | none =>
      have hsp : specA d (k + 1) = specA d k := by simp only [specA, hv]
      refine ⟨A, by rw [hsp]; exact hA, fun j w hj hw => ?_⟩
      by_cases e : j = k
      · subst e; rw [hv] at hw; cases hw
      · exact hD j w (by omega) hw
    | some v =>
      by_cases h5 : v.act = 5
      · have hsp : specA d (k + 1) = specA d k := by simp only [specA, hv, h5, if_true]
        exact ⟨A, by rw [hsp]; exact hA, hD.away hv h5⟩
      · have hs : specA d (k + 1) (fileOf v) = stepS (intoR d (fileOf v)) (specA d k) v := by simp only [specA, hv, h5, if_false, if_true]
        have sub := spec_sub d (k + 1) (fileOf v)
        rw [hs] at sub
        obtain ⟨c, hc⟩ := fin_list d _ (fun g h => sub g (.inl h))
        obtain ⟨m, hm⟩ := fin_list d _ (fun g h => sub g (.inr (.inl h)))
        obtain ⟨r, hr⟩ := fin_list d _ (fun g h => sub g (.inr (.inr h)))
        simp only [stepS] at hc hm hr
        refine ⟨aput A (fileOf v) ⟨true, c, m, r⟩, hA.step hv h5 ⟨true, c, m, r⟩ hc (fun g => ?_) (fun g => ?_), hD.memb hv _⟩
        · simp only; rw [hm g, hc g]
        · simp only; rw [hr g, hc g, or_assoc]
def k12 := And.intro @Tryd.ntmps12 <| And.intro @bld24 <| And.intro @bld30 <| And.intro @ti24 <| @ti30
set_option maxRecDepth 100000 in
set_option maxHeartbeats 16000000 in
theorem refRemaining_ac (d : Dep) (hg : Good d.revs) (hn : d.revs.length ≤ 512) (hm : d.recs.length ≤ 512) (hrc : RcGood d.recs) (s t : Fil) :
    AC Tryd.prog 12 [aDep d, aFil s, aFil t] [] (fun r st => r = remA d s t ∧ st = []) := by
  obtain ⟨A0, hA0⟩ := exA d d.revs.length
  have hac : ∀ A, (SvOK A (SA d) ∧ DomA d d.revs.length A) → AC Tryd.prog 26 [aDep d, .c (.d (.pm (mEnt kF vSV A))), aFil s, aFil t] [] (fun r st => r = remA d s t ∧ st = []) := fun A h => remaining_ac d hg hn A h.1 h.2 s t
  have hall : AC Tryd.prog 27 [aDep d] [] (fun r st => (∃ A, (SvOK A (SA d) ∧ DomA d d.revs.length A) ∧ r = .c (.d (.pm (mEnt kF vSV A)))) ∧ st = []) := (All_ac d hg hn hm hrc).mono fun r st ⟨⟨A, h1, h2, h3⟩, h4⟩ => ⟨⟨A, ⟨h1, h2⟩, h3⟩, h4⟩
  unfold remA at hac ⊢
  generalize (remS d s t).getD [] = rl at hac ⊢
  generalize (if (remS d s t).isSome = true then (0 : Int) else 150) = re at hac ⊢
  refine AC_enter Tryd.func12 rfl rfl (by simp only [Tryd.ntmps12, List.length]; omega) ?_
  intro x hx
  simp only [List.range, List.range.loop, List.length, List.zip, List.zipWith, Nat.reduceAdd, Tryd.ntmps12]
  (repeat (first | (with_reducible first | refine na ?_ | refine nb ?_ | refine nc ?_ | refine nd ?_ | refine ne ?_ | refine nf ?_ | refine ng ?_ | refine nh ?_ | refine ni ?_ | refine nj ?_ | refine nk ?_ | refine nl ?_ | refine nm (by decide) ?_ | refine nn ?_) | refine TO_go (wr := false) 400 (by simp only [kB, k12, Nat.reduceAdd, Nat.reduceLT, Nat.reduceEqDiff, ↓reduceIte, reduceCtorEq]; first | done | rfl) (by first | exact trivial | (simp only [kO]; omega) | (simp [All, InR]; first | done | omega) | (simp +contextual [All, InR]; first | done | grind)) ?_))
  refine T_drawy (wr := false) [0, 1, 3, 4] [(13, .tup [pFils rl, pI re])] 2 10 (fun A => .c (.d (.pm (mEnt kF vSV A)))) (fun A => SvOK A (SA d) ∧ DomA d d.revs.length A) A0 hA0 (by kernel_rfl) (fun c => by simp only [kX, kD, kB, k12, Nat.reduceAdd, Nat.reduceLT, Nat.reduceEqDiff, ↓reduceIte, reduceCtorEq]; first | done | rfl) ?_ (fun c => by kernel_rfl) (by kernel_rfl) (fun _ _ => by kernel_rfl) (by kernel_rfl) (fun _ _ => by simp only [List.map_cons, List.map_nil, List.getElem?_cons_zero, List.getElem?_cons_succ]; repeat' (first | (with_reducible rfl) | refine congr (congrArg List.cons ?_) ?_ | refine congrArg some ?_ | kernel_rfl)) ?_
  · intro A hA
    simp only [All, List.cons_append, List.nil_append, InR, List.mem_cons, List.not_mem_nil, or_false, forall_eq_or_imp, forall_eq, clAV, clCs, clC, and_true, true_and, implies_true, List.length_map, List.length_cons, List.length_nil, dArr, cl_arr, tyCs]
    repeat' (first | exact trivial | exact hall | exact hac A hA | refine And.intro ?_ ?_ | intro _ | assumption | rfl | omega | (rw [Bool.not_eq_true']; assumption) | (simp; done) | (simp only [decide_eq_true_eq] at *; omega) | (simp_all; done))
  intro A hA
  (repeat (first | (with_reducible first | refine na ?_ | refine nb ?_ | refine nc ?_ | refine nd ?_ | refine ne ?_ | refine nf ?_ | refine ng ?_ | refine nh ?_ | refine ni ?_ | refine nj ?_ | refine nk ?_ | refine nl ?_ | refine nm (by decide) ?_ | refine nn ?_) | refine TO_go (wr := false) 400 (by simp only [kB, k12, Nat.reduceAdd, Nat.reduceLT, Nat.reduceEqDiff, ↓reduceIte, reduceCtorEq]; first | done | rfl) (by first | exact trivial | (simp only [kO]; omega) | (simp [All, InR]; first | done | omega) | (simp +contextual [All, InR]; first | done | grind)) ?_))
  refine RetQ_intro (by simp only [kR, Tryd.results12, ↓reduceIte, Nat.reduceEqDiff, reduceCtorEq]; first | done | rfl) (by first | exact trivial | (simp only [kO]; omega) | (simp [All, InR]; first | done | omega) | (simp +contextual [All, InR]; first | done | grind)) [] ⟨by simp [Ab.get, renAO_id], by simp, by simp [clAO, cl_f1, cl_s1, cl_f2, cl_s2, cl_a1, flat_up, clCs, clC, domOf, Ab.get], keepI hx (by simp [domOf, Ab.get])⟩ (by simp [clAV, clPs, clCs, clC, domOf, Ab.get]) ⟨?_, rfl⟩
  rfl
end Go.Proofs.YtmlhfnodnnbbnaaDoor

/- A part of the proof. -/
import Derived.Test.YtmhboloicpieeaaGreatDoorRL3a
set_option linter.all false
namespace Go.Proofs.YtmhboloicpieeaaGreatDoor
open Go.Ab Tys
variable [Dr]
def k26 := And.intro @Tryz.ntmps26 <| And.intro @Tryz.underlying27 <| And.intro @Tryz.underlying28 <| And.intro @bld159 <| And.intro @bld30 <| And.intro @bld37 <| And.intro @bld46 <| And.intro @bld76 <| And.intro @elt27 <| And.intro @elt28 <| And.intro @fld159_0 <| And.intro @fld159_1 <| And.intro @fld159_2 <| And.intro @fld159_3 <| And.intro @fld30_0 <| And.intro @fld30_1 <| And.intro @fld37_0 <| And.intro @fld37_1 <| And.intro @fld46_0 <| And.intro @fld46_1 <| And.intro @fld46_3 <| And.intro @fld76_0 <| And.intro @fld76_1 <| And.intro @fld76_2 <| And.intro @fld76_3 <| And.intro @fld76_4 <| And.intro @fld76_5 <| And.intro @kyt37 <| And.intro @mpt157 <| And.intro @mpt85 <| And.intro @ti157 <| And.intro @ti159 <| And.intro @ti27 <| And.intro @ti28 <| And.intro @ti3 <| And.intro @ti30 <| And.intro @ti37 <| And.intro @ti4 <| And.intro @ti46 <| And.intro @ti76 <| And.intro @ti85 <| @ti9
theorem v26R2 {G G' : Prop} (g : G') (h : Hid G' → G := by intro h9; (first | refine nvB ?_ | refine goA (wr := false) (by simp only [kB, kG, kS, kM, k26, Nat.reduceAdd, Nat.reduceLT, Nat.reduceEqDiff, ↓reduceIte, reduceCtorEq]; first | done | rfl) ?_); (repeat (first | refine nvB ?_ | refine goA (wr := false) (by simp only [kB, kG, kS, kM, k26, Nat.reduceAdd, Nat.reduceLT, Nat.reduceEqDiff, ↓reduceIte, reduceCtorEq]; first | done | rfl) ?_)); exact h9.out) : G := h ⟨g⟩
set_option maxRecDepth 100000 in
set_option maxHeartbeats 16000000 in
theorem All_ac (d : Dep) (hg : Good d.revs) (hn : d.revs.length ≤ 512) (hm : d.recs.length ≤ 512) (hrc : RcGood d.recs) :
  AC Tryz.prog 26 [aDep d] [] (fun r st => (∃ A, SvOK A (SA d) ∧ DomA d d.revs.length A ∧ r = .c (.d (.pm (mEnt kF vSV A)))) ∧ st = []) := by
 refine AC_enter Tryz.func26 rfl rfl (by simp only [Tryz.ntmps26, List.length]; omega) ?_
 intro x hx
 simp only [List.range, List.range.loop, List.length, List.zip, List.zipWith, Nat.reduceAdd, Tryz.ntmps26]
 try refine v26R2 ?_
 refine T_loop (ι := Nat × List (Fil × SV)) (I := fun j => ⟨164, [(1, .c (.ptr 1 0)), (3, .c (.mp 17)), (19, aRevs d.revs), (20, I .i64 d.revs.length), (21, I .i64 j.1)],
   [(1, .box ((encDep d).map C.d)), (17, .map ((mEnt kF vSV j.2).map upE))]⟩)
  (Inv := fun j => j.1 ≤ d.revs.length ∧ SvOK j.2 (specA d j.1) ∧ DomA d j.1 j.2) (μ := fun j => d.revs.length - j.1) (0, []) ⟨by simp, by constructor <;> simp [specA, SS0, alook], fun j w h => by simp at h⟩ ?_ ?_
 ·exact enA
 rintro ⟨k, A⟩ ⟨hk, hA, hD⟩
 simp only at hk hA hD ⊢
 try refine v26R2 ?_
 refine ifA ?_ ?_
 ·intro hlt
  have hlt' : k < d.revs.length := by simpa using hlt
  obtain ⟨v, hv, he, htk⟩ := round encRev d.revs k zRev hlt'
  (repeat (first | refine nvB ?_ | refine goA (wr := false) (by simp only [kB, kG, kS, kM, k26, Nat.reduceAdd, Nat.reduceLT, Nat.reduceEqDiff, ↓reduceIte, reduceCtorEq, he]; first | done | rfl) ?_))
  refine ifA ?_ ?_
  ·intro h5
   have h5' : v.act = 5 := by simpa using h5
   have hsp : specA d (k + 1) = specA d k := by simp only [specA, hv, h5', if_true]
   try refine v26R2 ?_
   refine ⟨(k + 1, A), ⟨hlt', by rw [hsp]; exact hA, hD.away hv h5'⟩, by simp; omega, ?_⟩
   exact enA
  intro h5
  have h5' : ¬ v.act = 5 := by simpa using h5
  (repeat (first | refine v26R2 ?_ | (refine caA [] (prev_ac d v (by omega)) ?_; rintro r st' ⟨rfl, rfl⟩; refine frA ?_)))
  refine T_joinE (ι := Option SV × List Fil × List Fil)
   (fun j => ⟨164, [(1, .c (.ptr 1 0)), (3, .c (.mp 17)), (5, .c (.ptr 5 0)), (6, .c (.ptr 6 0)), (7, .c (.ptr 7 0)), (8, I .i64 0), (9, .c (.ptr 9 0)), (19, aRevs d.revs), (20, I .i64 d.revs.length), (21, I .i64 k)],
    [(1, .box ((encDep d).map C.d)), (17, .map ((mEnt kF vSV A).map upE)), (5, .box ((encRev v).map C.d)), (6, .box ((encFil (fileOf v)).map C.d)), (33, uMap kF j.2.1), (34, uMap kF []), (35, uMap kF j.2.2), (7, .box [.d (.v (.bool true)), .mp 33, .mp 34, .mp 35]), (9, bef9 j.1)]⟩)
   (fun j => (∀ g, (specA d k (befF v)).car g ↔ g ∈ (j.1.map SV.car).getD []) ∧ (∀ g, (specA d k (befF v)).car g ↔ g ∈ j.2.1) ∧ (∀ g, (specA d k (befF v)).cre g ↔ g ∈ j.2.2)) ?_ ?_
  ·cases hp : prev? d v with
   | none =>
     have hno := prev_none hg hn hv hp
     refine ifA ?_ ?_
     ·intro h; cases h
     intro _
     refine nvA ?_
     refine ⟨rfl, (none, [], []), ⟨fun g => ?_, fun g => ?_, fun g => ?_⟩, ?_⟩
     ·simp only [Option.map_none, Option.getD, List.not_mem_nil, iff_false]; exact fun h => hno g (.inl h)
     ·simp only [List.not_mem_nil, iff_false]; exact fun h => hno g (.inl h)
     ·simp only [List.not_mem_nil, iff_false]; exact fun h => hno g (.inr (.inr h))
     ·(refine Ent_sub (fun i => i) rfl ?_ ⟨?_, ?_, ?_, keepI hx (by simp [domOf, Ab.get])⟩ <;> first | (simp only [kE, dArr, ↓reduceIte, Nat.reduceEqDiff, reduceCtorEq, fileOf]; done) | simp [renAV_id, renAO_id, flat_up, Ab.get, clAV, clC, clCs, clAO, cl_f1, cl_s1, cl_f2, cl_s2, cl_a1, domOf, List.flatten, fileOf])
   | some u =>
     have hfu := prev_some hg hn hv hp
     simp only [Option.getD]
     refine ifA ?_ ?_
     rotate_left
     ·intro h; cases h
     intro _
     refine nvA ?_
     refine TO_go (wr := false) 400 (by simp only [kB, kG, kS, kM, k26, Nat.reduceAdd, Nat.reduceLT, Nat.reduceEqDiff, ↓reduceIte, reduceCtorEq, look_SV]; first | done | rfl) ?_ ?_
     ·exact obT (ty_SV A)
     have hcA := hA.car (befF v)
     have hrA := hA.cre (befF v)
     rw [show (⟨u.path, u.num⟩ : Fil) = befF v from hfu]
     generalize alook A (befF v) = o at hcA hrA ⊢
     try refine v26R2 ?_
     refine caA ([(33, uMap kF [])]) (add_ac 33 (by decide) (by decide) [] (o.map SV.car)) ?_
     rintro rv9 st' ⟨c, hc, rfl⟩ <;> refine frA ?_
     try refine v26R2 ?_
     refine caA ([(35, uMap kF [])]) (add_ac 35 (by decide) (by decide) [] (o.map SV.cre)) ?_
     rintro rv9 st' ⟨cr, hcr, rfl⟩ <;> refine frA ?_
     refine nvA ?_
     refine ⟨rfl, (o, c, cr), ⟨hcA, fun g => ?_, fun g => ?_⟩, ?_⟩
     ·rw [hc g, hcA g]; simp
     ·rw [hcr g, hrA g]; simp
     ·(refine Ent_sub (fun i => i) rfl ?_ ⟨?_, ?_, ?_, keepI hx (by simp [domOf, Ab.get])⟩ <;> first | (simp only [kE, dArr, ↓reduceIte, Nat.reduceEqDiff, reduceCtorEq, fileOf]; done) | simp [renAV_id, renAO_id, flat_up, Ab.get, clAV, clC, clCs, clAO, cl_f1, cl_s1, cl_f2, cl_s2, cl_a1, domOf, List.flatten, fileOf])
  rintro ⟨o, c0, r0⟩ ⟨ho, hc0, hr0⟩
  simp only at ho hc0 hr0 ⊢
  try refine v26R2 ?_
  refine T_loop (ι := Nat × Bool × Int × List Fil × List Fil) (I := fun j => ⟨164, [(1, .c (.ptr 1 0)), (3, .c (.mp 17)), (5, .c (.ptr 5 0)), (6, .c (.ptr 6 0)), (7, .c (.ptr 7 0)), (8, I .i64 j.2.2.1), (9, .c (.ptr 9 0)), (19, aRevs d.revs), (20, I .i64 d.revs.length), (21, I .i64 k), (62, .c (.d (.ps 6 (d.recs.map encRcd)))), (63, I .i64 d.recs.length), (64, I .i64 j.1)],
    [(1, .box ((encDep d).map C.d)), (17, .map ((mEnt kF vSV A).map upE)), (5, .box ((encRev v).map C.d)), (6, .box ((encFil (fileOf v)).map C.d)), (33, uMap kF j.2.2.2.1), (34, uMap kF []), (35, uMap kF j.2.2.2.2), (7, .box [.d (.v (.bool j.2.1)), .mp 33, .mp 34, .mp 35]), (9, bef9 o)]⟩)
   (Inv := fun j => j.1 ≤ d.recs.length ∧ RecInv (specA d k) (befF v) ((d.recs.take j.1).filter fun r => decide ((⟨r.to, r.num⟩ : Fil) = fileOf v)) j.2.1 j.2.2.1 j.2.2.2.1 j.2.2.2.2) (μ := fun j => d.recs.length - j.1) (0, true, 0, c0, r0)
   ⟨by simp, ⟨fun g => by simp [hc0 g], fun g => by simp [hr0 g], by simp, by simp, by simp, by simp⟩⟩ ?_ ?_
  ·(refine Ent_sub (fun i => i) rfl ?_ ⟨?_, ?_, ?_, keepI hx (by simp [domOf, Ab.get])⟩ <;> first | (simp only [kE, dArr, ↓reduceIte, Nat.reduceEqDiff, reduceCtorEq, fileOf]; done) | simp [renAV_id, renAO_id, flat_up, Ab.get, clAV, clC, clCs, clAO, cl_f1, cl_s1, cl_f2, cl_s2, cl_a1, domOf, List.flatten, fileOf])
  rintro ⟨j, og, n, c, r1⟩ ⟨hj, hR⟩
  simp only at hj hR ⊢
  have hnb := hR.nb
  have hn0 := hR.n0
  have hfl : ((d.recs.take j).filter fun r => decide ((⟨r.to, r.num⟩ : Fil) = fileOf v)).length ≤ 512 := Nat.le_trans (List.length_filter_le ..) (by simp; omega)
  try refine v26R2 ?_
  refine ifA ?_ ?_
  ·intro hlt2
   have hlt2' : j < d.recs.length := by simpa using hlt2
   obtain ⟨r, hr, he2, htk2⟩ := round encRcd d.recs j zRcd hlt2'
   obtain ⟨q1, q2, q3, q4, q5⟩ := hrc r (List.mem_of_getElem? hr)
   (repeat (first | refine nvB ?_ | refine goA (wr := false) (by simp only [kB, kG, kS, kM, k26, Nat.reduceAdd, Nat.reduceLT, Nat.reduceEqDiff, ↓reduceIte, reduceCtorEq, he2]; first | done | rfl) ?_))
   have hcond : (bif !decide (r.to = v.path) then true else !decide (r.num = v.num)) = !decide ((⟨r.to, r.num⟩ : Fil) = fileOf v) := by
    simp only [fileOf, Fil.mk.injEq]
    by_cases e1 : r.to = v.path <;> by_cases e2 : r.num = v.num <;> simp [e1, e2]
   refine ifA ?_ ?_
   ·intro hno
    rw [hcond] at hno
    have hno' : ¬ (⟨r.to, r.num⟩ : Fil) = fileOf v := by simpa using hno
    try refine v26R2 ?_
    refine ⟨(j + 1, og, n, c, r1), ⟨hlt2', ?_⟩, by simp; omega, ?_⟩
    ·simp only [htk2, List.filter_append]
     have : List.filter (fun r => decide ((⟨r.to, r.num⟩ : Fil) = fileOf v)) [r] = [] := by simp [hno']
     rw [this, List.append_nil]; exact hR
    ·(refine Ent_sub (fun i => i) rfl ?_ ⟨?_, ?_, ?_, keepI hx (by simp [domOf, Ab.get])⟩ <;> first | (simp only [kE, dArr, ↓reduceIte, Nat.reduceEqDiff, reduceCtorEq, fileOf]; done) | simp [renAV_id, renAO_id, flat_up, Ab.get, clAV, clC, clCs, clAO, cl_f1, cl_s1, cl_f2, cl_s2, cl_a1, domOf, List.flatten, fileOf])
   intro hyes
   rw [hcond] at hyes
   have hyes' : (⟨r.to, r.num⟩ : Fil) = fileOf v := by simpa using hyes
   try refine v26R2 ?_
   refine T_join ⟨164, envR d k j (n + 1), stR d A v o r (bif decide (n + 1 = 1) then false else og) c r1⟩ ?_ ?_
   ·refine ifA ?_ ?_
    ·intro h
     rw [h]
     try refine v26R2 ?_
     refine ⟨rfl, ?_⟩
     (refine Ent_sub (fun i => i) rfl ?_ ⟨?_, ?_, ?_, keepI hx (by simp [domOf, Ab.get])⟩ <;> first | (simp only [kE, dArr, ↓reduceIte, Nat.reduceEqDiff, reduceCtorEq, fileOf]; done) | simp [renAV_id, renAO_id, flat_up, Ab.get, clAV, clC, clCs, clAO, cl_f1, cl_s1, cl_f2, cl_s2, cl_a1, domOf, List.flatten, fileOf])
    ·intro h
     rw [h]
     refine nvA ?_
     refine ⟨rfl, ?_⟩
     (refine Ent_sub (fun i => i) rfl ?_ ⟨?_, ?_, ?_, keepI hx (by simp [domOf, Ab.get])⟩ <;> first | (simp only [kE, dArr, ↓reduceIte, Nat.reduceEqDiff, reduceCtorEq, fileOf]; done) | simp [renAV_id, renAO_id, flat_up, Ab.get, clAV, clC, clCs, clAO, cl_f1, cl_s1, cl_f2, cl_s2, cl_a1, domOf, List.flatten, fileOf])
   generalize hog1 : (bif decide (n + 1 = 1) then false else og) = og1
   try refine v26R2 ?_
   refine T_join ⟨164, envR d k j (bif decide (r.how = 4) then 2 else n + 1), stR d A v o r (bif decide (r.how = 4) then true else og1) c r1⟩ ?_ ?_
   ·refine ifA ?_ ?_
    ·intro h
     rw [h]
     try refine v26R2 ?_
     refine ⟨rfl, ?_⟩
     (refine Ent_sub (fun i => i) rfl ?_ ⟨?_, ?_, ?_, keepI hx (by simp [domOf, Ab.get])⟩ <;> first | (simp only [kE, dArr, ↓reduceIte, Nat.reduceEqDiff, reduceCtorEq, fileOf]; done) | simp [renAV_id, renAO_id, flat_up, Ab.get, clAV, clC, clCs, clAO, cl_f1, cl_s1, cl_f2, cl_s2, cl_a1, domOf, List.flatten, fileOf])
    ·intro h
     rw [h]
     refine nvA ?_
     refine ⟨rfl, ?_⟩
     (refine Ent_sub (fun i => i) rfl ?_ ⟨?_, ?_, ?_, keepI hx (by simp [domOf, Ab.get])⟩ <;> first | (simp only [kE, dArr, ↓reduceIte, Nat.reduceEqDiff, reduceCtorEq, fileOf]; done) | simp [renAV_id, renAO_id, flat_up, Ab.get, clAV, clC, clCs, clAO, cl_f1, cl_s1, cl_f2, cl_s2, cl_a1, domOf, List.flatten, fileOf])
   generalize hog2 : (bif decide (r.how = 4) then true else og1) = og2
   generalize hn2 : (bif decide (r.how = 4) then 2 else n + 1) = n2
   try refine v26R2 ?_
   refine T_joinE (ι := List Fil) (fun c1 => ⟨164, envR d k j n2, stR d A v o r og2 c1 r1⟩) (fun c1 => ∀ g, g ∈ c1 ↔ g ∈ c ∨ (r.how = 1 ∧ (specA d k ⟨r.frm, r.last⟩).car g)) ?_ ?_
   ·refine ifA ?_ ?_
    ·intro h
     have h' : r.how = 1 := by simpa using h
     have hcA := hA.car ⟨r.frm, r.last⟩
     refine nvA ?_
     refine T_drawc (wr := false) [] rfl (by kernel_rfl) (by simp only [kD, List.dropLast_cons₂, List.dropLast_singleton, kB, kG, kS, kM, k26, Nat.reduceAdd, Nat.reduceLT, Nat.reduceEqDiff, ↓reduceIte, reduceCtorEq, look_SV]; first | done | rfl) ?_ (by kernel_rfl) (by kernel_rfl) ([(33, uMap kF c)]) (by simp) (by simp only [kV, ↓reduceIte, Nat.reduceEqDiff, reduceCtorEq]; first | done | rfl) ⟨by simp [Ab.get, clPs], by simp [clAO, cl_f1, cl_s1, cl_f2, cl_s2, cl_a1, flat_up, clCs, clC, domOf, Ab.get, clPs], by simp [clAV, clC, clCs, domOf, Ab.get, clPs]⟩ (add_ac 33 (by decide) (by decide) c ((alook A ⟨r.frm, r.last⟩).map SV.car)) ?_
     rotate_left
     rintro rv9 st' ⟨c1, hc1, rfl⟩
     refine ⟨by simp [Fresh, domOf, Ab.get], ?_⟩
     simp only [kP, Nat.reduceEqDiff, ↓reduceIte, reduceCtorEq, List.cons_append, List.nil_append]
     rotate_left
     ·exact obT (ty_SV A)
     refine ⟨trivial, c1, fun g => ?_, ?_⟩
     ·rw [hc1 g, hcA g]; simp [h']
     ·(refine Ent_sub (fun i => i) rfl ?_ ⟨?_, ?_, ?_, keepI hx (by simp [domOf, Ab.get])⟩ <;> first | (simp only [kE, dArr, ↓reduceIte, Nat.reduceEqDiff, reduceCtorEq, fileOf]; done) | simp [renAV_id, renAO_id, flat_up, Ab.get, clAV, clC, clCs, clAO, cl_f1, cl_s1, cl_f2, cl_s2, cl_a1, domOf, List.flatten, fileOf])
    ·intro h
     have h' : ¬ r.how = 1 := by simpa using h
     refine nvA ?_
     refine ⟨rfl, c, fun g => by simp [h'], ?_⟩
     (refine Ent_sub (fun i => i) rfl ?_ ⟨?_, ?_, ?_, keepI hx (by simp [domOf, Ab.get])⟩ <;> first | (simp only [kE, dArr, ↓reduceIte, Nat.reduceEqDiff, reduceCtorEq, fileOf]; done) | simp [renAV_id, renAO_id, flat_up, Ab.get, clAV, clC, clCs, clAO, cl_f1, cl_s1, cl_f2, cl_s2, cl_a1, domOf, List.flatten, fileOf])
   intro c1 hc1
   try refine v26R2 ?_
   refine T_loop (ι := Int × List Fil × List Fil) (I := fun i => ⟨164, envR d k j n2 ++ [(14, I .i64 i.1)], stR d A v o r og2 i.2.1 i.2.2⟩)
    (Inv := fun i => r.first ≤ i.1 ∧ i.1 ≤ r.last + 1 ∧ (∀ g, g ∈ i.2.1 ↔ g ∈ c1 ∨ ((r.how = 2 ∨ r.how = 4) ∧ ∃ m, r.first ≤ m ∧ m < i.1 ∧ (specA d k ⟨r.frm, m⟩).con g)) ∧ (∀ g, g ∈ i.2.2 ↔ g ∈ r1 ∨ (r.how = 3 ∧ ∃ m, r.first ≤ m ∧ m < i.1 ∧ (specA d k ⟨r.frm, m⟩).con g)))
    (μ := fun i => (r.last + 1 - i.1).toNat) (r.first, c1, r1) ⟨by simp, by simp; omega, fun g => ?_, fun g => ?_⟩ ?_ ?_
   ·simp only [iff_self_or, and_imp]; rintro _ ⟨m, h1, h2, _⟩; omega
   ·simp only [iff_self_or, and_imp]; rintro _ ⟨m, h1, h2, _⟩; omega
   ·(refine Ent_sub (fun i => i) rfl ?_ ⟨?_, ?_, ?_, keepI hx (by simp [domOf, Ab.get])⟩ <;> first | (simp only [kE, dArr, ↓reduceIte, Nat.reduceEqDiff, reduceCtorEq, fileOf]; done) | simp [renAV_id, renAO_id, flat_up, Ab.get, clAV, clC, clCs, clAO, cl_f1, cl_s1, cl_f2, cl_s2, cl_a1, domOf, List.flatten, fileOf])
   rintro ⟨m, c2, r2⟩ ⟨m1, m2, hc2, hr2⟩
   simp only at m1 m2 hc2 hr2 ⊢
   try refine v26R2 ?_
   refine ifA ?_ ?_
   ·intro hml
    have hml' : m ≤ r.last := by simpa using hml
    have hnA := hA.con ⟨r.frm, m⟩
    refine nvA ?_
    refine TO_go (wr := false) 400 (by simp only [kB, kG, kS, kM, k26, Nat.reduceAdd, Nat.reduceLT, Nat.reduceEqDiff, ↓reduceIte, reduceCtorEq, look_SV]; first | done | rfl) ?_ ?_
    ·exact obT (ty_SV A)
    generalize alook A ⟨r.frm, m⟩ = o3 at hnA ⊢
    try refine v26R2 ?_
    refine T_join ⟨164, envR d k j n2 ++ [(14, I .i64 m), (15, .c (.d (dSet kF (o3.map SV.con)))), (119, I .i64 r.how), (120, B (decide (r.how = 2) || decide (r.how = 4)))], stR d A v o r og2 c2 r2⟩ ?_ ?_
    ·refine ifA ?_ ?_
     ·intro h
      rw [h, Bool.true_or]
      refine nvA ?_
      refine ⟨rfl, ?_⟩
      (refine Ent_sub (fun i => i) rfl ?_ ⟨?_, ?_, ?_, keepI hx (by simp [domOf, Ab.get])⟩ <;> first | (simp only [kE, dArr, ↓reduceIte, Nat.reduceEqDiff, reduceCtorEq, fileOf]; done) | simp [renAV_id, renAO_id, flat_up, Ab.get, clAV, clC, clCs, clAO, cl_f1, cl_s1, cl_f2, cl_s2, cl_a1, domOf, List.flatten, fileOf])
     ·intro h
      rw [h, Bool.false_or]
      try refine v26R2 ?_
      refine ⟨rfl, ?_⟩
      (refine Ent_sub (fun i => i) rfl ?_ ⟨?_, ?_, ?_, keepI hx (by simp [domOf, Ab.get])⟩ <;> first | (simp only [kE, dArr, ↓reduceIte, Nat.reduceEqDiff, reduceCtorEq, fileOf]; done) | simp [renAV_id, renAO_id, flat_up, Ab.get, clAV, clC, clCs, clAO, cl_f1, cl_s1, cl_f2, cl_s2, cl_a1, domOf, List.flatten, fileOf])
    refine nvA ?_
    refine T_joinE (ι := List Fil × List Fil) (fun i => ⟨164, envR d k j n2 ++ [(14, I .i64 m)], stR d A v o r og2 i.1 i.2⟩)
     (fun i => (∀ g, g ∈ i.1 ↔ g ∈ c2 ∨ ((r.how = 2 ∨ r.how = 4) ∧ (specA d k ⟨r.frm, m⟩).con g)) ∧ (∀ g, g ∈ i.2 ↔ g ∈ r2 ∨ (r.how = 3 ∧ (specA d k ⟨r.frm, m⟩).con g))) ?_ ?_
    ·refine ifA ?_ ?_
     ·intro h
      have h' : r.how = 2 ∨ r.how = 4 := by simpa using h
      have h3 : ¬ r.how = 3 := by omega
      try refine v26R2 ?_
      refine caA ([(33, uMap kF c2)]) (add_ac 33 (by decide) (by decide) c2 (o3.map SV.con)) ?_
      rintro rv9 st' ⟨c3, hc3, rfl⟩ <;> refine frA ?_
      refine nvA ?_
      refine ⟨rfl, (c3, r2), ⟨fun g => ?_, fun g => by simp [h3]⟩, ?_⟩
      ·rw [hc3 g, hnA g]; simp [h']
      ·(refine Ent_sub (fun i => i) rfl ?_ ⟨?_, ?_, ?_, keepI hx (by simp [domOf, Ab.get])⟩ <;> first | (simp only [kE, dArr, ↓reduceIte, Nat.reduceEqDiff, reduceCtorEq, fileOf]; done) | simp [renAV_id, renAO_id, flat_up, Ab.get, clAV, clC, clCs, clAO, cl_f1, cl_s1, cl_f2, cl_s2, cl_a1, domOf, List.flatten, fileOf])
     ·intro h
      have h' : ¬ (r.how = 2 ∨ r.how = 4) := by simpa using h
      try refine v26R2 ?_
      refine ifA ?_ ?_
      ·intro h2
       have h3 : r.how = 3 := by simpa using h2
       try refine v26R2 ?_
       refine caA ([(35, uMap kF r2)]) (add_ac 35 (by decide) (by decide) r2 (o3.map SV.con)) ?_
       rintro rv9 st' ⟨r3, hr3, rfl⟩ <;> refine frA ?_
       refine nvA ?_
       refine ⟨rfl, (c2, r3), ⟨fun g => by simp [h'], fun g => ?_⟩, ?_⟩
       ·rw [hr3 g, hnA g]; simp [h3]
       ·(refine Ent_sub (fun i => i) rfl ?_ ⟨?_, ?_, ?_, keepI hx (by simp [domOf, Ab.get])⟩ <;> first | (simp only [kE, dArr, ↓reduceIte, Nat.reduceEqDiff, reduceCtorEq, fileOf]; done) | simp [renAV_id, renAO_id, flat_up, Ab.get, clAV, clC, clCs, clAO, cl_f1, cl_s1, cl_f2, cl_s2, cl_a1, domOf, List.flatten, fileOf])
      ·intro h2
       have h3 : ¬ r.how = 3 := by simpa using h2
       refine nvA ?_
       refine ⟨rfl, (c2, r2), ⟨fun g => by simp [h'], fun g => by simp [h3]⟩, ?_⟩
       (refine Ent_sub (fun i => i) rfl ?_ ⟨?_, ?_, ?_, keepI hx (by simp [domOf, Ab.get])⟩ <;> first | (simp only [kE, dArr, ↓reduceIte, Nat.reduceEqDiff, reduceCtorEq, fileOf]; done) | simp [renAV_id, renAO_id, flat_up, Ab.get, clAV, clC, clCs, clAO, cl_f1, cl_s1, cl_f2, cl_s2, cl_a1, domOf, List.flatten, fileOf])
    rintro ⟨c3, r3⟩ ⟨hc3, hr3⟩
    simp only at hc3 hr3 ⊢
    try refine v26R2 ?_
    refine ⟨(m + 1, c3, r3), ⟨by simp; omega, by simp; omega, fun g => ?_, fun g => ?_⟩, by simp; omega, ?_⟩
    ·simp only [hc3 g, hc2 g]; exact step_in (by omega)
    ·simp only [hr3 g, hr2 g]; exact step_in (by omega)
    ·(refine Ent_sub (fun i => i) rfl ?_ ⟨?_, ?_, ?_, keepI hx (by simp [domOf, Ab.get])⟩ <;> first | (simp only [kE, dArr, ↓reduceIte, Nat.reduceEqDiff, reduceCtorEq, fileOf]; done) | simp [renAV_id, renAO_id, flat_up, Ab.get, clAV, clC, clCs, clAO, cl_f1, cl_s1, cl_f2, cl_s2, cl_a1, domOf, List.flatten, fileOf])
   intro hml
   have hml' : ¬ m ≤ r.last := by simpa using hml
   have hm3 : m = r.last + 1 := by omega
   subst hm3
   try refine v26R2 ?_
   refine ⟨(j + 1, og2, n2, c2, r2), ⟨hlt2', ?_⟩, by simp; omega, ?_⟩
   ·simp only [htk2, List.filter_append]
    have : List.filter (fun r => decide ((⟨r.to, r.num⟩ : Fil) = fileOf v)) [r] = [r] := by simp [hyes']
    rw [this, ← hog2, ← hn2, ← hog1]
    exact hR.step r ⟨q4, q5⟩ hc1 hc2 hr2
   ·(refine Ent_sub (fun i => i) rfl ?_ ⟨?_, ?_, ?_, keepI hx (by simp [domOf, Ab.get])⟩ <;> first | (simp only [kE, dArr, ↓reduceIte, Nat.reduceEqDiff, reduceCtorEq, fileOf]; done) | simp [renAV_id, renAO_id, flat_up, Ab.get, clAV, clC, clCs, clAO, cl_f1, cl_s1, cl_f2, cl_s2, cl_a1, domOf, List.flatten, fileOf])
  intro hge2
  have hge2' : j = d.recs.length := by have : ¬ j < d.recs.length := by simpa using hge2
                                       omega
  rw [hge2', List.take_length] at hR
  change RecInv (specA d k) (befF v) (intoR d (fileOf v)) og n c r1 at hR
  clear hnb hn0 hfl
  try refine v26R2 ?_
  refine T_joinE (ι := List Fil) (fun c4 => ⟨164, [(1, .c (.ptr 1 0)), (3, .c (.mp 17)), (6, .c (.ptr 6 0)), (7, .c (.ptr 7 0)), (9, .c (.ptr 9 0)), (19, aRevs d.revs), (20, I .i64 d.revs.length), (21, I .i64 k)],
    [(1, .box ((encDep d).map C.d)), (17, .map ((mEnt kF vSV A).map upE)), (6, .box ((encFil (fileOf v)).map C.d)), (33, uMap kF c4), (34, uMap kF []), (35, uMap kF r1), (7, .box [.d (.v (.bool og)), .mp 33, .mp 34, .mp 35]), (9, bef9 o)]⟩)
   (fun c4 => ∀ g, g ∈ c4 ↔ carS (intoR d (fileOf v)) (specA d k) (befF v) (fileOf v) g) ?_ ?_
  ·refine ifA ?_ ?_
   ·intro h
    refine nvA ?_
    refine TO_go (wr := false) 400 (by simp only [kB, kG, kS, kM, k26, Nat.reduceAdd, Nat.reduceLT, Nat.reduceEqDiff, ↓reduceIte, reduceCtorEq, ins_F]; first | done | rfl) ?_ ?_
    ·exact obT (ty_F c)
    refine nvA ?_
    refine ⟨rfl, addS c (fileOf v), fun g => ?_, ?_⟩
    ·rw [mem_addS, hR.car g, carS]; simp only [(hR.og.1 h), true_and, or_assoc]
    ·(refine Ent_sub (fun i => i) rfl ?_ ⟨?_, ?_, ?_, keepI hx (by simp [domOf, Ab.get])⟩ <;> first | (simp only [kE, dArr, ↓reduceIte, Nat.reduceEqDiff, reduceCtorEq, fileOf]; done) | simp [renAV_id, renAO_id, flat_up, Ab.get, clAV, clC, clCs, clAO, cl_f1, cl_s1, cl_f2, cl_s2, cl_a1, domOf, List.flatten, fileOf])
   ·intro h
    refine nvA ?_
    refine ⟨rfl, c, fun g => ?_, ?_⟩
    ·have : ¬ (intoR d (fileOf v) = [] ∨ ∃ r ∈ intoR d (fileOf v), r.how = 4) := fun hh => by rw [hR.og.2 hh] at h; cases h
     rw [hR.car g, carS]; simp only [this, false_and, or_false]
    ·(refine Ent_sub (fun i => i) rfl ?_ ⟨?_, ?_, ?_, keepI hx (by simp [domOf, Ab.get])⟩ <;> first | (simp only [kE, dArr, ↓reduceIte, Nat.reduceEqDiff, reduceCtorEq, fileOf]; done) | simp [renAV_id, renAO_id, flat_up, Ab.get, clAV, clC, clCs, clAO, cl_f1, cl_s1, cl_f2, cl_s2, cl_a1, domOf, List.flatten, fileOf])
  intro c4 hc4
  refine nvA ?_
  refine TO_ent (Ent_frzMapCell (bid := 7) (id := 33) (j := 1) (es := sEnt kF c4) (by decide) rfl rfl rfl) ?_
  refine fzA ?_
  try refine v26R2 ?_
  refine caA ([(35, uMap kF r1)]) (add_ac 35 (by decide) (by decide) r1 (some c4)) ?_
  rintro rv9 st' ⟨r4, hr4, rfl⟩ <;> refine frA ?_
  cases o with
  | none =>
    try refine v26R2 ?_
    refine T_loop (ι := Option EntD × List Fil × List Fil) (I := fun i => ⟨164, [(1, .c (.ptr 1 0)), (3, .c (.mp 17)), (6, .c (.ptr 6 0)), (7, .c (.ptr 7 0)), (9, .c (.ptr 9 0)), (19, aRevs d.revs), (20, I .i64 d.revs.length), (21, I .i64 k), (146, .c (.ptr 146 0))],
     [(1, .box ((encDep d).map C.d)), (17, .map ((mEnt kF vSV A).map upE)), (6, .box ((encFil (fileOf v)).map C.d)), (34, uMap kF i.2.2), (35, uMap kF r4), (7, .box [.d (.v (.bool og)), .d (.pm (sEnt kF c4)), .mp 34, .mp 35]), (9, bef9 none), (146, .iter i.1 (sEnt kF i.2.1))]⟩)
     (Inv := fun i => ∀ g, (g ∈ i.2.2 ∨ g ∈ i.2.1 ∧ ¬ g ∈ Option.getD (Option.map SV.car none) []) ↔ (g ∈ c4 ∧ ¬ g ∈ Option.getD (Option.map SV.car none) [])) (μ := fun i => i.2.1.length) (none, c4, []) (by simp) ?_ ?_
    ·(refine Ent_sub (fun i => i) rfl ?_ ⟨?_, ?_, ?_, keepI hx (by simp [domOf, Ab.get])⟩ <;> first | (simp only [kE, dArr, ↓reduceIte, Nat.reduceEqDiff, reduceCtorEq, fileOf]; done) | simp [renAV_id, renAO_id, flat_up, Ab.get, clAV, clC, clCs, clAO, cl_f1, cl_s1, cl_f2, cl_s2, cl_a1, domOf, List.flatten, fileOf])
    rintro ⟨cur, rest, m4⟩ h4
    simp only at h4 ⊢
    refine nvA ?_
    refine TO_next (id := 146) (by simp) (by simp only [kV, ↓reduceIte, Nat.reduceEqDiff, reduceCtorEq]; first | done | rfl) rfl ?_ ?_
    ·intro h0
     have : rest = [] := by simpa [sEnt] using h0
     subst this
     refine fzA ?_
     try refine v26R2 ?_
     refine ifA ?_ ?_
     ·intro hh; cases hh
     intro _
     refine nvA ?_
     refine TO_ent (Ent_frzMapCell (bid := 7) (id := 34) (j := 2) (es := sEnt kF m4) (by decide) rfl rfl rfl) ?_
     refine fzA ?_
     refine TO_ent (Ent_frzMapCell (bid := 7) (id := 35) (j := 3) (es := sEnt kF r4) (by decide) rfl rfl rfl) ?_
     refine fzA ?_
     refine TO_go (wr := false) 400 (by simp only [kB, kG, kS, kM, k26, Nat.reduceAdd, Nat.reduceLT, Nat.reduceEqDiff, ↓reduceIte, reduceCtorEq, ins_SV]; first | done | rfl) ?_ ?_
     ·exact obT (ty_SV A)
     try refine v26R2 ?_
     refine ⟨(k + 1, aput A (fileOf v) ⟨og, c4, m4, r4⟩), ⟨hlt', hA.step hv h5' ⟨og, c4, m4, r4⟩ hc4 (fun g => ?_) (fun g => ?_), hD.memb hv _⟩, by simp; omega, ?_⟩
     ·simp only; rw [ho g, ← h4 g]; simp
     ·simp only; rw [hr4 g, hR.cre g]; rfl
     ·(refine Ent_sub (fun i => i) rfl ?_ ⟨?_, ?_, ?_, keepI hx (by simp [domOf, Ab.get])⟩ <;> first | (simp only [kE, dArr, ↓reduceIte, Nat.reduceEqDiff, reduceCtorEq, fileOf]; done) | simp [renAV_id, renAO_id, flat_up, Ab.get, clAV, clC, clCs, clAO, cl_f1, cl_s1, cl_f2, cl_s2, cl_a1, domOf, List.flatten, fileOf])
    intro l1 e l2 hsp
    obtain ⟨xs, g4, ys, rfl, rfl, rfl, rfl⟩ := sEnt_split hsp
    refine fzA ?_
    (repeat (first | refine nvB ?_ | refine goA (wr := false) (by simp only [kB, kG, kS, kM, k26, Nat.reduceAdd, Nat.reduceLT, Nat.reduceEqDiff, ↓reduceIte, reduceCtorEq, upD]; first | done | rfl) ?_))
    refine ifA ?_ ?_
    rotate_left
    ·intro hh; cases hh
    intro _
    (repeat (first | refine nvB ?_ | refine goA (wr := false) (by simp only [kB, kG, kS, kM, k26, Nat.reduceAdd, Nat.reduceLT, Nat.reduceEqDiff, ↓reduceIte, reduceCtorEq, upD]; first | done | rfl) ?_))
    refine TO_go (wr := false) 400 (by simp only [kB, kG, kS, kM, k26, Nat.reduceAdd, Nat.reduceLT, Nat.reduceEqDiff, ↓reduceIte, reduceCtorEq, look0, Option.map_none]; first | done | rfl) ?_ ?_
    ·simp only [All, List.cons_append, List.nil_append, InR, List.mem_cons, List.not_mem_nil, or_false, forall_eq_or_imp, forall_eq, clAV, clCs, clC, clCaps, clCap, and_true, true_and, implies_true, List.length_map, List.length_cons, List.length_nil, dArr, cl_arr, tyCs]
     repeat' (first | exact trivial | exact by simp | refine And.intro ?_ ?_ | intro _ | assumption | rfl | omega | (rw [Bool.not_eq_true']; assumption) | (simp; done) | (simp only [decide_eq_true_eq] at *; omega) | (simp_all; done))
    refine nvA ?_
    refine ifA ?_ ?_
    ·intro _
     have hk' : ¬ g4 ∈ Option.getD (Option.map SV.car none) [] := by simp
     try refine v26R2 ?_
     refine TO_go (wr := false) 400 (by simp only [kB, kG, kS, kM, k26, Nat.reduceAdd, Nat.reduceLT, Nat.reduceEqDiff, ↓reduceIte, reduceCtorEq, ins_F]; first | done | rfl) ?_ ?_
     ·exact obT (ty_F m4)
     try refine v26R2 ?_
     refine ⟨(some (kF g4, (false, [.v (.bool true)])), xs ++ ys, addS m4 g4), ?_, by simp, ?_⟩
     ·intro i
      rw [← h4 i, mem_addS]
      simp only [List.mem_append, List.mem_cons]
      constructor
      ·rintro ((h | rfl) | ⟨h | h, g⟩)
       ·exact .inl h
       ·exact .inr ⟨.inr (.inl rfl), hk'⟩
       ·exact .inr ⟨.inl h, g⟩
       ·exact .inr ⟨.inr (.inr h), g⟩
      ·rintro (h | ⟨h | h | h, g⟩)
       ·exact .inl (.inl h)
       ·exact .inr ⟨.inl h, g⟩
       ·exact .inl (.inr h)
       ·exact .inr ⟨.inr h, g⟩
     ·(refine Ent_sub (fun i => i) rfl ?_ ⟨?_, ?_, ?_, keepI hx (by simp [domOf, Ab.get])⟩ <;> first | (simp only [kE, dArr, ↓reduceIte, Nat.reduceEqDiff, reduceCtorEq, fileOf]; done) | simp [renAV_id, renAO_id, flat_up, Ab.get, clAV, clC, clCs, clAO, cl_f1, cl_s1, cl_f2, cl_s2, cl_a1, domOf, List.flatten, fileOf])
    ·intro hh; cases hh
  | some x0 =>
    try refine v26R2 ?_
    refine T_loop (ι := Option EntD × List Fil × List Fil) (I := fun i => ⟨164, [(1, .c (.ptr 1 0)), (3, .c (.mp 17)), (6, .c (.ptr 6 0)), (7, .c (.ptr 7 0)), (9, .c (.ptr 9 0)), (19, aRevs d.revs), (20, I .i64 d.revs.length), (21, I .i64 k), (146, .c (.ptr 146 0))],
     [(1, .box ((encDep d).map C.d)), (17, .map ((mEnt kF vSV A).map upE)), (6, .box ((encFil (fileOf v)).map C.d)), (34, uMap kF i.2.2), (35, uMap kF r4), (7, .box [.d (.v (.bool og)), .d (.pm (sEnt kF c4)), .mp 34, .mp 35]), (9, bef9 (some x0)), (146, .iter i.1 (sEnt kF i.2.1))]⟩)
     (Inv := fun i => ∀ g, (g ∈ i.2.2 ∨ g ∈ i.2.1 ∧ ¬ g ∈ Option.getD (Option.map SV.car (some x0)) []) ↔ (g ∈ c4 ∧ ¬ g ∈ Option.getD (Option.map SV.car (some x0)) [])) (μ := fun i => i.2.1.length) (none, c4, []) (by simp) ?_ ?_
    ·(refine Ent_sub (fun i => i) rfl ?_ ⟨?_, ?_, ?_, keepI hx (by simp [domOf, Ab.get])⟩ <;> first | (simp only [kE, dArr, ↓reduceIte, Nat.reduceEqDiff, reduceCtorEq, fileOf]; done) | simp [renAV_id, renAO_id, flat_up, Ab.get, clAV, clC, clCs, clAO, cl_f1, cl_s1, cl_f2, cl_s2, cl_a1, domOf, List.flatten, fileOf])
    rintro ⟨cur, rest, m4⟩ h4
    simp only at h4 ⊢
    refine nvA ?_
    refine TO_next (id := 146) (by simp) (by simp only [kV, ↓reduceIte, Nat.reduceEqDiff, reduceCtorEq]; first | done | rfl) rfl ?_ ?_
    ·intro h0
     have : rest = [] := by simpa [sEnt] using h0
     subst this
     refine fzA ?_
     try refine v26R2 ?_
     refine ifA ?_ ?_
     ·intro hh; cases hh
     intro _
     refine nvA ?_
     refine TO_ent (Ent_frzMapCell (bid := 7) (id := 34) (j := 2) (es := sEnt kF m4) (by decide) rfl rfl rfl) ?_
     refine fzA ?_
     refine TO_ent (Ent_frzMapCell (bid := 7) (id := 35) (j := 3) (es := sEnt kF r4) (by decide) rfl rfl rfl) ?_
     refine fzA ?_
     refine TO_go (wr := false) 400 (by simp only [kB, kG, kS, kM, k26, Nat.reduceAdd, Nat.reduceLT, Nat.reduceEqDiff, ↓reduceIte, reduceCtorEq, ins_SV]; first | done | rfl) ?_ ?_
     ·exact obT (ty_SV A)
     try refine v26R2 ?_
     refine ⟨(k + 1, aput A (fileOf v) ⟨og, c4, m4, r4⟩), ⟨hlt', hA.step hv h5' ⟨og, c4, m4, r4⟩ hc4 (fun g => ?_) (fun g => ?_), hD.memb hv _⟩, by simp; omega, ?_⟩
     ·simp only; rw [ho g, ← h4 g]; simp
     ·simp only; rw [hr4 g, hR.cre g]; rfl
     ·(refine Ent_sub (fun i => i) rfl ?_ ⟨?_, ?_, ?_, keepI hx (by simp [domOf, Ab.get])⟩ <;> first | (simp only [kE, dArr, ↓reduceIte, Nat.reduceEqDiff, reduceCtorEq, fileOf]; done) | simp [renAV_id, renAO_id, flat_up, Ab.get, clAV, clC, clCs, clAO, cl_f1, cl_s1, cl_f2, cl_s2, cl_a1, domOf, List.flatten, fileOf])
    intro l1 e l2 hsp
    obtain ⟨xs, g4, ys, rfl, rfl, rfl, rfl⟩ := sEnt_split hsp
    refine fzA ?_
    (repeat (first | refine nvB ?_ | refine goA (wr := false) (by simp only [kB, kG, kS, kM, k26, Nat.reduceAdd, Nat.reduceLT, Nat.reduceEqDiff, ↓reduceIte, reduceCtorEq, upD]; first | done | rfl) ?_))
    refine ifA ?_ ?_
    rotate_left
    ·intro hh; cases hh
    intro _
    (repeat (first | refine nvB ?_ | refine goA (wr := false) (by simp only [kB, kG, kS, kM, k26, Nat.reduceAdd, Nat.reduceLT, Nat.reduceEqDiff, ↓reduceIte, reduceCtorEq, upD]; first | done | rfl) ?_))
    refine TO_go (wr := false) 400 (by simp only [kB, kG, kS, kM, k26, Nat.reduceAdd, Nat.reduceLT, Nat.reduceEqDiff, ↓reduceIte, reduceCtorEq, look_F]; first | done | rfl) ?_ ?_
    ·exact obT (ty_F x0.car)
    refine nvA ?_
    refine ifA ?_ ?_
    ·intro hk
     have hk' : ¬ g4 ∈ Option.getD (Option.map SV.car (some x0)) [] := by simpa using hk
     try refine v26R2 ?_
     refine TO_go (wr := false) 400 (by simp only [kB, kG, kS, kM, k26, Nat.reduceAdd, Nat.reduceLT, Nat.reduceEqDiff, ↓reduceIte, reduceCtorEq, ins_F]; first | done | rfl) ?_ ?_
     ·exact obT (ty_F m4)
     try refine v26R2 ?_
     refine ⟨(some (kF g4, (false, [.v (.bool true)])), xs ++ ys, addS m4 g4), ?_, by simp, ?_⟩
     ·intro i
      rw [← h4 i, mem_addS]
      simp only [List.mem_append, List.mem_cons]
      constructor
      ·rintro ((h | rfl) | ⟨h | h, g⟩)
       ·exact .inl h
       ·exact .inr ⟨.inr (.inl rfl), hk'⟩
       ·exact .inr ⟨.inl h, g⟩
       ·exact .inr ⟨.inr (.inr h), g⟩
      ·rintro (h | ⟨h | h | h, g⟩)
       ·exact .inl (.inl h)
       ·exact .inr ⟨.inl h, g⟩
       ·exact .inl (.inr h)
       ·exact .inr ⟨.inr h, g⟩
     ·(refine Ent_sub (fun i => i) rfl ?_ ⟨?_, ?_, ?_, keepI hx (by simp [domOf, Ab.get])⟩ <;> first | (simp only [kE, dArr, ↓reduceIte, Nat.reduceEqDiff, reduceCtorEq, fileOf]; done) | simp [renAV_id, renAO_id, flat_up, Ab.get, clAV, clC, clCs, clAO, cl_f1, cl_s1, cl_f2, cl_s2, cl_a1, domOf, List.flatten, fileOf])
    ·intro hk
     have hk' : g4 ∈ Option.getD (Option.map SV.car (some x0)) [] := by simpa using hk
     try refine v26R2 ?_
     refine ⟨(some (kF g4, (false, [.v (.bool true)])), xs ++ ys, m4), ?_, by simp, ?_⟩
     ·intro i
      rw [← h4 i]
      simp only [List.mem_append, List.mem_cons]
      constructor
      ·rintro (h | ⟨h | h, g⟩)
       ·exact .inl h
       ·exact .inr ⟨.inl h, g⟩
       ·exact .inr ⟨.inr (.inr h), g⟩
      ·rintro (h | ⟨h | rfl | h, g⟩)
       ·exact .inl h
       ·exact .inr ⟨.inl h, g⟩
       ·exact absurd hk' g
       ·exact .inr ⟨.inr h, g⟩
     ·(refine Ent_sub (fun i => i) rfl ?_ ⟨?_, ?_, ?_, keepI hx (by simp [domOf, Ab.get])⟩ <;> first | (simp only [kE, dArr, ↓reduceIte, Nat.reduceEqDiff, reduceCtorEq, fileOf]; done) | simp [renAV_id, renAO_id, flat_up, Ab.get, clAV, clC, clCs, clAO, cl_f1, cl_s1, cl_f2, cl_s2, cl_a1, domOf, List.flatten, fileOf])
 intro hge
 have hge' : k = d.revs.length := by have : ¬ k < d.revs.length := by simpa using hge
                                     omega
 rw [hge'] at hA hD
 refine nvA ?_
 refine TO_ent (Ent_frzMapSlot (i := 3) (id := 17) (es := mEnt kF vSV A) rfl rfl) ?_
 refine fzA ?_
 try refine v26R2 ?_
 refine rtA (by simp only [kR, Tryz.results26, ↓reduceIte, Nat.reduceEqDiff, reduceCtorEq]; first | done | rfl) ([]) ?_
 refine ⟨?_, rfl⟩
 exact ⟨A, hA, hD, rfl⟩
end Go.Proofs.YtmhboloicpieeaaGreatDoor

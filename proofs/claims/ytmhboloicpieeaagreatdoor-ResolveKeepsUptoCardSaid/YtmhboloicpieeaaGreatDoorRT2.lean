/- A part of the proof. -/
import Derived.Test.YtmhboloicpieeaaGreatDoorRPD
import Derived.Test.YtmhboloicpieeaaGreatDoorRU11
import Derived.Test.YtmhboloicpieeaaGreatDoorRP14
import Derived.Test.YtmhboloicpieeaaGreatDoorRS4
set_option linter.all false
namespace Go.Proofs.YtmhboloicpieeaaGreatDoor
open Go.Ab Tys
variable [Dr]
def k29 := And.intro @Tryz.ntmps29 <| And.intro @bld30 <| And.intro @bld37 <| And.intro @bld46 <| And.intro @fld37_0 <| And.intro @fld37_1 <| And.intro @fld46_0 <| And.intro @fld46_1 <| And.intro @fld46_2 <| And.intro @ti3 <| And.intro @ti30 <| And.intro @ti37 <| And.intro @ti46 <| @ti9
theorem v29F4 {G G' : Prop} (g : G') (h : Hid G' → G := by intro h9; (first | refine nvB ?_ | refine goA (wr := false) (by simp only [kB, kG, kS, k29, Nat.reduceAdd, Nat.reduceLT, Nat.reduceEqDiff, ↓reduceIte, reduceCtorEq]; first | done | rfl) ?_); (repeat (first | refine nvB ?_ | refine goA (wr := false) (by simp only [kB, kG, kS, k29, Nat.reduceAdd, Nat.reduceLT, Nat.reduceEqDiff, ↓reduceIte, reduceCtorEq]; first | done | rfl) ?_)); exact h9.out) : G := h ⟨g⟩
set_option maxRecDepth 100000 in
set_option maxHeartbeats 4000000 in
theorem first_ac (d : Dep) (v : Rev) (hd : d.revs.length ≤ 1000000) : AC Tryz.prog 29 [aDep d, aRev v] [] (fun r st => r = aFil (first d v) ∧ st = []) := by
  refine AC_enter Tryz.func29 rfl rfl (by simp only [Tryz.ntmps29, List.length]; omega) ?_
  intro x hx
  simp only [List.range, List.range.loop, List.length, List.zip, List.zipWith, Nat.reduceAdd, Tryz.ntmps29]
  try refine v29F4 ?_
  refine T_loop (ι := Rev) (I := fun u => ⟨28, [(2, .c (.ptr 2 0)), (3, .c (.ptr 3 0)), (4, .c (.ptr 4 0))], [(2, .box ((encDep d).map C.d)), (3, .box ((encRev u).map C.d)), (4, .box ((encFil zFil).map C.d))]⟩)
    (Inv := fun u => first d u = first d v) (μ := fun u => cnt d u.chg) v rfl ?_ ?_
  · (refine Ent_sub (fun i => i) rfl ?_ ⟨?_, ?_, ?_, keepI hx (by simp [domOf, Ab.get])⟩ <;> first | (simp only [kE, dArr, ↓reduceIte, Nat.reduceEqDiff, reduceCtorEq, zFil]; done) | simp [renAV_id, renAO_id, flat_up, Ab.get, clAV, clC, clCs, clAO, cl_f1, cl_s1, cl_f2, cl_s2, cl_a1, domOf, List.flatten, zFil])
  · intro u hu
    refine nvA ?_
    refine goA (wr := false) (by simp only [kB, kG, kS, k29, Nat.reduceAdd, Nat.reduceLT, Nat.reduceEqDiff, ↓reduceIte, reduceCtorEq]; first | done | rfl) ?_
    refine TO_call [] (by simp) (by simp only [evAll, kB, kG, kS, k29, Nat.reduceAdd, Nat.reduceLT, Nat.reduceEqDiff, ↓reduceIte, reduceCtorEq]; first | done | rfl) ⟨by simp, by simp, by simp [clAV, clC, clCs, clCaps, clCap]⟩ (prev_ac d u hd) ?_
    rintro r st' ⟨rfl, rfl⟩
    refine ⟨by simp [Fresh], ?_⟩
    simp only [kP, Nat.reduceEqDiff, ↓reduceIte, reduceCtorEq]
    cases hp : prev? d u with
    | none =>
      refine goA (wr := false) (by simp only [kB, kG, kS, k29, Nat.reduceAdd, Nat.reduceLT, Nat.reduceEqDiff, ↓reduceIte, reduceCtorEq, Option.isSome]; first | done | rfl) ?_
      try refine v29F4 ?_
      refine ifA ?_ ?_
      · intro _
        try refine v29F4 ?_
        refine rtA (by simp only [kR, Tryz.results29, ↓reduceIte, Nat.reduceEqDiff, reduceCtorEq, effLoad, cellsOf, List.map, List.length_cons, List.length_nil, List.getD_cons_zero, List.getD_cons_succ, List.getD_nil, List.drop, List.take, splice, ti37]; first | done | rfl) ([]) ?_
        refine ⟨?_, rfl⟩
        rw [← hu, first_none hp]; simp [fileOf]
      · intro h; simp at h
    | some u' =>
      refine goA (wr := false) (by simp only [kB, kG, kS, k29, Nat.reduceAdd, Nat.reduceLT, Nat.reduceEqDiff, ↓reduceIte, reduceCtorEq, Option.isSome]; first | done | rfl) ?_
      try refine v29F4 ?_
      refine ifA ?_ ?_
      · intro h
        have hc : u.chg ≤ u'.chg := by simpa using h
        try refine v29F4 ?_
        refine rtA (by simp only [kR, Tryz.results29, ↓reduceIte, Nat.reduceEqDiff, reduceCtorEq, effLoad, cellsOf, List.map, List.length_cons, List.length_nil, List.getD_cons_zero, List.getD_cons_succ, List.getD_nil, List.drop, List.take, splice, ti37]; first | done | rfl) ([]) ?_
        refine ⟨?_, rfl⟩
        rw [← hu, first_old hp hc]; simp [fileOf]
      · intro h
        have hc : u'.chg < u.chg := by simpa using h
        try refine v29F4 ?_
        refine ⟨u', ?_, cnt_lt (prev?_mem hp) hc, ?_⟩
        · rw [← hu, first_step hp hc]
        · (refine Ent_sub (fun i => i) rfl ?_ ⟨?_, ?_, ?_, keepI hx (by simp [domOf, Ab.get])⟩ <;> first | (simp only [kE, dArr, ↓reduceIte, Nat.reduceEqDiff, reduceCtorEq, zFil]; done) | simp [renAV_id, renAO_id, flat_up, Ab.get, clAV, clC, clCs, clAO, cl_f1, cl_s1, cl_f2, cl_s2, cl_a1, domOf, List.flatten, zFil])
end Go.Proofs.YtmhboloicpieeaaGreatDoor
namespace Go.Proofs.YtmhboloicpieeaaGreatDoor
open Go.Ab Tys
variable [Dr]
def k73 := And.intro @Tryz.ntmps73 <| And.intro @bld30 <| And.intro @bld46 <| And.intro @fld46_3 <| And.intro @ti3 <| And.intro @ti30 <| @ti46
theorem v73R1 {G G' : Prop} (g : G') (h : Hid G' → G := by intro h9; (first | refine nvB ?_ | refine goA (wr := false) (by simp only [kB, kG, kS, k73, Nat.reduceAdd, Nat.reduceLT, Nat.reduceEqDiff, ↓reduceIte, reduceCtorEq]; first | done | rfl) ?_); (repeat (first | refine nvB ?_ | refine goA (wr := false) (by simp only [kB, kG, kS, k73, Nat.reduceAdd, Nat.reduceLT, Nat.reduceEqDiff, ↓reduceIte, reduceCtorEq]; first | done | rfl) ?_)); exact h9.out) : G := h ⟨g⟩
set_option maxRecDepth 100000 in
set_option maxHeartbeats 4000000 in
theorem Member_ac (d : Dep) (p : ByteArray) (n : Int) (hd : d.revs.length ≤ 1000000) : AC Tryz.prog 73 [aDep d, Str p, I .i64 n] [] (fun r st => r = .tup [pRev ((member? d p n).getD zRev), pB (member? d p n).isSome] ∧ st = []) := by
  have hg := get_ac d p n hd
  cases eg : get? d p n with
  | none =>
    rw [eg] at hg
    simp only [pRev, pB, Option.isSome, Option.getD] at hg
    refine AC_enter Tryz.func73 rfl rfl (by simp only [Tryz.ntmps73, List.length]; omega) ?_
    intro x hx
    simp only [List.range, List.range.loop, List.length, List.zip, List.zipWith, Nat.reduceAdd, Tryz.ntmps73]
    (repeat (first | refine v73R1 ?_ | (refine caA [] (hg) ?_; rintro r st' ⟨rfl, rfl⟩; refine frA ?_)))
    refine ifA ?_ ?_
    · intro _
      try refine v73R1 ?_
      refine rtA (by simp only [kR, Tryz.results73, ↓reduceIte, Nat.reduceEqDiff, reduceCtorEq, effLoad, cellsOf, List.map, List.length_cons, List.length_nil, List.getD_cons_zero, List.getD_cons_succ, List.getD_nil, List.drop, List.take, splice, ti46]; first | done | rfl) ([]) ?_
      refine ⟨?_, rfl⟩
      simp [member?, eg, zRev]
    · intro h; simp at h
  | some v =>
    rw [eg] at hg
    simp only [pRev, pB, Option.isSome, Option.getD] at hg
    refine AC_enter Tryz.func73 rfl rfl (by simp only [Tryz.ntmps73, List.length]; omega) ?_
    intro x hx
    simp only [List.range, List.range.loop, List.length, List.zip, List.zipWith, Nat.reduceAdd, Tryz.ntmps73]
    (repeat (first | refine v73R1 ?_ | (refine caA [] (hg) ?_; rintro r st' ⟨rfl, rfl⟩; refine frA ?_)))
    refine ifA ?_ ?_
    · intro h
      have h' : v.act = 5 := by simpa using h
      try refine v73R1 ?_
      refine rtA (by simp only [kR, Tryz.results73, ↓reduceIte, Nat.reduceEqDiff, reduceCtorEq, effLoad, cellsOf, List.map, List.length_cons, List.length_nil, List.getD_cons_zero, List.getD_cons_succ, List.getD_nil, List.drop, List.take, splice, ti46]; first | done | rfl) ([]) ?_
      refine ⟨?_, rfl⟩
      simp [member?, eg, zRev, h']
    · intro h
      have h' : ¬ v.act = 5 := by simpa using h
      try refine v73R1 ?_
      refine rtA (by simp only [kR, Tryz.results73, ↓reduceIte, Nat.reduceEqDiff, reduceCtorEq, effLoad, cellsOf, List.map, List.length_cons, List.length_nil, List.getD_cons_zero, List.getD_cons_succ, List.getD_nil, List.drop, List.take, splice, ti46]; first | done | rfl) ([]) ?_
      refine ⟨?_, rfl⟩
      simp [member?, eg, h']
def k30 := And.intro @Tryz.ntmps30 <| And.intro @Tryz.underlying27 <| And.intro @bld30 <| And.intro @bld37 <| And.intro @bld46 <| And.intro @elt27 <| And.intro @eqt37 <| And.intro @fld30_0 <| And.intro @fld46_3 <| And.intro @ti27 <| And.intro @ti3 <| And.intro @ti30 <| And.intro @ti37 <| @ti46
theorem v30R1 {G G' : Prop} (g : G') (h : Hid G' → G := by intro h9; (first | refine nvB ?_ | refine goA (wr := false) (by simp only [kB, kG, kS, k30, Nat.reduceAdd, Nat.reduceLT, Nat.reduceEqDiff, ↓reduceIte, reduceCtorEq]; first | done | rfl) ?_); (repeat (first | refine nvB ?_ | refine goA (wr := false) (by simp only [kB, kG, kS, k30, Nat.reduceAdd, Nat.reduceLT, Nat.reduceEqDiff, ↓reduceIte, reduceCtorEq]; first | done | rfl) ?_)); exact h9.out) : G := h ⟨g⟩
set_option maxRecDepth 100000 in
set_option maxHeartbeats 4000000 in
theorem Line_ac (d : Dep) (f : Fil) (hd : d.revs.length ≤ 1000000) : AC Tryz.prog 30 [aDep d, aFil f] [] (fun r st => r = aRevs (line d f) ∧ st = []) := by
  refine AC_enter Tryz.func30 rfl rfl (by simp only [Tryz.ntmps30, List.length]; omega) ?_
  intro x hx
  simp only [List.range, List.range.loop, List.length, List.zip, List.zipWith, Nat.reduceAdd, Tryz.ntmps30]
  try refine v30R1 ?_
  refine T_ent (Ent_adopt (i := 5) (id := 100) (sz := 12) rfl rfl (by omega)) ?_
  refine fzA ?_
  refine T_loop (ι := Nat) (I := fun k => ⟨31, [(2, .c (.ptr 2 0)), (3, .c (.ptr 3 0)), (5, .c (.ms 100 12 0 ((d.revs.take k).filter (inLine d f)).length)), (9, aRevs d.revs), (10, I .i64 d.revs.length), (11, I .i64 k)],
      [(2, .box ((encDep d).map C.d)), (3, .box ((encFil f).map C.d)), (100, dArr 12 (((d.revs.take k).filter (inLine d f)).map encRev))]⟩)
    (Inv := fun k => k ≤ d.revs.length) (μ := fun k => d.revs.length - k) 0 (by omega) ?_ ?_
  · exact enA
  · intro k hk
    have hF := filter_take_le (inLine d f) d.revs k
    try refine v30R1 ?_
    refine ifA ?_ ?_
    · intro hlt
      have hlt' : k < d.revs.length := by simpa using hlt
      obtain ⟨v, hv, he, htk⟩ := round encRev d.revs k zRev hlt'
      (repeat (first | refine nvB ?_ | refine goA (wr := false) (by simp only [kB, kG, kS, k30, Nat.reduceAdd, Nat.reduceLT, Nat.reduceEqDiff, ↓reduceIte, reduceCtorEq, he]; first | done | rfl) ?_))
      refine drA (wr := false) ([(21, aFil (first d v))] : List (Nat × AV)) (by simp only [kD, kB, kG, kS, k30, Nat.reduceAdd, Nat.reduceLT, Nat.reduceEqDiff, ↓reduceIte, reduceCtorEq]; first | done | rfl) ?_ ?_
      · exact obT (first_ac d v hd)
      refine nvA ?_
      have hcond : (bif !decide (v.act = 5) then decide ((first d v).path = f.path) && decide ((first d v).num = f.num) else false) = inLine d f v := by
        simp only [inLine]
        generalize first d v = g
        cases g; cases f
        cases decide (v.act = 5) <;> simp [Bool.decide_and]
      refine ifA ?_ ?_
      · intro heq
        have heq' : inLine d f v = true := by rw [← hcond]; simpa using heq
        try refine v30R1 ?_
        refine ⟨k + 1, by omega, by omega, ?_⟩
        (refine Ent_sub (fun i => if i = 100 then 28 else i) rfl ?_ ⟨?_, ?_, ?_, keepR hx (by simp [domOf, Ab.get])⟩ <;> first | (intro i hi; have h0 := hx i hi; constructor <;> (revert h0; simp only [domOf, Ab.get]; (repeat' split) <;> simp_all); done) | (simp only [kE, dArr, ↓reduceIte, Nat.reduceEqDiff, reduceCtorEq]; done) | (simp only [dArr, ren_arr, ren_map, List.mem_cons, List.not_mem_nil, or_false, forall_eq_or_imp, forall_eq]; simp [renAV, renC, renAO, ren_up, flat_up, Ab.get, clAV, clC, clCs, clAO, cl_f1, cl_s1, cl_f2, cl_s2, cl_a1, domOf, List.flatten, htk, heq', List.filter_append]; done) | simp [renAV, renC, renAO, ren_up, flat_up, Ab.get, clAV, clC, clCs, clAO, cl_f1, cl_s1, cl_f2, cl_s2, cl_a1, domOf, List.flatten, htk, heq', List.filter_append])
      · intro hne
        have hne' : inLine d f v = false := by rw [← hcond]; simpa using hne
        try refine v30R1 ?_
        refine ⟨k + 1, by omega, by omega, ?_⟩
        (refine Ent_sub (fun i => i) rfl ?_ ⟨?_, ?_, ?_, keepI hx (by simp [domOf, Ab.get])⟩ <;> first | (simp only [kE, dArr, ↓reduceIte, Nat.reduceEqDiff, reduceCtorEq, htk, hne', List.filter_append]; done) | simp [renAV_id, renAO_id, flat_up, Ab.get, clAV, clC, clCs, clAO, cl_f1, cl_s1, cl_f2, cl_s2, cl_a1, domOf, List.flatten, htk, hne', List.filter_append])
    · intro hge
      have hge' : k = d.revs.length := by have : ¬ k < d.revs.length := by simpa using hge
                                          omega
      refine nvA ?_
      refine TO_ent (Ent_frzSlot (i := 5) (id := 100) (ys := ((d.revs.take k).filter (inLine d f)).map encRev) rfl rfl (by simp)) ?_
      refine fzA ?_
      try refine v30R1 ?_
      refine rtA (by simp only [kR, Tryz.results30, ↓reduceIte, Nat.reduceEqDiff, reduceCtorEq]; first | done | rfl) ([]) ?_
      refine ⟨?_, rfl⟩
      simp [line, hge']
end Go.Proofs.YtmhboloicpieeaaGreatDoor
namespace Go.Proofs.YtmhboloicpieeaaGreatDoor
open Go.Ab Tys
variable [Dr]
end Go.Proofs.YtmhboloicpieeaaGreatDoor

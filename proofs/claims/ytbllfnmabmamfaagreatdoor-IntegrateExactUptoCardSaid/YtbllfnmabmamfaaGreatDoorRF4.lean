/- A part of the proof. -/
import Derived.Test.YtbllfnmabmamfaaGreatDoorRBd2
import Derived.Test.YtbllfnmabmamfaaGreatDoorRH2
import Derived.Test.YtbllfnmabmamfaaGreatDoorQPD
set_option linter.all false
namespace Go.Proofs.YtbllfnmabmamfaaGreatDoor
open Go.Ab Tys
def k13 := And.intro @Tryz.ntmps13 <| And.intro @Tryz.underlying27 <| And.intro @bld30 <| And.intro @bld46 <| And.intro @elt27 <| And.intro @ti27 <| And.intro @ti30 <| @ti46
theorem v13F3 {G G' : Prop} (g : G') (h : Hid G' → G := by intro h9; (first | refine nvB ?_ | refine goA (wr := false) (by simp only [kB, kS, k13, Nat.reduceAdd, Nat.reduceLT, Nat.reduceEqDiff, ↓reduceIte, reduceCtorEq]; first | done | rfl) ?_); (repeat (first | refine nvB ?_ | refine goA (wr := false) (by simp only [kB, kS, k13, Nat.reduceAdd, Nat.reduceLT, Nat.reduceEqDiff, ↓reduceIte, reduceCtorEq]; first | done | rfl) ?_)); exact h9.out) : G := h ⟨g⟩
set_option maxRecDepth 100000 in
set_option maxHeartbeats 4000000 in
theorem last_ac (d : Dep) (p : ByteArray) (hd : d.revs.length ≤ 1000000) : AC Tryz.prog 13 [aDep d, Str p] [] (fun r st => r = .tup [pRev ((last? d p).getD zRev), pB (last? d p).isSome] ∧ st = []) := by
  have hL : (log d p).length ≤ d.revs.length := List.length_filter_le ..
  refine AC_enter Tryz.func13 rfl rfl (by simp only [Tryz.ntmps13, List.length]; omega) ?_
  intro x hx
  simp only [List.range, List.range.loop, List.length, List.zip, List.zipWith, Nat.reduceAdd, Tryz.ntmps13]
  (repeat (first | refine v13F3 ?_ | (refine caA [] (log_ac d p hd) ?_; rintro r st' ⟨rfl, rfl⟩; refine frA ?_)))
  refine ifA ?_ ?_
  · intro h
    have h' : log d p = [] := by simpa using h
    try refine v13F3 ?_
    refine rtA (by simp only [kR, Tryz.results13, ↓reduceIte, Nat.reduceEqDiff, reduceCtorEq, effLoad, cellsOf, List.map, List.length_cons, List.length_nil, List.getD_cons_zero, List.getD_cons_succ, List.getD_nil, List.drop, List.take, splice, ti46]; first | done | rfl) ([]) ?_
    refine ⟨?_, rfl⟩
    simp [last?, h', zRev]
  · intro h
    have h' : log d p ≠ [] := by simpa using h
    have hl : 0 < (log d p).length := List.length_pos_iff.2 h'
    have hlast : last? d p = some ((log d p).getD ((log d p).length - 1) zRev) := by
      rw [last?, List.getLast?_eq_getElem?, List.getD_eq_getElem?_getD, List.getElem?_eq_getElem (by omega : (log d p).length - 1 < (log d p).length)]; rfl
    have hi : ((((log d p).length : Nat) : Int) - 1).toNat = (log d p).length - 1 := by omega
    have he := getD_enc encRev (log d p) ((log d p).length - 1) zRev (by omega)
    refine nvA ?_
    refine goA (wr := false) (by simp only [kB, kS, k13, Nat.reduceAdd, Nat.reduceLT, Nat.reduceEqDiff, ↓reduceIte, reduceCtorEq, hi, he]; first | done | rfl) ?_
    refine nvA ?_
    refine rtA (by simp only [kR, Tryz.results13, ↓reduceIte, Nat.reduceEqDiff, reduceCtorEq, effLoad, cellsOf, List.map, List.length_cons, List.length_nil, List.getD_cons_zero, List.getD_cons_succ, List.getD_nil, List.drop, List.take, splice, ti46]; first | done | rfl) ([]) ?_
    refine ⟨?_, rfl⟩
    simp [hlast]
def k12 := And.intro @Tryz.ntmps12 <| And.intro @Tryz.underlying27 <| And.intro @bld30 <| And.intro @bld46 <| And.intro @elt27 <| And.intro @fld46_1 <| And.intro @ti27 <| And.intro @ti3 <| And.intro @ti30 <| @ti46
theorem v12F3 {G G' : Prop} (g : G') (h : Hid G' → G := by intro h9; (first | refine nvB ?_ | refine goA (wr := false) (by simp only [kB, kS, k12, Nat.reduceAdd, Nat.reduceLT, Nat.reduceEqDiff, ↓reduceIte, reduceCtorEq]; first | done | rfl) ?_); (repeat (first | refine nvB ?_ | refine goA (wr := false) (by simp only [kB, kS, k12, Nat.reduceAdd, Nat.reduceLT, Nat.reduceEqDiff, ↓reduceIte, reduceCtorEq]; first | done | rfl) ?_)); exact h9.out) : G := h ⟨g⟩
set_option maxRecDepth 100000 in
set_option maxHeartbeats 4000000 in
theorem get_ac (d : Dep) (p : ByteArray) (n : Int) (hd : d.revs.length ≤ 1000000) : AC Tryz.prog 12 [aDep d, Str p, I .i64 n] [] (fun r st => r = .tup [pRev ((get? d p n).getD zRev), pB (get? d p n).isSome] ∧ st = []) := by
  have hL : (log d p).length ≤ d.revs.length := List.length_filter_le ..
  refine AC_enter Tryz.func12 rfl rfl (by simp only [Tryz.ntmps12, List.length]; omega) ?_
  intro x hx
  simp only [List.range, List.range.loop, List.length, List.zip, List.zipWith, Nat.reduceAdd, Tryz.ntmps12]
  (repeat (first | refine v12F3 ?_ | (refine caA [] (log_ac d p hd) ?_; rintro r st' ⟨rfl, rfl⟩; refine frA ?_)))
  refine T_loop (ι := Nat) (I := fun k => ⟨25, [(2, I .i64 n), (6, .c (.ptr 6 0)), (12, aRevs (log d p)), (13, I .i64 (log d p).length), (14, I .i64 k)], [(6, .box ((encRev zRev).map C.d))]⟩)
    (Inv := fun k => k ≤ (log d p).length ∧ ((log d p).take k).find? (fun v => decide (v.num = n)) = none) (μ := fun k => (log d p).length - k) 0 ⟨by omega, by simp⟩ ?_ ?_
  · (refine Ent_sub (fun i => i) rfl ?_ ⟨?_, ?_, ?_, keepI hx (by simp [domOf, Ab.get])⟩ <;> first | (simp only [kE, dArr, ↓reduceIte, Nat.reduceEqDiff, reduceCtorEq, zRev]; done) | simp [renAV_id, renAO_id, flat_up, Ab.get, clAV, clC, clCs, clAO, cl_f1, cl_s1, cl_f2, cl_s2, cl_a1, domOf, List.flatten, zRev])
  · rintro k ⟨hk, hbefore⟩
    try refine v12F3 ?_
    refine ifA ?_ ?_
    · intro hlt
      have hlt' : k < (log d p).length := by simpa using hlt
      obtain ⟨v, hv, he, htk⟩ := round encRev (log d p) k zRev hlt'
      have hsplit : log d p = (log d p).take k ++ v :: (log d p).drop (k + 1) := by
        rw [← List.take_append_drop (k + 1) (log d p), htk]; simp [List.take_append, List.drop_append, Nat.min_eq_left (Nat.le_of_lt hlt')]
      refine nvA ?_
      refine goA (wr := false) (by simp only [kB, kS, k12, Nat.reduceAdd, Nat.reduceLT, Nat.reduceEqDiff, ↓reduceIte, reduceCtorEq, he]; first | done | rfl) ?_
      try refine v12F3 ?_
      refine ifA ?_ ?_
      · intro heq
        have heq' : v.num = n := by simpa using heq
        have hg : get? d p n = some v := by rw [get?, hsplit, List.find?_append, hbefore]; simp [heq']
        try refine v12F3 ?_
        refine rtA (by simp only [kR, Tryz.results12, ↓reduceIte, Nat.reduceEqDiff, reduceCtorEq, effLoad, cellsOf, List.map, List.length_cons, List.length_nil, List.getD_cons_zero, List.getD_cons_succ, List.getD_nil, List.drop, List.take, splice, ti46]; first | done | rfl) ([]) ?_
        refine ⟨?_, rfl⟩
        simp [hg]
      · intro hne
        have hne' : ¬ v.num = n := by simpa using hne
        try refine v12F3 ?_
        refine ⟨k + 1, ⟨by omega, ?_⟩, by omega, ?_⟩
        · rw [htk, List.find?_append, hbefore]; simp [hne']
        · (refine Ent_sub (fun i => i) rfl ?_ ⟨?_, ?_, ?_, keepI hx (by simp [domOf, Ab.get])⟩ <;> first | (simp only [kE, dArr, ↓reduceIte, Nat.reduceEqDiff, reduceCtorEq, zRev]; done) | simp [renAV_id, renAO_id, flat_up, Ab.get, clAV, clC, clCs, clAO, cl_f1, cl_s1, cl_f2, cl_s2, cl_a1, domOf, List.flatten, zRev])
    · intro hge
      have hge' : k = (log d p).length := by have : ¬ k < (log d p).length := by simpa using hge
                                             omega
      have hg : get? d p n = none := by rw [hge', List.take_length] at hbefore; exact hbefore
      try refine v12F3 ?_
      refine rtA (by simp only [kR, Tryz.results12, ↓reduceIte, Nat.reduceEqDiff, reduceCtorEq, effLoad, cellsOf, List.map, List.length_cons, List.length_nil, List.getD_cons_zero, List.getD_cons_succ, List.getD_nil, List.drop, List.take, splice, ti46]; first | done | rfl) ([]) ?_
      refine ⟨?_, rfl⟩
      simp [hg, zRev]
def k35 := And.intro @Tryz.ntmps35 <| And.intro @bld30 <| And.intro @bld46 <| And.intro @fld46_1 <| And.intro @ti3 <| And.intro @ti30 <| @ti46
theorem v35F3 {G G' : Prop} (g : G') (h : Hid G' → G := by intro h9; (first | refine nvB ?_ | refine goA (wr := false) (by simp only [kB, kG, k35, Nat.reduceAdd, Nat.reduceLT, Nat.reduceEqDiff, ↓reduceIte, reduceCtorEq]; first | done | rfl) ?_); (repeat (first | refine nvB ?_ | refine goA (wr := false) (by simp only [kB, kG, k35, Nat.reduceAdd, Nat.reduceLT, Nat.reduceEqDiff, ↓reduceIte, reduceCtorEq]; first | done | rfl) ?_)); exact h9.out) : G := h ⟨g⟩
set_option maxRecDepth 100000 in
set_option maxHeartbeats 4000000 in
theorem live_ac (d : Dep) (p : ByteArray) (hd : d.revs.length ≤ 1000000) : AC Tryz.prog 35 [aDep d, Str p] [] (fun r st => r = .tup [pB (live d p), pI (lastNum d p)] ∧ st = []) := by
  refine AC_enter Tryz.func35 rfl rfl (by simp only [Tryz.ntmps35, List.length]; omega) ?_
  intro x hx
  simp only [List.range, List.range.loop, List.length, List.zip, List.zipWith, Nat.reduceAdd, Tryz.ntmps35]
  (repeat (first | refine v35F3 ?_ | (refine caA [] (last_ac d p hd) ?_; rintro r st' ⟨rfl, rfl⟩; refine frA ?_)))
  refine drA (wr := false) ([(17, B (gone ((last? d p).getD zRev)))] : List (Nat × AV)) (by simp only [kD, kB, kG, k35, Nat.reduceAdd, Nat.reduceLT, Nat.reduceEqDiff, ↓reduceIte, reduceCtorEq]; first | done | rfl) ?_ ?_
  · exact obF gone_ac
  refine nvA ?_
  refine rtA (by simp only [kR, Tryz.results35, ↓reduceIte, Nat.reduceEqDiff, reduceCtorEq]; first | done | rfl) ([]) ?_
  refine ⟨?_, rfl⟩
  cases h : last? d p <;> simp [live, lastNum, h]
def k66 := And.intro @Tryz.ntmps66 <| And.intro @bld30 <| And.intro @bld46 <| And.intro @fld46_0 <| And.intro @fld46_1 <| And.intro @fld46_3 <| And.intro @fld46_6 <| And.intro @fld46_7 <| And.intro @ti3 <| And.intro @ti30 <| And.intro @ti46 <| @ti9
theorem v66F3 {G G' : Prop} (g : G') (h : Hid G' → G := by intro h9; (first | refine nvB ?_ | refine goA (wr := false) (by simp only [kB, kS, k66, Nat.reduceAdd, Nat.reduceLT, Nat.reduceEqDiff, ↓reduceIte, reduceCtorEq]; first | done | rfl) ?_); (repeat (first | refine nvB ?_ | refine goA (wr := false) (by simp only [kB, kS, k66, Nat.reduceAdd, Nat.reduceLT, Nat.reduceEqDiff, ↓reduceIte, reduceCtorEq]; first | done | rfl) ?_)); exact h9.out) : G := h ⟨g⟩
set_option maxRecDepth 100000 in
set_option maxHeartbeats 4000000 in
theorem prev_ac (d : Dep) (v : Rev) (hd : d.revs.length ≤ 1000000) : AC Tryz.prog 66 [aDep d, aRev v] [] (fun r st => r = .tup [pRev ((prev? d v).getD zRev), pB (prev? d v).isSome] ∧ st = []) := by
  refine AC_enter Tryz.func66 rfl rfl (by simp only [Tryz.ntmps66, List.length]; omega) ?_
  intro x hx
  simp only [List.range, List.range.loop, List.length, List.zip, List.zipWith, Nat.reduceAdd, Tryz.ntmps66]
  try refine v66F3 ?_
  refine ifA ?_ ?_
  · intro h
    have h' : v.act = 1 := by simpa using h
    try refine v66F3 ?_
    refine rtA (by simp only [kR, Tryz.results66, ↓reduceIte, Nat.reduceEqDiff, reduceCtorEq, effLoad, cellsOf, List.map, List.length_cons, List.length_nil, List.getD_cons_zero, List.getD_cons_succ, List.getD_nil, List.drop, List.take, splice, ti46]; first | done | rfl) ([]) ?_
    refine ⟨?_, rfl⟩
    simp [prev?, h', zRev]
  · intro h
    have h' : ¬ v.act = 1 := by simpa using h
    try refine v66F3 ?_
    refine ifA ?_ ?_
    · intro h4
      have h4' : v.act = 4 := by simpa using h4
      (repeat (first | refine v66F3 ?_ | (refine caA [] (get_ac d v.frm v.fnum hd) ?_; rintro r st' ⟨rfl, rfl⟩; refine frA ?_)))
      refine rtA (by simp only [kR, Tryz.results66, ↓reduceIte, Nat.reduceEqDiff, reduceCtorEq, effLoad, cellsOf, List.map, List.length_cons, List.length_nil, List.getD_cons_zero, List.getD_cons_succ, List.getD_nil, List.drop, List.take, splice, ti46]; first | done | rfl) ([]) ?_
      refine ⟨?_, rfl⟩
      simp [prev?, h4']
    · intro h4
      have h4' : ¬ v.act = 4 := by simpa using h4
      refine nvA ?_
      refine TO_go (wr := true) 400 (by simp only [kB, kS, k66, Nat.reduceAdd, Nat.reduceLT, Nat.reduceEqDiff, ↓reduceIte, reduceCtorEq]; first | done | rfl) (by first | exact trivial | (simp only [kO]; omega) | (simp [All, InR]; first | done | omega) | (simp +contextual [All, InR]; first | done | grind)) ?_
      (repeat (first | refine v66F3 ?_ | (refine caA [] (get_ac d v.path (wr (v.num - 1)) hd) ?_; rintro r st' ⟨rfl, rfl⟩; refine frA ?_)))
      refine rtA (by simp only [kR, Tryz.results66, ↓reduceIte, Nat.reduceEqDiff, reduceCtorEq, effLoad, cellsOf, List.map, List.length_cons, List.length_nil, List.getD_cons_zero, List.getD_cons_succ, List.getD_nil, List.drop, List.take, splice, ti46]; first | done | rfl) ([]) ?_
      refine ⟨?_, rfl⟩
      simp [prev?, h', h4']
end Go.Proofs.YtbllfnmabmamfaaGreatDoor
namespace Go.Proofs.YtbllfnmabmamfaaGreatDoor
open Go.Ab Tys
def k30 := And.intro @Tryz.ntmps30 <| And.intro @bld30 <| And.intro @bld37 <| And.intro @bld46 <| And.intro @fld37_0 <| And.intro @fld37_1 <| And.intro @fld46_0 <| And.intro @fld46_1 <| And.intro @fld46_2 <| And.intro @ti3 <| And.intro @ti30 <| And.intro @ti37 <| And.intro @ti46 <| @ti9
theorem v30F4 {G G' : Prop} (g : G') (h : Hid G' → G := by intro h9; (first | refine nvB ?_ | refine goA (wr := false) (by simp only [kB, kG, kS, k30, Nat.reduceAdd, Nat.reduceLT, Nat.reduceEqDiff, ↓reduceIte, reduceCtorEq]; first | done | rfl) ?_); (repeat (first | refine nvB ?_ | refine goA (wr := false) (by simp only [kB, kG, kS, k30, Nat.reduceAdd, Nat.reduceLT, Nat.reduceEqDiff, ↓reduceIte, reduceCtorEq]; first | done | rfl) ?_)); exact h9.out) : G := h ⟨g⟩
set_option maxRecDepth 100000 in
set_option maxHeartbeats 4000000 in
theorem first_ac (d : Dep) (v : Rev) (hd : d.revs.length ≤ 1000000) : AC Tryz.prog 30 [aDep d, aRev v] [] (fun r st => r = aFil (first d v) ∧ st = []) := by
  refine AC_enter Tryz.func30 rfl rfl (by simp only [Tryz.ntmps30, List.length]; omega) ?_
  intro x hx
  simp only [List.range, List.range.loop, List.length, List.zip, List.zipWith, Nat.reduceAdd, Tryz.ntmps30]
  try refine v30F4 ?_
  refine T_loop (ι := Rev) (I := fun u => ⟨28, [(2, .c (.ptr 2 0)), (3, .c (.ptr 3 0)), (4, .c (.ptr 4 0))], [(2, .box ((encDep d).map C.d)), (3, .box ((encRev u).map C.d)), (4, .box ((encFil zFil).map C.d))]⟩)
    (Inv := fun u => first d u = first d v) (μ := fun u => cnt d u.chg) v rfl ?_ ?_
  · (refine Ent_sub (fun i => i) rfl ?_ ⟨?_, ?_, ?_, keepI hx (by simp [domOf, Ab.get])⟩ <;> first | (simp only [kE, dArr, ↓reduceIte, Nat.reduceEqDiff, reduceCtorEq, zFil]; done) | simp [renAV_id, renAO_id, flat_up, Ab.get, clAV, clC, clCs, clAO, cl_f1, cl_s1, cl_f2, cl_s2, cl_a1, domOf, List.flatten, zFil])
  · intro u hu
    refine nvA ?_
    refine goA (wr := false) (by simp only [kB, kG, kS, k30, Nat.reduceAdd, Nat.reduceLT, Nat.reduceEqDiff, ↓reduceIte, reduceCtorEq]; first | done | rfl) ?_
    refine TO_call [] (by simp) (by simp only [evAll, kB, kG, kS, k30, Nat.reduceAdd, Nat.reduceLT, Nat.reduceEqDiff, ↓reduceIte, reduceCtorEq]; first | done | rfl) ⟨by simp, by simp, by simp [clAV, clC, clCs, clCaps, clCap]⟩ (prev_ac d u hd) ?_
    rintro r st' ⟨rfl, rfl⟩
    refine ⟨by simp [Fresh], ?_⟩
    simp only [kP, Nat.reduceEqDiff, ↓reduceIte, reduceCtorEq]
    cases hp : prev? d u with
    | none =>
      refine goA (wr := false) (by simp only [kB, kG, kS, k30, Nat.reduceAdd, Nat.reduceLT, Nat.reduceEqDiff, ↓reduceIte, reduceCtorEq, Option.isSome]; first | done | rfl) ?_
      try refine v30F4 ?_
      refine ifA ?_ ?_
      · intro _
        try refine v30F4 ?_
        refine rtA (by simp only [kR, Tryz.results30, ↓reduceIte, Nat.reduceEqDiff, reduceCtorEq, effLoad, cellsOf, List.map, List.length_cons, List.length_nil, List.getD_cons_zero, List.getD_cons_succ, List.getD_nil, List.drop, List.take, splice, ti37]; first | done | rfl) ([]) ?_
        refine ⟨?_, rfl⟩
        rw [← hu, first_none hp]; simp [fileOf]
      · intro h; simp at h
    | some u' =>
      refine goA (wr := false) (by simp only [kB, kG, kS, k30, Nat.reduceAdd, Nat.reduceLT, Nat.reduceEqDiff, ↓reduceIte, reduceCtorEq, Option.isSome]; first | done | rfl) ?_
      try refine v30F4 ?_
      refine ifA ?_ ?_
      · intro h
        have hc : u.chg ≤ u'.chg := by simpa using h
        try refine v30F4 ?_
        refine rtA (by simp only [kR, Tryz.results30, ↓reduceIte, Nat.reduceEqDiff, reduceCtorEq, effLoad, cellsOf, List.map, List.length_cons, List.length_nil, List.getD_cons_zero, List.getD_cons_succ, List.getD_nil, List.drop, List.take, splice, ti37]; first | done | rfl) ([]) ?_
        refine ⟨?_, rfl⟩
        rw [← hu, first_old hp hc]; simp [fileOf]
      · intro h
        have hc : u'.chg < u.chg := by simpa using h
        try refine v30F4 ?_
        refine ⟨u', ?_, cnt_lt (prev?_mem hp) hc, ?_⟩
        · rw [← hu, first_step hp hc]
        · (refine Ent_sub (fun i => i) rfl ?_ ⟨?_, ?_, ?_, keepI hx (by simp [domOf, Ab.get])⟩ <;> first | (simp only [kE, dArr, ↓reduceIte, Nat.reduceEqDiff, reduceCtorEq, zFil]; done) | simp [renAV_id, renAO_id, flat_up, Ab.get, clAV, clC, clCs, clAO, cl_f1, cl_s1, cl_f2, cl_s2, cl_a1, domOf, List.flatten, zFil])
end Go.Proofs.YtbllfnmabmamfaaGreatDoor

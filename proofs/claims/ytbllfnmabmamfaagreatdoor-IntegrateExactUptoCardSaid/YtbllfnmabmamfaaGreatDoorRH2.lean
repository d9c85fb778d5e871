/- A part of the proof. -/
import Derived.Test.YtbllfnmabmamfaaGreatDoorRBd2
import Derived.Test.YtbllfnmabmamfaaGreatDoorQBd
import Derived.Test.YtbllfnmabmamfaaGreatDoorQPD
set_option linter.all false
namespace Go.Proofs.YtbllfnmabmamfaaGreatDoor
open Go.Ab Tys
def k73 := And.intro @Tryz.ntmps73 <| And.intro @bld46 <| And.intro @fld46_3 <| And.intro @ti3 <| @ti46
theorem v73F1 {G G' : Prop} (g : G') (h : Hid G' → G := by intro h9; (first | refine nvB ?_ | refine goA (wr := false) (by simp only [kB, kG, k73, Nat.reduceAdd, Nat.reduceLT, Nat.reduceEqDiff, ↓reduceIte, reduceCtorEq]; first | done | rfl) ?_); (repeat (first | refine nvB ?_ | refine goA (wr := false) (by simp only [kB, kG, k73, Nat.reduceAdd, Nat.reduceLT, Nat.reduceEqDiff, ↓reduceIte, reduceCtorEq]; first | done | rfl) ?_)); exact h9.out) : G := h ⟨g⟩
set_option maxRecDepth 100000 in
theorem gone_ac (v : Rev) : AC Tryz.prog 73 [aRev v] [] (fun r st => r = B (gone v) ∧ st = []) := by
  refine AC_enter Tryz.func73 rfl rfl (by simp only [Tryz.ntmps73, List.length]; omega) ?_
  intro x hx
  simp only [List.range, List.range.loop, List.length, List.zip, List.zipWith, Nat.reduceAdd, Tryz.ntmps73]
  try refine v73F1 ?_
  refine rtA (by simp only [kR, Tryz.results73, ↓reduceIte, Nat.reduceEqDiff, reduceCtorEq]; first | done | rfl) ([]) ?_
  refine ⟨?_, rfl⟩
  simp [gone, cond_eq_ite]
def k55 := And.intro @Tryz.ntmps55 <| And.intro @bld37 <| And.intro @bld46 <| And.intro @fld37_0 <| And.intro @fld37_1 <| And.intro @fld46_0 <| And.intro @fld46_1 <| And.intro @ti3 <| And.intro @ti37 <| And.intro @ti46 <| @ti9
theorem v55F1 {G G' : Prop} (g : G') (h : Hid G' → G := by intro h9; (first | refine nvB ?_ | refine goA (wr := false) (by simp only [kB, kS, k55, Nat.reduceAdd, Nat.reduceLT, Nat.reduceEqDiff, ↓reduceIte, reduceCtorEq]; first | done | rfl) ?_); (repeat (first | refine nvB ?_ | refine goA (wr := false) (by simp only [kB, kS, k55, Nat.reduceAdd, Nat.reduceLT, Nat.reduceEqDiff, ↓reduceIte, reduceCtorEq]; first | done | rfl) ?_)); exact h9.out) : G := h ⟨g⟩
set_option maxRecDepth 100000 in
theorem fileOf_ac (v : Rev) : AC Tryz.prog 55 [aRev v] [] (fun r st => r = aFil (fileOf v) ∧ st = []) := by
  refine AC_enter Tryz.func55 rfl rfl (by simp only [Tryz.ntmps55, List.length]; omega) ?_
  intro x hx
  simp only [List.range, List.range.loop, List.length, List.zip, List.zipWith, Nat.reduceAdd, Tryz.ntmps55]
  try refine v55F1 ?_
  refine rtA (by simp only [kR, Tryz.results55, ↓reduceIte, Nat.reduceEqDiff, reduceCtorEq, effLoad, cellsOf, List.map, List.length_cons, List.length_nil, List.getD_cons_zero, List.getD_cons_succ, List.getD_nil, List.drop, List.take, splice, ti37]; first | done | rfl) ([]) ?_
  refine ⟨?_, rfl⟩
  simp [fileOf]
def k58 := And.intro @Tryz.ntmps58 <| And.intro @bld41 <| And.intro @bld44 <| And.intro @bld46 <| And.intro @bld56 <| And.intro @bld74 <| And.intro @fld46_0 <| And.intro @fld46_1 <| And.intro @fld46_2 <| And.intro @fld46_3 <| And.intro @fld46_4 <| And.intro @fld46_5 <| And.intro @fld46_6 <| And.intro @fld46_7 <| And.intro @fld56_0 <| And.intro @fld56_1 <| And.intro @fld56_2 <| And.intro @fld56_3 <| And.intro @fld56_4 <| And.intro @fld56_5 <| And.intro @fld56_6 <| And.intro @fld74_0 <| And.intro @ti3 <| And.intro @ti41 <| And.intro @ti44 <| And.intro @ti46 <| And.intro @ti56 <| And.intro @ti74 <| @ti9
set_option maxRecDepth 100000 in
theorem made_ac (c : Chg) (e : Edt) : AC Tryz.prog 58 [aChg c, aEdt e] [] (fun r st => r = aRev (made c e) ∧ st = []) := by
  refine AC_enter Tryz.func58 rfl rfl (by simp only [Tryz.ntmps58, List.length]; omega) ?_
  intro x hx
  simp only [List.range, List.range.loop, List.length, List.zip, List.zipWith, Nat.reduceAdd, Tryz.ntmps58]
  (repeat (first | (with_reducible first | refine na ?_ | refine nb ?_ | refine nc ?_ | refine nd ?_ | refine ne ?_ | refine nf ?_ | refine ng ?_ | refine nh ?_ | refine ni ?_ | refine nj ?_ | refine nk ?_ | refine nl ?_ | refine nm (by decide) ?_ | refine nn ?_) | refine TO_go (wr := true) 400 (by simp only [kB, kS, k58, Nat.reduceAdd, Nat.reduceLT, Nat.reduceEqDiff, ↓reduceIte, reduceCtorEq]; first | done | rfl) (by first | exact trivial | (simp only [kO]; omega) | (simp [All, InR]; first | done | omega) | (simp +contextual [All, InR]; first | done | grind)) ?_))
  refine rtA (by simp only [kR, Tryz.results58, ↓reduceIte, Nat.reduceEqDiff, reduceCtorEq, effLoad, cellsOf, List.map, List.length_cons, List.length_nil, List.getD_cons_zero, List.getD_cons_succ, List.getD_nil, List.drop, List.take, splice, ti46]; first | done | rfl) ([]) ?_
  refine ⟨?_, rfl⟩
  simp [made, wr]
end Go.Proofs.YtbllfnmabmamfaaGreatDoor
namespace Go.Proofs.YtbllfnmabmamfaaGreatDoor
open Go.Ab Tys
def k103 := And.intro @Tryz.ntmps103 <| And.intro @Tryz.underlying50 <| And.intro @bld56 <| And.intro @bld74 <| And.intro @elt50 <| And.intro @fld56_0 <| And.intro @fld56_1 <| And.intro @fld56_5 <| And.intro @fld74_3 <| And.intro @ti3 <| And.intro @ti50 <| And.intro @ti56 <| And.intro @ti74 <| @ti9
theorem v103H2 {G G' : Prop} (g : G') (h : Hid G' → G := by intro h9; (first | refine nvB ?_ | refine goA (wr := false) (by simp only [kB, kG, k103, Nat.reduceAdd, Nat.reduceLT, Nat.reduceEqDiff, ↓reduceIte, reduceCtorEq]; first | done | rfl) ?_); (repeat (first | refine nvB ?_ | refine goA (wr := false) (by simp only [kB, kG, k103, Nat.reduceAdd, Nat.reduceLT, Nat.reduceEqDiff, ↓reduceIte, reduceCtorEq]; first | done | rfl) ?_)); exact h9.out) : G := h ⟨g⟩
set_option maxRecDepth 100000 in
set_option maxHeartbeats 4000000 in
theorem moved_ac (c : Chg) (z : Edt) (hc : c.edits.length ≤ 1000000) : AC Tryz.prog 103 [aChg c, aEdt z] [] (fun r st => r = B (movedB c z) ∧ st = []) := by
  refine AC_enter Tryz.func103 rfl rfl (by simp only [Tryz.ntmps103, List.length]; omega) ?_
  intro x hx
  simp only [List.range, List.range.loop, List.length, List.zip, List.zipWith, Nat.reduceAdd, Tryz.ntmps103]
  try refine v103H2 ?_
  refine T_loop (ι := Nat) (I := fun k => ⟨62, [(3, .c (.ptr 3 0)), (5, I .i64 ((c.edits.take k).filter (mate z)).length), (9, .c (.d (.ps 12 (c.edits.map encEdt)))), (10, I .i64 c.edits.length), (11, I .i64 k)], [(3, .box ((encEdt z).map C.d))]⟩)
    (Inv := fun k => k ≤ c.edits.length) (μ := fun k => c.edits.length - k) 0 (by omega) ?_ ?_
  · exact enA
  · intro k hk
    have hF := filter_take_le (mate z) c.edits k
    try refine v103H2 ?_
    refine ifA ?_ ?_
    · intro hlt
      have hlt' : k < c.edits.length := by simpa using hlt
      obtain ⟨y, hy, he, htk⟩ := round encEdt c.edits k zEdt hlt'
      (repeat (first | refine nvB ?_ | refine goA (wr := false) (by simp only [kB, kG, k103, Nat.reduceAdd, Nat.reduceLT, Nat.reduceEqDiff, ↓reduceIte, reduceCtorEq, he]; first | done | rfl) ?_))
      refine ifA ?_ ?_
      · intro h
        have h' : mate z y = true := by
          rw [← h]; simp only [mate]; cases decide (z.act = 5) <;> cases decide (y.act = 4) <;> cases decide (y.frm = z.path) <;> cases decide (z.act = 4) <;> cases decide (y.act = 5) <;> cases decide (y.path = z.frm) <;> rfl
        try refine v103H2 ?_
        refine ⟨k + 1, by omega, by omega, ?_⟩
        (refine Ent_sub (fun i => i) rfl ?_ ⟨?_, ?_, ?_, keepI hx (by simp [domOf, Ab.get])⟩ <;> first | (simp only [kE, dArr, ↓reduceIte, Nat.reduceEqDiff, reduceCtorEq, htk, h', List.filter_append]; done) | simp [renAV_id, renAO_id, flat_up, Ab.get, clAV, clC, clCs, clAO, cl_f1, cl_s1, cl_f2, cl_s2, cl_a1, domOf, List.flatten, htk, h', List.filter_append])
      · intro h
        have h' : mate z y = false := by
          rw [← h]; simp only [mate]; cases decide (z.act = 5) <;> cases decide (y.act = 4) <;> cases decide (y.frm = z.path) <;> cases decide (z.act = 4) <;> cases decide (y.act = 5) <;> cases decide (y.path = z.frm) <;> rfl
        try refine v103H2 ?_
        refine ⟨k + 1, by omega, by omega, ?_⟩
        (refine Ent_sub (fun i => i) rfl ?_ ⟨?_, ?_, ?_, keepI hx (by simp [domOf, Ab.get])⟩ <;> first | (simp only [kE, dArr, ↓reduceIte, Nat.reduceEqDiff, reduceCtorEq, htk, h', List.filter_append]; done) | simp [renAV_id, renAO_id, flat_up, Ab.get, clAV, clC, clCs, clAO, cl_f1, cl_s1, cl_f2, cl_s2, cl_a1, domOf, List.flatten, htk, h', List.filter_append])
    · intro hge
      have hge' : k = c.edits.length := by have : ¬ k < c.edits.length := by simpa using hge
                                           omega
      try refine v103H2 ?_
      refine rtA (by simp only [kR, Tryz.results103, ↓reduceIte, Nat.reduceEqDiff, reduceCtorEq]; first | done | rfl) ([]) ?_
      refine ⟨?_, rfl⟩
      rw [hge', List.take_length]
      simp [movedB, mates, Bool.cond_true_left, Bool.cond_false_right]; first | rfl | (congr 2; done)
end Go.Proofs.YtbllfnmabmamfaaGreatDoor
namespace Go.Proofs.YtbllfnmabmamfaaGreatDoor
open Go.Ab Tys
def k37 := And.intro @Tryz.ntmps37 <| And.intro @Tryz.underlying27 <| And.intro @bld30 <| And.intro @bld46 <| And.intro @elt27 <| And.intro @fld30_0 <| And.intro @fld46_0 <| And.intro @ti27 <| And.intro @ti30 <| And.intro @ti46 <| @ti9
theorem v37F2 {G G' : Prop} (g : G') (h : Hid G' → G := by intro h9; (first | refine nvB ?_ | refine goA (wr := false) (by simp only [kB, kS, k37, Nat.reduceAdd, Nat.reduceLT, Nat.reduceEqDiff, ↓reduceIte, reduceCtorEq]; first | done | rfl) ?_); (repeat (first | refine nvB ?_ | refine goA (wr := false) (by simp only [kB, kS, k37, Nat.reduceAdd, Nat.reduceLT, Nat.reduceEqDiff, ↓reduceIte, reduceCtorEq]; first | done | rfl) ?_)); exact h9.out) : G := h ⟨g⟩
set_option maxRecDepth 100000 in
set_option maxHeartbeats 4000000 in
theorem log_ac (d : Dep) (p : ByteArray) (hd : d.revs.length ≤ 1000000) : AC Tryz.prog 37 [aDep d, Str p] [] (fun r st => r = aRevs (log d p) ∧ st = []) := by
  refine AC_enter Tryz.func37 rfl rfl (by simp only [Tryz.ntmps37, List.length]; omega) ?_
  intro x hx
  simp only [List.range, List.range.loop, List.length, List.zip, List.zipWith, Nat.reduceAdd, Tryz.ntmps37]
  try refine v37F2 ?_
  refine T_ent (Ent_adopt (i := 5) (id := 100) (sz := 12) rfl rfl (by omega)) ?_
  refine fzA ?_
  refine T_loop (ι := Nat) (I := fun k => ⟨25, [(1, Str p), (5, .c (.ms 100 12 0 ((d.revs.take k).filter fun v => decide (v.path = p)).length)), (9, aRevs d.revs), (10, I .i64 d.revs.length), (11, I .i64 k)],
      [(100, dArr 12 (((d.revs.take k).filter fun v => decide (v.path = p)).map encRev))]⟩)
    (Inv := fun k => k ≤ d.revs.length) (μ := fun k => d.revs.length - k) 0 (by omega) ?_ ?_
  · exact enA
  · intro k hk
    have hF := filter_take_le (fun v => decide (v.path = p)) d.revs k
    try refine v37F2 ?_
    refine ifA ?_ ?_
    · intro hlt
      have hlt' : k < d.revs.length := by simpa using hlt
      obtain ⟨v, hv, he, htk⟩ := round encRev d.revs k zRev hlt'
      refine nvA ?_
      refine goA (wr := false) (by simp only [kB, kS, k37, Nat.reduceAdd, Nat.reduceLT, Nat.reduceEqDiff, ↓reduceIte, reduceCtorEq, he]; first | done | rfl) ?_
      try refine v37F2 ?_
      refine ifA ?_ ?_
      · intro heq
        have heq' : v.path = p := by simpa using heq
        try refine v37F2 ?_
        refine ⟨k + 1, by omega, by omega, ?_⟩
        (refine Ent_sub (fun i => if i = 100 then 22 else i) rfl ?_ ⟨?_, ?_, ?_, keepR hx (by simp [domOf, Ab.get])⟩ <;> first | (intro i hi; have h0 := hx i hi; constructor <;> (revert h0; simp only [domOf, Ab.get]; (repeat' split) <;> simp_all); done) | (simp only [kE, dArr, ↓reduceIte, Nat.reduceEqDiff, reduceCtorEq]; done) | (simp only [dArr, ren_arr, ren_map, List.mem_cons, List.not_mem_nil, or_false, forall_eq_or_imp, forall_eq]; simp [renAV, renC, renAO, ren_up, flat_up, Ab.get, clAV, clC, clCs, clAO, cl_f1, cl_s1, cl_f2, cl_s2, cl_a1, domOf, List.flatten, htk, heq', List.filter_append]; done) | simp [renAV, renC, renAO, ren_up, flat_up, Ab.get, clAV, clC, clCs, clAO, cl_f1, cl_s1, cl_f2, cl_s2, cl_a1, domOf, List.flatten, htk, heq', List.filter_append])
      · intro hne
        have hne' : ¬ v.path = p := by simpa using hne
        try refine v37F2 ?_
        refine ⟨k + 1, by omega, by omega, ?_⟩
        (refine Ent_sub (fun i => i) rfl ?_ ⟨?_, ?_, ?_, keepI hx (by simp [domOf, Ab.get])⟩ <;> first | (simp only [kE, dArr, ↓reduceIte, Nat.reduceEqDiff, reduceCtorEq, htk, hne', List.filter_append]; done) | simp [renAV_id, renAO_id, flat_up, Ab.get, clAV, clC, clCs, clAO, cl_f1, cl_s1, cl_f2, cl_s2, cl_a1, domOf, List.flatten, htk, hne', List.filter_append])
    · intro hge
      have hge' : k = d.revs.length := by have : ¬ k < d.revs.length := by simpa using hge
                                          omega
      refine nvA ?_
      refine TO_ent (Ent_frzSlot (i := 5) (id := 100) (ys := ((d.revs.take k).filter fun v => decide (v.path = p)).map encRev) rfl rfl (by simp)) ?_
      refine fzA ?_
      try refine v37F2 ?_
      refine rtA (by simp only [kR, Tryz.results37, ↓reduceIte, Nat.reduceEqDiff, reduceCtorEq]; first | done | rfl) ([]) ?_
      refine ⟨?_, rfl⟩
      simp [log, hge']
end Go.Proofs.YtbllfnmabmamfaaGreatDoor

/- A part of the proof. -/
import Derived.Test.YtmhboloicpieeaaGreatDoorRPD
import Derived.Test.YtmhboloicpieeaaGreatDoorRU10
import Derived.Test.YtmhboloicpieeaaGreatDoorRU8
set_option linter.all false
namespace Go.Proofs.YtmhboloicpieeaaGreatDoor
open Go.Ab Tys
variable [Dr]
def k79 := And.intro @Tryz.ntmps79 <| And.intro @bld30 <| And.intro @bld39 <| And.intro @fld39_0 <| And.intro @fld39_5 <| And.intro @fld39_8 <| And.intro @ti3 <| And.intro @ti30 <| And.intro @ti39 <| @ti9
theorem v79U12 {G G' : Prop} (g : G') (h : Hid G' → G := by intro h9; (first | refine nvB ?_ | refine goA (wr := false) (by simp only [kB, kG, k79, Nat.reduceAdd, Nat.reduceLT, Nat.reduceEqDiff, ↓reduceIte, reduceCtorEq]; first | done | rfl) ?_); (repeat (first | refine nvB ?_ | refine goA (wr := false) (by simp only [kB, kG, k79, Nat.reduceAdd, Nat.reduceLT, Nat.reduceEqDiff, ↓reduceIte, reduceCtorEq]; first | done | rfl) ?_)); exact h9.out) : G := h ⟨g⟩
set_option maxRecDepth 100000 in
set_option maxHeartbeats 8000000 in
theorem moveFits_ac (d : Dep) (hg : Good d.revs) (hd : d.revs.length ≤ 1000000) (t : Tsk) (hm : t.move.size ≤ 100000) : AC Tryz.prog 79 [aDep d, aTsk t] [] (fun r st => r = B (moveFB d t) ∧ st = []) := by
  have hP := isPath_ac t.move hm
  have hL := hLast_ac d hg hd t.move
  have hV := rlive_ac ((last? d t.move).getD zRev) (last? d t.move).isSome
  rw [← live_eq] at hV
  generalize (last? d t.move).getD zRev = lv at hL hV
  generalize (last? d t.move).isSome = lb at hL hV
  refine AC_enter Tryz.func79 rfl rfl (by simp only [Tryz.ntmps79, List.length]; omega) ?_
  intro x hx
  simp only [List.range, List.range.loop, List.length, List.zip, List.zipWith, Nat.reduceAdd, Tryz.ntmps79]
  try refine v79U12 ?_
  refine ifA ?_ ?_
  · intro h
    have h' : t.move = noS := by simpa using h
    try refine v79U12 ?_
    refine rtA (by simp only [kR, Tryz.results79, ↓reduceIte, Nat.reduceEqDiff, reduceCtorEq]; first | done | rfl) ([]) ?_
    refine ⟨?_, rfl⟩
    simp [moveFB, h']
  intro h
  have h' : ¬ t.move = noS := by simpa using h
  try refine v79U12 ?_
  refine TO_stepO (wr := false) ([(14, B (usableB t.move))] : List (Nat × AV)) rfl (by simp only [kD, kB, kG, k79, Nat.reduceAdd, Nat.reduceLT, Nat.reduceEqDiff, ↓reduceIte, reduceCtorEq]; first | done | rfl) ?_ ?_
  · simp only [All, List.cons_append, List.nil_append, InR, List.mem_cons, List.not_mem_nil, or_false, forall_eq_or_imp, forall_eq, clAV, clCs, clC, clCaps, clCap, and_true, true_and, implies_true, List.length_map, List.length_cons, List.length_nil, dArr, cl_arr, tyCs]
    repeat' (first | exact trivial | exact hP | refine And.intro ?_ ?_ | intro _ | assumption | rfl | omega | (simp; done) | (simp_all; done))
  simp only [kP, Nat.reduceEqDiff, ↓reduceIte, reduceCtorEq]
  try refine v79U12 ?_
  refine TO_stepO (wr := false) ([(27, .tup [pRev lv, pB lb])] : List (Nat × AV)) rfl (by simp only [kD, kB, kG, k79, Nat.reduceAdd, Nat.reduceLT, Nat.reduceEqDiff, ↓reduceIte, reduceCtorEq]; first | done | rfl) ?_ ?_
  · simp only [All, List.cons_append, List.nil_append, InR, List.mem_cons, List.not_mem_nil, or_false, forall_eq_or_imp, forall_eq, clAV, clCs, clC, clCaps, clCap, and_true, true_and, implies_true, List.length_map, List.length_cons, List.length_nil, dArr, cl_arr, tyCs]
    repeat' (first | exact trivial | exact hL | refine And.intro ?_ ?_ | intro _ | assumption | rfl | omega | (simp; done) | (simp_all; done))
  simp only [kP, Nat.reduceEqDiff, ↓reduceIte, reduceCtorEq]
  try refine v79U12 ?_
  refine TO_stepO (wr := false) ([(30, B (live d t.move))] : List (Nat × AV)) rfl (by simp only [kD, kB, kG, k79, Nat.reduceAdd, Nat.reduceLT, Nat.reduceEqDiff, ↓reduceIte, reduceCtorEq]; first | done | rfl) ?_ ?_
  · simp only [All, List.cons_append, List.nil_append, InR, List.mem_cons, List.not_mem_nil, or_false, forall_eq_or_imp, forall_eq, clAV, clCs, clC, clCaps, clCap, and_true, true_and, implies_true, List.length_map, List.length_cons, List.length_nil, dArr, cl_arr, tyCs]
    repeat' (first | exact trivial | exact hV | refine And.intro ?_ ?_ | intro _ | assumption | rfl | omega | (simp; done) | (simp_all; done))
  simp only [kP, Nat.reduceEqDiff, ↓reduceIte, reduceCtorEq]
  try refine v79U12 ?_
  refine rtA (by simp only [kR, Tryz.results79, ↓reduceIte, Nat.reduceEqDiff, reduceCtorEq]; first | done | rfl) ([]) ?_
  refine ⟨?_, rfl⟩
  simp only [moveFB, h', decide_false, Bool.false_or]
  cases decide (t.kind = 1) <;> cases usableB t.move <;> cases decide (t.move = t.to) <;> cases live d t.move <;> rfl
@[reducible] def zPrb : List C := [.d (.v (.slice none 0 0)), .d (.v (.slice none 0 0)), .d (.v (.int .i64 0)), .d (.v (.string ByteArray.empty)), .d (.v (.int .i64 0)), .d (.v (.string ByteArray.empty)), .d (.v (.int .i64 0)), .d (.v (.int .i64 0)), .d (.v (.string ByteArray.empty)), .d (.v (.int .i64 0)), .d (.v (.string ByteArray.empty)), .d (.v (.int .i64 0)), .d (.v (.string ByteArray.empty)),
  .d (.v (.string ByteArray.empty)), .d (.v (.int .i64 0)), .d (.v (.int .i64 0)), .d (.v (.int .i64 0)), .d (.v (.int .i64 0)), .d (.v (.bool false)), .d (.v (.bool false)), .d (.v (.bool false)), .d (.v (.int .u64 0)), .d (.v (.int .i64 0)), .d (.v (.string ByteArray.empty)), .d (.v (.int .i64 0)),
  .d (.v (.string ByteArray.empty)), .d (.v (.int .i64 0)), .d (.v (.int .i64 0)), .d (.v (.int .i64 0)), .d (.v (.int .i64 0)), .d (.v (.bool false)), .d (.v (.bool false)), .d (.v (.bool false)), .d (.v (.int .u64 0)), .d (.v (.int .i64 0)), .d (.v (.string ByteArray.empty)), .d (.v (.int .i64 0))]
def k37 := And.intro @Tryz.ntmps37 <| And.intro @Tryz.underlying27 <| And.intro @bld100 <| And.intro @bld30 <| And.intro @bld37 <| And.intro @bld39 <| And.intro @bld46 <| And.intro @elt27 <| And.intro @fld100_0 <| And.intro @fld100_1 <| And.intro @fld100_2 <| And.intro @fld100_3 <| And.intro @fld37_0 <| And.intro @fld37_1 <| And.intro @fld39_1 <| And.intro @fld39_2 <| And.intro @fld39_3 <| And.intro @fld39_4 <| And.intro @fld39_5 <| And.intro @fld39_6 <| And.intro @fld46_0 <| And.intro @fld46_1 <| And.intro @kyt37 <| And.intro @mpt156 <| And.intro @ti100 <| And.intro @ti156 <| And.intro @ti27 <| And.intro @ti3 <| And.intro @ti30 <| And.intro @ti37 <| And.intro @ti39 <| And.intro @ti4 <| And.intro @ti46 <| @ti9
theorem v37U12 {G G' : Prop} (g : G') (h : Hid G' → G := by intro h9; (first | refine nvB ?_ | refine goA (wr := false) (by simp only [kB, kG, kS, kM, k37, Nat.reduceAdd, Nat.reduceLT, Nat.reduceEqDiff, ↓reduceIte, reduceCtorEq]; first | done | rfl) ?_); (repeat (first | refine nvB ?_ | refine goA (wr := false) (by simp only [kB, kG, kS, kM, k37, Nat.reduceAdd, Nat.reduceLT, Nat.reduceEqDiff, ↓reduceIte, reduceCtorEq]; first | done | rfl) ?_)); exact h9.out) : G := h ⟨g⟩
set_option maxRecDepth 100000 in
set_option maxHeartbeats 16000000 in
theorem open_ac (d : Dep) (hg : Good d.revs) (hN : d.revs.length ≤ 512) (hn : NumOK d) (t : Tsk) (ht : t.to.size ≤ 1500) (hm : t.move.size ≤ 1500) :
    AC Tryz.prog 37 [aDep d, aTsk t] [] (fun r st => ((r = .tup [(true, zPrb), pB false] ∧ fitsB d t = false) ∨ r = .tup [(true, (encPrb d t (srcR d t) (tgtR d t)).map C.d), pB (fitsB d t)]) ∧ st = []) := by
  have hP := isPath_ac t.to (by omega)
  have hLn := hLine_ac d (by omega) ⟨t.lpath, t.lnum⟩
  have hlen : (lnP d t.line).length ≤ 600 := lnP_len hN t.line
  rw [show (⟨t.lpath, t.lnum⟩ : Fil) = t.line from rfl] at hLn
  refine AC_enter Tryz.func37 rfl rfl (by simp only [Tryz.ntmps37, List.length]; omega) ?_
  intro x hx
  simp only [List.range, List.range.loop, List.length, List.zip, List.zipWith, Nat.reduceAdd, Tryz.ntmps37]
  try refine v37U12 ?_
  refine TO_stepO (wr := false) ([(27, B (usableB t.to))] : List (Nat × AV)) rfl (by simp only [kD, kB, kG, kS, kM, k37, Nat.reduceAdd, Nat.reduceLT, Nat.reduceEqDiff, ↓reduceIte, reduceCtorEq]; first | done | rfl) ?_ ?_
  · simp only [All, List.cons_append, List.nil_append, InR, List.mem_cons, List.not_mem_nil, or_false, forall_eq_or_imp, forall_eq, clAV, clCs, clC, clCaps, clCap, and_true, true_and, implies_true, List.length_map, List.length_cons, List.length_nil, dArr, cl_arr, tyCs]
    repeat' (first | exact trivial | exact hP | refine And.intro ?_ ?_ | intro _ | assumption | rfl | omega | (simp; done) | (simp_all; done))
  simp only [kP, Nat.reduceEqDiff, ↓reduceIte, reduceCtorEq]
  try refine v37U12 ?_
  refine ifA ?_ ?_
  · intro h
    have hf : fitsB d t = false := by
      rw [fitsB_no]
      intro hf
      have := hf.lo; have := hf.le; have := hf.use
      simp [this, show ¬ t.first < 1 by omega, show ¬ t.last < t.first by omega] at h
    try refine v37U12 ?_
    refine rtA (by simp only [kR, Tryz.results37, ↓reduceIte, Nat.reduceEqDiff, reduceCtorEq, effLoad, cellsOf, List.map, List.length_cons, List.length_nil, List.getD_cons_zero, List.getD_cons_succ, List.getD_nil, List.drop, List.take, splice, ti100]; first | done | rfl) ([]) ?_
    refine ⟨?_, rfl⟩
    exact .inl ⟨rfl, hf⟩
  intro h
  obtain ⟨c1, c2, hu⟩ : 1 ≤ t.first ∧ t.first ≤ t.last ∧ usableB t.to = true := by
    by_cases c1 : t.first < 1
    · simp [c1] at h
    by_cases c2 : t.last < t.first
    · simp [c1, c2] at h
    exact ⟨by omega, by omega, by simpa [c1, c2] using h⟩
  (repeat (first | refine v37U12 ?_ | (refine caA [] (hLn) ?_; rintro r st' ⟨rfl, rfl⟩; refine frA ?_)))
  generalize hLL : lnP d t.line = L at hlen
  refine T_loop (ι := Nat × List Fil) (I := fun i => ⟨113, [(2, .c (.ptr 2 0)), (3, .c (.ptr 3 0)), (4, .c (.ptr 4 0)), (6, .c (.mp 200)), (35, aRevs L), (36, I .i64 L.length), (37, I .i64 i.1)],
      [(2, .box ((encDep d).map C.d)), (3, .box ((encTsk t).map C.d)), (4, .box zPrb), (200, uMap kF i.2)]⟩)
    (Inv := fun i => i.1 ≤ L.length ∧ ∀ f, f ∈ i.2 ↔ f ∈ (L.take i.1).map fileOf) (μ := fun i => L.length - i.1) (0, []) ⟨by simp, by simp⟩ ?_ ?_
  · exact enR (fun i => if i = 200 then 31 else i)
  rintro ⟨k, s⟩ ⟨hk, hs⟩
  simp only at hk hs ⊢
  try refine v37U12 ?_
  refine ifA ?_ ?_
  · intro hlt
    have hlt' : k < L.length := by simpa using hlt
    obtain ⟨v, hv, he, htk⟩ := round encRev L k zRev hlt'
    refine nvA ?_
    refine goA (wr := false) (by simp only [kB, kG, kS, kM, k37, Nat.reduceAdd, Nat.reduceLT, Nat.reduceEqDiff, ↓reduceIte, reduceCtorEq, he]; first | done | rfl) ?_
    try refine v37U12 ?_
    refine TO_go (wr := false) 400 (by simp only [kB, kG, kS, kM, k37, Nat.reduceAdd, Nat.reduceLT, Nat.reduceEqDiff, ↓reduceIte, reduceCtorEq, ins_F]; first | done | rfl) ?_ ?_
    · exact obT (ty_F s)
    try refine v37U12 ?_
    refine ⟨(k + 1, addS s ⟨v.path, v.num⟩), ⟨by simp; omega, ?_⟩, by simp; omega, ?_⟩
    · intro f
      rw [mem_addS, hs, htk]
      simp [fileOf]
    · exact enA
  intro hge
  have hge' : k = L.length := by have : ¬ k < L.length := by simpa using hge
                                 omega
  subst hge'
  rw [List.take_length] at hs
  rw [← hLL] at hs
  try refine v37U12 ?_
  refine T_loop (ι := Int) (I := fun n => ⟨113, [(2, .c (.ptr 2 0)), (3, .c (.ptr 3 0)), (4, .c (.ptr 4 0)), (6, .c (.mp 200)), (9, I .i64 n)],
      [(2, .box ((encDep d).map C.d)), (3, .box ((encTsk t).map C.d)), (4, .box zPrb), (200, uMap kF s)]⟩)
    (Inv := fun n => t.first ≤ n ∧ n ≤ t.last ∧ ∀ m, t.first ≤ m → m < n → idn d t.frm m = some t.line) (μ := fun n => (t.last - n).toNat) t.first ⟨by omega, by omega, by intro m h1 h2; omega⟩ ?_ ?_
  · exact enA
  rintro n ⟨n1, n2, n3⟩
  have hmem : decide ((⟨t.frm, n⟩ : Fil) ∈ s) = decide (idn d t.frm n = some t.line) := by
    rw [Bool.eq_iff_iff, decide_eq_true_eq, decide_eq_true_eq, hs, idn_line hg hN]
  refine nvA ?_
  refine TO_go (wr := false) 400 (by simp only [kB, kG, kS, kM, k37, Nat.reduceAdd, Nat.reduceLT, Nat.reduceEqDiff, ↓reduceIte, reduceCtorEq, look_F]; first | done | rfl) ?_ ?_
  · exact obT (ty_F s)
  try refine v37U12 ?_
  refine ifA ?_ ?_
  · intro h2
    have hi : ¬ idn d t.frm n = some t.line := by
      rw [hmem] at h2; simpa using h2
    have hf : fitsB d t = false := fitsB_no fun hf => hi (hf.run n n1 n2)
    try refine v37U12 ?_
    refine rtA (by simp only [kR, Tryz.results37, ↓reduceIte, Nat.reduceEqDiff, reduceCtorEq, effLoad, cellsOf, List.map, List.length_cons, List.length_nil, List.getD_cons_zero, List.getD_cons_succ, List.getD_nil, List.drop, List.take, splice, ti100]; first | done | rfl) ([]) ?_
    refine ⟨?_, rfl⟩
    exact .inl ⟨rfl, hf⟩
  intro h2
  have hi : idn d t.frm n = some t.line := by
    rw [hmem] at h2; simpa using h2
  have hnum := idn_num hg hn hi
  try refine v37U12 ?_
  refine ifA ?_ ?_
  rotate_left
  · intro h3
    have h3' : ¬ n = t.last := by simpa using h3
    try refine v37U12 ?_
    refine ⟨n + 1, ⟨by omega, by omega, ?_⟩, by omega, ?_⟩
    · intro m m1 m2
      by_cases e : m = n
      · subst e; exact hi
      · exact n3 m m1 (by omega)
    · exact enA
  intro h3
  have h3' : n = t.last := by simpa using h3
  have hrun : RunOK d t := fun m m1 m2 => by
    by_cases e : m = n
    · subst e; exact hi
    · exact n3 m m1 (by omega)
  have hG := hGet_ac d (by omega) t.frm t.last
  have hGs : (get? d t.frm t.last).isSome = true := by
    subst h3'
    unfold idn member? at hi
    cases hq : get? d t.frm t.last with
    | none => rw [hq] at hi; cases hi
    | some v => rfl
  rw [hGs, show (get? d t.frm t.last).getD zRev = srcR d t from rfl] at hG
  have hL := hLast_ac d hg (by omega) t.to
  rw [show (last? d t.to).getD zRev = tgtR d t from rfl] at hL
  have hV := rlive_ac (tgtR d t) (last? d t.to).isSome
  rw [show ((last? d t.to).isSome && !gone (tgtR d t)) = live d t.to from (live_eq d t.to).symm] at hV
  generalize hlb : (last? d t.to).isSome = lb at hL hV
  have hlast : lastNum d t.to = (tgtR d t).num := rfl
  (repeat (first | refine v37U12 ?_ | (refine caA [] (hG) ?_; rintro r st' ⟨rfl, rfl⟩; refine frA ?_)))
  refine ifA ?_ ?_
  · intro h; cases h
  intro _
  (repeat (first | refine v37U12 ?_ | (refine caA [] (hL) ?_; rintro r st' ⟨rfl, rfl⟩; refine frA ?_)))
  refine ifA ?_ ?_
  · intro h4
    have h4' : ¬ t.head = (tgtR d t).num := by simpa using h4
    have hf : fitsB d t = false := fitsB_no fun hf => h4' (by rw [← hlast, hf.head])
    try refine v37U12 ?_
    refine rtA (by simp only [kR, Tryz.results37, ↓reduceIte, Nat.reduceEqDiff, reduceCtorEq, effLoad, cellsOf, List.map, List.length_cons, List.length_nil, List.getD_cons_zero, List.getD_cons_succ, List.getD_nil, List.drop, List.take, splice, ti100]; first | done | rfl) ([]) ?_
    refine ⟨?_, rfl⟩
    exact .inl ⟨rfl, hf⟩
  intro h4
  have h4' : t.head = (tgtR d t).num := by simpa using h4
  have hh : lastNum d t.to = t.head := by rw [hlast, h4']
  refine nvA ?_
  refine TO_go (wr := false) 400 (by simp only [kB, kG, kS, kM, k37, Nat.reduceAdd, Nat.reduceLT, Nat.reduceEqDiff, ↓reduceIte, reduceCtorEq, look_F]; first | done | rfl) ?_ ?_
  · exact obT (ty_F s)
  obtain ⟨on, hon⟩ : ∃ on, on = decide ((⟨(tgtR d t).path, (tgtR d t).num⟩ : Fil) ∈ s) := ⟨_, rfl⟩
  have hfit := open_eq c1 c2 hu hrun hh
  rw [← kindFB_on (on := on) fun hl => by rw [hon]; exact open_on hg hN hs hh hl] at hfit
  rw [← hon]
  have hK := kindFits_ac t (srcR d t) (live d t.to) on
  have hM := moveFits_ac d hg (by omega) t (by omega)
  refine nvA ?_
  refine drA (wr := false) ([(105, B (live d t.to)), (107, B (kindFB t.kind (srcR d t) (live d t.to) on)), (111, B (moveFB d t))] : List (Nat × AV)) (by simp only [kD, kB, kG, kS, kM, k37, Nat.reduceAdd, Nat.reduceLT, Nat.reduceEqDiff, ↓reduceIte, reduceCtorEq]; first | done | rfl) ?_ ?_
  · exact obH (hV) (hK) (hM)
  try refine v37U12 ?_
  refine rtA (by simp only [kR, Tryz.results37, ↓reduceIte, Nat.reduceEqDiff, reduceCtorEq, effLoad, cellsOf, List.map, List.length_cons, List.length_nil, List.getD_cons_zero, List.getD_cons_succ, List.getD_nil, List.drop, List.take, splice, ti100]; first | done | rfl) ([]) ?_
  refine ⟨?_, rfl⟩
  rw [hfit]
  right
  cases kindFB t.kind (srcR d t) (live d t.to) on <;> rfl
end Go.Proofs.YtmhboloicpieeaaGreatDoor

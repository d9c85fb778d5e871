/- A part of the proof. -/
import Derived.Test.YtbllfnmabmamfaaGreatDoorRBd2
import Derived.Test.YtbllfnmabmamfaaGreatDoorQP0
import Derived.Test.YtbllfnmabmamfaaGreatDoorQP7
import Derived.Test.YtbllfnmabmamfaaGreatDoorRAbDl
set_option linter.all false
namespace Go.Proofs.YtbllfnmabmamfaaGreatDoor
open Go.Ab Tys
@[reducible] def vR (r : Rev) : Bool × List D := (true, encRev r)
def isM (r : Rev) : Bool := decide (¬ r.act = 5)
def memL (l : List Rev) : List (Fil × Rev) := (l.filter isM).map fun r => (fileOf r, r)
theorem lookRv (m : List (Fil × Rev)) (p : ByteArray) (n : Int) : findE [C.d (.v (.string p)), C.d (.v (.int .i64 n))] ((mEnt kF vR m).map upE) = (alook m ⟨p, n⟩).map fun v => (true, (encRev v).map C.d) :=
  findE_ent (ve := vR) kF_eq m ⟨p, n⟩
theorem tyRv (m : List (Fil × Rev)) : ∀ e ∈ (mEnt kF vR m).map upE, e.1.1 = true ∧ tyCs [.str, .int .i64] e.1.2 := by
  intro e he
  simp only [mEnt, List.mem_map] at he
  obtain ⟨_, ⟨f, _, rfl⟩, rfl⟩ := he
  exact ⟨rfl, by simp [upE, upD, tyCs]⟩
theorem ins_R (m : List (Fil × Rev)) (p : ByteArray) (n : Int) (v : Rev) : insE (true, [C.d (.v (.string p)), C.d (.v (.int .i64 n))]) (true, [.d (.v (.string v.path)), .d (.v (.int .i64 v.num)), .d (.v (.int .i64 v.chg)), .d (.v (.int .i64 v.act)), .d (.v (.int .i64 v.base)), .d (.v (.bool v.kw)), .d (.v (.bool v.ex)), .d (.v (.bool v.xe)), .d (.v (.int .u64 v.sum)), .d (.v (.int .i64 v.size)), .d (.v (.string v.frm)), .d (.v (.int .i64 v.fnum))]) ((mEnt kF vR m).map upE) = (mEnt kF vR (aput m ⟨p, n⟩ v)).map upE :=
  insE_ent (ve := vR) kF_eq m ⟨p, n⟩ v
theorem aput_new {κ ν : Type} [DecidableEq κ] : ∀ {m : List (κ × ν)} {k : κ} {v : ν}, alook m k = none → aput m k v = m ++ [(k, v)]
  | [], _, _, _ => rfl
  | (a, b) :: m, k, v, h => by
    simp only [alook] at h
    split at h
    · cases h
    · rename_i e
      simp only [aput, if_neg e, List.cons_append, aput_new h]
@[simp] theorem memL_nil : memL [] = [] := rfl
theorem alook_memL_none {l : List Rev} {f : Fil} (h : ∀ r ∈ l, ¬ r.act = 5 → ¬ fileOf r = f) : alook (memL l) f = none := by
  induction l with
  | nil => rfl
  | cons r l ih =>
    have ih := ih fun r hr => h r (by simp [hr])
    by_cases h5 : r.act = 5
    · simpa [memL, List.filter_cons, isM, h5] using ih
    · have e : memL (r :: l) = (fileOf r, r) :: memL l := by simp [memL, List.filter_cons, isM, h5]
      rw [e, alook, if_neg (fun e => h r (by simp) h5 e.symm)]
      exact ih
theorem memL_step {d : Dep} (hg : Good d.revs) {k : Nat} {v : Rev} (hv : d.revs[k]? = some v) (h5 : ¬ v.act = 5) : aput (memL (d.revs.take k)) (fileOf v) v = memL (d.revs.take k ++ [v]) := by
  rw [aput_new]
  · simp [memL, List.filter_append, isM, h5]
  · refine alook_memL_none fun r hr _ e => ?_
    obtain ⟨i, hi⟩ := List.getElem?_of_mem hr
    have hlt : i < k := by
      have := (List.getElem?_eq_some_iff.1 hi).1
      simp at this; omega
    rw [List.getElem?_take_of_lt hlt] at hi
    have := good_file hg hi hv e
    omega
theorem memL_skip {l : List Rev} {v : Rev} (h5 : v.act = 5) : memL (l ++ [v]) = memL l := by
  simp [memL, List.filter_append, isM, h5]
def k47 := And.intro @Tryz.ntmps47 <| And.intro @bld37 <| And.intro @bld46 <| And.intro @fld37_0 <| And.intro @fld37_1 <| And.intro @fld46_0 <| And.intro @fld46_1 <| And.intro @ti3 <| And.intro @ti37 <| And.intro @ti46 <| @ti9
theorem v47W1 {G G' : Prop} (g : G') (h : Hid G' → G := by intro h9; (first | refine nvB ?_ | refine goA (wr := false) (by simp only [kB, kS, k47, Nat.reduceAdd, Nat.reduceLT, Nat.reduceEqDiff, ↓reduceIte, reduceCtorEq]; first | done | rfl) ?_); (repeat (first | refine nvB ?_ | refine goA (wr := false) (by simp only [kB, kS, k47, Nat.reduceAdd, Nat.reduceLT, Nat.reduceEqDiff, ↓reduceIte, reduceCtorEq]; first | done | rfl) ?_)); exact h9.out) : G := h ⟨g⟩
set_option maxRecDepth 100000 in
set_option maxHeartbeats 4000000 in
theorem name_ac (r : Rev) : AC Tryz.prog 47 [aRev r] [] (fun x st => x = aFil (fileOf r) ∧ st = []) := by
  refine AC_enter Tryz.func47 rfl rfl (by simp only [Tryz.ntmps47, List.length]; omega) ?_
  intro x hx
  simp only [List.range, List.range.loop, List.length, List.zip, List.zipWith, Nat.reduceAdd, Tryz.ntmps47]
  try refine v47W1 ?_
  refine rtA (by simp only [kR, Tryz.results47, ↓reduceIte, Nat.reduceEqDiff, reduceCtorEq, effLoad, cellsOf, List.map, List.length_cons, List.length_nil, List.getD_cons_zero, List.getD_cons_succ, List.getD_nil, List.drop, List.take, splice, ti37]; first | done | rfl) ([]) ?_
  refine ⟨?_, rfl⟩
  rfl
def k45 := And.intro @Tryz.ntmps45 <| And.intro @Tryz.underlying27 <| And.intro @bld30 <| And.intro @bld37 <| And.intro @bld46 <| And.intro @elt27 <| And.intro @fld30_0 <| And.intro @fld46_3 <| And.intro @kyt37 <| And.intro @mpt117 <| And.intro @ti117 <| And.intro @ti27 <| And.intro @ti3 <| And.intro @ti30 <| And.intro @ti37 <| @ti46
theorem v45W1 {G G' : Prop} (g : G') (h : Hid G' → G := by intro h9; (first | refine nvB ?_ | refine goA (wr := false) (by simp only [kB, kM, k45, Nat.reduceAdd, Nat.reduceLT, Nat.reduceEqDiff, ↓reduceIte, reduceCtorEq]; first | done | rfl) ?_); (repeat (first | refine nvB ?_ | refine goA (wr := false) (by simp only [kB, kM, k45, Nat.reduceAdd, Nat.reduceLT, Nat.reduceEqDiff, ↓reduceIte, reduceCtorEq]; first | done | rfl) ?_)); exact h9.out) : G := h ⟨g⟩
set_option maxRecDepth 100000 in
set_option maxHeartbeats 8000000 in
theorem membersOf_ac (d : Dep) (hg : Good d.revs) (hd : d.revs.length ≤ 1000000) : AC Tryz.prog 45 [aDep d] [] (fun r st => r = .c (.d (.pm (mEnt kF vR (memL d.revs)))) ∧ st = []) := by
  refine AC_enter Tryz.func45 rfl rfl (by simp only [Tryz.ntmps45, List.length]; omega) ?_
  intro x hx
  simp only [List.range, List.range.loop, List.length, List.zip, List.zipWith, Nat.reduceAdd, Tryz.ntmps45]
  try refine v45W1 ?_
  refine T_loop (ι := Nat) (I := fun k => ⟨26, [(3, .c (.mp 9)), (11, aRevs d.revs), (12, I .i64 d.revs.length), (13, I .i64 k)], [(9, .map ((mEnt kF vR (memL (d.revs.take k))).map upE))]⟩)
    (Inv := fun k => k ≤ d.revs.length) (μ := fun k => d.revs.length - k) 0 (by simp) ?_ ?_
  · exact enA
  intro k hk
  try refine v45W1 ?_
  refine ifA ?_ ?_
  · intro hlt
    have hlt' : k < d.revs.length := by simpa using hlt
    obtain ⟨v, hv, he, htk⟩ := round encRev d.revs k zRev hlt'
    (repeat (first | refine nvB ?_ | refine goA (wr := false) (by simp only [kB, kM, k45, Nat.reduceAdd, Nat.reduceLT, Nat.reduceEqDiff, ↓reduceIte, reduceCtorEq, he]; first | done | rfl) ?_))
    refine ifA ?_ ?_
    · intro h5
      have h5' : ¬ v.act = 5 := by simpa using h5
      refine nvA ?_
      refine drA (wr := false) ([(22, aFil (fileOf v))] : List (Nat × AV)) (by simp only [kD, kB, kM, k45, Nat.reduceAdd, Nat.reduceLT, Nat.reduceEqDiff, ↓reduceIte, reduceCtorEq, ins_R]; first | done | rfl) ?_ ?_
      · simp only [All, List.cons_append, List.nil_append, InR, List.mem_cons, List.not_mem_nil, or_false, forall_eq_or_imp, forall_eq, clAV, clCs, clC, clCaps, clCap, and_true, true_and, implies_true, List.length_map, List.length_cons, List.length_nil, dArr, cl_arr, tyCs]
        repeat' (first | exact trivial | exact name_ac v | exact tyRv _ | refine And.intro ?_ ?_ | intro _ | assumption | rfl | omega | (rw [Bool.not_eq_true']; assumption) | (simp; done) | (simp only [decide_eq_true_eq] at *; omega) | (simp_all; done))
      try refine v45W1 ?_
      refine ⟨k + 1, by omega, by omega, ?_⟩
      have hs := memL_step hg hv h5'
      rw [← htk] at hs
      rw [← hs]
      exact enA
    · intro h5
      have h5' : v.act = 5 := by simpa using h5
      try refine v45W1 ?_
      refine ⟨k + 1, by omega, by omega, ?_⟩
      rw [htk, memL_skip h5']
      exact enA
  · intro hge
    have hge' : k = d.revs.length := by have : ¬ k < d.revs.length := by simpa using hge
                                        omega
    subst hge'
    rw [List.take_length]
    refine nvA ?_
    refine TO_ent (Ent_frzMapSlot (i := 3) (id := 9) rfl rfl) ?_
    refine fzA ?_
    try refine v45W1 ?_
    refine rtA (by simp only [kR, Tryz.results45, ↓reduceIte, Nat.reduceEqDiff, reduceCtorEq]; first | done | rfl) ([]) ?_
    refine ⟨?_, rfl⟩
    rfl
end Go.Proofs.YtbllfnmabmamfaaGreatDoor
namespace Go.Proofs.YtbllfnmabmamfaaGreatDoor
open Go.Ab Tys
def prevM (m : List (Fil × Rev)) (r : Rev) : Option Rev := if r.act = 1 then none else alook m (befF r)
def k91 := And.intro @Tryz.ntmps91 <| And.intro @bld37 <| And.intro @bld46 <| And.intro @fld37_0 <| And.intro @fld37_1 <| And.intro @fld46_0 <| And.intro @fld46_1 <| And.intro @fld46_3 <| And.intro @fld46_6 <| And.intro @fld46_7 <| And.intro @kyt37 <| And.intro @mpt117 <| And.intro @ti117 <| And.intro @ti3 <| And.intro @ti37 <| And.intro @ti46 <| @ti9
theorem v91W2 {G G' : Prop} (g : G') (h : Hid G' → G := by intro h9; (first | refine nvB ?_ | refine goA (wr := false) (by simp only [kB, kS, kM, k91, Nat.reduceAdd, Nat.reduceLT, Nat.reduceEqDiff, ↓reduceIte, reduceCtorEq]; first | done | rfl) ?_); (repeat (first | refine nvB ?_ | refine goA (wr := false) (by simp only [kB, kS, kM, k91, Nat.reduceAdd, Nat.reduceLT, Nat.reduceEqDiff, ↓reduceIte, reduceCtorEq]; first | done | rfl) ?_)); exact h9.out) : G := h ⟨g⟩
set_option maxRecDepth 100000 in
set_option maxHeartbeats 8000000 in
theorem previous_ac (m : List (Fil × Rev)) (r : Rev) (hn : 1 ≤ r.num ∧ r.num ≤ 1000000) : AC Tryz.prog 91 [.c (.d (.pm (mEnt kF vR m))), aRev r] [] (fun x st => x = .tup [pRev ((prevM m r).getD zRev), pB (prevM m r).isSome] ∧ st = []) := by
  refine AC_enter Tryz.func91 rfl rfl (by simp only [Tryz.ntmps91, List.length]; omega) ?_
  intro x hx
  simp only [List.range, List.range.loop, List.length, List.zip, List.zipWith, Nat.reduceAdd, Tryz.ntmps91]
  try refine v91W2 ?_
  refine ifA ?_ ?_
  · intro h1
    have h1 : r.act = 1 := by simpa using h1
    try refine v91W2 ?_
    refine rtA (by simp only [kR, Tryz.results91, ↓reduceIte, Nat.reduceEqDiff, reduceCtorEq, effLoad, cellsOf, List.map, List.length_cons, List.length_nil, List.getD_cons_zero, List.getD_cons_succ, List.getD_nil, List.drop, List.take, splice, ti46]; first | done | rfl) ([]) ?_
    refine ⟨?_, rfl⟩
    simp [prevM, h1, zRev]
  intro h1
  have h1 : ¬ r.act = 1 := by simpa using h1
  try refine v91W2 ?_
  refine ifA ?_ ?_
  · intro h4
    have h4 : r.act = 4 := by simpa using h4
    cases hk : alook m ⟨r.frm, r.fnum⟩ with
    | none =>
      try refine v91W2 ?_
      refine TO_go (wr := false) 400 (by simp only [kB, kS, kM, k91, Nat.reduceAdd, Nat.reduceLT, Nat.reduceEqDiff, ↓reduceIte, reduceCtorEq, lookRv, hk, Option.map_none, Option.getD_none]; first | done | rfl) ?_ ?_
      · exact obF tyRv
      try refine v91W2 ?_
      refine rtA (by simp only [kR, Tryz.results91, ↓reduceIte, Nat.reduceEqDiff, reduceCtorEq, effLoad, cellsOf, List.map, List.length_cons, List.length_nil, List.getD_cons_zero, List.getD_cons_succ, List.getD_nil, List.drop, List.take, splice, ti46]; first | done | rfl) ([]) ?_
      refine ⟨?_, rfl⟩
      simp [prevM, befF, hk, h1, h4, zRev]
    | some u =>
      try refine v91W2 ?_
      refine TO_go (wr := false) 400 (by simp only [kB, kS, kM, k91, Nat.reduceAdd, Nat.reduceLT, Nat.reduceEqDiff, ↓reduceIte, reduceCtorEq, lookRv, hk, Option.map_some, Option.getD_some]; first | done | rfl) ?_ ?_
      · exact obF tyRv
      try refine v91W2 ?_
      refine rtA (by simp only [kR, Tryz.results91, ↓reduceIte, Nat.reduceEqDiff, reduceCtorEq, effLoad, cellsOf, List.map, List.length_cons, List.length_nil, List.getD_cons_zero, List.getD_cons_succ, List.getD_nil, List.drop, List.take, splice, ti46]; first | done | rfl) ([]) ?_
      refine ⟨?_, rfl⟩
      simp [prevM, befF, hk, h1, h4, zRev]
  · intro h4
    have h4 : ¬ r.act = 4 := by simpa using h4
    cases hk : alook m ⟨r.path, r.num - 1⟩ with
    | none =>
      try refine v91W2 ?_
      refine TO_go (wr := false) 400 (by simp only [kB, kS, kM, k91, Nat.reduceAdd, Nat.reduceLT, Nat.reduceEqDiff, ↓reduceIte, reduceCtorEq, lookRv, hk, Option.map_none, Option.getD_none]; first | done | rfl) ?_ ?_
      · exact obF tyRv
      try refine v91W2 ?_
      refine rtA (by simp only [kR, Tryz.results91, ↓reduceIte, Nat.reduceEqDiff, reduceCtorEq, effLoad, cellsOf, List.map, List.length_cons, List.length_nil, List.getD_cons_zero, List.getD_cons_succ, List.getD_nil, List.drop, List.take, splice, ti46]; first | done | rfl) ([]) ?_
      refine ⟨?_, rfl⟩
      simp [prevM, befF, hk, h1, h4, zRev]
    | some u =>
      try refine v91W2 ?_
      refine TO_go (wr := false) 400 (by simp only [kB, kS, kM, k91, Nat.reduceAdd, Nat.reduceLT, Nat.reduceEqDiff, ↓reduceIte, reduceCtorEq, lookRv, hk, Option.map_some, Option.getD_some]; first | done | rfl) ?_ ?_
      · exact obF tyRv
      try refine v91W2 ?_
      refine rtA (by simp only [kR, Tryz.results91, ↓reduceIte, Nat.reduceEqDiff, reduceCtorEq, effLoad, cellsOf, List.map, List.length_cons, List.length_nil, List.getD_cons_zero, List.getD_cons_succ, List.getD_nil, List.drop, List.take, splice, ti46]; first | done | rfl) ([]) ?_
      refine ⟨?_, rfl⟩
      simp [prevM, befF, hk, h1, h4, zRev]
def k46 := And.intro @Tryz.ntmps46 <| And.intro @bld46 <| And.intro @ti117 <| @ti46
theorem v46W2 {G G' : Prop} (g : G') (h : Hid G' → G := by intro h9; (first | refine nvB ?_ | refine goA (wr := false) (by simp only [kB, kFn, k46, Nat.reduceAdd, Nat.reduceLT, Nat.reduceEqDiff, ↓reduceIte, reduceCtorEq]; first | done | rfl) ?_); (repeat (first | refine nvB ?_ | refine goA (wr := false) (by simp only [kB, kFn, k46, Nat.reduceAdd, Nat.reduceLT, Nat.reduceEqDiff, ↓reduceIte, reduceCtorEq]; first | done | rfl) ?_)); exact h9.out) : G := h ⟨g⟩
set_option maxRecDepth 100000 in
set_option maxHeartbeats 4000000 in
theorem back_ac (m : List (Fil × Rev)) (r : Rev) : AC Tryz.prog 46 [.c (.d (.pm (mEnt kF vR m))), aRev r] [] (fun x st => x = .c (.fn 90 [.pp [.pm (mEnt kF vR m)], .ptr 1103 0]) ∧ st = [(1103, .box ((encRev r).map C.d))]) := by
  refine AC_enter Tryz.func46 rfl rfl (by simp only [Tryz.ntmps46, List.length]; omega) ?_
  intro x hx
  simp only [List.range, List.range.loop, List.length, List.zip, List.zipWith, Nat.reduceAdd, Tryz.ntmps46]
  refine nvA ?_
  refine goA (wr := false) (by simp only [kB, kFn, k46, Nat.reduceAdd, Nat.reduceLT, Nat.reduceEqDiff, ↓reduceIte, reduceCtorEq]; first | done | rfl) ?_
  refine nvA ?_
  refine TO_ent (Ent_frzBoxSlot (i := 2) (id := 2) (cs := [.pm (mEnt kF vR m)]) rfl rfl) ?_
  refine fzA ?_
  refine TO_ent (s' := ⟨6, [(2, .c (.pp [.pm (mEnt kF vR m)])), (3, .c (.ptr 1103 0))], [(1103, .box ((encRev r).map C.d))]⟩) ?_ ?_
  · exact enR (fun i => if i = 1103 then 3 else i)
  try refine v46W2 ?_
  refine rtA (by simp only [kR, Tryz.results46, ↓reduceIte, Nat.reduceEqDiff, reduceCtorEq]; first | done | rfl) ([(1103, .box ((encRev r).map C.d))]) ?_
  refine ⟨?_, rfl⟩
  rfl
end Go.Proofs.YtbllfnmabmamfaaGreatDoor
namespace Go.Proofs.YtbllfnmabmamfaaGreatDoor
open Go.Ab Tys
def lst (m : List (Fil × Rev)) : Nat → Rev → Rev
  | 0, r => r
  | n + 1, r =>
    match prevM m r with
    | none => r
    | some u => lst m n u
theorem lst_none {m : List (Fil × Rev)} {r : Rev} (h : prevM m r = none) : ∀ n, lst m n r = r
  | 0 => rfl
  | n + 1 => by simp [lst, h]
@[reducible] def envI : List (Nat × AV) := [(11, .c (.ptr 11 0))]
@[reducible] def stI (L D : Nat) (lr : Loop) (f c : Rev) : List (Nat × AO) := [(3000, .loop L D envI lr), (11, .box ((encRev f).map C.d)), (1103, .box ((encRev c).map C.d))]
def k90 := And.intro @Tryz.ntmps90 <| And.intro @Tryz.underlying117 <| And.intro @bld46 <| And.intro @ti117 <| @ti46
theorem v90W3 {G G' : Prop} (g : G') (h : Hid G' → G := by intro h9; (first | refine nvB ?_ | refine goA (wr := false) (by simp only [kB, kFn, k90, Nat.reduceAdd, Nat.reduceLT, Nat.reduceEqDiff, ↓reduceIte, reduceCtorEq]; first | done | rfl) ?_); (repeat (first | refine nvB ?_ | refine goA (wr := false) (by simp only [kB, kFn, k90, Nat.reduceAdd, Nat.reduceLT, Nat.reduceEqDiff, ↓reduceIte, reduceCtorEq]; first | done | rfl) ?_)); exact h9.out) : G := h ⟨g⟩
set_option maxRecDepth 100000 in
set_option maxHeartbeats 8000000 in
theorem back1_ac (L D : Nat) (lr : Loop) (m : List (Fil × Rev)) (r0 f0 : Rev) (hl : m.length ≤ 1000000) (hn0 : 1 ≤ r0.num ∧ r0.num ≤ 1000000) (hnm : ∀ r u, prevM m r = some u → 1 ≤ u.num ∧ u.num ≤ 1000000) (hpar : lr.params.size = 1) (h0 : m ≠ [])
    (hAR : ∀ f c v, AR Tryz.prog L lr [aRev v] (stI L D lr f c) (fun st => st = stI L D lr v c)) :
    AC Tryz.prog 90 [.c (.d (.v (.func (.yield L) #[] #[]))), .c (.pp [.pm (mEnt kF vR m)]), .c (.ptr 1103 0)] (stI L D lr f0 r0) (fun _ st => ∃ c, st = stI L D lr (lst m (m.length - 1) r0) c) := by
  have hop := open_wide (P := Tryz.prog)
  have hm0 : 0 < m.length := List.length_pos_iff.2 h0
  refine AC_enter Tryz.func90 rfl rfl (by simp only [Tryz.ntmps90, List.length]; omega) ?_
  intro x hx
  simp only [List.range, List.range.loop, List.length, List.zip, List.zipWith, Nat.reduceAdd, Tryz.ntmps90]
  try refine v90W3 ?_
  refine T_loop (ι := Nat × Rev × Rev) (I := fun i => ⟨24, [(0, .c (.d (.v (.func (.yield L) #[] #[])))), (1, .c (.pp [.pm (mEnt kF vR m)])), (2, .c (.ptr 1103 0)), (7, I .i64 m.length), (8, I .i64 i.1)], stI L D lr i.2.1 i.2.2⟩)
    (Inv := fun i => i.1 ≤ m.length ∧ (1 ≤ i.2.2.num ∧ i.2.2.num ≤ 1000000) ∧ (i.1 = 0 → i.2.2 = r0) ∧ (0 < i.1 → prevM m i.2.1 = some i.2.2 ∧ lst m (m.length - 1) r0 = lst m (m.length - i.1) i.2.1)) (μ := fun i => m.length - i.1) (0, f0, r0) (by simp; exact hn0) ?_ ?_
  · exact enA
  rintro ⟨k, f, c⟩ ⟨h1, h2, h3, h4⟩
  simp only at h1 h2 h3 h4 ⊢
  try refine v90W3 ?_
  refine ifA ?_ ?_
  · intro hlt
    have hlt' : k < m.length := by simpa using hlt
    have hres : lst m (m.length - 1) r0 = lst m (m.length - (k + 1)) c := by
      by_cases hk : k = 0
      · subst hk; rw [h3 rfl]
      · obtain ⟨a1, a2⟩ := h4 (by omega)
        rw [a2, show m.length - k = (m.length - (k + 1)) + 1 by omega, lst, a1]
    (repeat (with_reducible first | refine T_seq ?_ | refine T_block ?_ | refine T_skip ?_ | refine T_exit ?_ | refine T_ret ?_ | refine then_normal ?_ | refine then_exit ?_ | refine then_ret ?_ | refine inB_same ?_ | refine inB_normal ?_ | refine inB_ret ?_ | refine inB_other (by decide) ?_ | refine TO_nil ?_))
    refine T_regionI ?_
    refine TJ_step hop (wr := false) rfl (by rfl) (by simp only [kB, kFn, k90, Nat.reduceAdd, Nat.reduceLT, Nat.reduceEqDiff, ↓reduceIte, reduceCtorEq]; first | done | rfl) (by first | exact trivial | (simp only [kO]; omega) | (simp [All, InR]; first | done | omega) | (simp +contextual [All, InR]; first | done | grind)) ?_
    try simp only [kP, Nat.reduceEqDiff, ↓reduceIte, reduceCtorEq]
    refine TJ_step hop (wr := false) rfl (by rfl) (by simp only [kB, kFn, k90, Nat.reduceAdd, Nat.reduceLT, Nat.reduceEqDiff, ↓reduceIte, reduceCtorEq]; first | done | rfl) (by first | exact trivial | (simp only [kO]; omega) | (simp [All, InR]; first | done | omega) | (simp +contextual [All, InR]; first | done | grind)) ?_
    try simp only [kP, Nat.reduceEqDiff, ↓reduceIte, reduceCtorEq]
    refine TJ_yield (id := 3000) (stI L D lr f c) (by simp) (by simp only [kV, ↓reduceIte, Nat.reduceEqDiff, reduceCtorEq]; first | done | rfl) (by simp only [kV, ↓reduceIte, Nat.reduceEqDiff, reduceCtorEq]; first | done | rfl) rfl (by rw [hpar]; rfl) ⟨by simp [Ab.get], by simp [clAO, clEnv, clAV, clCs, clC, domOf, Ab.get], by simp [clAV, clC, clCs]⟩ (hAR f c c) ?_
    rintro st' rfl
    refine ⟨by simp [Fresh, domOf, Ab.get], ?_⟩
    simp only [kP, Nat.reduceEqDiff, ↓reduceIte, reduceCtorEq]
    refine TJ_step hop (wr := false) rfl (by rfl) (by simp only [kB, kFn, k90, Nat.reduceAdd, Nat.reduceLT, Nat.reduceEqDiff, ↓reduceIte, reduceCtorEq]; first | done | rfl) (by first | exact trivial | (simp only [kO]; omega) | (simp [All, InR]; first | done | omega) | (simp +contextual [All, InR]; first | done | grind)) ?_
    try simp only [kP, Nat.reduceEqDiff, ↓reduceIte, reduceCtorEq]
    refine TJ_nil ?_
    refine nvA ?_
    refine ifA ?_ ?_
    · intro h; cases h
    intro _
    have hpv := previous_ac m c h2
    cases hp : prevM m c with
    | none =>
      rw [hp] at hpv
      simp only [pRev, pB, Option.isSome, Option.getD] at hpv
      (repeat (first | refine v90W3 ?_ | (refine caA [] (hpv) ?_; rintro r st' ⟨rfl, rfl⟩; refine frA ?_)))
      refine ifA ?_ ?_
      rotate_left
      · intro h; cases h
      intro _
      try refine v90W3 ?_
      refine rtV (by simp only [kR, Tryz.results90, ↓reduceIte, Nat.reduceEqDiff, reduceCtorEq]; first | done | rfl) ((stI L D lr c c)) ?_
      exact ⟨c, by rw [hres, lst_none hp]⟩
    | some u =>
      rw [hp] at hpv
      simp only [pRev, pB, Option.isSome, Option.getD] at hpv
      (repeat (first | refine v90W3 ?_ | (refine caA [] (hpv) ?_; rintro r st' ⟨rfl, rfl⟩; refine frA ?_)))
      refine ifA ?_ ?_
      · intro h; cases h
      intro _
      try refine v90W3 ?_
      refine ⟨(k + 1, c, u), ⟨by simp; omega, hnm _ _ hp, by simp, fun _ => ⟨hp, hres⟩⟩, by simp; omega, ?_⟩
      exact enA
  · intro hge
    have hge' : k = m.length := by have : ¬ k < m.length := by simpa using hge
                                   omega
    obtain ⟨a1, a2⟩ := h4 (by omega)
    rw [hge', Nat.sub_self, lst] at a2
    try refine v90W3 ?_
    refine rtV (by simp only [kR, Tryz.results90, ↓reduceIte, Nat.reduceEqDiff, reduceCtorEq]; first | done | rfl) ((stI L D lr f c)) ?_
    exact ⟨c, by rw [a2]⟩
end Go.Proofs.YtbllfnmabmamfaaGreatDoor

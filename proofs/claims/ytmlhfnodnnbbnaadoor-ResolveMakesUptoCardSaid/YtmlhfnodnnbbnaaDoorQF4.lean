/- A part of the proof: contracts of functions of the program over abstract states. -/
import Derived.Test.YtmlhfnodnnbbnaaDoorQF3
set_option linter.all false
namespace Go.Proofs.YtmlhfnodnnbbnaaDoor
open Go.Ab Tys
def cnt (d : Dep) (c : Int) : Nat := (d.revs.filter fun u => decide (u.chg < c)).length
def firstF (d : Dep) : Nat → Rev → Fil
  | 0, v => fileOf v
  | n + 1, v =>
    match prev? d v with
    | none => fileOf v
    | some u => if v.chg ≤ u.chg then fileOf v else firstF d n u
def first (d : Dep) (v : Rev) : Fil := firstF d (cnt d v.chg) v
theorem get?_mem {d : Dep} {p : ByteArray} {n : Int} {u : Rev} (h : get? d p n = some u) : u ∈ d.revs ∧ u.path = p ∧ u.num = n := by
  have h1 := List.mem_of_find?_eq_some h
  have h2 := List.find?_some h
  simp only [log, List.mem_filter] at h1
  exact ⟨h1.1, by simpa using h1.2, by simpa using h2⟩
theorem prev?_mem {d : Dep} {v u : Rev} (h : prev? d v = some u) : u ∈ d.revs := by
  unfold prev? at h
  split at h
  · cases h
  · split at h
    · exact (get?_mem h).1
    · exact (get?_mem h).1
theorem cnt_lt {d : Dep} {u : Rev} {c : Int} (hu : u ∈ d.revs) (h : u.chg < c) : cnt d u.chg < cnt d c := by
  unfold cnt
  generalize d.revs = l at hu
  have hle : ∀ l : List Rev, (l.filter fun w => decide (w.chg < u.chg)).length ≤ (l.filter fun w => decide (w.chg < c)).length := by
    intro l
    induction l with
    | nil => simp
    | cons w l ih =>
      simp only [List.filter_cons]
      by_cases h1 : w.chg < u.chg
      · rw [if_pos (by simpa using h1), if_pos (by simp; omega)]; simpa using ih
      · rw [if_neg (by simpa using h1)]
        split
        · simp; omega
        · exact ih
  induction l with
  | nil => cases hu
  | cons w l ih =>
    rcases List.mem_cons.1 hu with rfl | hu
    · simp only [List.filter_cons]
      rw [if_neg (by simp), if_pos (by simpa using h)]
      have := hle l
      simp; omega
    · have := ih hu
      simp only [List.filter_cons]
      by_cases h1 : w.chg < u.chg
      · rw [if_pos (by simpa using h1), if_pos (by simp; omega)]; simpa using this
      · rw [if_neg (by simpa using h1)]
        split
        · simp; omega
        · exact this
theorem firstF_enough (d : Dep) : ∀ (n m : Nat) (v : Rev), cnt d v.chg ≤ n → cnt d v.chg ≤ m → firstF d n v = firstF d m v := by
  have step : ∀ (n : Nat) (v : Rev), cnt d v.chg ≤ n → firstF d (n + 1) v = firstF d n v := by
    intro n
    induction n with
    | zero =>
      intro v hv
      simp only [firstF]
      split
      · rfl
      · rename_i u hu
        split
        · rfl
        · rename_i hc
          have := cnt_lt (prev?_mem hu) (by omega : u.chg < v.chg)
          omega
    | succ n ih =>
      intro v hv
      rw [firstF]
      conv => rhs; rw [firstF]
      split
      · rfl
      · rename_i u hu
        split
        · rfl
        · rename_i hc
          have := cnt_lt (prev?_mem hu) (by omega : u.chg < v.chg)
          exact ih u (by omega)
  have up : ∀ (k n : Nat) (v : Rev), cnt d v.chg ≤ n → firstF d (n + k) v = firstF d n v := by
    intro k
    induction k with
    | zero => intros; rfl
    | succ k ih => intro n v hv; rw [← Nat.add_assoc, step _ _ (by omega), ih n v hv]
  intro n m v hn hm
  rcases Nat.le_total n m with h | h
  · obtain ⟨k, rfl⟩ := Nat.exists_eq_add_of_le h; exact (up k n v hn).symm
  · obtain ⟨k, rfl⟩ := Nat.exists_eq_add_of_le h; exact up k m v hm
theorem first_none {d : Dep} {v : Rev} (h : prev? d v = none) : first d v = fileOf v := by
  unfold first
  cases cnt d v.chg with
  | zero => rfl
  | succ n => simp [firstF, h]
theorem first_old {d : Dep} {v u : Rev} (h : prev? d v = some u) (hc : v.chg ≤ u.chg) : first d v = fileOf v := by
  unfold first
  cases cnt d v.chg with
  | zero => rfl
  | succ n => simp [firstF, h, hc]
theorem first_step {d : Dep} {v u : Rev} (h : prev? d v = some u) (hc : u.chg < v.chg) : first d v = first d u := by
  have hlt := cnt_lt (prev?_mem h) hc
  unfold first
  obtain ⟨n, hn⟩ : ∃ n, cnt d v.chg = n + 1 := ⟨cnt d v.chg - 1, by omega⟩
  rw [hn, firstF, h]
  simp only
  rw [if_neg (by omega)]
  exact firstF_enough d _ _ u (by omega) (Nat.le_refl _)
def k47 := And.intro @Tryd.ntmps47 <| And.intro @bld24 <| And.intro @bld30 <| And.intro @bld50 <| And.intro @fld24_0 <| And.intro @fld24_1 <| And.intro @fld50_0 <| And.intro @fld50_1 <| And.intro @fld50_2 <| And.intro @ti24 <| And.intro @ti3 <| And.intro @ti30 <| And.intro @ti50 <| @ti9
set_option maxRecDepth 100000 in
set_option maxHeartbeats 4000000 in
theorem first_ac (d : Dep) (v : Rev) (hd : d.revs.length ≤ 1000000) : AC Tryd.prog 47 [aDep d, aRev v] [] (fun r st => r = aFil (first d v) ∧ st = []) := by
  refine AC_enter Tryd.func47 rfl rfl (by simp only [Tryd.ntmps47, List.length]; omega) ?_
  intro x hx
  simp only [List.range, List.range.loop, List.length, List.zip, List.zipWith, Nat.reduceAdd, Tryd.ntmps47]
  (repeat (first | (with_reducible first | refine na ?_ | refine nb ?_ | refine nc ?_ | refine nd ?_ | refine ne ?_ | refine nf ?_ | refine ng ?_ | refine nh ?_ | refine ni ?_ | refine nj ?_ | refine nk ?_ | refine nl ?_ | refine nm (by decide) ?_ | refine nn ?_) | refine TO_go (wr := false) 400 (by simp only [kB, kG, kS, k47, Nat.reduceAdd, Nat.reduceLT, Nat.reduceEqDiff, ↓reduceIte, reduceCtorEq]; first | done | rfl) (by first | exact trivial | (simp only [kO]; omega) | (simp [All, InR]; first | done | omega) | (simp +contextual [All, InR]; first | done | grind)) ?_))
  refine T_loop (ι := Rev) (I := fun u => ⟨28, [(2, .c (.ptr 2 0)), (3, .c (.ptr 3 0)), (4, .c (.ptr 4 0))], [(2, .box ((encDep d).map C.d)), (3, .box ((encRev u).map C.d)), (4, .box ((encFil zFil).map C.d))]⟩)
    (Inv := fun u => first d u = first d v) (μ := fun u => cnt d u.chg) v rfl ?_ ?_
  · (refine Ent_sub (fun i => i) rfl ?_ ⟨?_, ?_, ?_, keepI hx (by simp [domOf, Ab.get])⟩ <;> first | (simp only [kE, dArr, ↓reduceIte, Nat.reduceEqDiff, reduceCtorEq, zFil]; done) | simp [renAV_id, renAO_id, flat_up, Ab.get, clAV, clC, clCs, clAO, cl_f1, cl_s1, cl_f2, cl_s2, cl_a1, domOf, List.flatten, zFil])
  · intro u hu
    (repeat (with_reducible first | refine na ?_ | refine nb ?_ | refine nc ?_ | refine nd ?_ | refine ne ?_ | refine nf ?_ | refine ng ?_ | refine nh ?_ | refine ni ?_ | refine nj ?_ | refine nk ?_ | refine nl ?_ | refine nm (by decide) ?_ | refine nn ?_))
    refine TO_go (wr := false) 400 (by simp only [kB, kG, kS, k47, Nat.reduceAdd, Nat.reduceLT, Nat.reduceEqDiff, ↓reduceIte, reduceCtorEq]; first | done | rfl) (by first | exact trivial | (simp only [kO]; omega) | (simp [All, InR]; first | done | omega) | (simp +contextual [All, InR]; first | done | grind)) ?_
    refine TO_call [] (by simp) (by simp only [evAll, kB, kG, kS, k47, Nat.reduceAdd, Nat.reduceLT, Nat.reduceEqDiff, ↓reduceIte, reduceCtorEq]; first | done | rfl) ⟨by simp, by simp, by simp [clAV, clC, clCs, clCaps, clCap]⟩ (prev_ac d u hd) ?_
    rintro r st' ⟨rfl, rfl⟩
    refine ⟨by simp [Fresh], ?_⟩
    simp only [kP, Nat.reduceEqDiff, ↓reduceIte, reduceCtorEq]
    cases hp : prev? d u with
    | none =>
      refine TO_go (wr := false) 400 (by simp only [kB, kG, kS, k47, Nat.reduceAdd, Nat.reduceLT, Nat.reduceEqDiff, ↓reduceIte, reduceCtorEq, Option.isSome]; first | done | rfl) (by first | exact trivial | (simp only [kO]; omega) | (simp [All, InR]; first | done | omega) | (simp +contextual [All, InR]; first | done | grind)) ?_
      (repeat (first | (with_reducible first | refine na ?_ | refine nb ?_ | refine nc ?_ | refine nd ?_ | refine ne ?_ | refine nf ?_ | refine ng ?_ | refine nh ?_ | refine ni ?_ | refine nj ?_ | refine nk ?_ | refine nl ?_ | refine nm (by decide) ?_ | refine nn ?_) | refine TO_go (wr := false) 400 (by simp only [kB, kG, kS, k47, Nat.reduceAdd, Nat.reduceLT, Nat.reduceEqDiff, ↓reduceIte, reduceCtorEq]; first | done | rfl) (by first | exact trivial | (simp only [kO]; omega) | (simp [All, InR]; first | done | omega) | (simp +contextual [All, InR]; first | done | grind)) ?_))
      refine T_cond (by simp only [kV, ↓reduceIte, Nat.reduceEqDiff, reduceCtorEq]; first | done | rfl) ?_ ?_
      · intro _
        (repeat (first | (with_reducible first | refine na ?_ | refine nb ?_ | refine nc ?_ | refine nd ?_ | refine ne ?_ | refine nf ?_ | refine ng ?_ | refine nh ?_ | refine ni ?_ | refine nj ?_ | refine nk ?_ | refine nl ?_ | refine nm (by decide) ?_ | refine nn ?_) | refine TO_go (wr := false) 400 (by simp only [kB, kG, kS, k47, Nat.reduceAdd, Nat.reduceLT, Nat.reduceEqDiff, ↓reduceIte, reduceCtorEq]; first | done | rfl) (by first | exact trivial | (simp only [kO]; omega) | (simp [All, InR]; first | done | omega) | (simp +contextual [All, InR]; first | done | grind)) ?_))
        refine RetQ_intro (by simp only [kR, Tryd.results47, ↓reduceIte, Nat.reduceEqDiff, reduceCtorEq, effLoad, cellsOf, List.map, List.length_cons, List.length_nil, List.getD_cons_zero, List.getD_cons_succ, List.getD_nil, List.drop, List.take, splice, ti24]; first | done | rfl) (by first | exact trivial | (simp only [kO]; omega) | (simp [All, InR]; first | done | omega) | (simp +contextual [All, InR]; first | done | grind)) [] ⟨by simp [Ab.get, renAO_id], by simp, by simp [clAO, cl_f1, cl_s1, cl_f2, cl_s2, cl_a1, flat_up, clCs, clC, domOf, Ab.get], keepI hx (by simp [domOf, Ab.get])⟩ (by simp [clAV, clPs, clCs, clC, domOf, Ab.get]) ⟨?_, rfl⟩
        rw [← hu, first_none hp]; simp [fileOf]
      · intro h; simp at h
    | some u' =>
      refine TO_go (wr := false) 400 (by simp only [kB, kG, kS, k47, Nat.reduceAdd, Nat.reduceLT, Nat.reduceEqDiff, ↓reduceIte, reduceCtorEq, Option.isSome]; first | done | rfl) (by first | exact trivial | (simp only [kO]; omega) | (simp [All, InR]; first | done | omega) | (simp +contextual [All, InR]; first | done | grind)) ?_
      (repeat (first | (with_reducible first | refine na ?_ | refine nb ?_ | refine nc ?_ | refine nd ?_ | refine ne ?_ | refine nf ?_ | refine ng ?_ | refine nh ?_ | refine ni ?_ | refine nj ?_ | refine nk ?_ | refine nl ?_ | refine nm (by decide) ?_ | refine nn ?_) | refine TO_go (wr := false) 400 (by simp only [kB, kG, kS, k47, Nat.reduceAdd, Nat.reduceLT, Nat.reduceEqDiff, ↓reduceIte, reduceCtorEq]; first | done | rfl) (by first | exact trivial | (simp only [kO]; omega) | (simp [All, InR]; first | done | omega) | (simp +contextual [All, InR]; first | done | grind)) ?_))
      refine T_cond (by simp only [kV, ↓reduceIte, Nat.reduceEqDiff, reduceCtorEq]; first | done | rfl) ?_ ?_
      · intro h
        have hc : u.chg ≤ u'.chg := by simpa using h
        (repeat (first | (with_reducible first | refine na ?_ | refine nb ?_ | refine nc ?_ | refine nd ?_ | refine ne ?_ | refine nf ?_ | refine ng ?_ | refine nh ?_ | refine ni ?_ | refine nj ?_ | refine nk ?_ | refine nl ?_ | refine nm (by decide) ?_ | refine nn ?_) | refine TO_go (wr := false) 400 (by simp only [kB, kG, kS, k47, Nat.reduceAdd, Nat.reduceLT, Nat.reduceEqDiff, ↓reduceIte, reduceCtorEq]; first | done | rfl) (by first | exact trivial | (simp only [kO]; omega) | (simp [All, InR]; first | done | omega) | (simp +contextual [All, InR]; first | done | grind)) ?_))
        refine RetQ_intro (by simp only [kR, Tryd.results47, ↓reduceIte, Nat.reduceEqDiff, reduceCtorEq, effLoad, cellsOf, List.map, List.length_cons, List.length_nil, List.getD_cons_zero, List.getD_cons_succ, List.getD_nil, List.drop, List.take, splice, ti24]; first | done | rfl) (by first | exact trivial | (simp only [kO]; omega) | (simp [All, InR]; first | done | omega) | (simp +contextual [All, InR]; first | done | grind)) [] ⟨by simp [Ab.get, renAO_id], by simp, by simp [clAO, cl_f1, cl_s1, cl_f2, cl_s2, cl_a1, flat_up, clCs, clC, domOf, Ab.get], keepI hx (by simp [domOf, Ab.get])⟩ (by simp [clAV, clPs, clCs, clC, domOf, Ab.get]) ⟨?_, rfl⟩
        rw [← hu, first_old hp hc]; simp [fileOf]
      · intro h
        have hc : u'.chg < u.chg := by simpa using h
        (repeat (first | (with_reducible first | refine na ?_ | refine nb ?_ | refine nc ?_ | refine nd ?_ | refine ne ?_ | refine nf ?_ | refine ng ?_ | refine nh ?_ | refine ni ?_ | refine nj ?_ | refine nk ?_ | refine nl ?_ | refine nm (by decide) ?_ | refine nn ?_) | refine TO_go (wr := false) 400 (by simp only [kB, kG, kS, k47, Nat.reduceAdd, Nat.reduceLT, Nat.reduceEqDiff, ↓reduceIte, reduceCtorEq]; first | done | rfl) (by first | exact trivial | (simp only [kO]; omega) | (simp [All, InR]; first | done | omega) | (simp +contextual [All, InR]; first | done | grind)) ?_))
        refine ⟨u', ?_, cnt_lt (prev?_mem hp) hc, ?_⟩
        · rw [← hu, first_step hp hc]
        · (refine Ent_sub (fun i => i) rfl ?_ ⟨?_, ?_, ?_, keepI hx (by simp [domOf, Ab.get])⟩ <;> first | (simp only [kE, dArr, ↓reduceIte, Nat.reduceEqDiff, reduceCtorEq, zFil]; done) | simp [renAV_id, renAO_id, flat_up, Ab.get, clAV, clC, clCs, clAO, cl_f1, cl_s1, cl_f2, cl_s2, cl_a1, domOf, List.flatten, zFil])
end Go.Proofs.YtmlhfnodnnbbnaaDoor

/- A part of the proof. -/
import Derived.Test.YtmhboloicpieeaaGreatDoorRPD
import Derived.Test.YtmhboloicpieeaaGreatDoorRR3
import Derived.Test.YtmhboloicpieeaaGreatDoorRX19
import Derived.Test.YtmhboloicpieeaaGreatDoorRU8
import Derived.Test.YtmhboloicpieeaaGreatDoorRU14
import Derived.Test.YtmhboloicpieeaaGreatDoorRU15
import Derived.Test.YtmhboloicpieeaaGreatDoorRX6
import Derived.Test.YtmhboloicpieeaaGreatDoorRL3a
set_option linter.all false
namespace Go.Proofs.YtmhboloicpieeaaGreatDoor
open Go.Ab Tys
variable [DrF]
theorem conj_g {g y : Bool} (h : g = false) : conj ((conj [] !g) :: (strip (B y)).2) true = true := by simp [conj, strip, h]
theorem conj_t {g y : Bool} (h : g = true) : conj ((conj [] g) :: (strip (B y)).2) true = true := by simp [conj, strip, h]
def zTsk : Tsk := ⟨0, noS, 0, noS, 0, 0, noS, 0, noS, 0, noS⟩
theorem tasks_rel {l : List Chg} {d : Dep} (hB : Built l d) (m : List Etr) (hm : m.length ≤ 10000) (hb : ∀ e ∈ m, EB1 e) :
    AC Tryz.prog 11 [aDep d, aEtrs m] [] (fun r st => (∃ (ts : List Tsk) (e : Int), r = .tup [pTsks ts, pI e] ∧ ∀ x ∈ ts, TskB d x) ∧ st = []) := by
  obtain ⟨o1, o2, o3⟩ := hB.ok
  refine (tasks_ac d hB.good o1 o2 hB.rc (fun v hv => (hB.pths v hv).2) m hm hb).mono fun r st ⟨h, hst⟩ => ⟨?_, hst⟩
  rcases h with ⟨_, rfl⟩ | ⟨_, rfl⟩
  · exact ⟨_, _, rfl, tskF_B hB.good o1 hB.frmOK hB.pths m⟩
  · exact ⟨_, _, rfl, fun x hx => by cases hx⟩
theorem smallM_EB1 {m : List Etr} (h : smallM m = true) (hb : ∀ e ∈ m, EB 1048576 e ∧ e.holes.length ≤ 1000000) : m.length ≤ 10000 ∧ ∀ e ∈ m, EB1 e := by
  obtain ⟨h1, h2⟩ := smallM_PB h
  refine ⟨by omega, fun e he => ⟨?_, ?_, (hb e he).2, fun x hx => ?_⟩⟩
  · exact (h2 e he e.left (by simp [ptsE])).mono (by omega)
  · exact (h2 e he e.right (by simp [ptsE])).mono (by omega)
  · exact (h2 e he x (by simp [ptsE, hx])).mono (by omega)
def k3 := And.intro @Tryz.ntmps3 <| And.intro @Tryz.underlying32 <| And.intro @Tryz.underlying4 <| And.intro @Tryz.underlying50 <| And.intro @Tryz.underlying9 <| And.intro @bld30 <| And.intro @bld39 <| And.intro @bld41 <| And.intro @bld44 <| And.intro @bld46 <| And.intro @bld54 <| And.intro @bld56 <| And.intro @elt32 <| And.intro @elt50 <| And.intro @eqt41 <| And.intro @eqt44 <| And.intro @fld39_0 <| And.intro @fld39_2 <| And.intro @fld39_4 <| And.intro @fld39_5 <| And.intro @fld39_8 <| And.intro @fld46_3 <| And.intro @fld46_4 <| And.intro @fld46_5 <| And.intro @fld56_1 <| And.intro @fld56_2 <| And.intro @fld56_3 <| And.intro @ti3 <| And.intro @ti30 <| And.intro @ti32 <| And.intro @ti39 <| And.intro @ti41 <| And.intro @ti44 <| And.intro @ti46 <| And.intro @ti50 <| And.intro @ti54 <| And.intro @ti56 <| @ti9
theorem v3X20 {G G' : Prop} (g : G') (h : Hid G' → G := by intro h9; (first | refine nvB ?_ | refine goA (wr := false) (by simp only [kB, kG, kS, k3, Nat.reduceAdd, Nat.reduceLT, Nat.reduceEqDiff, ↓reduceIte, reduceCtorEq]; first | done | rfl) ?_); (repeat (first | refine nvB ?_ | refine goA (wr := false) (by simp only [kB, kG, kS, k3, Nat.reduceAdd, Nat.reduceLT, Nat.reduceEqDiff, ↓reduceIte, reduceCtorEq]; first | done | rfl) ?_)); exact h9.out) : G := h ⟨g⟩
set_option maxRecDepth 100000 in
set_option maxHeartbeats 16000000 in
theorem ResolveKeeps_ac (l : List Chg) (hf : Few l) (m : List Etr) (hm : m.length ≤ 1048576) (hb : ∀ e ∈ m, EB 1048576 e ∧ e.holes.length ≤ 1000000) (pick : Int) :
    AC Tryz.prog 3 [.c (.d (.ps 5 (l.map encChg))), aEtrs m, I .i64 pick] [] (fun r st => r = B true ∧ st = []) := by
  have haw := awake17_ac
  have hsm := small17_ac m hm (fun e he => (hb e he).1)
  have hsz := fun h => smallM_EB1 (m := m) h hb
  generalize smallM m = sb at hsm hsz
  refine AC_enter Tryz.func3 rfl rfl (by simp only [Tryz.ntmps3, List.length]; omega) ?_
  intro x hx
  simp only [List.range, List.range.loop, List.length, List.zip, List.zipWith, Nat.reduceAdd, Tryz.ntmps3]
  try refine v3X20 ?_
  refine caA [] (small_ac l hf) ?_
  rintro r st' ⟨⟨b, rfl, hb1⟩, rfl⟩ <;> refine frA ?_
  try refine v3X20 ?_
  refine TO_stepO (wr := false) ([(25, B sb)] : List (Nat × AV)) rfl (by simp only [kD, kB, kG, kS, k3, Nat.reduceAdd, Nat.reduceLT, Nat.reduceEqDiff, ↓reduceIte, reduceCtorEq]; first | done | rfl) ?_ ?_
  · simp only [All, List.cons_append, List.nil_append, InR, List.mem_cons, List.not_mem_nil, or_false, forall_eq_or_imp, forall_eq, clAV, clCs, clC, clCaps, clCap, and_true, true_and, implies_true, List.length_map, List.length_cons, List.length_nil, dArr, cl_arr, tyCs]
    repeat' (first | exact trivial | exact hsm | refine And.intro ?_ ?_ | intro _ | assumption | rfl | omega | (simp; done) | (simp_all; done))
  simp only [kP, Nat.reduceEqDiff, ↓reduceIte, reduceCtorEq]
  try refine v3X20 ?_
  refine ifA ?_ ?_
  · intro _
    (repeat (first | refine v3X20 ?_ | (refine caA [] (haw) ?_; rintro r st' ⟨rfl, rfl⟩; refine frA ?_)))
    refine rtA (by simp only [kR, Tryz.results3, ↓reduceIte, Nat.reduceEqDiff, reduceCtorEq]; first | done | rfl) ([]) ?_
    refine ⟨?_, rfl⟩
    rfl
  intro hc
  have hb2 : b = true := by cases b <;> simp_all
  have hs1 : sb = true := by cases sb <;> simp_all
  obtain ⟨b1, b2, b3⟩ := hb1 hb2
  obtain ⟨m1, m2⟩ := hsz hs1
  try refine v3X20 ?_
  refine caA [] (build_ac l (by omega) (sC_ok b2 b3)) ?_
  rintro r st' ⟨⟨d, rfl, hB⟩, rfl⟩ <;> refine frA ?_
  obtain ⟨o1, o2, o3⟩ := hB.ok
  try refine v3X20 ?_
  refine caA [] (tasks_rel hB m m1 m2) ?_
  rintro r st' ⟨⟨ts, e, rfl, hT⟩, rfl⟩ <;> refine frA ?_
  try refine v3X20 ?_
  refine ifA ?_ ?_
  · intro _
    (repeat (first | refine v3X20 ?_ | (refine caA [] (haw) ?_; rintro r st' ⟨rfl, rfl⟩; refine frA ?_)))
    refine rtA (by simp only [kR, Tryz.results3, ↓reduceIte, Nat.reduceEqDiff, reduceCtorEq]; first | done | rfl) ([]) ?_
    refine ⟨?_, rfl⟩
    rfl
  intro hc2
  have hpk : 0 ≤ pick ∧ pick < ts.length := by
    by_cases h1 : e = 0
    · by_cases h2 : pick < 0
      · simp [h1, h2] at hc2
      · simp [h1, h2] at hc2; omega
    · simp [h1] at hc2
  obtain ⟨x, hx, hxe, _⟩ := round encTsk ts pick.toNat zTsk (by omega)
  have hxB := hT x (List.mem_of_getElem? hx)
  have hge := get_ac d x.frm x.last (by omega)
  have hla := last_ac d x.to (by omega)
  have hsr : (get? d x.frm x.last).getD zRev = srcR d x := rfl
  have htr : (last? d x.to).getD zRev = tgtR d x := rfl
  rw [hsr] at hge
  rw [htr] at hla
  generalize (get? d x.frm x.last).isSome = gb at hge
  generalize (last? d x.to).isSome = lb at hla
  have hD : (srcR d x).act = 3 → (srcR d x).sum = 0 ∧ (srcR d x).size = 0 := by
    intro h3
    unfold srcR at h3 ⊢
    cases hgt : get? d x.frm x.last with
    | none => rw [hgt] at h3; simp [zRev] at h3
    | some u =>
      rw [hgt] at h3
      exact hB.delOK u (get?_mem hgt).1 h3
  (repeat (first | refine nvB ?_ | refine goA (wr := false) (by simp only [kB, kG, kS, k3, Nat.reduceAdd, Nat.reduceLT, Nat.reduceEqDiff, ↓reduceIte, reduceCtorEq, hxe]; first | done | rfl) ?_ | (refine caA [] (hge) ?_; rintro r st' ⟨rfl, rfl⟩; refine frA ?_) | (refine caA [] (hla) ?_; rintro r st' ⟨rfl, rfl⟩; refine frA ?_)))
  refine ifA ?_ ?_
  · intro _
    (repeat (first | refine v3X20 ?_ | (refine caA [] (haw) ?_; rintro r st' ⟨rfl, rfl⟩; refine frA ?_)))
    refine rtA (by simp only [kR, Tryz.results3, ↓reduceIte, Nat.reduceEqDiff, reduceCtorEq]; first | done | rfl) ([]) ?_
    refine ⟨?_, rfl⟩
    rfl
  intro hc3
  have hsizes : x.to.size ≤ 200 ∧ x.move.size ≤ 200 := by
    by_cases h1 : 200 < x.to.size
    · have : (200 : Int) < ((x.to.size : Nat) : Int) := by omega
      simp [this] at hc3
    · by_cases h2 : 200 < x.move.size
      · have : (200 : Int) < ((x.move.size : Nat) : Int) := by omega
        simp [this] at hc3
      · omega
  have hfit := hxB.fits hsizes.1 hsizes.2
  have hA1 := Resolve_ac d hB.good o1 hB.numOK x (by omega) (by omega) 1 wZ
  have hA2 := Resolve_ac d hB.good o1 hB.numOK x (by omega) (by omega) 2 wZ
  obtain ⟨e2, rc2, hr2, t1, t2, t3, t4⟩ := theirs_keeps hxB hfit hD
  rw [hr2] at hA2
  have hyk := yours_keeps hfit
  have hyb := yours_branch hfit
  generalize srcR d x = sr at *
  generalize tgtR d x = tr at *
  by_cases hk1 : x.kind = 1
  · rw [hyb hk1] at hA1
    (repeat (first | refine v3X20 ?_ | (refine caA [] (hA1) ?_; rintro r st' ⟨rfl, rfl⟩; refine frA ?_)))
    refine ifA ?_ ?_
    rotate_left
    · intro h; simp [hk1] at h
    intro _
    try refine v3X20 ?_
    refine ifA ?_ ?_
    · intro h; simp at h
    intro _
    (repeat (first | refine v3X20 ?_ | (refine caA [] (hA2) ?_; rintro r st' ⟨rfl, rfl⟩; refine frA ?_)))
    refine drA (wr := false) ([] : List (Nat × AV)) (by simp only [kD, kB, kG, kS, k3, Nat.reduceAdd, Nat.reduceLT, Nat.reduceEqDiff, ↓reduceIte, reduceCtorEq]; first | done | rfl) ?_ ?_
    · (simp only [All, List.cons_append, List.nil_append, InR, List.mem_cons, List.not_mem_nil, or_false, forall_eq_or_imp, forall_eq, clAV, clCs, clC, clCaps, clCap, and_true, true_and, implies_true, List.length_map, List.length_cons, List.length_nil]; repeat' (first | exact trivial | exact haw | refine And.intro ?_ ?_ | intro _ | assumption | rfl | omega | contradiction | exact conj_g (by assumption) | exact conj_t (by assumption) | (rw [Bool.not_eq_true']; assumption) | (simp; done)))
    refine nvA ?_
    refine ifA ?_ ?_
    · intro h
      exfalso
      by_cases a : e2.act = 3
      · have b := t3.1 a
        simp [t1, t2, a, b] at h
      · have b : ¬ sr.act = 3 := fun b => a (t3.2 b)
        simp [t1, t2, a, b] at h
    intro _
    refine nvA ?_
    refine drA (wr := false) ([(176, B true)] : List (Nat × AV)) (by simp only [kD, kB, kG, kS, k3, Nat.reduceAdd, Nat.reduceLT, Nat.reduceEqDiff, ↓reduceIte, reduceCtorEq]; first | done | rfl) ?_ ?_
    · (simp only [All, List.cons_append, List.nil_append, InR, List.mem_cons, List.not_mem_nil, or_false, forall_eq_or_imp, forall_eq, clAV, clCs, clC, clCaps, clCap, and_true, true_and, implies_true, List.length_map, List.length_cons, List.length_nil]; repeat' (first | exact trivial | exact haw | refine And.intro ?_ ?_ | intro _ | assumption | rfl | omega | contradiction | exact conj_g (by assumption) | exact conj_t (by assumption) | (rw [Bool.not_eq_true']; assumption) | (simp; done)))
    refine nvA ?_
    refine rtA (by simp only [kR, Tryz.results3, ↓reduceIte, Nat.reduceEqDiff, reduceCtorEq]; first | done | rfl) ([]) ?_
    refine ⟨?_, rfl⟩
    by_cases a : e2.act = 3
    · simp [a]
    · obtain ⟨z1, z2, z3, z4⟩ := t4 a
      simp [a, z1, z2, z3, z4]
  · obtain ⟨e1, rc1, hr1, y1, y2, y3, y4, y5, y6, y7⟩ := hyk hk1
    rw [hr1] at hA1
    (repeat (first | refine v3X20 ?_ | (refine caA [] (hA1) ?_; rintro r st' ⟨rfl, rfl⟩; refine frA ?_)))
    refine ifA ?_ ?_
    · intro h; exact absurd (by simpa using h) hk1
    intro _
    refine nvA ?_
    refine drA (wr := false) ([] : List (Nat × AV)) (by simp only [kD, kB, kG, kS, k3, Nat.reduceAdd, Nat.reduceLT, Nat.reduceEqDiff, ↓reduceIte, reduceCtorEq]; first | done | rfl) ?_ ?_
    · (simp only [All, List.cons_append, List.nil_append, InR, List.mem_cons, List.not_mem_nil, or_false, forall_eq_or_imp, forall_eq, clAV, clCs, clC, clCaps, clCap, and_true, true_and, implies_true, List.length_map, List.length_cons, List.length_nil]; repeat' (first | exact trivial | exact haw | refine And.intro ?_ ?_ | intro _ | assumption | rfl | omega | contradiction | exact conj_g (by assumption) | exact conj_t (by assumption) | (rw [Bool.not_eq_true']; assumption) | (simp; done)))
    refine nvA ?_
    refine ifA ?_ ?_
    · intro h; simp [y1, y2, y3, y4, y5, y6, y7] at h
    intro _
    (repeat (first | refine v3X20 ?_ | (refine caA [] (hA2) ?_; rintro r st' ⟨rfl, rfl⟩; refine frA ?_)))
    refine drA (wr := false) ([] : List (Nat × AV)) (by simp only [kD, kB, kG, kS, k3, Nat.reduceAdd, Nat.reduceLT, Nat.reduceEqDiff, ↓reduceIte, reduceCtorEq]; first | done | rfl) ?_ ?_
    · (simp only [All, List.cons_append, List.nil_append, InR, List.mem_cons, List.not_mem_nil, or_false, forall_eq_or_imp, forall_eq, clAV, clCs, clC, clCaps, clCap, and_true, true_and, implies_true, List.length_map, List.length_cons, List.length_nil]; repeat' (first | exact trivial | exact haw | refine And.intro ?_ ?_ | intro _ | assumption | rfl | omega | contradiction | exact conj_g (by assumption) | exact conj_t (by assumption) | (rw [Bool.not_eq_true']; assumption) | (simp; done)))
    refine nvA ?_
    refine ifA ?_ ?_
    · intro h
      exfalso
      by_cases a : e2.act = 3
      · have b := t3.1 a
        simp [t1, t2, a, b] at h
      · have b : ¬ sr.act = 3 := fun b => a (t3.2 b)
        simp [t1, t2, a, b] at h
    intro _
    refine nvA ?_
    refine drA (wr := false) ([(176, B true)] : List (Nat × AV)) (by simp only [kD, kB, kG, kS, k3, Nat.reduceAdd, Nat.reduceLT, Nat.reduceEqDiff, ↓reduceIte, reduceCtorEq]; first | done | rfl) ?_ ?_
    · (simp only [All, List.cons_append, List.nil_append, InR, List.mem_cons, List.not_mem_nil, or_false, forall_eq_or_imp, forall_eq, clAV, clCs, clC, clCaps, clCap, and_true, true_and, implies_true, List.length_map, List.length_cons, List.length_nil]; repeat' (first | exact trivial | exact haw | refine And.intro ?_ ?_ | intro _ | assumption | rfl | omega | contradiction | exact conj_g (by assumption) | exact conj_t (by assumption) | (rw [Bool.not_eq_true']; assumption) | (simp; done)))
    refine nvA ?_
    refine rtA (by simp only [kR, Tryz.results3, ↓reduceIte, Nat.reduceEqDiff, reduceCtorEq]; first | done | rfl) ([]) ?_
    refine ⟨?_, rfl⟩
    by_cases a : e2.act = 3
    · simp [a]
    · obtain ⟨z1, z2, z3, z4⟩ := t4 a
      simp [a, z1, z2, z3, z4]
end Go.Proofs.YtmhboloicpieeaaGreatDoor

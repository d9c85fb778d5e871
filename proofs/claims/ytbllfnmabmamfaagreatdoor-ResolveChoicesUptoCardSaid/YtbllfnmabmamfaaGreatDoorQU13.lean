/- A part of the proof: contracts of functions of the program over abstract states. -/
import Derived.Test.YtbllfnmabmamfaaGreatDoorQU10
import Derived.Test.YtbllfnmabmamfaaGreatDoorQU3
import Derived.Test.YtbllfnmabmamfaaGreatDoorQU6
set_option linter.all false
namespace Go.Proofs.YtbllfnmabmamfaaGreatDoor
open Go.Ab Tys
@[reducible] def vW (w : Int × Int × Nat) : Bool × List D := (true, [.v (.int .i64 w.1), .v (.int .i64 w.2.1), .v (.func (.func w.2.2) #[] #[])])
def wayL (k : Int) : List (Int × (Int × Int × Nat)) := if k = 1 then [(2, (1, 1, 78))] else if k = 3 then [(1, (2, 3, 79)), (2, (3, 1, 80))] else [(1, (2, 3, 79)), (2, (2, 1, 78)), (3, (2, 2, 81)), (4, (2, 4, 81))]
theorem look_W (m : List (Int × (Int × Int × Nat))) (n : Int) : findE [C.d (.v (.int .i64 n))] ((mEnt kN vW m).map upE) = (alook m n).map fun v => upD (vW v) := findE_ent (ve := vW) kN_eq m n
theorem ins_W (m : List (Int × (Int × Int × Nat))) (n a h : Int) (F : Nat) : insE (false, [C.d (.v (.int .i64 n))]) (true, [.d (.v (.int .i64 a)), .d (.v (.int .i64 h)), .d (.v (.func (.func F) #[] #[]))]) ((mEnt kN vW m).map upE) = (mEnt kN vW (aput m n (a, h, F))).map upE :=
  insE_ent (ve := vW) kN_eq m n (a, h, F)
theorem ty_W (m : List (Int × (Int × Int × Nat))) : ∀ e ∈ (mEnt kN vW m).map upE, e.1.1 = false ∧ tyCs [.int .i64] e.1.2 := by
  intro e he
  simp only [mEnt, List.mem_map] at he
  obtain ⟨_, ⟨f, _, rfl⟩, rfl⟩ := he
  exact ⟨rfl, by simp [upE, upD, tyCs]⟩
def k39 := And.intro @Tryz.ntmps39 <| And.intro @bld107 <| And.intro @fld107_0 <| And.intro @fld107_1 <| And.intro @fld107_2 <| And.intro @kyt3 <| And.intro @mpt109 <| And.intro @ti105 <| And.intro @ti107 <| And.intro @ti109 <| @ti3
set_option maxRecDepth 100000 in
set_option maxHeartbeats 8000000 in
theorem ways_ac (k : Int) : AC Tryz.prog 39 [I .i64 k] [] (fun r st => r = .c (.d (.pm (mEnt kN vW (wayL k)))) ∧ st = []) := by
  refine AC_enter Tryz.func39 rfl rfl (by simp only [Tryz.ntmps39, List.length]; omega) ?_
  intro x hx
  simp only [List.range, List.range.loop, List.length, List.zip, List.zipWith, Nat.reduceAdd, Tryz.ntmps39]
  (repeat (first | (with_reducible first | refine na ?_ | refine nb ?_ | refine nc ?_ | refine nd ?_ | refine ne ?_ | refine nf ?_ | refine ng ?_ | refine nh ?_ | refine ni ?_ | refine nj ?_ | refine nk ?_ | refine nl ?_ | refine nm (by decide) ?_ | refine nn ?_) | refine TO_go (wr := false) 400 (by simp only [kB, kS, kM, k39, Nat.reduceAdd, Nat.reduceLT, Nat.reduceEqDiff, ↓reduceIte, reduceCtorEq]; first | done | rfl) (by first | exact trivial | (simp only [kO]; omega) | (simp [All, InR]; first | done | omega) | (simp +contextual [All, InR]; first | done | grind)) ?_))
  refine T_cond (by simp only [kV, ↓reduceIte, Nat.reduceEqDiff, reduceCtorEq]; first | done | rfl) ?_ ?_
  · intro h
    have h' : k = 1 := by simpa using h
    (repeat (with_reducible first | refine na ?_ | refine nb ?_ | refine nc ?_ | refine nd ?_ | refine ne ?_ | refine nf ?_ | refine ng ?_ | refine nh ?_ | refine ni ?_ | refine nj ?_ | refine nk ?_ | refine nl ?_ | refine nm (by decide) ?_ | refine nn ?_))
    refine TO_go (wr := false) 400 (by simp only [kB, kS, kM, k39, Nat.reduceAdd, Nat.reduceLT, Nat.reduceEqDiff, ↓reduceIte, reduceCtorEq, insE, keyB, eqC]; first | done | rfl) ?_ ?_
    · simp [All, InR, tyCs, insE, keyB, eqC]
    refine TO_ent (Ent_frzMapSlot (i := 2) (id := 6) (es := mEnt kN vW [(2, (1, 1, 78))]) rfl rfl) ?_
    simp only [Ab.put, Nat.reduceEqDiff, ↓reduceIte, reduceCtorEq, if_false, if_true]
    (repeat (first | (with_reducible first | refine na ?_ | refine nb ?_ | refine nc ?_ | refine nd ?_ | refine ne ?_ | refine nf ?_ | refine ng ?_ | refine nh ?_ | refine ni ?_ | refine nj ?_ | refine nk ?_ | refine nl ?_ | refine nm (by decide) ?_ | refine nn ?_) | refine TO_go (wr := false) 400 (by simp only [kB, kS, kM, k39, Nat.reduceAdd, Nat.reduceLT, Nat.reduceEqDiff, ↓reduceIte, reduceCtorEq]; first | done | rfl) (by first | exact trivial | (simp only [kO]; omega) | (simp [All, InR]; first | done | omega) | (simp +contextual [All, InR]; first | done | grind)) ?_))
    refine RetQ_intro (by simp only [kR, Tryz.results39, ↓reduceIte, Nat.reduceEqDiff, reduceCtorEq]; first | done | rfl) (by first | exact trivial | (simp only [kO]; omega) | (simp [All, InR]; first | done | omega) | (simp +contextual [All, InR]; first | done | grind)) [] ⟨by simp [Ab.get, renAO_id], by simp, by simp [clAO, cl_f1, cl_s1, cl_f2, cl_s2, cl_a1, flat_up, clCs, clC, domOf, Ab.get], keepI hx (by simp [domOf, Ab.get])⟩ (by simp [clAV, clPs, clCs, clC, domOf, Ab.get]) ⟨?_, rfl⟩
    simp [wayL, h']
  intro h
  have h' : ¬ k = 1 := by simpa using h
  (repeat (first | (with_reducible first | refine na ?_ | refine nb ?_ | refine nc ?_ | refine nd ?_ | refine ne ?_ | refine nf ?_ | refine ng ?_ | refine nh ?_ | refine ni ?_ | refine nj ?_ | refine nk ?_ | refine nl ?_ | refine nm (by decide) ?_ | refine nn ?_) | refine TO_go (wr := false) 400 (by simp only [kB, kS, kM, k39, Nat.reduceAdd, Nat.reduceLT, Nat.reduceEqDiff, ↓reduceIte, reduceCtorEq]; first | done | rfl) (by first | exact trivial | (simp only [kO]; omega) | (simp [All, InR]; first | done | omega) | (simp +contextual [All, InR]; first | done | grind)) ?_))
  refine T_cond (by simp only [kV, ↓reduceIte, Nat.reduceEqDiff, reduceCtorEq]; first | done | rfl) ?_ ?_
  · intro h3
    have h3' : k = 3 := by simpa using h3
    (repeat (with_reducible first | refine na ?_ | refine nb ?_ | refine nc ?_ | refine nd ?_ | refine ne ?_ | refine nf ?_ | refine ng ?_ | refine nh ?_ | refine ni ?_ | refine nj ?_ | refine nk ?_ | refine nl ?_ | refine nm (by decide) ?_ | refine nn ?_))
    refine TO_go (wr := false) 400 (by simp only [kB, kS, kM, k39, Nat.reduceAdd, Nat.reduceLT, Nat.reduceEqDiff, ↓reduceIte, reduceCtorEq, insE, keyB, eqC]; first | done | rfl) ?_ ?_
    · simp [All, InR, tyCs, insE, keyB, eqC]
    refine TO_ent (Ent_frzMapSlot (i := 2) (id := 11) (es := mEnt kN vW [(1, (2, 3, 79)), (2, (3, 1, 80))]) rfl rfl) ?_
    simp only [Ab.put, Nat.reduceEqDiff, ↓reduceIte, reduceCtorEq, if_false, if_true]
    (repeat (first | (with_reducible first | refine na ?_ | refine nb ?_ | refine nc ?_ | refine nd ?_ | refine ne ?_ | refine nf ?_ | refine ng ?_ | refine nh ?_ | refine ni ?_ | refine nj ?_ | refine nk ?_ | refine nl ?_ | refine nm (by decide) ?_ | refine nn ?_) | refine TO_go (wr := false) 400 (by simp only [kB, kS, kM, k39, Nat.reduceAdd, Nat.reduceLT, Nat.reduceEqDiff, ↓reduceIte, reduceCtorEq]; first | done | rfl) (by first | exact trivial | (simp only [kO]; omega) | (simp [All, InR]; first | done | omega) | (simp +contextual [All, InR]; first | done | grind)) ?_))
    refine RetQ_intro (by simp only [kR, Tryz.results39, ↓reduceIte, Nat.reduceEqDiff, reduceCtorEq]; first | done | rfl) (by first | exact trivial | (simp only [kO]; omega) | (simp [All, InR]; first | done | omega) | (simp +contextual [All, InR]; first | done | grind)) [] ⟨by simp [Ab.get, renAO_id], by simp, by simp [clAO, cl_f1, cl_s1, cl_f2, cl_s2, cl_a1, flat_up, clCs, clC, domOf, Ab.get], keepI hx (by simp [domOf, Ab.get])⟩ (by simp [clAV, clPs, clCs, clC, domOf, Ab.get]) ⟨?_, rfl⟩
    simp [wayL, h3']
  intro h3
  have h3' : ¬ k = 3 := by simpa using h3
  (repeat (with_reducible first | refine na ?_ | refine nb ?_ | refine nc ?_ | refine nd ?_ | refine ne ?_ | refine nf ?_ | refine ng ?_ | refine nh ?_ | refine ni ?_ | refine nj ?_ | refine nk ?_ | refine nl ?_ | refine nm (by decide) ?_ | refine nn ?_))
  refine TO_go (wr := false) 400 (by simp only [kB, kS, kM, k39, Nat.reduceAdd, Nat.reduceLT, Nat.reduceEqDiff, ↓reduceIte, reduceCtorEq, insE, keyB, eqC]; first | done | rfl) ?_ ?_
  · simp [All, InR, tyCs, insE, keyB, eqC]
  refine TO_ent (Ent_frzMapSlot (i := 2) (id := 15) (es := mEnt kN vW [(1, (2, 3, 79)), (2, (2, 1, 78)), (3, (2, 2, 81)), (4, (2, 4, 81))]) rfl rfl) ?_
  simp only [Ab.put, Nat.reduceEqDiff, ↓reduceIte, reduceCtorEq, if_false, if_true]
  (repeat (first | (with_reducible first | refine na ?_ | refine nb ?_ | refine nc ?_ | refine nd ?_ | refine ne ?_ | refine nf ?_ | refine ng ?_ | refine nh ?_ | refine ni ?_ | refine nj ?_ | refine nk ?_ | refine nl ?_ | refine nm (by decide) ?_ | refine nn ?_) | refine TO_go (wr := false) 400 (by simp only [kB, kS, kM, k39, Nat.reduceAdd, Nat.reduceLT, Nat.reduceEqDiff, ↓reduceIte, reduceCtorEq]; first | done | rfl) (by first | exact trivial | (simp only [kO]; omega) | (simp [All, InR]; first | done | omega) | (simp +contextual [All, InR]; first | done | grind)) ?_))
  refine RetQ_intro (by simp only [kR, Tryz.results39, ↓reduceIte, Nat.reduceEqDiff, reduceCtorEq]; first | done | rfl) (by first | exact trivial | (simp only [kO]; omega) | (simp [All, InR]; first | done | omega) | (simp +contextual [All, InR]; first | done | grind)) [] ⟨by simp [Ab.get, renAO_id], by simp, by simp [clAO, cl_f1, cl_s1, cl_f2, cl_s2, cl_a1, flat_up, clCs, clC, domOf, Ab.get], keepI hx (by simp [domOf, Ab.get])⟩ (by simp [clAV, clPs, clCs, clC, domOf, Ab.get]) ⟨?_, rfl⟩
  simp [wayL, h', h3']
theorem way_none {k ch : Int} (h : alook (wayL k) ch = none) : allowB k ch = false := by
  unfold wayL at h
  unfold allowB
  by_cases k1 : k = 1
  · rw [if_pos k1] at h ⊢
    by_cases c2 : ch = 2
    · simp [alook, c2] at h
    · simp [c2]
  rw [if_neg k1] at h ⊢
  by_cases c1 : ch = 1
  · exfalso; revert h; split <;> simp [alook, c1]
  by_cases c2 : ch = 2
  · exfalso; revert h; split <;> simp [alook, c2]
  by_cases k3 : k = 3
  · rw [if_pos k3]
    simp [c1, c2]
  rw [if_neg k3] at h ⊢
  by_cases c3 : ch = 3
  · simp [alook, c3] at h
  by_cases c4 : ch = 4
  · simp [alook, c4] at h
  simp; omega
theorem way_some {d : Dep} {t : Tsk} {ch : Int} {w : Rsn} {a h : Int} {F : Nat} (hw : alook (wayL t.kind) ch = some (a, h, F)) : allowB t.kind ch = true ∧ ∃ (b : Int) (kw ex xe : Bool) (sm sz : Int),
    resE d t ch w = (⟨t.to, a, b, kw, ex, xe, sm, sz, t.head, noS, 0, 0⟩, h) ∧ AC Tryz.prog F [.agg ((encPrb d t (srcR d t) (tgtR d t)).map C.d), aRsn w] [] (fun r st => r = .tup [(true, [.d (.v (.int .i64 b)), .d (.v (.bool kw)), .d (.v (.bool ex)), .d (.v (.bool xe))]), (true, [.d (.v (.int .u64 sm)), .d (.v (.int .i64 sz))])] ∧ st = []) := by
  unfold wayL at hw
  by_cases k1 : t.kind = 1
  · rw [if_pos k1] at hw
    by_cases c2 : ch = 2
    · subst c2
      simp [alook] at hw
      obtain ⟨rfl, rfl, rfl⟩ := hw
      exact ⟨by simp [allowB, k1], _, _, _, _, _, _, by simp [resE, k1] <;> rfl, ofSource_ac d t (srcR d t) (tgtR d t) w⟩
    · simp [alook, c2] at hw
  rw [if_neg k1] at hw
  by_cases k3 : t.kind = 3
  · rw [if_pos k3] at hw
    by_cases c1 : ch = 1
    · subst c1
      simp [alook] at hw
      obtain ⟨rfl, rfl, rfl⟩ := hw
      exact ⟨by simp [allowB, k3], _, _, _, _, _, _, by simp [resE, k3] <;> rfl, ofTarget_ac d t (srcR d t) (tgtR d t) w⟩
    by_cases c2 : ch = 2
    · subst c2
      simp [alook] at hw
      obtain ⟨rfl, rfl, rfl⟩ := hw
      exact ⟨by simp [allowB, k3], _, _, _, _, _, _, by simp [resE, k3] <;> rfl, ofDeleted_ac d t (srcR d t) (tgtR d t) w⟩
    · simp [alook, c1, c2] at hw
  rw [if_neg k3] at hw
  by_cases c1 : ch = 1
  · subst c1
    simp [alook] at hw
    obtain ⟨rfl, rfl, rfl⟩ := hw
    exact ⟨by simp [allowB, k1, k3], _, _, _, _, _, _, by simp [resE, k1] <;> rfl, ofTarget_ac d t (srcR d t) (tgtR d t) w⟩
  by_cases c2 : ch = 2
  · subst c2
    simp [alook] at hw
    obtain ⟨rfl, rfl, rfl⟩ := hw
    exact ⟨by simp [allowB, k1, k3], _, _, _, _, _, _, by simp [resE, k1, k3] <;> rfl, ofSource_ac d t (srcR d t) (tgtR d t) w⟩
  by_cases c3 : ch = 3
  · subst c3
    simp [alook] at hw
    obtain ⟨rfl, rfl, rfl⟩ := hw
    exact ⟨by simp [allowB, k1, k3], _, _, _, _, _, _, by simp [resE, k1, k3] <;> rfl, ofMerge_ac d t (srcR d t) (tgtR d t) w⟩
  by_cases c4 : ch = 4
  · subst c4
    simp [alook] at hw
    obtain ⟨rfl, rfl, rfl⟩ := hw
    exact ⟨by simp [allowB, k1, k3], _, _, _, _, _, _, by simp [resE, k1, k3] <;> rfl, ofMerge_ac d t (srcR d t) (tgtR d t) w⟩
  · simp [alook, c1, c2, c3, c4] at hw
def k41 := And.intro @Tryz.ntmps41 <| And.intro @bld102 <| And.intro @bld30 <| And.intro @bld39 <| And.intro @bld41 <| And.intro @bld46 <| And.intro @bld56 <| And.intro @elt50 <| And.intro @fld102_0 <| And.intro @fld102_1 <| And.intro @fld102_3 <| And.intro @fld39_5 <| And.intro @fld39_6 <| And.intro @fld39_8 <| And.intro @fld46_1 <| And.intro @fld46_4 <| And.intro @fld56_0 <| And.intro @fld56_1 <| And.intro @fld56_2 <| And.intro @fld56_4 <| And.intro @fld56_5 <| And.intro @fld56_6 <| And.intro @ti102 <| And.intro @ti3 <| And.intro @ti30 <| And.intro @ti39 <| And.intro @ti41 <| And.intro @ti46 <| And.intro @ti50 <| And.intro @ti56 <| @ti9
set_option maxRecDepth 100000 in
set_option maxHeartbeats 8000000 in
theorem pmoved_ac (d : Dep) (hg : Good d.revs) (hd : d.revs.length ≤ 1000000) (t : Tsk) (s : Rev) (e : Edt) (hto : usableB t.to = true) (hmv : usableB t.move = true) (ht : t.to.size ≤ 1500) (hm : t.move.size ≤ 1500) :
    AC Tryz.prog 41 [.agg ((encPrb d t s (tgtR d t)).map C.d), aEdt e] [] (fun r st => r = .c (.d (.ps 12 ((movE d t e).map encEdt))) ∧ st = []) := by
  have hL := hLast_ac d hg hd t.move
  have hC := pcompare_ac t.to t.move (by omega) (by omega)
  have v1 : (path? t.to).isSome = true := by
    cases h : (path? t.to).isSome with
    | true => rfl
    | false => simp [usableB, h] at hto
  have v2 : (path? t.move).isSome = true := by
    cases h : (path? t.move).isSome with
    | true => rfl
    | false => simp [usableB, h] at hmv
  rw [v1, v2] at hC
  simp only [Bool.and_self, if_true] at hC
  have hln : lastNum d t.move = ((last? d t.move).getD zRev).num := rfl
  generalize (last? d t.move).getD zRev = lm at hL hln
  generalize (last? d t.move).isSome = lb at hL
  refine AC_enter Tryz.func41 rfl rfl (by simp only [Tryz.ntmps41, List.length]; omega) ?_
  intro x hx
  simp only [List.range, List.range.loop, List.length, List.zip, List.zipWith, Nat.reduceAdd, Tryz.ntmps41]
  (repeat (first | (with_reducible first | refine na ?_ | refine nb ?_ | refine nc ?_ | refine nd ?_ | refine ne ?_ | refine nf ?_ | refine ng ?_ | refine nh ?_ | refine ni ?_ | refine nj ?_ | refine nk ?_ | refine nl ?_ | refine nm (by decide) ?_ | refine nn ?_) | refine TO_go (wr := false) 400 (by simp only [kB, kS, k41, Nat.reduceAdd, Nat.reduceLT, Nat.reduceEqDiff, ↓reduceIte, reduceCtorEq]; first | done | rfl) (by first | exact trivial | (simp only [kO]; omega) | (simp [All, InR]; first | done | omega) | (simp +contextual [All, InR]; first | done | grind)) ?_ | (refine TO_call [] (by simp) (by simp only [kV, ↓reduceIte, Nat.reduceEqDiff, reduceCtorEq]; first | done | rfl) ⟨by simp, by simp, by simp [clAV, clC, clCs, clCaps, clCap]⟩ (hL) ?_; (rintro r st' ⟨rfl, rfl⟩; refine ⟨by simp [Fresh], ?_⟩; simp only [kP, Nat.reduceEqDiff, ↓reduceIte, reduceCtorEq]))))
  refine T_draw (wr := false) ([] : List (Nat × AV)) (by kernel_rfl) (by simp only [kD, kB, kS, k41, Nat.reduceAdd, Nat.reduceLT, Nat.reduceEqDiff, ↓reduceIte, reduceCtorEq]; first | done | rfl) ?_ (by kernel_rfl) ?_
  · simp only [All, List.cons_append, List.nil_append, InR, List.mem_cons, List.not_mem_nil, or_false, forall_eq_or_imp, forall_eq, clAV, clCs, clC, clCaps, clCap, and_true, true_and, implies_true, List.length_map, List.length_cons, List.length_nil, dArr, cl_arr, tyCs]
    repeat' (first | exact trivial | refine And.intro ?_ ?_ | intro _ | assumption | rfl | omega | (rw [Bool.not_eq_true']; assumption) | (simp; done) | (simp only [decide_eq_true_eq] at *; omega) | (simp_all; done))
  (repeat (with_reducible first | refine na ?_ | refine nb ?_ | refine nc ?_ | refine nd ?_ | refine ne ?_ | refine nf ?_ | refine ng ?_ | refine nh ?_ | refine ni ?_ | refine nj ?_ | refine nk ?_ | refine nl ?_ | refine nm (by decide) ?_ | refine nn ?_))
  refine T_draw (wr := false) ([] : List (Nat × AV)) (by kernel_rfl) (by simp only [kD, kB, kS, k41, Nat.reduceAdd, Nat.reduceLT, Nat.reduceEqDiff, ↓reduceIte, reduceCtorEq]; first | done | rfl) ?_ (by kernel_rfl) ?_
  · simp only [All, List.cons_append, List.nil_append, InR, List.mem_cons, List.not_mem_nil, or_false, forall_eq_or_imp, forall_eq, clAV, clCs, clC, clCaps, clCap, and_true, true_and, implies_true, List.length_map, List.length_cons, List.length_nil, dArr, cl_arr, tyCs]
    repeat' (first | exact trivial | refine And.intro ?_ ?_ | intro _ | assumption | rfl | omega | (rw [Bool.not_eq_true']; assumption) | (simp; done) | (simp only [decide_eq_true_eq] at *; omega) | (simp_all; done))
  (repeat (with_reducible first | refine na ?_ | refine nb ?_ | refine nc ?_ | refine nd ?_ | refine ne ?_ | refine nf ?_ | refine ng ?_ | refine nh ?_ | refine ni ?_ | refine nj ?_ | refine nk ?_ | refine nl ?_ | refine nm (by decide) ?_ | refine nn ?_))
  (repeat (first | (with_reducible first | refine na ?_ | refine nb ?_ | refine nc ?_ | refine nd ?_ | refine ne ?_ | refine nf ?_ | refine ng ?_ | refine nh ?_ | refine ni ?_ | refine nj ?_ | refine nk ?_ | refine nl ?_ | refine nm (by decide) ?_ | refine nn ?_) | refine TO_go (wr := false) 400 (by simp only [kB, kS, k41, Nat.reduceAdd, Nat.reduceLT, Nat.reduceEqDiff, ↓reduceIte, reduceCtorEq]; first | done | rfl) (by first | exact trivial | (simp only [kO]; omega) | (simp [All, InR]; first | done | omega) | (simp +contextual [All, InR]; first | done | grind)) ?_ | (refine TO_call [] (by simp) (by simp only [kV, ↓reduceIte, Nat.reduceEqDiff, reduceCtorEq]; first | done | rfl) ⟨by simp, by simp, by simp [clAV, clC, clCs, clCaps, clCap]⟩ (hC) ?_; (rintro r st' ⟨rfl, rfl⟩; refine ⟨by simp [Fresh], ?_⟩; simp only [kP, Nat.reduceEqDiff, ↓reduceIte, reduceCtorEq]))))
  refine T_cond (by simp only [kV, ↓reduceIte, Nat.reduceEqDiff, reduceCtorEq]; first | done | rfl) ?_ ?_
  · intro h
    have h' : ord t.to t.move < 0 := by simpa using h
    (repeat (with_reducible first | refine na ?_ | refine nb ?_ | refine nc ?_ | refine nd ?_ | refine ne ?_ | refine nf ?_ | refine ng ?_ | refine nh ?_ | refine ni ?_ | refine nj ?_ | refine nk ?_ | refine nl ?_ | refine nm (by decide) ?_ | refine nn ?_))
    refine TO_go (wr := false) 400 (by simp only [kB, kS, k41, Nat.reduceAdd, Nat.reduceLT, Nat.reduceEqDiff, ↓reduceIte, reduceCtorEq]; first | done | rfl) (by first | exact trivial | (simp only [kO]; omega) | (simp [All, InR]; first | done | omega) | (simp +contextual [All, InR]; first | done | grind)) ?_
    refine TO_ent (Ent_frzSlot (i := 4) (id := 56) (ys := [encEdt (awayE d t), encEdt (hereE d t e)]) rfl ?_ rfl) ?_
    · simp only [awayE, hereE, hln]; rfl
    simp only [Ab.put, Nat.reduceEqDiff, ↓reduceIte, reduceCtorEq, if_false, if_true]
    (repeat (first | (with_reducible first | refine na ?_ | refine nb ?_ | refine nc ?_ | refine nd ?_ | refine ne ?_ | refine nf ?_ | refine ng ?_ | refine nh ?_ | refine ni ?_ | refine nj ?_ | refine nk ?_ | refine nl ?_ | refine nm (by decide) ?_ | refine nn ?_) | refine TO_go (wr := false) 400 (by simp only [kB, kS, k41, Nat.reduceAdd, Nat.reduceLT, Nat.reduceEqDiff, ↓reduceIte, reduceCtorEq]; first | done | rfl) (by first | exact trivial | (simp only [kO]; omega) | (simp [All, InR]; first | done | omega) | (simp +contextual [All, InR]; first | done | grind)) ?_))
    refine RetQ_intro (by simp only [kR, Tryz.results41, ↓reduceIte, Nat.reduceEqDiff, reduceCtorEq]; first | done | rfl) (by first | exact trivial | (simp only [kO]; omega) | (simp [All, InR]; first | done | omega) | (simp +contextual [All, InR]; first | done | grind)) [] ⟨by simp [Ab.get, renAO_id], by simp, by simp [clAO, cl_f1, cl_s1, cl_f2, cl_s2, cl_a1, flat_up, clCs, clC, domOf, Ab.get], keepI hx (by simp [domOf, Ab.get])⟩ (by simp [clAV, clPs, clCs, clC, domOf, Ab.get]) ⟨?_, rfl⟩
    simp only [movE, if_pos h', List.map]
  intro h
  have h' : ¬ ord t.to t.move < 0 := by simpa using h
  (repeat (with_reducible first | refine na ?_ | refine nb ?_ | refine nc ?_ | refine nd ?_ | refine ne ?_ | refine nf ?_ | refine ng ?_ | refine nh ?_ | refine ni ?_ | refine nj ?_ | refine nk ?_ | refine nl ?_ | refine nm (by decide) ?_ | refine nn ?_))
  refine TO_go (wr := false) 400 (by simp only [kB, kS, k41, Nat.reduceAdd, Nat.reduceLT, Nat.reduceEqDiff, ↓reduceIte, reduceCtorEq]; first | done | rfl) (by first | exact trivial | (simp only [kO]; omega) | (simp [All, InR]; first | done | omega) | (simp +contextual [All, InR]; first | done | grind)) ?_
  refine TO_ent (Ent_frzSlot (i := 4) (id := 59) (ys := [encEdt (hereE d t e), encEdt (awayE d t)]) rfl ?_ rfl) ?_
  · simp only [awayE, hereE, hln]; rfl
  simp only [Ab.put, Nat.reduceEqDiff, ↓reduceIte, reduceCtorEq, if_false, if_true]
  (repeat (first | (with_reducible first | refine na ?_ | refine nb ?_ | refine nc ?_ | refine nd ?_ | refine ne ?_ | refine nf ?_ | refine ng ?_ | refine nh ?_ | refine ni ?_ | refine nj ?_ | refine nk ?_ | refine nl ?_ | refine nm (by decide) ?_ | refine nn ?_) | refine TO_go (wr := false) 400 (by simp only [kB, kS, k41, Nat.reduceAdd, Nat.reduceLT, Nat.reduceEqDiff, ↓reduceIte, reduceCtorEq]; first | done | rfl) (by first | exact trivial | (simp only [kO]; omega) | (simp [All, InR]; first | done | omega) | (simp +contextual [All, InR]; first | done | grind)) ?_))
  refine RetQ_intro (by simp only [kR, Tryz.results41, ↓reduceIte, Nat.reduceEqDiff, reduceCtorEq]; first | done | rfl) (by first | exact trivial | (simp only [kO]; omega) | (simp [All, InR]; first | done | omega) | (simp +contextual [All, InR]; first | done | grind)) [] ⟨by simp [Ab.get, renAO_id], by simp, by simp [clAO, cl_f1, cl_s1, cl_f2, cl_s2, cl_a1, flat_up, clCs, clC, domOf, Ab.get], keepI hx (by simp [domOf, Ab.get])⟩ (by simp [clAV, clPs, clCs, clC, domOf, Ab.get]) ⟨?_, rfl⟩
  simp only [movE, if_neg h', List.map]
end Go.Proofs.YtbllfnmabmamfaaGreatDoor

/- A part of the proof: contracts of functions of the program over abstract states. -/
import Derived.Test.YtbllfnmabmamfaaGreatDoorQU5
set_option linter.all false
namespace Go.Proofs.YtbllfnmabmamfaaGreatDoor
open Go.Ab Tys
def shortB (t : Tsk) : Bool := decide ((t.frm.size : Int) + t.to.size + t.move.size + t.lpath.size + t.bpath.size ≤ 1500)
def k15 := And.intro @Tryz.ntmps15 <| And.intro @Tryz.underlying9 <| And.intro @bld37 <| And.intro @bld39 <| And.intro @fld37_0 <| And.intro @fld39_1 <| And.intro @fld39_2 <| And.intro @fld39_5 <| And.intro @fld39_7 <| And.intro @fld39_8 <| And.intro @ti37 <| And.intro @ti39 <| @ti9
set_option maxRecDepth 100000 in
set_option maxHeartbeats 4000000 in
theorem short_ac (t : Tsk) (h1 : t.frm.size ≤ 2000000) (h2 : t.to.size ≤ 2000000) (h3 : t.move.size ≤ 2000000) (h4 : t.lpath.size ≤ 2000000) (h5 : t.bpath.size ≤ 2000000) :
    AC Tryz.prog 15 [aTsk t] [] (fun r st => r = B (shortB t) ∧ st = []) := by
  refine AC_enter Tryz.func15 rfl rfl (by simp only [Tryz.ntmps15, List.length]; omega) ?_
  intro x hx
  simp only [List.range, List.range.loop, List.length, List.zip, List.zipWith, Nat.reduceAdd, Tryz.ntmps15]
  (repeat (first | (with_reducible first | refine na ?_ | refine nb ?_ | refine nc ?_ | refine nd ?_ | refine ne ?_ | refine nf ?_ | refine ng ?_ | refine nh ?_ | refine ni ?_ | refine nj ?_ | refine nk ?_ | refine nl ?_ | refine nm (by decide) ?_ | refine nn ?_) | refine TO_go (wr := false) 400 (by simp only [kB, k15, Nat.reduceAdd, Nat.reduceLT, Nat.reduceEqDiff, ↓reduceIte, reduceCtorEq]; first | done | rfl) (by first | exact trivial | (simp only [kO]; omega) | (simp [All, InR]; first | done | omega) | (simp +contextual [All, InR]; first | done | grind)) ?_))
  refine RetQ_intro (by simp only [kR, Tryz.results15, ↓reduceIte, Nat.reduceEqDiff, reduceCtorEq]; first | done | rfl) (by first | exact trivial | (simp only [kO]; omega) | (simp [All, InR]; first | done | omega) | (simp +contextual [All, InR]; first | done | grind)) [] ⟨by simp [Ab.get, renAO_id], by simp, by simp [clAO, cl_f1, cl_s1, cl_f2, cl_s2, cl_a1, flat_up, clCs, clC, domOf, Ab.get], keepI hx (by simp [domOf, Ab.get])⟩ (by simp [clAV, clPs, clCs, clC, domOf, Ab.get]) ⟨?_, rfl⟩
  rfl
theorem short_fun (t : Tsk) (h1 : t.frm.size ≤ 2000000) (h2 : t.to.size ≤ 2000000) (h3 : t.move.size ≤ 2000000) (h4 : t.lpath.size ≤ 2000000) (h5 : t.bpath.size ≤ 2000000) :
    ∃ b : Bool, AC Tryz.prog 15 [aTsk t] [] (fun r st => r = B b ∧ st = []) ∧ (b = true → t.frm.size ≤ 1500 ∧ t.to.size ≤ 1500 ∧ t.move.size ≤ 1500 ∧ t.lpath.size ≤ 1500) := by
  refine ⟨_, short_ac t h1 h2 h3 h4 h5, ?_⟩
  intro h
  simp only [shortB, decide_eq_true_eq] at h
  omega
def k40 := And.intro @Tryz.ntmps40 <| And.intro @bld39 <| And.intro @bld41 <| And.intro @bld44 <| And.intro @bld54 <| And.intro @fld39_0 <| And.intro @fld39_8 <| And.intro @fld44_1 <| And.intro @fld54_0 <| And.intro @fld54_1 <| And.intro @fld54_2 <| And.intro @ti3 <| And.intro @ti39 <| And.intro @ti4 <| And.intro @ti41 <| And.intro @ti44 <| And.intro @ti54 <| @ti9
set_option maxRecDepth 100000 in
set_option maxHeartbeats 4000000 in
theorem permitted_ac (t : Tsk) (ch : Int) (w : Rsn) : AC Tryz.prog 40 [aTsk t, I .i64 ch, aRsn w] [] (fun r st => r = B (permB t ch w) ∧ st = []) := by
  have hft := ftype_ac w.base w.kw w.ex w.xe
  refine AC_enter Tryz.func40 rfl rfl (by simp only [Tryz.ntmps40, List.length]; omega) ?_
  intro x hx
  simp only [List.range, List.range.loop, List.length, List.zip, List.zipWith, Nat.reduceAdd, Tryz.ntmps40]
  (repeat (first | (with_reducible first | refine na ?_ | refine nb ?_ | refine nc ?_ | refine nd ?_ | refine ne ?_ | refine nf ?_ | refine ng ?_ | refine nh ?_ | refine ni ?_ | refine nj ?_ | refine nk ?_ | refine nl ?_ | refine nm (by decide) ?_ | refine nn ?_) | refine TO_go (wr := false) 400 (by simp only [kB, kG, k40, Nat.reduceAdd, Nat.reduceLT, Nat.reduceEqDiff, ↓reduceIte, reduceCtorEq]; first | done | rfl) (by first | exact trivial | (simp only [kO]; omega) | (simp [All, InR]; first | done | omega) | (simp +contextual [All, InR]; first | done | grind)) ?_))
  refine T_cond (by simp only [kV, ↓reduceIte, Nat.reduceEqDiff, reduceCtorEq]; first | done | rfl) ?_ ?_
  · intro h
    (repeat (first | (with_reducible first | refine na ?_ | refine nb ?_ | refine nc ?_ | refine nd ?_ | refine ne ?_ | refine nf ?_ | refine ng ?_ | refine nh ?_ | refine ni ?_ | refine nj ?_ | refine nk ?_ | refine nl ?_ | refine nm (by decide) ?_ | refine nn ?_) | refine TO_go (wr := false) 400 (by simp only [kB, kG, k40, Nat.reduceAdd, Nat.reduceLT, Nat.reduceEqDiff, ↓reduceIte, reduceCtorEq]; first | done | rfl) (by first | exact trivial | (simp only [kO]; omega) | (simp [All, InR]; first | done | omega) | (simp +contextual [All, InR]; first | done | grind)) ?_))
    refine RetQ_intro (by simp only [kR, Tryz.results40, ↓reduceIte, Nat.reduceEqDiff, reduceCtorEq]; first | done | rfl) (by first | exact trivial | (simp only [kO]; omega) | (simp [All, InR]; first | done | omega) | (simp +contextual [All, InR]; first | done | grind)) [] ⟨by simp [Ab.get, renAO_id], by simp, by simp [clAO, cl_f1, cl_s1, cl_f2, cl_s2, cl_a1, flat_up, clCs, clC, domOf, Ab.get], keepI hx (by simp [domOf, Ab.get])⟩ (by simp [clAV, clPs, clCs, clC, domOf, Ab.get]) ⟨?_, rfl⟩
    have h' : (w.mv && (decide (t.move = noS) || decide (ch = 1) || decide (t.kind = 3))) = true := by rw [← h]; cases w.mv <;> cases decide (t.move = noS) <;> cases decide (ch = 1) <;> rfl
    simp [permB, h']
  intro h
  have h' : (w.mv && (decide (t.move = noS) || decide (ch = 1) || decide (t.kind = 3))) = false := by rw [← h]; cases w.mv <;> cases decide (t.move = noS) <;> cases decide (ch = 1) <;> rfl
  (repeat (first | (with_reducible first | refine na ?_ | refine nb ?_ | refine nc ?_ | refine nd ?_ | refine ne ?_ | refine nf ?_ | refine ng ?_ | refine nh ?_ | refine ni ?_ | refine nj ?_ | refine nk ?_ | refine nl ?_ | refine nm (by decide) ?_ | refine nn ?_) | refine TO_go (wr := false) 400 (by simp only [kB, kG, k40, Nat.reduceAdd, Nat.reduceLT, Nat.reduceEqDiff, ↓reduceIte, reduceCtorEq]; first | done | rfl) (by first | exact trivial | (simp only [kO]; omega) | (simp [All, InR]; first | done | omega) | (simp +contextual [All, InR]; first | done | grind)) ?_))
  refine T_cond (by simp only [kV, ↓reduceIte, Nat.reduceEqDiff, reduceCtorEq]; first | done | rfl) ?_ ?_
  · intro h2
    have h2' : ch = 3 ∨ ch = 4 := by
      by_cases e : ch = 3
      · exact .inl e
      · right; simpa [e] using h2
    (repeat (first | (with_reducible first | refine na ?_ | refine nb ?_ | refine nc ?_ | refine nd ?_ | refine ne ?_ | refine nf ?_ | refine ng ?_ | refine nh ?_ | refine ni ?_ | refine nj ?_ | refine nk ?_ | refine nl ?_ | refine nm (by decide) ?_ | refine nn ?_) | refine TO_go (wr := false) 400 (by simp only [kB, kG, k40, Nat.reduceAdd, Nat.reduceLT, Nat.reduceEqDiff, ↓reduceIte, reduceCtorEq]; first | done | rfl) (by first | exact trivial | (simp only [kO]; omega) | (simp [All, InR]; first | done | omega) | (simp +contextual [All, InR]; first | done | grind)) ?_ | (refine TO_call [] (by simp) (by simp only [kV, ↓reduceIte, Nat.reduceEqDiff, reduceCtorEq]; first | done | rfl) ⟨by simp, by simp, by simp [clAV, clC, clCs, clCaps, clCap]⟩ (hft) ?_; (rintro r st' ⟨rfl, rfl⟩; refine ⟨by simp [Fresh], ?_⟩; simp only [kP, Nat.reduceEqDiff, ↓reduceIte, reduceCtorEq]))))
    refine RetQ_intro (by simp only [kR, Tryz.results40, ↓reduceIte, Nat.reduceEqDiff, reduceCtorEq]; first | done | rfl) (by first | exact trivial | (simp only [kO]; omega) | (simp [All, InR]; first | done | omega) | (simp +contextual [All, InR]; first | done | grind)) [] ⟨by simp [Ab.get, renAO_id], by simp, by simp [clAO, cl_f1, cl_s1, cl_f2, cl_s2, cl_a1, flat_up, clCs, clC, domOf, Ab.get], keepI hx (by simp [domOf, Ab.get])⟩ (by simp [clAV, clPs, clCs, clC, domOf, Ab.get]) ⟨?_, rfl⟩
    simp only [permB, h', if_pos h2', Bool.not_false, Bool.true_and]
    cases typBad w.base w.kw w.xe <;> simp
  intro h2
  have h2' : ¬ (ch = 3 ∨ ch = 4) := by
    rintro (e | e) <;> simp [e] at h2
  (repeat (first | (with_reducible first | refine na ?_ | refine nb ?_ | refine nc ?_ | refine nd ?_ | refine ne ?_ | refine nf ?_ | refine ng ?_ | refine nh ?_ | refine ni ?_ | refine nj ?_ | refine nk ?_ | refine nl ?_ | refine nm (by decide) ?_ | refine nn ?_) | refine TO_go (wr := false) 400 (by simp only [kB, kG, k40, Nat.reduceAdd, Nat.reduceLT, Nat.reduceEqDiff, ↓reduceIte, reduceCtorEq]; first | done | rfl) (by first | exact trivial | (simp only [kO]; omega) | (simp [All, InR]; first | done | omega) | (simp +contextual [All, InR]; first | done | grind)) ?_))
  refine RetQ_intro (by simp only [kR, Tryz.results40, ↓reduceIte, Nat.reduceEqDiff, reduceCtorEq]; first | done | rfl) (by first | exact trivial | (simp only [kO]; omega) | (simp [All, InR]; first | done | omega) | (simp +contextual [All, InR]; first | done | grind)) [] ⟨by simp [Ab.get, renAO_id], by simp, by simp [clAO, cl_f1, cl_s1, cl_f2, cl_s2, cl_a1, flat_up, clCs, clC, domOf, Ab.get], keepI hx (by simp [domOf, Ab.get])⟩ (by simp [clAV, clPs, clCs, clC, domOf, Ab.get]) ⟨?_, rfl⟩
  simp only [permB, h', if_neg h2', Bool.not_false, Bool.true_and]
def k78 := And.intro @Tryz.ntmps78 <| And.intro @bld102 <| And.intro @bld41 <| And.intro @bld44 <| And.intro @bld46 <| And.intro @bld54 <| And.intro @fld102_2 <| And.intro @fld46_4 <| And.intro @fld46_5 <| And.intro @ti102 <| And.intro @ti41 <| And.intro @ti44 <| And.intro @ti46 <| @ti54
set_option maxRecDepth 100000 in
set_option maxHeartbeats 4000000 in
theorem ofSource_ac (d : Dep) (t : Tsk) (s h : Rev) (w : Rsn) : AC Tryz.prog 78 [.agg ((encPrb d t s h).map C.d), aRsn w] [] (fun r st => r = .tup [(true, [.d (.v (.int .i64 s.base)), .d (.v (.bool s.kw)), .d (.v (.bool s.ex)), .d (.v (.bool s.xe))]), (true, [.d (.v (.int .u64 s.sum)), .d (.v (.int .i64 s.size))])] ∧ st = []) := by
  refine AC_enter Tryz.func78 rfl rfl (by simp only [Tryz.ntmps78, List.length]; omega) ?_
  intro x hx
  simp only [List.range, List.range.loop, List.length, List.zip, List.zipWith, Nat.reduceAdd, Tryz.ntmps78]
  (repeat (first | (with_reducible first | refine na ?_ | refine nb ?_ | refine nc ?_ | refine nd ?_ | refine ne ?_ | refine nf ?_ | refine ng ?_ | refine nh ?_ | refine ni ?_ | refine nj ?_ | refine nk ?_ | refine nl ?_ | refine nm (by decide) ?_ | refine nn ?_) | refine TO_go (wr := false) 400 (by simp only [kB, k78, Nat.reduceAdd, Nat.reduceLT, Nat.reduceEqDiff, ↓reduceIte, reduceCtorEq]; first | done | rfl) (by first | exact trivial | (simp only [kO]; omega) | (simp [All, InR]; first | done | omega) | (simp +contextual [All, InR]; first | done | grind)) ?_))
  refine T_draw (wr := false) ([] : List (Nat × AV)) (by kernel_rfl) (by simp only [kD, kB, k78, Nat.reduceAdd, Nat.reduceLT, Nat.reduceEqDiff, ↓reduceIte, reduceCtorEq]; first | done | rfl) ?_ (by kernel_rfl) ?_
  · simp only [All, List.cons_append, List.nil_append, InR, List.mem_cons, List.not_mem_nil, or_false, forall_eq_or_imp, forall_eq, clAV, clCs, clC, clCaps, clCap, and_true, true_and, implies_true, List.length_map, List.length_cons, List.length_nil, dArr, cl_arr, tyCs]
    repeat' (first | exact trivial | refine And.intro ?_ ?_ | intro _ | assumption | rfl | omega | (rw [Bool.not_eq_true']; assumption) | (simp; done) | (simp only [decide_eq_true_eq] at *; omega) | (simp_all; done))
  (repeat (with_reducible first | refine na ?_ | refine nb ?_ | refine nc ?_ | refine nd ?_ | refine ne ?_ | refine nf ?_ | refine ng ?_ | refine nh ?_ | refine ni ?_ | refine nj ?_ | refine nk ?_ | refine nl ?_ | refine nm (by decide) ?_ | refine nn ?_))
  refine RetQ_intro (by simp only [kR, Tryz.results78, ↓reduceIte, Nat.reduceEqDiff, reduceCtorEq, effLoad, cellsOf, List.map, List.length_cons, List.length_nil, List.getD_cons_zero, List.getD_cons_succ, List.getD_nil, List.drop, List.take, splice, ti41, ti44]; first | done | rfl) (by first | exact trivial | (simp only [kO]; omega) | (simp [All, InR]; first | done | omega) | (simp +contextual [All, InR]; first | done | grind)) [] ⟨by simp [Ab.get, renAO_id], by simp, by simp [clAO, cl_f1, cl_s1, cl_f2, cl_s2, cl_a1, flat_up, clCs, clC, domOf, Ab.get], keepI hx (by simp [domOf, Ab.get])⟩ (by simp [clAV, clPs, clCs, clC, domOf, Ab.get]) ⟨?_, rfl⟩
  rfl
def k79 := And.intro @Tryz.ntmps79 <| And.intro @bld102 <| And.intro @bld41 <| And.intro @bld44 <| And.intro @bld46 <| And.intro @bld54 <| And.intro @fld102_3 <| And.intro @fld46_4 <| And.intro @fld46_5 <| And.intro @ti102 <| And.intro @ti41 <| And.intro @ti44 <| And.intro @ti46 <| @ti54
set_option maxRecDepth 100000 in
set_option maxHeartbeats 4000000 in
theorem ofTarget_ac (d : Dep) (t : Tsk) (s h : Rev) (w : Rsn) : AC Tryz.prog 79 [.agg ((encPrb d t s h).map C.d), aRsn w] [] (fun r st => r = .tup [(true, [.d (.v (.int .i64 h.base)), .d (.v (.bool h.kw)), .d (.v (.bool h.ex)), .d (.v (.bool h.xe))]), (true, [.d (.v (.int .u64 h.sum)), .d (.v (.int .i64 h.size))])] ∧ st = []) := by
  refine AC_enter Tryz.func79 rfl rfl (by simp only [Tryz.ntmps79, List.length]; omega) ?_
  intro x hx
  simp only [List.range, List.range.loop, List.length, List.zip, List.zipWith, Nat.reduceAdd, Tryz.ntmps79]
  (repeat (first | (with_reducible first | refine na ?_ | refine nb ?_ | refine nc ?_ | refine nd ?_ | refine ne ?_ | refine nf ?_ | refine ng ?_ | refine nh ?_ | refine ni ?_ | refine nj ?_ | refine nk ?_ | refine nl ?_ | refine nm (by decide) ?_ | refine nn ?_) | refine TO_go (wr := false) 400 (by simp only [kB, k79, Nat.reduceAdd, Nat.reduceLT, Nat.reduceEqDiff, ↓reduceIte, reduceCtorEq]; first | done | rfl) (by first | exact trivial | (simp only [kO]; omega) | (simp [All, InR]; first | done | omega) | (simp +contextual [All, InR]; first | done | grind)) ?_))
  refine T_draw (wr := false) ([] : List (Nat × AV)) (by kernel_rfl) (by simp only [kD, kB, k79, Nat.reduceAdd, Nat.reduceLT, Nat.reduceEqDiff, ↓reduceIte, reduceCtorEq]; first | done | rfl) ?_ (by kernel_rfl) ?_
  · simp only [All, List.cons_append, List.nil_append, InR, List.mem_cons, List.not_mem_nil, or_false, forall_eq_or_imp, forall_eq, clAV, clCs, clC, clCaps, clCap, and_true, true_and, implies_true, List.length_map, List.length_cons, List.length_nil, dArr, cl_arr, tyCs]
    repeat' (first | exact trivial | refine And.intro ?_ ?_ | intro _ | assumption | rfl | omega | (rw [Bool.not_eq_true']; assumption) | (simp; done) | (simp only [decide_eq_true_eq] at *; omega) | (simp_all; done))
  (repeat (with_reducible first | refine na ?_ | refine nb ?_ | refine nc ?_ | refine nd ?_ | refine ne ?_ | refine nf ?_ | refine ng ?_ | refine nh ?_ | refine ni ?_ | refine nj ?_ | refine nk ?_ | refine nl ?_ | refine nm (by decide) ?_ | refine nn ?_))
  refine RetQ_intro (by simp only [kR, Tryz.results79, ↓reduceIte, Nat.reduceEqDiff, reduceCtorEq, effLoad, cellsOf, List.map, List.length_cons, List.length_nil, List.getD_cons_zero, List.getD_cons_succ, List.getD_nil, List.drop, List.take, splice, ti41, ti44]; first | done | rfl) (by first | exact trivial | (simp only [kO]; omega) | (simp [All, InR]; first | done | omega) | (simp +contextual [All, InR]; first | done | grind)) [] ⟨by simp [Ab.get, renAO_id], by simp, by simp [clAO, cl_f1, cl_s1, cl_f2, cl_s2, cl_a1, flat_up, clCs, clC, domOf, Ab.get], keepI hx (by simp [domOf, Ab.get])⟩ (by simp [clAV, clPs, clCs, clC, domOf, Ab.get]) ⟨?_, rfl⟩
  rfl
def k80 := And.intro @Tryz.ntmps80 <| And.intro @bld102 <| And.intro @bld41 <| And.intro @bld44 <| And.intro @bld46 <| And.intro @bld54 <| And.intro @fld102_3 <| And.intro @fld46_4 <| And.intro @ti102 <| And.intro @ti41 <| And.intro @ti44 <| And.intro @ti46 <| @ti54
set_option maxRecDepth 100000 in
set_option maxHeartbeats 4000000 in
theorem ofDeleted_ac (d : Dep) (t : Tsk) (s h : Rev) (w : Rsn) : AC Tryz.prog 80 [.agg ((encPrb d t s h).map C.d), aRsn w] [] (fun r st => r = .tup [(true, [.d (.v (.int .i64 h.base)), .d (.v (.bool h.kw)), .d (.v (.bool h.ex)), .d (.v (.bool h.xe))]), (true, [.d (.v (.int .u64 0)), .d (.v (.int .i64 0))])] ∧ st = []) := by
  refine AC_enter Tryz.func80 rfl rfl (by simp only [Tryz.ntmps80, List.length]; omega) ?_
  intro x hx
  simp only [List.range, List.range.loop, List.length, List.zip, List.zipWith, Nat.reduceAdd, Tryz.ntmps80]
  (repeat (first | (with_reducible first | refine na ?_ | refine nb ?_ | refine nc ?_ | refine nd ?_ | refine ne ?_ | refine nf ?_ | refine ng ?_ | refine nh ?_ | refine ni ?_ | refine nj ?_ | refine nk ?_ | refine nl ?_ | refine nm (by decide) ?_ | refine nn ?_) | refine TO_go (wr := false) 400 (by simp only [kB, kS, k80, Nat.reduceAdd, Nat.reduceLT, Nat.reduceEqDiff, ↓reduceIte, reduceCtorEq]; first | done | rfl) (by first | exact trivial | (simp only [kO]; omega) | (simp [All, InR]; first | done | omega) | (simp +contextual [All, InR]; first | done | grind)) ?_))
  refine RetQ_intro (by simp only [kR, Tryz.results80, ↓reduceIte, Nat.reduceEqDiff, reduceCtorEq, effLoad, cellsOf, List.map, List.length_cons, List.length_nil, List.getD_cons_zero, List.getD_cons_succ, List.getD_nil, List.drop, List.take, splice, ti41, ti44]; first | done | rfl) (by first | exact trivial | (simp only [kO]; omega) | (simp [All, InR]; first | done | omega) | (simp +contextual [All, InR]; first | done | grind)) [] ⟨by simp [Ab.get, renAO_id], by simp, by simp [clAO, cl_f1, cl_s1, cl_f2, cl_s2, cl_a1, flat_up, clCs, clC, domOf, Ab.get], keepI hx (by simp [domOf, Ab.get])⟩ (by simp [clAV, clPs, clCs, clC, domOf, Ab.get]) ⟨?_, rfl⟩
  rfl
def k81 := And.intro @Tryz.ntmps81 <| And.intro @bld102 <| And.intro @bld41 <| And.intro @bld44 <| And.intro @bld54 <| And.intro @fld54_0 <| And.intro @fld54_1 <| And.intro @ti102 <| And.intro @ti41 <| And.intro @ti44 <| @ti54
set_option maxRecDepth 100000 in
set_option maxHeartbeats 4000000 in
theorem ofMerge_ac (d : Dep) (t : Tsk) (s h : Rev) (w : Rsn) : AC Tryz.prog 81 [.agg ((encPrb d t s h).map C.d), aRsn w] [] (fun r st => r = .tup [(true, [.d (.v (.int .i64 w.base)), .d (.v (.bool w.kw)), .d (.v (.bool w.ex)), .d (.v (.bool w.xe))]), (true, [.d (.v (.int .u64 w.sum)), .d (.v (.int .i64 w.size))])] ∧ st = []) := by
  refine AC_enter Tryz.func81 rfl rfl (by simp only [Tryz.ntmps81, List.length]; omega) ?_
  intro x hx
  simp only [List.range, List.range.loop, List.length, List.zip, List.zipWith, Nat.reduceAdd, Tryz.ntmps81]
  (repeat (first | (with_reducible first | refine na ?_ | refine nb ?_ | refine nc ?_ | refine nd ?_ | refine ne ?_ | refine nf ?_ | refine ng ?_ | refine nh ?_ | refine ni ?_ | refine nj ?_ | refine nk ?_ | refine nl ?_ | refine nm (by decide) ?_ | refine nn ?_) | refine TO_go (wr := false) 400 (by simp only [kB, k81, Nat.reduceAdd, Nat.reduceLT, Nat.reduceEqDiff, ↓reduceIte, reduceCtorEq]; first | done | rfl) (by first | exact trivial | (simp only [kO]; omega) | (simp [All, InR]; first | done | omega) | (simp +contextual [All, InR]; first | done | grind)) ?_))
  refine T_draw (wr := false) ([] : List (Nat × AV)) (by kernel_rfl) (by simp only [kD, kB, k81, Nat.reduceAdd, Nat.reduceLT, Nat.reduceEqDiff, ↓reduceIte, reduceCtorEq]; first | done | rfl) ?_ (by kernel_rfl) ?_
  · simp only [All, List.cons_append, List.nil_append, InR, List.mem_cons, List.not_mem_nil, or_false, forall_eq_or_imp, forall_eq, clAV, clCs, clC, clCaps, clCap, and_true, true_and, implies_true, List.length_map, List.length_cons, List.length_nil, dArr, cl_arr, tyCs]
    repeat' (first | exact trivial | refine And.intro ?_ ?_ | intro _ | assumption | rfl | omega | (rw [Bool.not_eq_true']; assumption) | (simp; done) | (simp only [decide_eq_true_eq] at *; omega) | (simp_all; done))
  (repeat (with_reducible first | refine na ?_ | refine nb ?_ | refine nc ?_ | refine nd ?_ | refine ne ?_ | refine nf ?_ | refine ng ?_ | refine nh ?_ | refine ni ?_ | refine nj ?_ | refine nk ?_ | refine nl ?_ | refine nm (by decide) ?_ | refine nn ?_))
  refine RetQ_intro (by simp only [kR, Tryz.results81, ↓reduceIte, Nat.reduceEqDiff, reduceCtorEq, effLoad, cellsOf, List.map, List.length_cons, List.length_nil, List.getD_cons_zero, List.getD_cons_succ, List.getD_nil, List.drop, List.take, splice, ti41, ti44]; first | done | rfl) (by first | exact trivial | (simp only [kO]; omega) | (simp [All, InR]; first | done | omega) | (simp +contextual [All, InR]; first | done | grind)) [] ⟨by simp [Ab.get, renAO_id], by simp, by simp [clAO, cl_f1, cl_s1, cl_f2, cl_s2, cl_a1, flat_up, clCs, clC, domOf, Ab.get], keepI hx (by simp [domOf, Ab.get])⟩ (by simp [clAV, clPs, clCs, clC, domOf, Ab.get]) ⟨?_, rfl⟩
  rfl
end Go.Proofs.YtbllfnmabmamfaaGreatDoor

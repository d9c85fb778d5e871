/- A part of the proof: contracts of functions of the program over abstract states. -/
import Derived.Test.YtmlhfnodnnbbnaaDoorQU5
set_option linter.all false
namespace Go.Proofs.YtmlhfnodnnbbnaaDoor
open Go.Ab Tys
def shortB (t : Tsk) : Bool := decide ((t.frm.size : Int) + t.to.size + t.move.size + t.lpath.size + t.bpath.size ≤ 1500)
def k18 := And.intro @Tryd.ntmps18 <| And.intro @Tryd.underlying9 <| And.intro @bld24 <| And.intro @bld62 <| And.intro @fld24_0 <| And.intro @fld62_1 <| And.intro @fld62_2 <| And.intro @fld62_5 <| And.intro @fld62_7 <| And.intro @fld62_8 <| And.intro @ti24 <| And.intro @ti62 <| @ti9
set_option maxRecDepth 100000 in
set_option maxHeartbeats 4000000 in
theorem short_ac (t : Tsk) (h1 : t.frm.size ≤ 2000000) (h2 : t.to.size ≤ 2000000) (h3 : t.move.size ≤ 2000000) (h4 : t.lpath.size ≤ 2000000) (h5 : t.bpath.size ≤ 2000000) :
    AC Tryd.prog 18 [aTsk t] [] (fun r st => r = B (shortB t) ∧ st = []) := by
  refine AC_enter Tryd.func18 rfl rfl (by simp only [Tryd.ntmps18, List.length]; omega) ?_
  intro x hx
  simp only [List.range, List.range.loop, List.length, List.zip, List.zipWith, Nat.reduceAdd, Tryd.ntmps18]
  (repeat (first | (with_reducible first | refine na ?_ | refine nb ?_ | refine nc ?_ | refine nd ?_ | refine ne ?_ | refine nf ?_ | refine ng ?_ | refine nh ?_ | refine ni ?_ | refine nj ?_ | refine nk ?_ | refine nl ?_ | refine nm (by decide) ?_ | refine nn ?_) | refine TO_go (wr := false) 400 (by simp only [kB, k18, Nat.reduceAdd, Nat.reduceLT, Nat.reduceEqDiff, ↓reduceIte, reduceCtorEq]; first | done | rfl) (by first | exact trivial | (simp only [kO]; omega) | (simp [All, InR]; first | done | omega) | (simp +contextual [All, InR]; first | done | grind)) ?_))
  refine RetQ_intro (by simp only [kR, Tryd.results18, ↓reduceIte, Nat.reduceEqDiff, reduceCtorEq]; first | done | rfl) (by first | exact trivial | (simp only [kO]; omega) | (simp [All, InR]; first | done | omega) | (simp +contextual [All, InR]; first | done | grind)) [] ⟨by simp [Ab.get, renAO_id], by simp, by simp [clAO, cl_f1, cl_s1, cl_f2, cl_s2, cl_a1, flat_up, clCs, clC, domOf, Ab.get], keepI hx (by simp [domOf, Ab.get])⟩ (by simp [clAV, clPs, clCs, clC, domOf, Ab.get]) ⟨?_, rfl⟩
  rfl
theorem short_fun (t : Tsk) (h1 : t.frm.size ≤ 2000000) (h2 : t.to.size ≤ 2000000) (h3 : t.move.size ≤ 2000000) (h4 : t.lpath.size ≤ 2000000) (h5 : t.bpath.size ≤ 2000000) :
    ∃ b : Bool, AC Tryd.prog 18 [aTsk t] [] (fun r st => r = B b ∧ st = []) ∧ (b = true → t.frm.size ≤ 1500 ∧ t.to.size ≤ 1500 ∧ t.move.size ≤ 1500 ∧ t.lpath.size ≤ 1500) := by
  refine ⟨_, short_ac t h1 h2 h3 h4 h5, ?_⟩
  intro h
  simp only [shortB, decide_eq_true_eq] at h
  omega
def k35 := And.intro @Tryd.ntmps35 <| And.intro @bld45 <| And.intro @bld48 <| And.intro @bld62 <| And.intro @bld64 <| And.intro @fld48_1 <| And.intro @fld62_0 <| And.intro @fld62_8 <| And.intro @fld64_0 <| And.intro @fld64_1 <| And.intro @fld64_2 <| And.intro @ti3 <| And.intro @ti4 <| And.intro @ti45 <| And.intro @ti48 <| And.intro @ti62 <| And.intro @ti64 <| @ti9
set_option maxRecDepth 100000 in
set_option maxHeartbeats 4000000 in
theorem permitted_ac (t : Tsk) (ch : Int) (w : Rsn) : AC Tryd.prog 35 [aTsk t, I .i64 ch, aRsn w] [] (fun r st => r = B (permB t ch w) ∧ st = []) := by
  have hft := ftype_ac w.base w.kw w.ex w.xe
  refine AC_enter Tryd.func35 rfl rfl (by simp only [Tryd.ntmps35, List.length]; omega) ?_
  intro x hx
  simp only [List.range, List.range.loop, List.length, List.zip, List.zipWith, Nat.reduceAdd, Tryd.ntmps35]
  (repeat (first | (with_reducible first | refine na ?_ | refine nb ?_ | refine nc ?_ | refine nd ?_ | refine ne ?_ | refine nf ?_ | refine ng ?_ | refine nh ?_ | refine ni ?_ | refine nj ?_ | refine nk ?_ | refine nl ?_ | refine nm (by decide) ?_ | refine nn ?_) | refine TO_go (wr := false) 400 (by simp only [kB, kG, k35, Nat.reduceAdd, Nat.reduceLT, Nat.reduceEqDiff, ↓reduceIte, reduceCtorEq]; first | done | rfl) (by first | exact trivial | (simp only [kO]; omega) | (simp [All, InR]; first | done | omega) | (simp +contextual [All, InR]; first | done | grind)) ?_))
  refine T_cond (by simp only [kV, ↓reduceIte, Nat.reduceEqDiff, reduceCtorEq]; first | done | rfl) ?_ ?_
  · intro h
    (repeat (first | (with_reducible first | refine na ?_ | refine nb ?_ | refine nc ?_ | refine nd ?_ | refine ne ?_ | refine nf ?_ | refine ng ?_ | refine nh ?_ | refine ni ?_ | refine nj ?_ | refine nk ?_ | refine nl ?_ | refine nm (by decide) ?_ | refine nn ?_) | refine TO_go (wr := false) 400 (by simp only [kB, kG, k35, Nat.reduceAdd, Nat.reduceLT, Nat.reduceEqDiff, ↓reduceIte, reduceCtorEq]; first | done | rfl) (by first | exact trivial | (simp only [kO]; omega) | (simp [All, InR]; first | done | omega) | (simp +contextual [All, InR]; first | done | grind)) ?_))
    refine RetQ_intro (by simp only [kR, Tryd.results35, ↓reduceIte, Nat.reduceEqDiff, reduceCtorEq]; first | done | rfl) (by first | exact trivial | (simp only [kO]; omega) | (simp [All, InR]; first | done | omega) | (simp +contextual [All, InR]; first | done | grind)) [] ⟨by simp [Ab.get, renAO_id], by simp, by simp [clAO, cl_f1, cl_s1, cl_f2, cl_s2, cl_a1, flat_up, clCs, clC, domOf, Ab.get], keepI hx (by simp [domOf, Ab.get])⟩ (by simp [clAV, clPs, clCs, clC, domOf, Ab.get]) ⟨?_, rfl⟩
    have h' : (w.mv && (decide (t.move = noS) || decide (ch = 1) || decide (t.kind = 3))) = true := by rw [← h]; cases w.mv <;> cases decide (t.move = noS) <;> cases decide (ch = 1) <;> rfl
    simp [permB, h']
  intro h
  have h' : (w.mv && (decide (t.move = noS) || decide (ch = 1) || decide (t.kind = 3))) = false := by rw [← h]; cases w.mv <;> cases decide (t.move = noS) <;> cases decide (ch = 1) <;> rfl
  (repeat (first | (with_reducible first | refine na ?_ | refine nb ?_ | refine nc ?_ | refine nd ?_ | refine ne ?_ | refine nf ?_ | refine ng ?_ | refine nh ?_ | refine ni ?_ | refine nj ?_ | refine nk ?_ | refine nl ?_ | refine nm (by decide) ?_ | refine nn ?_) | refine TO_go (wr := false) 400 (by simp only [kB, kG, k35, Nat.reduceAdd, Nat.reduceLT, Nat.reduceEqDiff, ↓reduceIte, reduceCtorEq]; first | done | rfl) (by first | exact trivial | (simp only [kO]; omega) | (simp [All, InR]; first | done | omega) | (simp +contextual [All, InR]; first | done | grind)) ?_))
  refine T_cond (by simp only [kV, ↓reduceIte, Nat.reduceEqDiff, reduceCtorEq]; first | done | rfl) ?_ ?_
  · intro h2
    have h2' : ch = 3 ∨ ch = 4 := by
      by_cases e : ch = 3
      · exact .inl e
      · right; simpa [e] using h2
    (repeat (first | (with_reducible first | refine na ?_ | refine nb ?_ | refine nc ?_ | refine nd ?_ | refine ne ?_ | refine nf ?_ | refine ng ?_ | refine nh ?_ | refine ni ?_ | refine nj ?_ | refine nk ?_ | refine nl ?_ | refine nm (by decide) ?_ | refine nn ?_) | refine TO_go (wr := false) 400 (by simp only [kB, kG, k35, Nat.reduceAdd, Nat.reduceLT, Nat.reduceEqDiff, ↓reduceIte, reduceCtorEq]; first | done | rfl) (by first | exact trivial | (simp only [kO]; omega) | (simp [All, InR]; first | done | omega) | (simp +contextual [All, InR]; first | done | grind)) ?_ | (refine TO_call [] (by simp) (by simp only [kV, ↓reduceIte, Nat.reduceEqDiff, reduceCtorEq]; first | done | rfl) ⟨by simp, by simp, by simp [clAV, clC, clCs, clCaps, clCap]⟩ (hft) ?_; (rintro r st' ⟨rfl, rfl⟩; refine ⟨by simp [Fresh], ?_⟩; simp only [kP, Nat.reduceEqDiff, ↓reduceIte, reduceCtorEq]))))
    refine RetQ_intro (by simp only [kR, Tryd.results35, ↓reduceIte, Nat.reduceEqDiff, reduceCtorEq]; first | done | rfl) (by first | exact trivial | (simp only [kO]; omega) | (simp [All, InR]; first | done | omega) | (simp +contextual [All, InR]; first | done | grind)) [] ⟨by simp [Ab.get, renAO_id], by simp, by simp [clAO, cl_f1, cl_s1, cl_f2, cl_s2, cl_a1, flat_up, clCs, clC, domOf, Ab.get], keepI hx (by simp [domOf, Ab.get])⟩ (by simp [clAV, clPs, clCs, clC, domOf, Ab.get]) ⟨?_, rfl⟩
    simp only [permB, h', if_pos h2', Bool.not_false, Bool.true_and]
    cases typBad w.base w.kw w.xe <;> simp
  intro h2
  have h2' : ¬ (ch = 3 ∨ ch = 4) := by
    rintro (e | e) <;> simp [e] at h2
  (repeat (first | (with_reducible first | refine na ?_ | refine nb ?_ | refine nc ?_ | refine nd ?_ | refine ne ?_ | refine nf ?_ | refine ng ?_ | refine nh ?_ | refine ni ?_ | refine nj ?_ | refine nk ?_ | refine nl ?_ | refine nm (by decide) ?_ | refine nn ?_) | refine TO_go (wr := false) 400 (by simp only [kB, kG, k35, Nat.reduceAdd, Nat.reduceLT, Nat.reduceEqDiff, ↓reduceIte, reduceCtorEq]; first | done | rfl) (by first | exact trivial | (simp only [kO]; omega) | (simp [All, InR]; first | done | omega) | (simp +contextual [All, InR]; first | done | grind)) ?_))
  refine RetQ_intro (by simp only [kR, Tryd.results35, ↓reduceIte, Nat.reduceEqDiff, reduceCtorEq]; first | done | rfl) (by first | exact trivial | (simp only [kO]; omega) | (simp [All, InR]; first | done | omega) | (simp +contextual [All, InR]; first | done | grind)) [] ⟨by simp [Ab.get, renAO_id], by simp, by simp [clAO, cl_f1, cl_s1, cl_f2, cl_s2, cl_a1, flat_up, clCs, clC, domOf, Ab.get], keepI hx (by simp [domOf, Ab.get])⟩ (by simp [clAV, clPs, clCs, clC, domOf, Ab.get]) ⟨?_, rfl⟩
  simp only [permB, h', if_neg h2', Bool.not_false, Bool.true_and]
def k62 := And.intro @Tryd.ntmps62 <| And.intro @bld45 <| And.intro @bld48 <| And.intro @bld50 <| And.intro @bld64 <| And.intro @bld96 <| And.intro @fld50_4 <| And.intro @fld50_5 <| And.intro @fld96_2 <| And.intro @ti45 <| And.intro @ti48 <| And.intro @ti50 <| And.intro @ti64 <| @ti96
set_option maxRecDepth 100000 in
set_option maxHeartbeats 4000000 in
theorem ofSource_ac (d : Dep) (t : Tsk) (s h : Rev) (w : Rsn) : AC Tryd.prog 62 [.agg ((encPrb d t s h).map C.d), aRsn w] [] (fun r st => r = .tup [(true, [.d (.v (.int .i64 s.base)), .d (.v (.bool s.kw)), .d (.v (.bool s.ex)), .d (.v (.bool s.xe))]), (true, [.d (.v (.int .u64 s.sum)), .d (.v (.int .i64 s.size))])] ∧ st = []) := by
  refine AC_enter Tryd.func62 rfl rfl (by simp only [Tryd.ntmps62, List.length]; omega) ?_
  intro x hx
  simp only [List.range, List.range.loop, List.length, List.zip, List.zipWith, Nat.reduceAdd, Tryd.ntmps62]
  (repeat (first | (with_reducible first | refine na ?_ | refine nb ?_ | refine nc ?_ | refine nd ?_ | refine ne ?_ | refine nf ?_ | refine ng ?_ | refine nh ?_ | refine ni ?_ | refine nj ?_ | refine nk ?_ | refine nl ?_ | refine nm (by decide) ?_ | refine nn ?_) | refine TO_go (wr := false) 400 (by simp only [kB, k62, Nat.reduceAdd, Nat.reduceLT, Nat.reduceEqDiff, ↓reduceIte, reduceCtorEq]; first | done | rfl) (by first | exact trivial | (simp only [kO]; omega) | (simp [All, InR]; first | done | omega) | (simp +contextual [All, InR]; first | done | grind)) ?_))
  refine T_draw (wr := false) ([] : List (Nat × AV)) (by kernel_rfl) (by simp only [kD, kB, k62, Nat.reduceAdd, Nat.reduceLT, Nat.reduceEqDiff, ↓reduceIte, reduceCtorEq]; first | done | rfl) ?_ (by kernel_rfl) ?_
  · simp only [All, List.cons_append, List.nil_append, InR, List.mem_cons, List.not_mem_nil, or_false, forall_eq_or_imp, forall_eq, clAV, clCs, clC, clCaps, clCap, and_true, true_and, implies_true, List.length_map, List.length_cons, List.length_nil, dArr, cl_arr, tyCs]
    repeat' (first | exact trivial | refine And.intro ?_ ?_ | intro _ | assumption | rfl | omega | (rw [Bool.not_eq_true']; assumption) | (simp; done) | (simp only [decide_eq_true_eq] at *; omega) | (simp_all; done))
  (repeat (with_reducible first | refine na ?_ | refine nb ?_ | refine nc ?_ | refine nd ?_ | refine ne ?_ | refine nf ?_ | refine ng ?_ | refine nh ?_ | refine ni ?_ | refine nj ?_ | refine nk ?_ | refine nl ?_ | refine nm (by decide) ?_ | refine nn ?_))
  refine RetQ_intro (by simp only [kR, Tryd.results62, ↓reduceIte, Nat.reduceEqDiff, reduceCtorEq, effLoad, cellsOf, List.map, List.length_cons, List.length_nil, List.getD_cons_zero, List.getD_cons_succ, List.getD_nil, List.drop, List.take, splice, ti45, ti48]; first | done | rfl) (by first | exact trivial | (simp only [kO]; omega) | (simp [All, InR]; first | done | omega) | (simp +contextual [All, InR]; first | done | grind)) [] ⟨by simp [Ab.get, renAO_id], by simp, by simp [clAO, cl_f1, cl_s1, cl_f2, cl_s2, cl_a1, flat_up, clCs, clC, domOf, Ab.get], keepI hx (by simp [domOf, Ab.get])⟩ (by simp [clAV, clPs, clCs, clC, domOf, Ab.get]) ⟨?_, rfl⟩
  rfl
def k63 := And.intro @Tryd.ntmps63 <| And.intro @bld45 <| And.intro @bld48 <| And.intro @bld50 <| And.intro @bld64 <| And.intro @bld96 <| And.intro @fld50_4 <| And.intro @fld50_5 <| And.intro @fld96_3 <| And.intro @ti45 <| And.intro @ti48 <| And.intro @ti50 <| And.intro @ti64 <| @ti96
set_option maxRecDepth 100000 in
set_option maxHeartbeats 4000000 in
theorem ofTarget_ac (d : Dep) (t : Tsk) (s h : Rev) (w : Rsn) : AC Tryd.prog 63 [.agg ((encPrb d t s h).map C.d), aRsn w] [] (fun r st => r = .tup [(true, [.d (.v (.int .i64 h.base)), .d (.v (.bool h.kw)), .d (.v (.bool h.ex)), .d (.v (.bool h.xe))]), (true, [.d (.v (.int .u64 h.sum)), .d (.v (.int .i64 h.size))])] ∧ st = []) := by
  refine AC_enter Tryd.func63 rfl rfl (by simp only [Tryd.ntmps63, List.length]; omega) ?_
  intro x hx
  simp only [List.range, List.range.loop, List.length, List.zip, List.zipWith, Nat.reduceAdd, Tryd.ntmps63]
  (repeat (first | (with_reducible first | refine na ?_ | refine nb ?_ | refine nc ?_ | refine nd ?_ | refine ne ?_ | refine nf ?_ | refine ng ?_ | refine nh ?_ | refine ni ?_ | refine nj ?_ | refine nk ?_ | refine nl ?_ | refine nm (by decide) ?_ | refine nn ?_) | refine TO_go (wr := false) 400 (by simp only [kB, k63, Nat.reduceAdd, Nat.reduceLT, Nat.reduceEqDiff, ↓reduceIte, reduceCtorEq]; first | done | rfl) (by first | exact trivial | (simp only [kO]; omega) | (simp [All, InR]; first | done | omega) | (simp +contextual [All, InR]; first | done | grind)) ?_))
  refine T_draw (wr := false) ([] : List (Nat × AV)) (by kernel_rfl) (by simp only [kD, kB, k63, Nat.reduceAdd, Nat.reduceLT, Nat.reduceEqDiff, ↓reduceIte, reduceCtorEq]; first | done | rfl) ?_ (by kernel_rfl) ?_
  · simp only [All, List.cons_append, List.nil_append, InR, List.mem_cons, List.not_mem_nil, or_false, forall_eq_or_imp, forall_eq, clAV, clCs, clC, clCaps, clCap, and_true, true_and, implies_true, List.length_map, List.length_cons, List.length_nil, dArr, cl_arr, tyCs]
    repeat' (first | exact trivial | refine And.intro ?_ ?_ | intro _ | assumption | rfl | omega | (rw [Bool.not_eq_true']; assumption) | (simp; done) | (simp only [decide_eq_true_eq] at *; omega) | (simp_all; done))
  (repeat (with_reducible first | refine na ?_ | refine nb ?_ | refine nc ?_ | refine nd ?_ | refine ne ?_ | refine nf ?_ | refine ng ?_ | refine nh ?_ | refine ni ?_ | refine nj ?_ | refine nk ?_ | refine nl ?_ | refine nm (by decide) ?_ | refine nn ?_))
  refine RetQ_intro (by simp only [kR, Tryd.results63, ↓reduceIte, Nat.reduceEqDiff, reduceCtorEq, effLoad, cellsOf, List.map, List.length_cons, List.length_nil, List.getD_cons_zero, List.getD_cons_succ, List.getD_nil, List.drop, List.take, splice, ti45, ti48]; first | done | rfl) (by first | exact trivial | (simp only [kO]; omega) | (simp [All, InR]; first | done | omega) | (simp +contextual [All, InR]; first | done | grind)) [] ⟨by simp [Ab.get, renAO_id], by simp, by simp [clAO, cl_f1, cl_s1, cl_f2, cl_s2, cl_a1, flat_up, clCs, clC, domOf, Ab.get], keepI hx (by simp [domOf, Ab.get])⟩ (by simp [clAV, clPs, clCs, clC, domOf, Ab.get]) ⟨?_, rfl⟩
  rfl
def k64 := And.intro @Tryd.ntmps64 <| And.intro @bld45 <| And.intro @bld48 <| And.intro @bld50 <| And.intro @bld64 <| And.intro @bld96 <| And.intro @fld50_4 <| And.intro @fld96_3 <| And.intro @ti45 <| And.intro @ti48 <| And.intro @ti50 <| And.intro @ti64 <| @ti96
set_option maxRecDepth 100000 in
set_option maxHeartbeats 4000000 in
theorem ofDeleted_ac (d : Dep) (t : Tsk) (s h : Rev) (w : Rsn) : AC Tryd.prog 64 [.agg ((encPrb d t s h).map C.d), aRsn w] [] (fun r st => r = .tup [(true, [.d (.v (.int .i64 h.base)), .d (.v (.bool h.kw)), .d (.v (.bool h.ex)), .d (.v (.bool h.xe))]), (true, [.d (.v (.int .u64 0)), .d (.v (.int .i64 0))])] ∧ st = []) := by
  refine AC_enter Tryd.func64 rfl rfl (by simp only [Tryd.ntmps64, List.length]; omega) ?_
  intro x hx
  simp only [List.range, List.range.loop, List.length, List.zip, List.zipWith, Nat.reduceAdd, Tryd.ntmps64]
  (repeat (first | (with_reducible first | refine na ?_ | refine nb ?_ | refine nc ?_ | refine nd ?_ | refine ne ?_ | refine nf ?_ | refine ng ?_ | refine nh ?_ | refine ni ?_ | refine nj ?_ | refine nk ?_ | refine nl ?_ | refine nm (by decide) ?_ | refine nn ?_) | refine TO_go (wr := false) 400 (by simp only [kB, kS, k64, Nat.reduceAdd, Nat.reduceLT, Nat.reduceEqDiff, ↓reduceIte, reduceCtorEq]; first | done | rfl) (by first | exact trivial | (simp only [kO]; omega) | (simp [All, InR]; first | done | omega) | (simp +contextual [All, InR]; first | done | grind)) ?_))
  refine RetQ_intro (by simp only [kR, Tryd.results64, ↓reduceIte, Nat.reduceEqDiff, reduceCtorEq, effLoad, cellsOf, List.map, List.length_cons, List.length_nil, List.getD_cons_zero, List.getD_cons_succ, List.getD_nil, List.drop, List.take, splice, ti45, ti48]; first | done | rfl) (by first | exact trivial | (simp only [kO]; omega) | (simp [All, InR]; first | done | omega) | (simp +contextual [All, InR]; first | done | grind)) [] ⟨by simp [Ab.get, renAO_id], by simp, by simp [clAO, cl_f1, cl_s1, cl_f2, cl_s2, cl_a1, flat_up, clCs, clC, domOf, Ab.get], keepI hx (by simp [domOf, Ab.get])⟩ (by simp [clAV, clPs, clCs, clC, domOf, Ab.get]) ⟨?_, rfl⟩
  rfl
def k65 := And.intro @Tryd.ntmps65 <| And.intro @bld45 <| And.intro @bld48 <| And.intro @bld64 <| And.intro @bld96 <| And.intro @fld64_0 <| And.intro @fld64_1 <| And.intro @ti45 <| And.intro @ti48 <| And.intro @ti64 <| @ti96
set_option maxRecDepth 100000 in
set_option maxHeartbeats 4000000 in
theorem ofMerge_ac (d : Dep) (t : Tsk) (s h : Rev) (w : Rsn) : AC Tryd.prog 65 [.agg ((encPrb d t s h).map C.d), aRsn w] [] (fun r st => r = .tup [(true, [.d (.v (.int .i64 w.base)), .d (.v (.bool w.kw)), .d (.v (.bool w.ex)), .d (.v (.bool w.xe))]), (true, [.d (.v (.int .u64 w.sum)), .d (.v (.int .i64 w.size))])] ∧ st = []) := by
  refine AC_enter Tryd.func65 rfl rfl (by simp only [Tryd.ntmps65, List.length]; omega) ?_
  intro x hx
  simp only [List.range, List.range.loop, List.length, List.zip, List.zipWith, Nat.reduceAdd, Tryd.ntmps65]
  (repeat (first | (with_reducible first | refine na ?_ | refine nb ?_ | refine nc ?_ | refine nd ?_ | refine ne ?_ | refine nf ?_ | refine ng ?_ | refine nh ?_ | refine ni ?_ | refine nj ?_ | refine nk ?_ | refine nl ?_ | refine nm (by decide) ?_ | refine nn ?_) | refine TO_go (wr := false) 400 (by simp only [kB, k65, Nat.reduceAdd, Nat.reduceLT, Nat.reduceEqDiff, ↓reduceIte, reduceCtorEq]; first | done | rfl) (by first | exact trivial | (simp only [kO]; omega) | (simp [All, InR]; first | done | omega) | (simp +contextual [All, InR]; first | done | grind)) ?_))
  refine T_draw (wr := false) ([] : List (Nat × AV)) (by kernel_rfl) (by simp only [kD, kB, k65, Nat.reduceAdd, Nat.reduceLT, Nat.reduceEqDiff, ↓reduceIte, reduceCtorEq]; first | done | rfl) ?_ (by kernel_rfl) ?_
  · simp only [All, List.cons_append, List.nil_append, InR, List.mem_cons, List.not_mem_nil, or_false, forall_eq_or_imp, forall_eq, clAV, clCs, clC, clCaps, clCap, and_true, true_and, implies_true, List.length_map, List.length_cons, List.length_nil, dArr, cl_arr, tyCs]
    repeat' (first | exact trivial | refine And.intro ?_ ?_ | intro _ | assumption | rfl | omega | (rw [Bool.not_eq_true']; assumption) | (simp; done) | (simp only [decide_eq_true_eq] at *; omega) | (simp_all; done))
  (repeat (with_reducible first | refine na ?_ | refine nb ?_ | refine nc ?_ | refine nd ?_ | refine ne ?_ | refine nf ?_ | refine ng ?_ | refine nh ?_ | refine ni ?_ | refine nj ?_ | refine nk ?_ | refine nl ?_ | refine nm (by decide) ?_ | refine nn ?_))
  refine RetQ_intro (by simp only [kR, Tryd.results65, ↓reduceIte, Nat.reduceEqDiff, reduceCtorEq, effLoad, cellsOf, List.map, List.length_cons, List.length_nil, List.getD_cons_zero, List.getD_cons_succ, List.getD_nil, List.drop, List.take, splice, ti45, ti48]; first | done | rfl) (by first | exact trivial | (simp only [kO]; omega) | (simp [All, InR]; first | done | omega) | (simp +contextual [All, InR]; first | done | grind)) [] ⟨by simp [Ab.get, renAO_id], by simp, by simp [clAO, cl_f1, cl_s1, cl_f2, cl_s2, cl_a1, flat_up, clCs, clC, domOf, Ab.get], keepI hx (by simp [domOf, Ab.get])⟩ (by simp [clAV, clPs, clCs, clC, domOf, Ab.get]) ⟨?_, rfl⟩
  rfl
end Go.Proofs.YtmlhfnodnnbbnaaDoor

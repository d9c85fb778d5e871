/- A part of the proof. -/
import Derived.Test.YtmhboloicpieeaaGreatDoorRU10
import Derived.Test.YtmhboloicpieeaaGreatDoorRU7
set_option maxRecDepth 100000
set_option maxHeartbeats 16000000
set_option linter.all false
namespace Go.Proofs.YtmhboloicpieeaaGreatDoor
open Go.Ab Tys
variable [Dr]
@[reducible] def cmpV : AV := .c (.d (.v (.func (.func 48) #[] #[])))
def Rcs (n : Nat) (l : List Rcd) : Prop := l.length = n ∧ ∀ r ∈ l, rOK r
theorem Rcs.swap {n : Nat} {l : List Rcd} (h : Rcs n l) {i j : Nat} (hi : i < n) (hj : j < n) : Rcs n ((l.set i (l.getD j zRcd)).set j (l.getD i zRcd)) := by
 have m1 : l.getD i zRcd ∈ l := by rw [List.getD_eq_getElem?_getD, List.getElem?_eq_getElem (by rw [h.1]; exact hi)]; simp
 have m2 : l.getD j zRcd ∈ l := by rw [List.getD_eq_getElem?_getD, List.getElem?_eq_getElem (by rw [h.1]; exact hj)]; simp
 refine ⟨by simp [h.1], fun r hr => ?_⟩
 rcases List.mem_or_eq_of_mem_set hr with h1 | rfl
 ·rcases List.mem_or_eq_of_mem_set h1 with h2 | rfl
  ·exact h.2 r h2
  ·exact h.2 _ m2
 ·exact h.2 _ m1
def k236 := And.intro @Tryz.ntmps236 <| And.intro @bld76 <| And.intro @elt28 <| And.intro @ti28 <| @ti76
theorem v236Y1 {G G' : Prop} (g : G') (h : Hid G' → G := by intro h9; (first | refine nvB ?_ | refine goA (wr := false) (by simp only [kB, k236, Nat.reduceAdd, Nat.reduceLT, Nat.reduceEqDiff, ↓reduceIte, reduceCtorEq]; first | done | rfl) ?_); (repeat (first | refine nvB ?_ | refine goA (wr := false) (by simp only [kB, k236, Nat.reduceAdd, Nat.reduceLT, Nat.reduceEqDiff, ↓reduceIte, reduceCtorEq]; first | done | rfl) ?_)); exact h9.out) : G := h ⟨g⟩
theorem swapR_ac (len : Nat) (l : List Rcd) (hl : len ≤ 1000000) (hR : Rcs len l) (a b n : Nat) (ha : a + n ≤ len) (hb : b + n ≤ len) :
  AC Tryz.prog 236 [.c (.ms 46 6 0 len), I .i64 a, I .i64 b, I .i64 n, cmpV] [(46, dArr 6 (l.map encRcd))] (fun r st => ∃ l', Rcs len l' ∧ st = [(46, dArr 6 (l'.map encRcd))]) := by
 refine AC_enter Tryz.func236 rfl rfl (by simp only [Tryz.ntmps236, List.length]; omega) ?_
 intro x hx
 simp only [List.range, List.range.loop, List.length, List.zip, List.zipWith, Nat.reduceAdd, Tryz.ntmps236]
 try refine v236Y1 ?_
 refine T_loop (ι := Nat × List Rcd) (I := fun i => ⟨38, [(0, .c (.ms 46 6 0 len)), (1, I .i64 a), (2, I .i64 b), (3, I .i64 n), (10, I .i64 i.1)], [(46, dArr 6 (i.2.map encRcd))]⟩)
  (Inv := fun i => i.1 ≤ n ∧ Rcs len i.2) (μ := fun i => n - i.1) (0, l) ⟨by simp, hR⟩ ?_ ?_
 ·exact enA
 rintro ⟨k, t⟩ ⟨h1, h2⟩
 simp only at h1 h2 ⊢
 try refine v236Y1 ?_
 refine ifA ?_ ?_
 rotate_left
 ·intro _
  try refine v236Y1 ?_
  refine rtN (by simp only [kR, Tryz.results236, ↓reduceIte, Nat.reduceEqDiff, reduceCtorEq]; first | done | rfl) ([(46, dArr 6 (t.map encRcd))]) ?_
  exact ⟨t, h2, rfl⟩
 intro hlt
 have hlt' : k < n := by simpa using hlt
 have hj1 : (((a : Nat) : Int) + ((k : Nat) : Int)).toNat = a + k := by omega
 have hj2 : (((b : Nat) : Int) + ((k : Nat) : Int)).toNat = b + k := by omega
 have e1 := uGet encRcd t (a + k) zRcd (by rw [h2.1]; omega)
 have e2 := uGet encRcd t (b + k) zRcd (by rw [h2.1]; omega)
 have hsw := h2.swap (i := a + k) (j := b + k) (by omega) (by omega)
 have htl := h2.1
 generalize t.getD (a + k) zRcd = v at e1 hsw
 generalize t.getD (b + k) zRcd = w at e2 hsw
 try refine v236Y1 ?_
 refine T_draw (wr := false) ([] : List (Nat × AV)) (by kernel_rfl) (by simp only [kD, kB, k236, Nat.reduceAdd, Nat.reduceLT, Nat.reduceEqDiff, ↓reduceIte, reduceCtorEq, hj1, hj2, e1, e2, set_R, set_R2]; first | done | rfl) (by first | exact trivial | (simp only [kO]; omega) | (simp [All, InR]; first | done | omega) | (simp +contextual [All, InR]; first | done | grind)) (by kernel_rfl) ?_
 try refine v236Y1 ?_
 refine ⟨(k + 1, (t.set (a + k) w).set (b + k) v), ⟨by simp; omega, hsw⟩, by simp; omega, ?_⟩
 exact enA
def k198 := And.intro @Tryz.ntmps198 <| trivial
theorem v198Y1 {G G' : Prop} (g : G') (h : Hid G' → G := by intro h9; (first | refine nvB ?_ | refine goA (wr := false) (by simp only [kB, k198, Nat.reduceAdd, Nat.reduceLT, Nat.reduceEqDiff, ↓reduceIte, reduceCtorEq]; first | done | rfl) ?_); (repeat (first | refine nvB ?_ | refine goA (wr := false) (by simp only [kB, k198, Nat.reduceAdd, Nat.reduceLT, Nat.reduceEqDiff, ↓reduceIte, reduceCtorEq]; first | done | rfl) ?_)); exact h9.out) : G := h ⟨g⟩
theorem rotR_ac (len : Nat) (l : List Rcd) (hl : len ≤ 1000000) (hR : Rcs len l) (a m b : Nat) (ha : a < m) (hm : m < b) (hb : b ≤ len) :
  AC Tryz.prog 198 [.c (.ms 46 6 0 len), I .i64 a, I .i64 m, I .i64 b, cmpV] [(46, dArr 6 (l.map encRcd))] (fun r st => ∃ l', Rcs len l' ∧ st = [(46, dArr 6 (l'.map encRcd))]) := by
 refine AC_enter Tryz.func198 rfl rfl (by simp only [Tryz.ntmps198, List.length]; omega) ?_
 intro x hx
 simp only [List.range, List.range.loop, List.length, List.zip, List.zipWith, Nat.reduceAdd, Tryz.ntmps198]
 try refine v198Y1 ?_
 refine T_loop (ι := Nat × Nat × List Rcd) (I := fun i => ⟨58, [(0, .c (.ms 46 6 0 len)), (2, I .i64 m), (4, cmpV), (10, I .i64 i.1), (11, I .i64 i.2.1)], [(46, dArr 6 (i.2.2.map encRcd))]⟩)
  (Inv := fun i => 0 < i.1 ∧ 0 < i.2.1 ∧ i.1 ≤ m ∧ m + i.2.1 ≤ len ∧ Rcs len i.2.2) (μ := fun i => i.1 + i.2.1) (m - a, b - m, l) ⟨by simp; omega, by simp; omega, by simp, by simp; omega, hR⟩ ?_ ?_
 ·have c1 : ((m : Nat) : Int) - ((a : Nat) : Int) = ((m - a : Nat) : Int) := by omega
  have c2 : ((b : Nat) : Int) - ((m : Nat) : Int) = ((b - m : Nat) : Int) := by omega
  (refine Ent_sub (fun i => i) rfl ?_ ⟨?_, ?_, ?_, keepI hx (by simp [domOf, Ab.get])⟩ <;> first | (simp only [kE, dArr, ↓reduceIte, Nat.reduceEqDiff, reduceCtorEq, c1, c2]; done) | simp [renAV_id, renAO_id, flat_up, Ab.get, clAV, clC, clCs, clAO, cl_f1, cl_s1, cl_f2, cl_s2, cl_a1, domOf, List.flatten, c1, c2])
 rintro ⟨i, j, t⟩ ⟨h1, h2, h3, h4, h5⟩
 simp only at h1 h2 h3 h4 h5 ⊢
 have c1 : ((m : Nat) : Int) - ((i : Nat) : Int) = ((m - i : Nat) : Int) := by omega
 try refine v198Y1 ?_
 refine ifA ?_ ?_
 ·intro hne
  have hne' : ¬ i = j := by intro e; subst e; simp at hne
  try refine v198Y1 ?_
  refine ifA ?_ ?_
  ·intro hgt
   have hgt' : j < i := by simpa using hgt
   (repeat (first | refine nvB ?_ | refine goA (wr := false) (by simp only [kB, k198, Nat.reduceAdd, Nat.reduceLT, Nat.reduceEqDiff, ↓reduceIte, reduceCtorEq, c1]; first | done | rfl) ?_))
   refine caA ([(46, dArr 6 (t.map encRcd))]) (swapR_ac len t hl h5 (m - i) m j (by omega) (by omega)) ?_
   rintro rv9 st' ⟨t', ht', rfl⟩ <;> refine frA ?_
   try refine v198Y1 ?_
   refine ⟨(i - j, j, t'), ⟨by simp; omega, h2, by simp; omega, h4, ht'⟩, by simp; omega, ?_⟩
   have c3 : ((i : Nat) : Int) - ((j : Nat) : Int) = ((i - j : Nat) : Int) := by omega
   (refine Ent_sub (fun i => i) rfl ?_ ⟨?_, ?_, ?_, keepI hx (by simp [domOf, Ab.get])⟩ <;> first | (simp only [kE, dArr, ↓reduceIte, Nat.reduceEqDiff, reduceCtorEq, c3]; done) | simp [renAV_id, renAO_id, flat_up, Ab.get, clAV, clC, clCs, clAO, cl_f1, cl_s1, cl_f2, cl_s2, cl_a1, domOf, List.flatten, c3])
  ·intro hgt
   have hgt' : i ≤ j := by have : ¬ j < i := by simpa using hgt
                           omega
   have c4 : ((m : Nat) : Int) + ((j : Nat) : Int) - ((i : Nat) : Int) = ((m + j - i : Nat) : Int) := by omega
   (repeat (first | refine nvB ?_ | refine goA (wr := false) (by simp only [kB, k198, Nat.reduceAdd, Nat.reduceLT, Nat.reduceEqDiff, ↓reduceIte, reduceCtorEq, c1, c4]; first | done | rfl) ?_))
   refine caA ([(46, dArr 6 (t.map encRcd))]) (swapR_ac len t hl h5 (m - i) (m + j - i) i (by omega) (by omega)) ?_
   rintro rv9 st' ⟨t', ht', rfl⟩ <;> refine frA ?_
   try refine v198Y1 ?_
   refine ⟨(i, j - i, t'), ⟨h1, by simp; omega, h3, by simp; omega, ht'⟩, by simp; omega, ?_⟩
   have c3 : ((j : Nat) : Int) - ((i : Nat) : Int) = ((j - i : Nat) : Int) := by omega
   (refine Ent_sub (fun i => i) rfl ?_ ⟨?_, ?_, ?_, keepI hx (by simp [domOf, Ab.get])⟩ <;> first | (simp only [kE, dArr, ↓reduceIte, Nat.reduceEqDiff, reduceCtorEq, c3]; done) | simp [renAV_id, renAO_id, flat_up, Ab.get, clAV, clC, clCs, clAO, cl_f1, cl_s1, cl_f2, cl_s2, cl_a1, domOf, List.flatten, c3])
 intro heq
 have heq' : i = j := by
  simp at heq
  omega
 subst heq'
 (repeat (first | refine nvB ?_ | refine goA (wr := false) (by simp only [kB, k198, Nat.reduceAdd, Nat.reduceLT, Nat.reduceEqDiff, ↓reduceIte, reduceCtorEq, c1]; first | done | rfl) ?_))
 refine caA ([(46, dArr 6 (t.map encRcd))]) (swapR_ac len t hl h5 (m - i) m i (by omega) (by omega)) ?_
 rintro rv9 st' ⟨t', ht', rfl⟩ <;> refine frA ?_
 try refine v198Y1 ?_
 refine rtN (by simp only [kR, Tryz.results198, ↓reduceIte, Nat.reduceEqDiff, reduceCtorEq]; first | done | rfl) ([(46, dArr 6 (t'.map encRcd))]) ?_
 exact ⟨t', ht', rfl⟩
def k79 := And.intro @Tryz.ntmps79 <| And.intro @bld30 <| And.intro @bld39 <| And.intro @fld39_0 <| And.intro @fld39_5 <| And.intro @fld39_8 <| And.intro @ti3 <| And.intro @ti30 <| And.intro @ti39 <| @ti9
theorem v79U12 {G G' : Prop} (g : G') (h : Hid G' → G := by intro h9; (first | refine nvB ?_ | refine goA (wr := false) (by simp only [kB, kG, k79, Nat.reduceAdd, Nat.reduceLT, Nat.reduceEqDiff, ↓reduceIte, reduceCtorEq]; first | done | rfl) ?_); (repeat (first | refine nvB ?_ | refine goA (wr := false) (by simp only [kB, kG, k79, Nat.reduceAdd, Nat.reduceLT, Nat.reduceEqDiff, ↓reduceIte, reduceCtorEq]; first | done | rfl) ?_)); exact h9.out) : G := h ⟨g⟩
theorem moveFits_ac (d : Dep) (hg : Good d.revs) (hd : d.revs.length ≤ 1000000) (t : Tsk) (hm : t.move.size ≤ 100000) : AC Tryz.prog 79 [aDep d, aTsk t] [] (fun r st => r = B (moveFB d t) ∧ st = []) := by
 have hP := isPath_ac t.move hm
 have hL := hLast_ac d hg hd t.move
 have hV := rlive_ac ((last? d t.move).getD zRev) (last? d t.move).isSome
 rw [← live_eq] at hV
 generalize (last? d t.move).getD zRev = lv at hL hV
 generalize (last? d t.move).isSome = lb at hL hV
 refine AC_enter Tryz.func79 rfl rfl (by simp only [Tryz.ntmps79, List.length]; omega) ?_
 intro x hx
 simp only [List.range, List.range.loop, List.length, List.zip, List.zipWith, Nat.reduceAdd, Tryz.ntmps79]
 try refine v79U12 ?_
 refine ifA ?_ ?_
 ·intro h
  have h' : t.move = noS := by simpa using h
  try refine v79U12 ?_
  refine rtA (by simp only [kR, Tryz.results79, ↓reduceIte, Nat.reduceEqDiff, reduceCtorEq]; first | done | rfl) ([]) ?_
  refine ⟨?_, rfl⟩
  simp [moveFB, h']
 intro h
 have h' : ¬ t.move = noS := by simpa using h
 try refine v79U12 ?_
 refine TO_stepO (wr := false) ([(14, B (usableB t.move))] : List (Nat × AV)) rfl (by simp only [kD, kB, kG, k79, Nat.reduceAdd, Nat.reduceLT, Nat.reduceEqDiff, ↓reduceIte, reduceCtorEq]; first | done | rfl) ?_ ?_
 ·simp only [All, List.cons_append, List.nil_append, InR, List.mem_cons, List.not_mem_nil, or_false, forall_eq_or_imp, forall_eq, clAV, clCs, clC, clCaps, clCap, and_true, true_and, implies_true, List.length_map, List.length_cons, List.length_nil, dArr, cl_arr, tyCs]
  repeat' (first | exact trivial | exact hP | refine And.intro ?_ ?_ | intro _ | assumption | rfl | omega | (simp; done) | (simp_all; done))
 simp only [kP, Nat.reduceEqDiff, ↓reduceIte, reduceCtorEq]
 try refine v79U12 ?_
 refine TO_stepO (wr := false) ([(27, .tup [pRev lv, pB lb])] : List (Nat × AV)) rfl (by simp only [kD, kB, kG, k79, Nat.reduceAdd, Nat.reduceLT, Nat.reduceEqDiff, ↓reduceIte, reduceCtorEq]; first | done | rfl) ?_ ?_
 ·simp only [All, List.cons_append, List.nil_append, InR, List.mem_cons, List.not_mem_nil, or_false, forall_eq_or_imp, forall_eq, clAV, clCs, clC, clCaps, clCap, and_true, true_and, implies_true, List.length_map, List.length_cons, List.length_nil, dArr, cl_arr, tyCs]
  repeat' (first | exact trivial | exact hL | refine And.intro ?_ ?_ | intro _ | assumption | rfl | omega | (simp; done) | (simp_all; done))
 simp only [kP, Nat.reduceEqDiff, ↓reduceIte, reduceCtorEq]
 try refine v79U12 ?_
 refine TO_stepO (wr := false) ([(30, B (live d t.move))] : List (Nat × AV)) rfl (by simp only [kD, kB, kG, k79, Nat.reduceAdd, Nat.reduceLT, Nat.reduceEqDiff, ↓reduceIte, reduceCtorEq]; first | done | rfl) ?_ ?_
 ·simp only [All, List.cons_append, List.nil_append, InR, List.mem_cons, List.not_mem_nil, or_false, forall_eq_or_imp, forall_eq, clAV, clCs, clC, clCaps, clCap, and_true, true_and, implies_true, List.length_map, List.length_cons, List.length_nil, dArr, cl_arr, tyCs]
  repeat' (first | exact trivial | exact hV | refine And.intro ?_ ?_ | intro _ | assumption | rfl | omega | (simp; done) | (simp_all; done))
 simp only [kP, Nat.reduceEqDiff, ↓reduceIte, reduceCtorEq]
 try refine v79U12 ?_
 refine rtA (by simp only [kR, Tryz.results79, ↓reduceIte, Nat.reduceEqDiff, reduceCtorEq]; first | done | rfl) ([]) ?_
 refine ⟨?_, rfl⟩
 simp only [moveFB, h', decide_false, Bool.false_or]
 cases decide (t.kind = 1) <;> cases usableB t.move <;> cases decide (t.move = t.to) <;> cases live d t.move <;> rfl
@[reducible] def zPrb : List C := [.d (.v (.slice none 0 0)), .d (.v (.slice none 0 0)), .d (.v (.int .i64 0)), .d (.v (.string ByteArray.empty)), .d (.v (.int .i64 0)), .d (.v (.string ByteArray.empty)), .d (.v (.int .i64 0)), .d (.v (.int .i64 0)), .d (.v (.string ByteArray.empty)), .d (.v (.int .i64 0)), .d (.v (.string ByteArray.empty)), .d (.v (.int .i64 0)), .d (.v (.string ByteArray.empty)),
 .d (.v (.string ByteArray.empty)), .d (.v (.int .i64 0)), .d (.v (.int .i64 0)), .d (.v (.int .i64 0)), .d (.v (.int .i64 0)), .d (.v (.bool false)), .d (.v (.bool false)), .d (.v (.bool false)), .d (.v (.int .u64 0)), .d (.v (.int .i64 0)), .d (.v (.string ByteArray.empty)), .d (.v (.int .i64 0)),
 .d (.v (.string ByteArray.empty)), .d (.v (.int .i64 0)), .d (.v (.int .i64 0)), .d (.v (.int .i64 0)), .d (.v (.int .i64 0)), .d (.v (.bool false)), .d (.v (.bool false)), .d (.v (.bool false)), .d (.v (.int .u64 0)), .d (.v (.int .i64 0)), .d (.v (.string ByteArray.empty)), .d (.v (.int .i64 0))]
def k37 := And.intro @Tryz.ntmps37 <| And.intro @Tryz.underlying27 <| And.intro @bld100 <| And.intro @bld30 <| And.intro @bld37 <| And.intro @bld39 <| And.intro @bld46 <| And.intro @elt27 <| And.intro @fld100_0 <| And.intro @fld100_1 <| And.intro @fld100_2 <| And.intro @fld100_3 <| And.intro @fld37_0 <| And.intro @fld37_1 <| And.intro @fld39_1 <| And.intro @fld39_2 <| And.intro @fld39_3 <| And.intro @fld39_4 <| And.intro @fld39_5 <| And.intro @fld39_6 <| And.intro @fld46_0 <| And.intro @fld46_1 <| And.intro @kyt37 <| And.intro @mpt156 <| And.intro @ti100 <| And.intro @ti156 <| And.intro @ti27 <| And.intro @ti3 <| And.intro @ti30 <| And.intro @ti37 <| And.intro @ti39 <| And.intro @ti4 <| And.intro @ti46 <| @ti9
theorem v37U12 {G G' : Prop} (g : G') (h : Hid G' → G := by intro h9; (first | refine nvB ?_ | refine goA (wr := false) (by simp only [kB, kG, kS, kM, k37, Nat.reduceAdd, Nat.reduceLT, Nat.reduceEqDiff, ↓reduceIte, reduceCtorEq]; first | done | rfl) ?_); (repeat (first | refine nvB ?_ | refine goA (wr := false) (by simp only [kB, kG, kS, kM, k37, Nat.reduceAdd, Nat.reduceLT, Nat.reduceEqDiff, ↓reduceIte, reduceCtorEq]; first | done | rfl) ?_)); exact h9.out) : G := h ⟨g⟩
theorem open_ac (d : Dep) (hg : Good d.revs) (hN : d.revs.length ≤ 512) (hn : NumOK d) (t : Tsk) (ht : t.to.size ≤ 100000) (hm : t.move.size ≤ 100000) :
  AC Tryz.prog 37 [aDep d, aTsk t] [] (fun r st => ((r = .tup [(true, zPrb), pB false] ∧ fitsB d t = false) ∨ r = .tup [(true, (encPrb d t (srcR d t) (tgtR d t)).map C.d), pB (fitsB d t)]) ∧ st = []) := by
 have hP := isPath_ac t.to (by omega)
 have hLn := hLine_ac d (by omega) ⟨t.lpath, t.lnum⟩
 have hlen : (lnP d t.line).length ≤ 600 := lnP_len hN t.line
 rw [show (⟨t.lpath, t.lnum⟩ : Fil) = t.line from rfl] at hLn
 refine AC_enter Tryz.func37 rfl rfl (by simp only [Tryz.ntmps37, List.length]; omega) ?_
 intro x hx
 simp only [List.range, List.range.loop, List.length, List.zip, List.zipWith, Nat.reduceAdd, Tryz.ntmps37]
 try refine v37U12 ?_
 refine TO_stepO (wr := false) ([(27, B (usableB t.to))] : List (Nat × AV)) rfl (by simp only [kD, kB, kG, kS, kM, k37, Nat.reduceAdd, Nat.reduceLT, Nat.reduceEqDiff, ↓reduceIte, reduceCtorEq]; first | done | rfl) ?_ ?_
 ·simp only [All, List.cons_append, List.nil_append, InR, List.mem_cons, List.not_mem_nil, or_false, forall_eq_or_imp, forall_eq, clAV, clCs, clC, clCaps, clCap, and_true, true_and, implies_true, List.length_map, List.length_cons, List.length_nil, dArr, cl_arr, tyCs]
  repeat' (first | exact trivial | exact hP | refine And.intro ?_ ?_ | intro _ | assumption | rfl | omega | (simp; done) | (simp_all; done))
 simp only [kP, Nat.reduceEqDiff, ↓reduceIte, reduceCtorEq]
 try refine v37U12 ?_
 refine ifA ?_ ?_
 ·intro h
  have hf : fitsB d t = false := by
   rw [fitsB_no]
   intro hf
   have := hf.lo; have := hf.le; have := hf.use
   simp [this, show ¬ t.first < 1 by omega, show ¬ t.last < t.first by omega] at h
  try refine v37U12 ?_
  refine rtA (by simp only [kR, Tryz.results37, ↓reduceIte, Nat.reduceEqDiff, reduceCtorEq, effLoad, cellsOf, List.map, List.length_cons, List.length_nil, List.getD_cons_zero, List.getD_cons_succ, List.getD_nil, List.drop, List.take, splice, ti100]; first | done | rfl) ([]) ?_
  refine ⟨?_, rfl⟩
  exact .inl ⟨rfl, hf⟩
 intro h
 obtain ⟨c1, c2, hu⟩ : 1 ≤ t.first ∧ t.first ≤ t.last ∧ usableB t.to = true := by
  by_cases c1 : t.first < 1
  ·simp [c1] at h
  by_cases c2 : t.last < t.first
  ·simp [c1, c2] at h
  exact ⟨by omega, by omega, by simpa [c1, c2] using h⟩
 (repeat (first | refine v37U12 ?_ | (refine caA [] (hLn) ?_; rintro r st' ⟨rfl, rfl⟩; refine frA ?_)))
 generalize hLL : lnP d t.line = L at hlen
 refine T_loop (ι := Nat × List Fil) (I := fun i => ⟨113, [(2, .c (.ptr 2 0)), (3, .c (.ptr 3 0)), (4, .c (.ptr 4 0)), (6, .c (.mp 200)), (35, aRevs L), (36, I .i64 L.length), (37, I .i64 i.1)],
   [(2, .box ((encDep d).map C.d)), (3, .box ((encTsk t).map C.d)), (4, .box zPrb), (200, uMap kF i.2)]⟩)
  (Inv := fun i => i.1 ≤ L.length ∧ ∀ f, f ∈ i.2 ↔ f ∈ (L.take i.1).map fileOf) (μ := fun i => L.length - i.1) (0, []) ⟨by simp, by simp⟩ ?_ ?_
 ·exact enR (fun i => if i = 200 then 31 else i)
 rintro ⟨k, s⟩ ⟨hk, hs⟩
 simp only at hk hs ⊢
 try refine v37U12 ?_
 refine ifA ?_ ?_
 ·intro hlt
  have hlt' : k < L.length := by simpa using hlt
  obtain ⟨v, hv, he, htk⟩ := round encRev L k zRev hlt'
  refine nvA ?_
  refine goA (wr := false) (by simp only [kB, kG, kS, kM, k37, Nat.reduceAdd, Nat.reduceLT, Nat.reduceEqDiff, ↓reduceIte, reduceCtorEq, he]; first | done | rfl) ?_
  try refine v37U12 ?_
  refine TO_go (wr := false) 400 (by simp only [kB, kG, kS, kM, k37, Nat.reduceAdd, Nat.reduceLT, Nat.reduceEqDiff, ↓reduceIte, reduceCtorEq, ins_F]; first | done | rfl) ?_ ?_
  ·exact obT (ty_F s)
  try refine v37U12 ?_
  refine ⟨(k + 1, addS s ⟨v.path, v.num⟩), ⟨by simp; omega, ?_⟩, by simp; omega, ?_⟩
  ·intro f
   rw [mem_addS, hs, htk]
   simp [fileOf]
  ·exact enA
 intro hge
 have hge' : k = L.length := by have : ¬ k < L.length := by simpa using hge
                                omega
 subst hge'
 rw [List.take_length] at hs
 rw [← hLL] at hs
 try refine v37U12 ?_
 refine T_loop (ι := Int) (I := fun n => ⟨113, [(2, .c (.ptr 2 0)), (3, .c (.ptr 3 0)), (4, .c (.ptr 4 0)), (6, .c (.mp 200)), (9, I .i64 n)],
   [(2, .box ((encDep d).map C.d)), (3, .box ((encTsk t).map C.d)), (4, .box zPrb), (200, uMap kF s)]⟩)
  (Inv := fun n => t.first ≤ n ∧ n ≤ t.last ∧ ∀ m, t.first ≤ m → m < n → idn d t.frm m = some t.line) (μ := fun n => (t.last - n).toNat) t.first ⟨by omega, by omega, by intro m h1 h2; omega⟩ ?_ ?_
 ·exact enA
 rintro n ⟨n1, n2, n3⟩
 have hmem : decide ((⟨t.frm, n⟩ : Fil) ∈ s) = decide (idn d t.frm n = some t.line) := by
  rw [Bool.eq_iff_iff, decide_eq_true_eq, decide_eq_true_eq, hs, idn_line hg hN]
 refine nvA ?_
 refine TO_go (wr := false) 400 (by simp only [kB, kG, kS, kM, k37, Nat.reduceAdd, Nat.reduceLT, Nat.reduceEqDiff, ↓reduceIte, reduceCtorEq, look_F]; first | done | rfl) ?_ ?_
 ·exact obT (ty_F s)
 try refine v37U12 ?_
 refine ifA ?_ ?_
 ·intro h2
  have hi : ¬ idn d t.frm n = some t.line := by
   rw [hmem] at h2; simpa using h2
  have hf : fitsB d t = false := fitsB_no fun hf => hi (hf.run n n1 n2)
  try refine v37U12 ?_
  refine rtA (by simp only [kR, Tryz.results37, ↓reduceIte, Nat.reduceEqDiff, reduceCtorEq, effLoad, cellsOf, List.map, List.length_cons, List.length_nil, List.getD_cons_zero, List.getD_cons_succ, List.getD_nil, List.drop, List.take, splice, ti100]; first | done | rfl) ([]) ?_
  refine ⟨?_, rfl⟩
  exact .inl ⟨rfl, hf⟩
 intro h2
 have hi : idn d t.frm n = some t.line := by
  rw [hmem] at h2; simpa using h2
 have hnum := idn_num hg hn hi
 try refine v37U12 ?_
 refine ifA ?_ ?_
 rotate_left
 ·intro h3
  have h3' : ¬ n = t.last := by simpa using h3
  try refine v37U12 ?_
  refine ⟨n + 1, ⟨by omega, by omega, ?_⟩, by omega, ?_⟩
  ·intro m m1 m2
   by_cases e : m = n
   ·subst e; exact hi
   ·exact n3 m m1 (by omega)
  ·exact enA
 intro h3
 have h3' : n = t.last := by simpa using h3
 have hrun : RunOK d t := fun m m1 m2 => by
  by_cases e : m = n
  ·subst e; exact hi
  ·exact n3 m m1 (by omega)
 have hG := hGet_ac d (by omega) t.frm t.last
 have hGs : (get? d t.frm t.last).isSome = true := by
  subst h3'
  unfold idn member? at hi
  cases hq : get? d t.frm t.last with
  | none => rw [hq] at hi; cases hi
  | some v => rfl
 rw [hGs, show (get? d t.frm t.last).getD zRev = srcR d t from rfl] at hG
 have hL := hLast_ac d hg (by omega) t.to
 rw [show (last? d t.to).getD zRev = tgtR d t from rfl] at hL
 have hV := rlive_ac (tgtR d t) (last? d t.to).isSome
 rw [show ((last? d t.to).isSome && !gone (tgtR d t)) = live d t.to from (live_eq d t.to).symm] at hV
 generalize hlb : (last? d t.to).isSome = lb at hL hV
 have hlast : lastNum d t.to = (tgtR d t).num := rfl
 (repeat (first | refine v37U12 ?_ | (refine caA [] (hG) ?_; rintro r st' ⟨rfl, rfl⟩; refine frA ?_)))
 refine ifA ?_ ?_
 ·intro h; cases h
 intro _
 (repeat (first | refine v37U12 ?_ | (refine caA [] (hL) ?_; rintro r st' ⟨rfl, rfl⟩; refine frA ?_)))
 refine ifA ?_ ?_
 ·intro h4
  have h4' : ¬ t.head = (tgtR d t).num := by simpa using h4
  have hf : fitsB d t = false := fitsB_no fun hf => h4' (by rw [← hlast, hf.head])
  try refine v37U12 ?_
  refine rtA (by simp only [kR, Tryz.results37, ↓reduceIte, Nat.reduceEqDiff, reduceCtorEq, effLoad, cellsOf, List.map, List.length_cons, List.length_nil, List.getD_cons_zero, List.getD_cons_succ, List.getD_nil, List.drop, List.take, splice, ti100]; first | done | rfl) ([]) ?_
  refine ⟨?_, rfl⟩
  exact .inl ⟨rfl, hf⟩
 intro h4
 have h4' : t.head = (tgtR d t).num := by simpa using h4
 have hh : lastNum d t.to = t.head := by rw [hlast, h4']
 refine nvA ?_
 refine TO_go (wr := false) 400 (by simp only [kB, kG, kS, kM, k37, Nat.reduceAdd, Nat.reduceLT, Nat.reduceEqDiff, ↓reduceIte, reduceCtorEq, look_F]; first | done | rfl) ?_ ?_
 ·exact obT (ty_F s)
 obtain ⟨on, hon⟩ : ∃ on, on = decide ((⟨(tgtR d t).path, (tgtR d t).num⟩ : Fil) ∈ s) := ⟨_, rfl⟩
 have hfit := open_eq c1 c2 hu hrun hh
 rw [← kindFB_on (on := on) fun hl => by rw [hon]; exact open_on hg hN hs hh hl] at hfit
 rw [← hon]
 have hK := kindFits_ac t (srcR d t) (live d t.to) on
 have hM := moveFits_ac d hg (by omega) t (by omega)
 refine nvA ?_
 refine drA (wr := false) ([(105, B (live d t.to)), (107, B (kindFB t.kind (srcR d t) (live d t.to) on)), (111, B (moveFB d t))] : List (Nat × AV)) (by simp only [kD, kB, kG, kS, kM, k37, Nat.reduceAdd, Nat.reduceLT, Nat.reduceEqDiff, ↓reduceIte, reduceCtorEq]; first | done | rfl) ?_ ?_
 ·exact obH (hV) (hK) (hM)
 try refine v37U12 ?_
 refine rtA (by simp only [kR, Tryz.results37, ↓reduceIte, Nat.reduceEqDiff, reduceCtorEq, effLoad, cellsOf, List.map, List.length_cons, List.length_nil, List.getD_cons_zero, List.getD_cons_succ, List.getD_nil, List.drop, List.take, splice, ti100]; first | done | rfl) ([]) ?_
 refine ⟨?_, rfl⟩
 rw [hfit]
 right
 cases kindFB t.kind (srcR d t) (live d t.to) on <;> rfl
def k39 := And.intro @Tryz.ntmps39 <| And.intro @bld39 <| And.intro @bld41 <| And.intro @bld44 <| And.intro @bld54 <| And.intro @fld39_0 <| And.intro @fld39_8 <| And.intro @fld44_1 <| And.intro @fld54_0 <| And.intro @fld54_1 <| And.intro @fld54_2 <| And.intro @ti3 <| And.intro @ti39 <| And.intro @ti4 <| And.intro @ti41 <| And.intro @ti44 <| And.intro @ti54 <| @ti9
theorem v39U6 {G G' : Prop} (g : G') (h : Hid G' → G := by intro h9; (first | refine nvB ?_ | refine goA (wr := false) (by simp only [kB, kG, k39, Nat.reduceAdd, Nat.reduceLT, Nat.reduceEqDiff, ↓reduceIte, reduceCtorEq]; first | done | rfl) ?_); (repeat (first | refine nvB ?_ | refine goA (wr := false) (by simp only [kB, kG, k39, Nat.reduceAdd, Nat.reduceLT, Nat.reduceEqDiff, ↓reduceIte, reduceCtorEq]; first | done | rfl) ?_)); exact h9.out) : G := h ⟨g⟩
theorem permitted_ac (t : Tsk) (ch : Int) (w : Rsn) : AC Tryz.prog 39 [aTsk t, I .i64 ch, aRsn w] [] (fun r st => r = B (permB t ch w) ∧ st = []) := by
 have hft := ftype_ac w.base w.kw w.ex w.xe
 refine AC_enter Tryz.func39 rfl rfl (by simp only [Tryz.ntmps39, List.length]; omega) ?_
 intro x hx
 simp only [List.range, List.range.loop, List.length, List.zip, List.zipWith, Nat.reduceAdd, Tryz.ntmps39]
 try refine v39U6 ?_
 refine ifA ?_ ?_
 ·intro h
  try refine v39U6 ?_
  refine rtA (by simp only [kR, Tryz.results39, ↓reduceIte, Nat.reduceEqDiff, reduceCtorEq]; first | done | rfl) ([]) ?_
  refine ⟨?_, rfl⟩
  have h' : (w.mv && (decide (t.move = noS) || decide (ch = 1) || decide (t.kind = 3))) = true := by rw [← h]; cases w.mv <;> cases decide (t.move = noS) <;> cases decide (ch = 1) <;> rfl
  simp [permB, h']
 intro h
 have h' : (w.mv && (decide (t.move = noS) || decide (ch = 1) || decide (t.kind = 3))) = false := by rw [← h]; cases w.mv <;> cases decide (t.move = noS) <;> cases decide (ch = 1) <;> rfl
 try refine v39U6 ?_
 refine ifA ?_ ?_
 ·intro h2
  have h2' : ch = 3 ∨ ch = 4 := by
   by_cases e : ch = 3
   ·exact .inl e
   ·right; simpa [e] using h2
  (repeat (first | refine v39U6 ?_ | (refine caA [] (hft) ?_; rintro r st' ⟨rfl, rfl⟩; refine frA ?_)))
  refine rtA (by simp only [kR, Tryz.results39, ↓reduceIte, Nat.reduceEqDiff, reduceCtorEq]; first | done | rfl) ([]) ?_
  refine ⟨?_, rfl⟩
  simp only [permB, h', if_pos h2', Bool.not_false, Bool.true_and]
  cases typBad w.base w.kw w.xe <;> simp
 intro h2
 have h2' : ¬ (ch = 3 ∨ ch = 4) := by
  rintro (e | e) <;> simp [e] at h2
 try refine v39U6 ?_
 refine rtA (by simp only [kR, Tryz.results39, ↓reduceIte, Nat.reduceEqDiff, reduceCtorEq]; first | done | rfl) ([]) ?_
 refine ⟨?_, rfl⟩
 simp only [permB, h', if_neg h2', Bool.not_false, Bool.true_and]
def k80 := And.intro @Tryz.ntmps80 <| And.intro @bld100 <| And.intro @bld41 <| And.intro @bld44 <| And.intro @bld46 <| And.intro @bld54 <| And.intro @fld100_2 <| And.intro @fld46_4 <| And.intro @fld46_5 <| And.intro @ti100 <| And.intro @ti41 <| And.intro @ti44 <| And.intro @ti46 <| @ti54
theorem v80U6 {G G' : Prop} (g : G') (h : Hid G' → G := by intro h9; (first | refine nvB ?_ | refine goA (wr := false) (by simp only [kB, k80, Nat.reduceAdd, Nat.reduceLT, Nat.reduceEqDiff, ↓reduceIte, reduceCtorEq]; first | done | rfl) ?_); (repeat (first | refine nvB ?_ | refine goA (wr := false) (by simp only [kB, k80, Nat.reduceAdd, Nat.reduceLT, Nat.reduceEqDiff, ↓reduceIte, reduceCtorEq]; first | done | rfl) ?_)); exact h9.out) : G := h ⟨g⟩
theorem ofSource_ac (d : Dep) (t : Tsk) (s h : Rev) (w : Rsn) : AC Tryz.prog 80 [.agg ((encPrb d t s h).map C.d), aRsn w] [] (fun r st => r = .tup [(true, [.d (.v (.int .i64 s.base)), .d (.v (.bool s.kw)), .d (.v (.bool s.ex)), .d (.v (.bool s.xe))]), (true, [.d (.v (.int .u64 s.sum)), .d (.v (.int .i64 s.size))])] ∧ st = []) := by
 refine AC_enter Tryz.func80 rfl rfl (by simp only [Tryz.ntmps80, List.length]; omega) ?_
 intro x hx
 simp only [List.range, List.range.loop, List.length, List.zip, List.zipWith, Nat.reduceAdd, Tryz.ntmps80]
 try refine v80U6 ?_
 refine drA (wr := false) ([] : List (Nat × AV)) (by simp only [kD, kB, k80, Nat.reduceAdd, Nat.reduceLT, Nat.reduceEqDiff, ↓reduceIte, reduceCtorEq]; first | done | rfl) ?_ ?_
 ·exact obN
 refine nvA ?_
 refine rtA (by simp only [kR, Tryz.results80, ↓reduceIte, Nat.reduceEqDiff, reduceCtorEq, effLoad, cellsOf, List.map, List.length_cons, List.length_nil, List.getD_cons_zero, List.getD_cons_succ, List.getD_nil, List.drop, List.take, splice, ti41, ti44]; first | done | rfl) ([]) ?_
 refine ⟨?_, rfl⟩
 rfl
def k81 := And.intro @Tryz.ntmps81 <| And.intro @bld100 <| And.intro @bld41 <| And.intro @bld44 <| And.intro @bld46 <| And.intro @bld54 <| And.intro @fld100_3 <| And.intro @fld46_4 <| And.intro @fld46_5 <| And.intro @ti100 <| And.intro @ti41 <| And.intro @ti44 <| And.intro @ti46 <| @ti54
theorem v81U6 {G G' : Prop} (g : G') (h : Hid G' → G := by intro h9; (first | refine nvB ?_ | refine goA (wr := false) (by simp only [kB, k81, Nat.reduceAdd, Nat.reduceLT, Nat.reduceEqDiff, ↓reduceIte, reduceCtorEq]; first | done | rfl) ?_); (repeat (first | refine nvB ?_ | refine goA (wr := false) (by simp only [kB, k81, Nat.reduceAdd, Nat.reduceLT, Nat.reduceEqDiff, ↓reduceIte, reduceCtorEq]; first | done | rfl) ?_)); exact h9.out) : G := h ⟨g⟩
theorem ofTarget_ac (d : Dep) (t : Tsk) (s h : Rev) (w : Rsn) : AC Tryz.prog 81 [.agg ((encPrb d t s h).map C.d), aRsn w] [] (fun r st => r = .tup [(true, [.d (.v (.int .i64 h.base)), .d (.v (.bool h.kw)), .d (.v (.bool h.ex)), .d (.v (.bool h.xe))]), (true, [.d (.v (.int .u64 h.sum)), .d (.v (.int .i64 h.size))])] ∧ st = []) := by
 refine AC_enter Tryz.func81 rfl rfl (by simp only [Tryz.ntmps81, List.length]; omega) ?_
 intro x hx
 simp only [List.range, List.range.loop, List.length, List.zip, List.zipWith, Nat.reduceAdd, Tryz.ntmps81]
 try refine v81U6 ?_
 refine drA (wr := false) ([] : List (Nat × AV)) (by simp only [kD, kB, k81, Nat.reduceAdd, Nat.reduceLT, Nat.reduceEqDiff, ↓reduceIte, reduceCtorEq]; first | done | rfl) ?_ ?_
 ·exact obN
 refine nvA ?_
 refine rtA (by simp only [kR, Tryz.results81, ↓reduceIte, Nat.reduceEqDiff, reduceCtorEq, effLoad, cellsOf, List.map, List.length_cons, List.length_nil, List.getD_cons_zero, List.getD_cons_succ, List.getD_nil, List.drop, List.take, splice, ti41, ti44]; first | done | rfl) ([]) ?_
 refine ⟨?_, rfl⟩
 rfl
def k82 := And.intro @Tryz.ntmps82 <| And.intro @bld100 <| And.intro @bld41 <| And.intro @bld44 <| And.intro @bld46 <| And.intro @bld54 <| And.intro @fld100_3 <| And.intro @fld46_4 <| And.intro @ti100 <| And.intro @ti41 <| And.intro @ti44 <| And.intro @ti46 <| @ti54
theorem v82U6 {G G' : Prop} (g : G') (h : Hid G' → G := by intro h9; (first | refine nvB ?_ | refine goA (wr := false) (by simp only [kB, kS, k82, Nat.reduceAdd, Nat.reduceLT, Nat.reduceEqDiff, ↓reduceIte, reduceCtorEq]; first | done | rfl) ?_); (repeat (first | refine nvB ?_ | refine goA (wr := false) (by simp only [kB, kS, k82, Nat.reduceAdd, Nat.reduceLT, Nat.reduceEqDiff, ↓reduceIte, reduceCtorEq]; first | done | rfl) ?_)); exact h9.out) : G := h ⟨g⟩
theorem ofDeleted_ac (d : Dep) (t : Tsk) (s h : Rev) (w : Rsn) : AC Tryz.prog 82 [.agg ((encPrb d t s h).map C.d), aRsn w] [] (fun r st => r = .tup [(true, [.d (.v (.int .i64 h.base)), .d (.v (.bool h.kw)), .d (.v (.bool h.ex)), .d (.v (.bool h.xe))]), (true, [.d (.v (.int .u64 0)), .d (.v (.int .i64 0))])] ∧ st = []) := by
 refine AC_enter Tryz.func82 rfl rfl (by simp only [Tryz.ntmps82, List.length]; omega) ?_
 intro x hx
 simp only [List.range, List.range.loop, List.length, List.zip, List.zipWith, Nat.reduceAdd, Tryz.ntmps82]
 try refine v82U6 ?_
 refine rtA (by simp only [kR, Tryz.results82, ↓reduceIte, Nat.reduceEqDiff, reduceCtorEq, effLoad, cellsOf, List.map, List.length_cons, List.length_nil, List.getD_cons_zero, List.getD_cons_succ, List.getD_nil, List.drop, List.take, splice, ti41, ti44]; first | done | rfl) ([]) ?_
 refine ⟨?_, rfl⟩
 rfl
def k83 := And.intro @Tryz.ntmps83 <| And.intro @bld100 <| And.intro @bld41 <| And.intro @bld44 <| And.intro @bld54 <| And.intro @fld54_0 <| And.intro @fld54_1 <| And.intro @ti100 <| And.intro @ti41 <| And.intro @ti44 <| @ti54
theorem v83U6 {G G' : Prop} (g : G') (h : Hid G' → G := by intro h9; (first | refine nvB ?_ | refine goA (wr := false) (by simp only [kB, k83, Nat.reduceAdd, Nat.reduceLT, Nat.reduceEqDiff, ↓reduceIte, reduceCtorEq]; first | done | rfl) ?_); (repeat (first | refine nvB ?_ | refine goA (wr := false) (by simp only [kB, k83, Nat.reduceAdd, Nat.reduceLT, Nat.reduceEqDiff, ↓reduceIte, reduceCtorEq]; first | done | rfl) ?_)); exact h9.out) : G := h ⟨g⟩
theorem ofMerge_ac (d : Dep) (t : Tsk) (s h : Rev) (w : Rsn) : AC Tryz.prog 83 [.agg ((encPrb d t s h).map C.d), aRsn w] [] (fun r st => r = .tup [(true, [.d (.v (.int .i64 w.base)), .d (.v (.bool w.kw)), .d (.v (.bool w.ex)), .d (.v (.bool w.xe))]), (true, [.d (.v (.int .u64 w.sum)), .d (.v (.int .i64 w.size))])] ∧ st = []) := by
 refine AC_enter Tryz.func83 rfl rfl (by simp only [Tryz.ntmps83, List.length]; omega) ?_
 intro x hx
 simp only [List.range, List.range.loop, List.length, List.zip, List.zipWith, Nat.reduceAdd, Tryz.ntmps83]
 try refine v83U6 ?_
 refine drA (wr := false) ([] : List (Nat × AV)) (by simp only [kD, kB, k83, Nat.reduceAdd, Nat.reduceLT, Nat.reduceEqDiff, ↓reduceIte, reduceCtorEq]; first | done | rfl) ?_ ?_
 ·exact obN
 refine nvA ?_
 refine rtA (by simp only [kR, Tryz.results83, ↓reduceIte, Nat.reduceEqDiff, reduceCtorEq, effLoad, cellsOf, List.map, List.length_cons, List.length_nil, List.getD_cons_zero, List.getD_cons_succ, List.getD_nil, List.drop, List.take, splice, ti41, ti44]; first | done | rfl) ([]) ?_
 refine ⟨?_, rfl⟩
 rfl
end Go.Proofs.YtmhboloicpieeaaGreatDoor

/- A part of the proof. -/
import Derived.Test.YtmhboloicpieeaaGreatDoorRU7
import Derived.Test.YtmhboloicpieeaaGreatDoorRH3
import Derived.Test.YtmhboloicpieeaaGreatDoorRH4
set_option maxRecDepth 100000
set_option maxHeartbeats 16000000
set_option linter.all false
namespace Go.Proofs.YtmhboloicpieeaaGreatDoor
open Go.Ab Tys
variable [Dr]
def k59 := And.intro @Tryz.ntmps59 <| And.intro @Tryz.underlying27 <| And.intro @Tryz.underlying28 <| And.intro @Tryz.underlying50 <| And.intro @bld30 <| And.intro @bld46 <| And.intro @bld56 <| And.intro @bld62 <| And.intro @bld76 <| And.intro @elt27 <| And.intro @elt28 <| And.intro @elt50 <| And.intro @fld30_0 <| And.intro @fld30_1 <| And.intro @fld46_2 <| And.intro @fld62_0 <| And.intro @fld62_3 <| And.intro @fld62_4 <| And.intro @ti27 <| And.intro @ti28 <| And.intro @ti3 <| And.intro @ti30 <| And.intro @ti46 <| And.intro @ti50 <| And.intro @ti56 <| And.intro @ti62 <| @ti76
theorem v59H5 {G G' : Prop} (g : G') (h : Hid G' → G := by intro h9; (first | refine nvB ?_ | refine goA (wr := false) (by simp only [kB, kG, k59, Nat.reduceAdd, Nat.reduceLT, Nat.reduceEqDiff, ↓reduceIte, reduceCtorEq]; first | done | rfl) ?_); (repeat (first | refine nvB ?_ | refine goA (wr := false) (by simp only [kB, kG, k59, Nat.reduceAdd, Nat.reduceLT, Nat.reduceEqDiff, ↓reduceIte, reduceCtorEq]; first | done | rfl) ?_)); exact h9.out) : G := h ⟨g⟩
theorem check_ac (d : Dep) (c : Chg) (hd : d.revs.length ≤ 1000000) (hd2 : d.recs.length ≤ 1000000) (hc : ∀ e ∈ c.edits, eOK e) (hr : ∀ r ∈ c.recs, rOK r) (hl : c.edits.length ≤ 1000000) (hl2 : c.recs.length ≤ 1000000) :
  AC Tryz.prog 59 [aDep d, aChg c] [] (fun r st => (∃ e : Int, r = I .i64 e ∧ (e = 0 → ChkOK d c)) ∧ st = []) := by
 refine AC_enter Tryz.func59 rfl rfl (by simp only [Tryz.ntmps59, List.length]; omega) ?_
 intro x hx
 simp only [List.range, List.range.loop, List.length, List.zip, List.zipWith, Nat.reduceAdd, Tryz.ntmps59]
 try refine v59H5 ?_
 refine ifA ?_ ?_
 ·intro _
  try refine v59H5 ?_
  refine rtA (by simp only [kR, Tryz.results59, ↓reduceIte, Nat.reduceEqDiff, reduceCtorEq]; first | done | rfl) ([]) ?_
  refine ⟨?_, rfl⟩
  exact ⟨_, rfl, fun h => absurd h (by decide)⟩
 intro hA
 have hA' : 1 ≤ c.edits.length ∧ c.edits.length ≤ 64 ∧ c.recs.length ≤ 64 := by simp at hA; have := hA.1.1; rcases Nat.eq_zero_or_pos c.edits.length with h | h <;> simp_all <;> omega
 obtain ⟨a1, a2, a3⟩ := hA'
 try refine v59H5 ?_
 refine ifA ?_ ?_
 ·intro _
  try refine v59H5 ?_
  refine rtA (by simp only [kR, Tryz.results59, ↓reduceIte, Nat.reduceEqDiff, reduceCtorEq]; first | done | rfl) ([]) ?_
  refine ⟨?_, rfl⟩
  exact ⟨_, rfl, fun h => absurd h (by decide)⟩
 intro hB
 have hB' : 1 ≤ c.num ∧ c.num ≤ 1073741824 := by simp at hB; omega
 try refine v59H5 ?_
 refine T_loop (ι := Nat) (I := fun k => ⟨105, [(2, .c (.ptr 2 0)), (3, .c (.ptr 3 0)), (37, aRevs d.revs), (38, I .i64 d.revs.length), (39, I .i64 k)], [(2, .box ((encDep d).map C.d)), (3, .box ((encChg c).map C.d))]⟩)
  (Inv := fun k => k ≤ d.revs.length ∧ ∀ v ∈ d.revs.take k, v.chg < c.num) (μ := fun k => d.revs.length - k) 0 ⟨by omega, by simp⟩ ?_ ?_
 ·exact enA
 rintro k ⟨hk, hall⟩
 try refine v59H5 ?_
 refine ifA ?_ ?_
 ·intro hlt
  have hlt' : k < d.revs.length := by simpa using hlt
  obtain ⟨v, hv, he, htk⟩ := round encRev d.revs k zRev hlt'
  (repeat (first | refine nvB ?_ | refine goA (wr := false) (by simp only [kB, kG, k59, Nat.reduceAdd, Nat.reduceLT, Nat.reduceEqDiff, ↓reduceIte, reduceCtorEq, he]; first | done | rfl) ?_))
  refine ifA ?_ ?_
  ·intro _
   try refine v59H5 ?_
   refine rtA (by simp only [kR, Tryz.results59, ↓reduceIte, Nat.reduceEqDiff, reduceCtorEq]; first | done | rfl) ([]) ?_
   refine ⟨?_, rfl⟩
   exact ⟨_, rfl, fun h => absurd h (by decide)⟩
  intro hb
  have hb' : v.chg < c.num := by simpa using hb
  try refine v59H5 ?_
  refine ⟨k + 1, ⟨by omega, ?_⟩, by omega, ?_⟩
  ·intro u hu
   rw [htk, List.mem_append] at hu
   rcases hu with hu | hu
   ·exact hall u hu
   ·simp at hu; rw [hu]; exact hb'
  ·exact enA
 intro hge
 have hge' : k = d.revs.length := by have : ¬ k < d.revs.length := by simpa using hge
                                     omega
 rw [hge', List.take_length] at hall
 try refine v59H5 ?_
 refine T_loop (ι := Nat) (I := fun k => ⟨105, [(2, .c (.ptr 2 0)), (3, .c (.ptr 3 0)), (51, I .i64 c.edits.length), (52, I .i64 k)], [(2, .box ((encDep d).map C.d)), (3, .box ((encChg c).map C.d))]⟩)
  (Inv := fun k => k ≤ c.edits.length ∧ ∀ i, i < k → EditOK d c i (c.edits.getD i zEdt)) (μ := fun k => c.edits.length - k) 0 ⟨by omega, by omega⟩ ?_ ?_
 ·exact enA
 rintro k2 ⟨hk2, hed⟩
 try refine v59H5 ?_
 refine ifA ?_ ?_
 ·intro hlt
  have hlt' : k2 < c.edits.length := by simpa using hlt
  try refine v59H5 ?_
  refine caA [] (edit_ac d c k2 hlt' hd hc hl) ?_
  rintro r st' ⟨⟨e, rfl, he⟩, rfl⟩ <;> refine frA ?_
  try refine v59H5 ?_
  refine ifA ?_ ?_
  ·intro hne
   have hne' : ¬ e = 0 := by simpa using hne
   try refine v59H5 ?_
   refine rtA (by simp only [kR, Tryz.results59, ↓reduceIte, Nat.reduceEqDiff, reduceCtorEq]; first | done | rfl) ([]) ?_
   refine ⟨?_, rfl⟩
   exact ⟨_, rfl, fun h => absurd h hne'⟩
  intro heq
  have heq' : e = 0 := by simpa using heq
  try refine v59H5 ?_
  refine ⟨k2 + 1, ⟨by omega, ?_⟩, by omega, ?_⟩
  ·intro i hi
   rcases Nat.lt_succ_iff_lt_or_eq.1 hi with h | rfl
   ·exact hed i h
   ·exact he heq'
  ·exact enA
 intro hge2
 have hge2' : k2 = c.edits.length := by have : ¬ k2 < c.edits.length := by simpa using hge2
                                        omega
 try refine v59H5 ?_
 refine T_loop (ι := Nat) (I := fun k => ⟨105, [(2, .c (.ptr 2 0)), (3, .c (.ptr 3 0)), (64, .c (.d (.ps 12 (c.edits.map encEdt)))), (65, I .i64 c.edits.length), (66, I .i64 k)], [(2, .box ((encDep d).map C.d)), (3, .box ((encChg c).map C.d))]⟩)
  (Inv := fun k => k ≤ c.edits.length ∧ ∀ e ∈ c.edits.take k, movedB c e = true) (μ := fun k => c.edits.length - k) 0 ⟨by omega, by simp⟩ ?_ ?_
 ·exact enA
 rintro k3 ⟨hk3, hmv⟩
 try refine v59H5 ?_
 refine ifA ?_ ?_
 ·intro hlt
  have hlt' : k3 < c.edits.length := by simpa using hlt
  obtain ⟨y, hy, he, htk⟩ := round encEdt c.edits k3 zEdt hlt'
  (repeat (first | refine nvB ?_ | refine goA (wr := false) (by simp only [kB, kG, k59, Nat.reduceAdd, Nat.reduceLT, Nat.reduceEqDiff, ↓reduceIte, reduceCtorEq, he]; first | done | rfl) ?_ | (refine caA [] (moved_ac c y hl) ?_; rintro r st' ⟨rfl, rfl⟩; refine frA ?_)))
  refine ifA ?_ ?_
  ·intro _
   try refine v59H5 ?_
   refine rtA (by simp only [kR, Tryz.results59, ↓reduceIte, Nat.reduceEqDiff, reduceCtorEq]; first | done | rfl) ([]) ?_
   refine ⟨?_, rfl⟩
   exact ⟨_, rfl, fun h => absurd h (by decide)⟩
  intro hb
  have hb' : movedB c y = true := by simpa using hb
  try refine v59H5 ?_
  refine ⟨k3 + 1, ⟨by omega, ?_⟩, by omega, ?_⟩
  ·intro u hu
   rw [htk, List.mem_append] at hu
   rcases hu with hu | hu
   ·exact hmv u hu
   ·simp at hu; rw [hu]; exact hb'
  ·exact enA
 intro hge3
 have hge3' : k3 = c.edits.length := by have : ¬ k3 < c.edits.length := by simpa using hge3
                                        omega
 rw [hge3', List.take_length] at hmv
 try refine v59H5 ?_
 refine T_loop (ι := Nat) (I := fun k => ⟨105, [(2, .c (.ptr 2 0)), (3, .c (.ptr 3 0)), (77, I .i64 c.recs.length), (78, I .i64 k)], [(2, .box ((encDep d).map C.d)), (3, .box ((encChg c).map C.d))]⟩)
  (Inv := fun k => k ≤ c.recs.length ∧ ∀ i, i < k → RecOK d c (c.recs.getD i zRcd)) (μ := fun k => c.recs.length - k) 0 ⟨by omega, by omega⟩ ?_ ?_
 ·exact enA
 rintro k4 ⟨hk4, hrc⟩
 try refine v59H5 ?_
 refine ifA ?_ ?_
 ·intro hlt
  have hlt' : k4 < c.recs.length := by simpa using hlt
  try refine v59H5 ?_
  refine caA [] (record_ac d c k4 hlt' hd hr hl hl2) ?_
  rintro r st' ⟨⟨b, rfl, he⟩, rfl⟩ <;> refine frA ?_
  try refine v59H5 ?_
  refine ifA ?_ ?_
  ·intro _
   try refine v59H5 ?_
   refine rtA (by simp only [kR, Tryz.results59, ↓reduceIte, Nat.reduceEqDiff, reduceCtorEq]; first | done | rfl) ([]) ?_
   refine ⟨?_, rfl⟩
   exact ⟨_, rfl, fun h => absurd h (by decide)⟩
  intro heq
  have heq' : b = true := by simpa using heq
  try refine v59H5 ?_
  refine ⟨k4 + 1, ⟨by omega, ?_⟩, by omega, ?_⟩
  ·intro i hi
   rcases Nat.lt_succ_iff_lt_or_eq.1 hi with h | rfl
   ·exact hrc i h
   ·exact he heq'
  ·exact enA
 intro hge4
 have hge4' : k4 = c.recs.length := by have : ¬ k4 < c.recs.length := by simpa using hge4
                                       omega
 try refine v59H5 ?_
 refine ifA ?_ ?_
 ·intro _
  try refine v59H5 ?_
  refine rtA (by simp only [kR, Tryz.results59, ↓reduceIte, Nat.reduceEqDiff, reduceCtorEq]; first | done | rfl) ([]) ?_
  refine ⟨?_, rfl⟩
  exact ⟨_, rfl, fun h => absurd h (by decide)⟩
 intro hT
 have hT' : d.revs.length + c.edits.length ≤ 512 ∧ d.recs.length + c.recs.length ≤ 512 := by simp at hT; omega
 try refine v59H5 ?_
 refine rtA (by simp only [kR, Tryz.results59, ↓reduceIte, Nat.reduceEqDiff, reduceCtorEq]; first | done | rfl) ([]) ?_
 refine ⟨?_, rfl⟩
 exact ⟨_, rfl, fun _ => ⟨a1, a2, a3, hB', hall, fun i hi => hed i (by omega), hmv, fun i hi => hrc i (by omega), hT'.1, hT'.2⟩⟩
def k24 := And.intro @Tryz.ntmps24 <| And.intro @Tryz.underlying27 <| And.intro @Tryz.underlying28 <| And.intro @Tryz.underlying50 <| And.intro @bld30 <| And.intro @bld46 <| And.intro @bld56 <| And.intro @bld62 <| And.intro @bld76 <| And.intro @elt27 <| And.intro @elt28 <| And.intro @elt50 <| And.intro @fld30_0 <| And.intro @fld30_1 <| And.intro @fld62_3 <| And.intro @fld62_4 <| And.intro @ti27 <| And.intro @ti28 <| And.intro @ti30 <| And.intro @ti46 <| And.intro @ti50 <| And.intro @ti56 <| And.intro @ti62 <| @ti76
theorem v24H6 {G G' : Prop} (g : G') (h : Hid G' → G := by intro h9; (first | refine nvB ?_ | refine goA (wr := false) (by simp only [kB, kS, k24, Nat.reduceAdd, Nat.reduceLT, Nat.reduceEqDiff, ↓reduceIte, reduceCtorEq]; first | done | rfl) ?_); (repeat (first | refine nvB ?_ | refine goA (wr := false) (by simp only [kB, kS, k24, Nat.reduceAdd, Nat.reduceLT, Nat.reduceEqDiff, ↓reduceIte, reduceCtorEq]; first | done | rfl) ?_)); exact h9.out) : G := h ⟨g⟩
theorem append_ac (d : Dep) (c : Chg) (hd : d.revs.length ≤ 100000) (hd2 : d.recs.length ≤ 100000) (hdr : ∀ r ∈ d.recs, rOK r) (hc : ∀ e ∈ c.edits, eOK e) (hr : ∀ r ∈ c.recs, rOK r) (hl : c.edits.length ≤ 100000) (hl2 : c.recs.length ≤ 100000) :
  AC Tryz.prog 24 [aDep d, aChg c] [] (fun r st => ((r = .tup [(true, (encDep (appD d c)).map C.d), pI 0] ∧ ChkOK d c) ∨ ∃ e : Int, ¬ e = 0 ∧ r = .tup [(true, [nilC, nilC]), pI e]) ∧ st = []) := by
 refine AC_enter Tryz.func24 rfl rfl (by simp only [Tryz.ntmps24, List.length]; omega) ?_
 intro x hx
 simp only [List.range, List.range.loop, List.length, List.zip, List.zipWith, Nat.reduceAdd, Tryz.ntmps24]
 try refine v24H6 ?_
 refine caA [] (check_ac d c (by omega) (by omega) hc hr (by omega) (by omega)) ?_
 rintro r st' ⟨⟨e, rfl, he⟩, rfl⟩ <;> refine frA ?_
 try refine v24H6 ?_
 refine ifA ?_ ?_
 ·intro hne
  have hne' : ¬ e = 0 := by simpa using hne
  try refine v24H6 ?_
  refine rtA (by simp only [kR, Tryz.results24, ↓reduceIte, Nat.reduceEqDiff, reduceCtorEq, effLoad, cellsOf, List.map, List.length_cons, List.length_nil, List.getD_cons_zero, List.getD_cons_succ, List.getD_nil, List.drop, List.take, splice, ti30]; first | done | rfl) ([]) ?_
  refine ⟨?_, rfl⟩
  exact .inr ⟨e, hne', rfl⟩
 intro heq
 have heq' : e = 0 := by simpa using heq
 have hok := he heq'
 try refine v24H6 ?_
 refine T_loop (ι := Nat) (I := fun k => ⟨50, [(2, .c (.ptr 2 0)), (3, .c (.ptr 3 0)), (4, .c (.ptr 4 0)), (7, .c (.ptr 7 0)), (24, .c (.d (.ps 12 (c.edits.map encEdt)))), (25, I .i64 c.edits.length), (26, I .i64 k)],
   [(2, .box ((encDep d).map C.d)), (3, .box ((encChg c).map C.d)), (4, .box [nilC, nilC]), (7, .box [.ms 100 12 0 (d.revs.length + (c.edits.take k).length), nilC]), (100, dArr 12 ((d.revs ++ (c.edits.take k).map (made c)).map encRev))]⟩)
  (Inv := fun k => k ≤ c.edits.length) (μ := fun k => c.edits.length - k) 0 (by omega) ?_ ?_
 ·exact enR (fun i => if i = 100 then 21 else i)
 intro k hk
 have hkl : (c.edits.take k).length = k := by simp; omega
 try refine v24H6 ?_
 refine ifA ?_ ?_
 ·intro hlt
  have hlt' : k < c.edits.length := by simpa using hlt
  obtain ⟨y, hy, he, htk⟩ := round encEdt c.edits k zEdt hlt'
  (repeat (first | refine nvB ?_ | refine goA (wr := false) (by simp only [kB, kS, k24, Nat.reduceAdd, Nat.reduceLT, Nat.reduceEqDiff, ↓reduceIte, reduceCtorEq, he]; first | done | rfl) ?_))
  refine drA (wr := false) ([(34, aRev (made c y))] : List (Nat × AV)) (by simp only [kD, kB, kS, k24, Nat.reduceAdd, Nat.reduceLT, Nat.reduceEqDiff, ↓reduceIte, reduceCtorEq]; first | done | rfl) ?_ ?_
  ·exact obT (made_ac c y)
  try refine v24H6 ?_
  refine ⟨k + 1, by omega, by omega, ?_⟩
  have harr : (d.revs ++ (c.edits.take (k + 1)).map (made c)).map encRev = (d.revs ++ (c.edits.take k).map (made c)).map encRev ++ [encRev (made c y)] := by simp [htk]
  have hlen : (c.edits.take (k + 1)).length = (c.edits.take k).length + 1 := by simp [htk]
  rw [harr, hlen]
  (refine Ent_sub (fun i => if i = 100 then 36 else i) rfl ?_ ⟨?_, ?_, ?_, keepR hx (by simp [domOf, Ab.get])⟩ <;> first | (intro i hi; have h0 := hx i hi; constructor <;> (revert h0; simp only [domOf, Ab.get]; (repeat' split) <;> simp_all); done) | (simp only [kE, dArr, ↓reduceIte, Nat.reduceEqDiff, reduceCtorEq]; done) | (simp only [dArr, ren_arr, ren_map, List.mem_cons, List.not_mem_nil, or_false, forall_eq_or_imp, forall_eq]; simp [renAV, renC, renAO, ren_up, flat_up, Ab.get, clAV, clC, clCs, clAO, cl_f1, cl_s1, cl_f2, cl_s2, cl_a1, domOf, List.flatten, Nat.add_assoc]; done) | simp [renAV, renC, renAO, ren_up, flat_up, Ab.get, clAV, clC, clCs, clAO, cl_f1, cl_s1, cl_f2, cl_s2, cl_a1, domOf, List.flatten, Nat.add_assoc])
 intro hge
 have hge' : k = c.edits.length := by have : ¬ k < c.edits.length := by simpa using hge
                                      omega
 have hs := sorted_ac (d.recs ++ c.recs) (by simp; omega) (fun r h => by rcases List.mem_append.1 h with h | h; exact hdr r h; exact hr r h)
 simp only [dArr, List.map_append, List.length_append] at hs
 refine nvA ?_
 refine drA (wr := false) ([(47, .c (.d (.ps 6 ((sortR (d.recs ++ c.recs)).map encRcd))))] : List (Nat × AV)) (by simp only [kD, kB, kS, k24, Nat.reduceAdd, Nat.reduceLT, Nat.reduceEqDiff, ↓reduceIte, reduceCtorEq]; first | done | rfl) ?_ ?_
 ·simp only [All, List.cons_append, List.nil_append, InR, List.mem_cons, List.not_mem_nil, or_false, forall_eq_or_imp, forall_eq, clAV, clCs, clC, clCaps, clCap, and_true, true_and, implies_true, List.length_map, List.length_cons, List.length_nil, dArr, cl_arr, tyCs]
  repeat' (first | exact trivial | exact hs | exact cl_two _ _ _ | exact up6 _ | refine And.intro ?_ ?_ | intro _ | assumption | rfl | omega | (rw [Bool.not_eq_true']; assumption) | (simp; done) | (simp only [decide_eq_true_eq] at *; omega) | (simp_all; done))
 refine nvA ?_
 refine TO_ent (Ent_frzCell (bid := 7) (id := 100) (sz := 12) (j := 0) (ys := (d.revs ++ (c.edits.take k).map (made c)).map encRev) (by decide) rfl rfl rfl (by simp <;> omega)) ?_
 refine fzA ?_
 try refine v24H6 ?_
 refine rtA (by simp only [kR, Tryz.results24, ↓reduceIte, Nat.reduceEqDiff, reduceCtorEq, effLoad, cellsOf, List.map, List.length_cons, List.length_nil, List.getD_cons_zero, List.getD_cons_succ, List.getD_nil, List.drop, List.take, splice, ti30]; first | done | rfl) ([]) ?_
 refine ⟨?_, rfl⟩
 refine .inl ⟨?_, hok⟩
 rw [hge', List.take_length]; rfl
def k10 := And.intro @Tryz.ntmps10 <| And.intro @Tryz.underlying22 <| And.intro @bld30 <| And.intro @bld62 <| And.intro @elt22 <| And.intro @ti22 <| And.intro @ti30 <| @ti62
theorem v10H7 {G G' : Prop} (g : G') (h : Hid G' → G := by intro h9; (first | refine nvB ?_ | refine goA (wr := false) (by simp only [kB, k10, Nat.reduceAdd, Nat.reduceLT, Nat.reduceEqDiff, ↓reduceIte, reduceCtorEq]; first | done | rfl) ?_); (repeat (first | refine nvB ?_ | refine goA (wr := false) (by simp only [kB, k10, Nat.reduceAdd, Nat.reduceLT, Nat.reduceEqDiff, ↓reduceIte, reduceCtorEq]; first | done | rfl) ?_)); exact h9.out) : G := h ⟨g⟩
theorem build_ac (l : List Chg) (hl : l.length ≤ 100000) (hok : ∀ c ∈ l, cOK c) :
  AC Tryz.prog 10 [.c (.d (.ps 5 (l.map encChg)))] [] (fun r st => (∃ d, r = aDep d ∧ Built l d) ∧ st = []) := by
 refine AC_enter Tryz.func10 rfl rfl (by simp only [Tryz.ntmps10, List.length]; omega) ?_
 intro x hx
 simp only [List.range, List.range.loop, List.length, List.zip, List.zipWith, Nat.reduceAdd, Tryz.ntmps10]
 try refine v10H7 ?_
 refine T_ent (Ent_nilCell (bid := 3) (j := 0) 12 rfl rfl) ?_
 refine fzA ?_
 refine T_ent (Ent_nilCell (bid := 3) (j := 1) 6 rfl rfl) ?_
 refine fzA ?_
 refine T_loop (ι := Nat × Dep) (I := fun k => ⟨25, [(2, .c (.ptr 2 0)), (3, .c (.ptr 3 0)), (8, .c (.d (.ps 5 (l.map encChg)))), (9, I .i64 l.length), (10, I .i64 k.1)], [(2, .box [nilC, nilC]), (3, .box ((encDep k.2).map C.d))]⟩)
  (Inv := fun k => k.1 ≤ l.length ∧ Built (l.take k.1) k.2) (μ := fun k => l.length - k.1) (0, zDep) ⟨by simp, by simpa using Built.nil⟩ ?_ ?_
 ·(refine Ent_sub (fun i => i) rfl ?_ ⟨?_, ?_, ?_, keepI hx (by simp [domOf, Ab.get])⟩ <;> first | (simp only [kE, dArr, ↓reduceIte, Nat.reduceEqDiff, reduceCtorEq, zDep]; done) | simp [renAV_id, renAO_id, flat_up, Ab.get, clAV, clC, clCs, clAO, cl_f1, cl_s1, cl_f2, cl_s2, cl_a1, domOf, List.flatten, zDep])
 rintro ⟨k, d⟩ ⟨hk, hb⟩
 simp only at hk hb ⊢
 obtain ⟨b1, b2, b3⟩ := hb.ok
 try refine v10H7 ?_
 refine ifA ?_ ?_
 ·intro hlt
  have hlt' : k < l.length := by simpa using hlt
  obtain ⟨c, hc, he, htk⟩ := round encChg l k zChg hlt'
  obtain ⟨c1, c2, c3, c4⟩ := hok c (List.mem_of_getElem? hc)
  (repeat (first | refine nvB ?_ | refine goA (wr := false) (by simp only [kB, k10, Nat.reduceAdd, Nat.reduceLT, Nat.reduceEqDiff, ↓reduceIte, reduceCtorEq, he]; first | done | rfl) ?_))
  refine caA [] (append_ac d c (by omega) (by omega) b3 c1 c2 c3 c4) ?_
  rintro r st' ⟨⟨rfl, hk2⟩ | ⟨e, hne, rfl⟩, rfl⟩ <;> refine frA ?_
  ·try refine v10H7 ?_
   refine ifA ?_ ?_
   ·intro _
    try refine v10H7 ?_
    refine ⟨(k + 1, appD d c), ⟨by simp; omega, ?_⟩, by simp; omega, ?_⟩
    ·simp only [htk]; exact .app hb ⟨c1, c2, c3, c4⟩ hk2
    ·exact enA
   ·intro h; simp at h
  ·try refine v10H7 ?_
   refine ifA ?_ ?_
   ·intro h; exact absurd (by simpa using h) hne
   ·intro _
    try refine v10H7 ?_
    refine ⟨(k + 1, d), ⟨by simp; omega, ?_⟩, by simp; omega, ?_⟩
    ·simp only [htk]; exact .skip c hb
    ·exact enA
 intro hge
 have hge' : k = l.length := by have : ¬ k < l.length := by simpa using hge
                                omega
 rw [hge', List.take_length] at hb
 try refine v10H7 ?_
 refine rtA (by simp only [kR, Tryz.results10, ↓reduceIte, Nat.reduceEqDiff, reduceCtorEq, effLoad, cellsOf, List.map, List.length_cons, List.length_nil, List.getD_cons_zero, List.getD_cons_succ, List.getD_nil, List.drop, List.take, splice, ti30]; first | done | rfl) ([]) ?_
 refine ⟨?_, rfl⟩
 exact ⟨d, rfl, hb⟩
end Go.Proofs.YtmhboloicpieeaaGreatDoor

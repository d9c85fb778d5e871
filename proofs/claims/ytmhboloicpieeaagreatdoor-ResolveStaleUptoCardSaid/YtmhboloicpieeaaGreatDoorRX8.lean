/- A part of the proof. -/
import Derived.Test.YtmhboloicpieeaaGreatDoorRX6
import Derived.Test.YtmhboloicpieeaaGreatDoorRX4
set_option linter.all false
namespace Go.Proofs.YtmhboloicpieeaaGreatDoor
open Go.Ab Tys
variable [DrF]
@[reducible] def pSub (r : Pat × Int) : Bool × List C := if r.2 = 0 then pPat r.1 else (true, [nilK, .d (.v (.bool false))])
theorem subT_len (ps : List ByteArray) (l : List Pat) : ∀ k, (subT ps l k).length = k
 | 0 => rfl
 | k + 1 => by simp [subT, subT_len ps l k]
theorem subOK_succ (ps : List ByteArray) (l : List Pat) (k : Nat) : subOK ps l (k + 1) = (subOK ps l k && (!starB (ps.getD k noS) || subOK1 (l.getD (stars (ps.take k)) zPat))) := by
 simp [subOK, List.range_succ, List.all_append]
theorem subOK_no {ps : List ByteArray} {l : List Pat} {k n : Nat} (hk : k < n) (h : (!starB (ps.getD k noS) || subOK1 (l.getD (stars (ps.take k)) zPat)) = false) : subOK ps l n = false := by
 cases e : subOK ps l n
 ·rfl
 ·have := range_all n k _ hk e
  rw [h] at this; cases this
theorem sub1_cond {b : Pat} : (bif bif !decide ((b.parts.length : Int) = 1) then true else b.rest then true else !partB (b.parts.getD 0 noS)) = !subOK1 b := by
 unfold subOK1
 rw [show decide ((b.parts.length : Int) = 1) = decide (b.parts.length = 1) from decide_eq_decide.2 (by omega)]
 cases decide (b.parts.length = 1) <;> cases b.rest <;> cases partB (b.parts.getD 0 noS) <;> rfl
def k180 := And.intro @Tryz.ntmps180 <| And.intro @Tryz.underlying257 <| And.intro @Tryz.underlying77 <| And.intro @bld306 <| And.intro @bld79 <| And.intro @elt257 <| And.intro @elt77 <| And.intro @fld306_0 <| And.intro @fld306_1 <| And.intro @fld79_0 <| And.intro @fld79_1 <| And.intro @ti257 <| And.intro @ti306 <| And.intro @ti4 <| And.intro @ti77 <| And.intro @ti79 <| @ti9
theorem v180X8 {G G' : Prop} (g : G') (h : Hid G' → G := by intro h9; (first | refine nvB ?_ | refine goA (wr := false) (by simp only [kB, kG, kS, k180, Nat.reduceAdd, Nat.reduceLT, Nat.reduceEqDiff, ↓reduceIte, reduceCtorEq]; first | done | rfl) ?_); (repeat (first | refine nvB ?_ | refine goA (wr := false) (by simp only [kB, kG, kS, k180, Nat.reduceAdd, Nat.reduceLT, Nat.reduceEqDiff, ↓reduceIte, reduceCtorEq]; first | done | rfl) ?_)); exact h9.out) : G := h ⟨g⟩
set_option maxRecDepth 100000 in
set_option maxHeartbeats 16000000 in
theorem subst_ac (p : Pat) (hp : PB 100000 p) (l : List Pat) (hll : l.length ≤ 100000) (hlb : ∀ b ∈ l, PB 100000 b) : AC Tryz.prog 180 [aPat p, aPats l] [] (fun r st => r = .tup [pSub (substP p l), pI (substP p l).2] ∧ st = []) := by
 have hck := check3_ac p (hp.mono (by omega))
 have hwl := wilds_ac p (hp.mono (by omega))
 have hF : substP p l = substP p l := rfl
 have hok : okP p = decide (checkP p = 0) := rfl
 have hwd : wilds p = stars p.parts + (if p.rest then 1 else 0) := rfl
 conv at hF => rhs; unfold substP
 obtain ⟨ps, rs⟩ := p
 have h1 := hp.1
 simp only at h1 hF
 generalize substP ⟨ps, rs⟩ l = R at hF
 refine AC_enter Tryz.func180 rfl rfl (by simp only [Tryz.ntmps180, List.length]; omega) ?_
 intro x hx
 simp only [List.range, List.range.loop, List.length, List.zip, List.zipWith, Nat.reduceAdd, Tryz.ntmps180]
 (repeat (first | refine v180X8 ?_ | (refine caA [] (hck) ?_; rintro r st' ⟨rfl, rfl⟩; refine frA ?_)))
 refine ifA ?_ ?_
 ·intro h
  have h' : okP ⟨ps, rs⟩ = false := by rw [hok]; simpa using h
  have hne : ¬ checkP ⟨ps, rs⟩ = 0 := by simpa using h
  rw [h'] at hF
  try refine v180X8 ?_
  refine rtA (by simp only [kR, Tryz.results180, ↓reduceIte, Nat.reduceEqDiff, reduceCtorEq, effLoad, cellsOf, List.map, List.length_cons, List.length_nil, List.getD_cons_zero, List.getD_cons_succ, List.getD_nil, List.drop, List.take, splice, ti79]; first | done | rfl) ([]) ?_
  refine ⟨?_, rfl⟩
  rw [hF]; simp [pSub, hne]
 intro h
 have h' : okP ⟨ps, rs⟩ = true := by rw [hok]; simpa using h
 rw [if_pos h'] at hF
 (repeat (first | refine v180X8 ?_ | (refine caA [] (hwl) ?_; rintro r st' ⟨rfl, rfl⟩; refine frA ?_)))
 refine ifA ?_ ?_
 ·intro hw
  have hw' : ¬ l.length = wilds ⟨ps, rs⟩ := by
   intro e
   rw [e] at hw; simp at hw
  rw [if_neg hw'] at hF
  try refine v180X8 ?_
  refine rtA (by simp only [kR, Tryz.results180, ↓reduceIte, Nat.reduceEqDiff, reduceCtorEq, effLoad, cellsOf, List.map, List.length_cons, List.length_nil, List.getD_cons_zero, List.getD_cons_succ, List.getD_nil, List.drop, List.take, splice, ti79]; first | done | rfl) ([]) ?_
  refine ⟨?_, rfl⟩
  rw [hF]; rfl
 intro hw
 have hw' : l.length = wilds ⟨ps, rs⟩ := by
  have : ((l.length : Int) = (wilds ⟨ps, rs⟩ : Nat)) := by simpa using hw
  omega
 rw [if_pos hw'] at hF
 rw [hwd] at hw'
 simp only at hw'
 refine nvA ?_
 refine goA (wr := false) (by simp only [kB, kG, kS, k180, Nat.reduceAdd, Nat.reduceLT, Nat.reduceEqDiff, ↓reduceIte, reduceCtorEq]; first | done | rfl) ?_
 refine nvA ?_
 refine TO_ent (Ent_adoptCell (bid := 7) (j := 0) (id := 100) (sz := 1) rfl rfl rfl (by omega)) ?_
 refine fzA ?_
 try refine v180X8 ?_
 refine T_loop (ι := Nat) (I := fun k => ⟨121, [(1, aPats l), (2, .c (.ptr 2 0)), (4, .c (.ptr 4 0)), (7, .c (.ptr 7 0)), (8, I .i64 (stars (ps.take k))), (30, aStrs ps), (31, I .i64 ps.length), (32, I .i64 k)],
   [(2, .box ((encPat ⟨ps, rs⟩).map C.d)), (4, .box [nilK, .d (.v (.bool false))]), (7, .box [.ms 100 1 0 (subT ps l k).length, .d (.v (.bool false))]), (100, dArr 1 ((subT ps l k).map encS))]⟩)
  (Inv := fun k => k ≤ ps.length ∧ subOK ps l k = true) (μ := fun k => ps.length - k) 0 ⟨by omega, rfl⟩ ?_ ?_
 ·(refine Ent_sub (fun i => i) rfl ?_ ⟨?_, ?_, ?_, keepI hx (by simp [domOf, Ab.get])⟩ <;> first | (simp only [kE, dArr, ↓reduceIte, Nat.reduceEqDiff, reduceCtorEq, subT, stars_nil]; done) | simp [renAV_id, renAO_id, flat_up, Ab.get, clAV, clC, clCs, clAO, cl_f1, cl_s1, cl_f2, cl_s2, cl_a1, domOf, List.flatten, subT, stars_nil])
 rintro k ⟨hk, hall⟩
 have hfl := subT_len ps l k
 have hsl := stars_le ps k
 try refine v180X8 ?_
 refine ifA ?_ ?_
 ·intro hlt
  have hlt' : k < ps.length := by simpa using hlt
  obtain ⟨v, hv, he, _⟩ := round encS ps k noS hlt'
  have ev := getD_sm (z := noS) hv
  have hvs : v.size ≤ 100000 := hp.2 v (List.mem_of_getElem? hv)
  have hsv := suf_le v
  have hss := stars_succ hv
  have hsl2 := stars_le ps (k + 1)
  (repeat (first | refine nvB ?_ | refine goA (wr := false) (by simp only [kB, kG, kS, k180, Nat.reduceAdd, Nat.reduceLT, Nat.reduceEqDiff, ↓reduceIte, reduceCtorEq, he]; first | done | rfl) ?_ | (refine caA [] (star_ac v (by omega)) ?_; rintro r st' ⟨rfl, rfl⟩; refine frA ?_)))
  refine ifA ?_ ?_
  ·intro hst
   rw [hst, if_pos rfl] at hss
   obtain ⟨b, hb, he2, _⟩ := round encPat l (stars (ps.take k)) zPat (by omega)
   have eb := getD_sm (z := zPat) hb
   have hbb : PB 100000 b := hlb b (List.mem_of_getElem? hb)
   have hbs := hbb.get 0
   have hb1 := hbb.1
   have hcb := sub1_cond (b := b)
   have hso : subOK1 b = (decide (b.parts.length = 1) && !b.rest && partB (b.parts.getD 0 noS)) := rfl
   have hTk : subT ps l (k + 1) = subT ps l k ++ [b.parts.getD 0 noS ++ suf v] := by simp only [subT, ev, eb, hst, if_true]
   have hno := subOK_no (ps := ps) (l := l) (k := k) (n := ps.length) hlt'
   have hsu := subOK_succ ps l k
   rw [ev, eb, hst] at hno hsu
   generalize subOK1 b = sb at hcb hso hno hsu
   obtain ⟨bp, br⟩ := b
   simp only at hbs hb1 hcb hso hTk
   have e0 : ((bp.map encS).getD (Int.toNat 0) []).getD 0 (D.v (.string .empty)) = D.v (.string (bp.getD 0 noS)) := by cases bp <;> rfl
   have hpt : AC Tryz.prog 177 [.c (.d (((bp.map encS).getD (Int.toNat 0) []).getD 0 (D.v (.string .empty))))] [] (fun r st => r = B (partB (bp.getD 0 noS)) ∧ st = []) := by rw [e0]; exact part_ac _ (by omega)
   (repeat (first | refine nvB ?_ | refine goA (wr := false) (by simp only [kB, kG, kS, k180, Nat.reduceAdd, Nat.reduceLT, Nat.reduceEqDiff, ↓reduceIte, reduceCtorEq, he2]; first | done | rfl) ?_))
   refine TO_stepO (wr := false) ([(59, B (partB (bp.getD 0 noS)))] : List (Nat × AV)) rfl (by simp only [kD, kB, kG, kS, k180, Nat.reduceAdd, Nat.reduceLT, Nat.reduceEqDiff, ↓reduceIte, reduceCtorEq]; first | done | rfl) ?_ ?_
   ·simp only [All, List.cons_append, List.nil_append, InR, List.mem_cons, List.not_mem_nil, or_false, forall_eq_or_imp, forall_eq, clAV, clCs, clC, clCaps, clCap, and_true, true_and, implies_true, List.length_map, List.length_cons, List.length_nil, dArr, cl_arr, tyCs]
    repeat' (first | exact trivial | exact hpt | refine And.intro ?_ ?_ | intro _ | assumption | rfl | omega | (simp; done) | (simp_all; done))
   simp only [kP, Nat.reduceEqDiff, ↓reduceIte, reduceCtorEq]
   try refine v180X8 ?_
   refine ifA ?_ ?_
   ·intro hc
    rw [hcb] at hc
    rw [if_neg (by rw [hno (by simpa using hc)]; simp)] at hF
    try refine v180X8 ?_
    refine rtA (by simp only [kR, Tryz.results180, ↓reduceIte, Nat.reduceEqDiff, reduceCtorEq, effLoad, cellsOf, List.map, List.length_cons, List.length_nil, List.getD_cons_zero, List.getD_cons_succ, List.getD_nil, List.drop, List.take, splice, ti79]; first | done | rfl) ([]) ?_
    refine ⟨?_, rfl⟩
    rw [hF]; rfl
   intro hc
   rw [hcb] at hc
   have hc' : sb = true := by simpa using hc
   have hbl : 0 < bp.length := by
    rw [hc'] at hso
    have := hso.symm
    simp only [Bool.and_eq_true, decide_eq_true_eq] at this
    omega
   (repeat (first | refine nvB ?_ | refine goA (wr := false) (by simp only [kB, kG, kS, k180, Nat.reduceAdd, Nat.reduceLT, Nat.reduceEqDiff, ↓reduceIte, reduceCtorEq, e0]; first | done | rfl) ?_))
   refine TO_concat (by simp) (by simp only [kV, ↓reduceIte, Nat.reduceEqDiff, reduceCtorEq]; first | done | rfl) (by simp only [kV, ↓reduceIte, Nat.reduceEqDiff, reduceCtorEq]; first | done | rfl) ?_ ?_
   ·omega
   try refine v180X8 ?_
   refine ⟨k + 1, ⟨by omega, by rw [hsu, hall, hc']; rfl⟩, by omega, ?_⟩
   rw [hTk, hss]
   exact enR (fun i => if i = 100 then 75 else i)
  ·intro hst
   rw [hst, if_neg (by simp)] at hss
   try refine v180X8 ?_
   refine ⟨k + 1, ⟨by omega, by rw [subOK_succ, hall, ev, hst]; rfl⟩, by omega, ?_⟩
   have e : subT ps l (k + 1) = subT ps l k ++ [v] := by simp only [subT, ev, hst, if_false, Bool.false_eq_true]
   rw [e, hss]
   exact enR (fun i => if i = 100 then 75 else i)
 intro hge
 have hk' : k = ps.length := by have : ¬ k < ps.length := by simpa using hge
                                omega
 subst hk'
 rw [if_pos hall] at hF
 rw [List.take_length]
 try refine v180X8 ?_
 refine ifA ?_ ?_
 ·intro hr
  subst hr
  rw [if_pos rfl] at hF hw'
  obtain ⟨b, hb, he2, _⟩ := round encPat l (stars ps) zPat (by omega)
  have eb := getD_sm (z := zPat) hb
  have hbb : PB 100000 b := hlb b (List.mem_of_getElem? hb)
  rw [eb] at hF
  obtain ⟨bp, br⟩ := b
  have hb1 := hbb.1
  simp only at hb1 hF
  (repeat (first | refine nvB ?_ | refine goA (wr := false) (by simp only [kB, kG, kS, k180, Nat.reduceAdd, Nat.reduceLT, Nat.reduceEqDiff, ↓reduceIte, reduceCtorEq, he2]; first | done | rfl) ?_))
  have e9 : (bif decide ((bp.length : Int) = 0) then !br else false) = !(!bp.isEmpty || br) := by
   cases bp with
   | nil => cases br <;> rfl
   | cons a t =>
     have : decide ((((a :: t).length : Nat) : Int) = 0) = false := decide_eq_false (by simp only [List.length_cons]; omega)
     rw [this]; rfl
  refine ifA ?_ ?_
  ·intro hc
   rw [e9] at hc
   have hc' : (!bp.isEmpty || br) = false := by simpa only [Bool.not_eq_true'] using hc
   rw [hc', Bool.false_and, if_neg (by simp)] at hF
   try refine v180X8 ?_
   refine rtA (by simp only [kR, Tryz.results180, ↓reduceIte, Nat.reduceEqDiff, reduceCtorEq, effLoad, cellsOf, List.map, List.length_cons, List.length_nil, List.getD_cons_zero, List.getD_cons_succ, List.getD_nil, List.drop, List.take, splice, ti79]; first | done | rfl) ([]) ?_
   refine ⟨?_, rfl⟩
   rw [hF]; rfl
  intro hc
  rw [e9] at hc
  have hc' : (!bp.isEmpty || br) = true := by simpa only [Bool.not_eq_false'] using hc
  rw [hc', Bool.true_and] at hF
  try refine v180X8 ?_
  refine T_loop (ι := Nat) (I := fun j => ⟨121, [(4, .c (.ptr 4 0)), (7, .c (.ptr 7 0)), (14, .c (.ptr 14 0)), (95, aStrs bp), (96, I .i64 bp.length), (97, I .i64 j)],
    [(4, .box [nilK, .d (.v (.bool false))]), (7, .box [.ms 100 1 0 (subT ps l ps.length).length, .d (.v (.bool false))]), (14, .box ((encPat ⟨bp, br⟩).map C.d)), (100, dArr 1 ((subT ps l ps.length).map encS))]⟩)
   (Inv := fun j => j ≤ bp.length ∧ (bp.take j).all partB = true) (μ := fun j => bp.length - j) 0 ⟨by omega, by simp⟩ ?_ ?_
  ·exact enA
  rintro j ⟨hj, hcl2⟩
  try refine v180X8 ?_
  refine ifA ?_ ?_
  ·intro hlt
   have hlt' : j < bp.length := by simpa using hlt
   obtain ⟨v, hv, he, htk⟩ := round encS bp j noS hlt'
   have hvs : v.size ≤ 100000 := hbb.2 v (List.mem_of_getElem? hv)
   (repeat (first | refine nvB ?_ | refine goA (wr := false) (by simp only [kB, kG, kS, k180, Nat.reduceAdd, Nat.reduceLT, Nat.reduceEqDiff, ↓reduceIte, reduceCtorEq, he]; first | done | rfl) ?_ | (refine caA [] (part_ac v (by omega)) ?_; rintro r st' ⟨rfl, rfl⟩; refine frA ?_)))
   refine ifA ?_ ?_
   ·intro hb
    have hb' : partB v = false := by simpa using hb
    have hn : ¬ bp.all partB = true := by
     intro e
     rw [List.all_eq_true] at e; rw [e v (List.mem_of_getElem? hv)] at hb'; cases hb'
    rw [if_neg hn] at hF
    try refine v180X8 ?_
    refine rtA (by simp only [kR, Tryz.results180, ↓reduceIte, Nat.reduceEqDiff, reduceCtorEq, effLoad, cellsOf, List.map, List.length_cons, List.length_nil, List.getD_cons_zero, List.getD_cons_succ, List.getD_nil, List.drop, List.take, splice, ti79]; first | done | rfl) ([]) ?_
    refine ⟨?_, rfl⟩
    rw [hF]; rfl
   intro hb
   have hb' : partB v = true := by simpa using hb
   try refine v180X8 ?_
   refine ⟨j + 1, ⟨by omega, by rw [htk, List.all_append, hcl2]; simp [hb']⟩, by omega, ?_⟩
   exact enA
  intro hge
  have hj' : j = bp.length := by have : ¬ j < bp.length := by simpa using hge
                                 omega
  rw [hj', List.take_length] at hcl2
  rw [if_pos hcl2] at hF
  have o2 : ∀ l ∈ List.map (fun l => List.map C.d l) (List.map encS bp), l.length = 1 := by
   intro l hl
   obtain ⟨y, hy, rfl⟩ := List.mem_map.1 hl
   obtain ⟨z, _, rfl⟩ := List.mem_map.1 hy
   rfl
  refine nvA ?_
  refine drA (wr := false) ([] : List (Nat × AV)) (by simp only [kD, kB, kG, kS, k180, Nat.reduceAdd, Nat.reduceLT, Nat.reduceEqDiff, ↓reduceIte, reduceCtorEq]; first | done | rfl) ?_ ?_
  ·exact obT (o2)
  have hLI : decide ((12 : Int) < (((subT ps l ps.length).length + bp.length : Nat) : Int)) = decide (12 < (subT ps l ps.length ++ bp).length) := decide_eq_decide.2 (by rw [List.length_append]; omega)
  try refine v180X8 ?_
  refine ifA ?_ ?_
  ·intro h12
   rw [hLI] at h12
   rw [subE, if_pos (of_decide_eq_true h12)] at hF
   try refine v180X8 ?_
   refine rtA (by simp only [kR, Tryz.results180, ↓reduceIte, Nat.reduceEqDiff, reduceCtorEq, effLoad, cellsOf, List.map, List.length_cons, List.length_nil, List.getD_cons_zero, List.getD_cons_succ, List.getD_nil, List.drop, List.take, splice, ti79]; first | done | rfl) ([]) ?_
   refine ⟨?_, rfl⟩
   rw [hF]; rfl
  ·intro h12
   rw [hLI] at h12
   rw [subE, if_neg (of_decide_eq_false h12)] at hF
   refine nvA ?_
   refine TO_ent (Ent_frzCell (bid := 7) (id := 110) (sz := 1) (j := 0) (ys := (subT ps l ps.length).map encS ++ bp.map encS) (by decide) rfl rfl (by simp [Ab.get]) (by simp)) ?_
   refine fzA ?_
   try refine v180X8 ?_
   refine rtA (by simp only [kR, Tryz.results180, ↓reduceIte, Nat.reduceEqDiff, reduceCtorEq, effLoad, cellsOf, List.map, List.length_cons, List.length_nil, List.getD_cons_zero, List.getD_cons_succ, List.getD_nil, List.drop, List.take, splice, ti79]; first | done | rfl) ([]) ?_
   refine ⟨?_, rfl⟩
   rw [hF]; simp [pSub, pI]
 ·intro hr
  subst hr
  rw [if_neg (by simp)] at hF
  have hLI : decide ((12 : Int) < ((subT ps l ps.length).length : Int)) = decide (12 < (subT ps l ps.length).length) := decide_eq_decide.2 (by omega)
  try refine v180X8 ?_
  refine ifA ?_ ?_
  ·intro h12
   rw [hLI] at h12
   rw [subE, if_pos (of_decide_eq_true h12)] at hF
   try refine v180X8 ?_
   refine rtA (by simp only [kR, Tryz.results180, ↓reduceIte, Nat.reduceEqDiff, reduceCtorEq, effLoad, cellsOf, List.map, List.length_cons, List.length_nil, List.getD_cons_zero, List.getD_cons_succ, List.getD_nil, List.drop, List.take, splice, ti79]; first | done | rfl) ([]) ?_
   refine ⟨?_, rfl⟩
   rw [hF]; rfl
  ·intro h12
   rw [hLI] at h12
   rw [subE, if_neg (of_decide_eq_false h12)] at hF
   refine nvA ?_
   refine TO_ent (Ent_frzCell (bid := 7) (id := 100) (sz := 1) (j := 0) (ys := (subT ps l ps.length).map encS) (by decide) rfl rfl rfl (by simp)) ?_
   refine fzA ?_
   try refine v180X8 ?_
   refine rtA (by simp only [kR, Tryz.results180, ↓reduceIte, Nat.reduceEqDiff, reduceCtorEq, effLoad, cellsOf, List.map, List.length_cons, List.length_nil, List.getD_cons_zero, List.getD_cons_succ, List.getD_nil, List.drop, List.take, splice, ti79]; first | done | rfl) ([]) ?_
   refine ⟨?_, rfl⟩
   rw [hF]; rfl
end Go.Proofs.YtmhboloicpieeaaGreatDoor

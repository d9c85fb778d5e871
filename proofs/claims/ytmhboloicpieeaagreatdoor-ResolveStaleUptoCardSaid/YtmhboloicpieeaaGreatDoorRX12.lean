/- A part of the proof. -/
import Derived.Test.YtmhboloicpieeaaGreatDoorRX2
import Derived.Test.YtmhboloicpieeaaGreatDoorRL3a
import Derived.Test.YtmhboloicpieeaaGreatDoorRAbCe
import Derived.Test.YtmhboloicpieeaaGreatDoorRX3
set_option maxRecDepth 100000
set_option maxHeartbeats 8000000
set_option linter.all false
namespace Go.Proofs.YtmhboloicpieeaaGreatDoor
open Go.Ab Tys
variable [Dr]
def k182 := And.intro @Tryz.ntmps182 <| And.intro @Tryz.underlying77 <| And.intro @bld79 <| And.intro @elt77 <| And.intro @fld79_0 <| And.intro @fld79_1 <| And.intro @ti4 <| And.intro @ti77 <| And.intro @ti79 <| @ti9
theorem v182X5 {G G' : Prop} (g : G') (h : Hid G' → G := by intro h9; (first | refine nvB ?_ | refine goA (wr := false) (by simp only [kB, kG, k182, Nat.reduceAdd, Nat.reduceLT, Nat.reduceEqDiff, ↓reduceIte, reduceCtorEq]; first | done | rfl) ?_); (repeat (first | refine nvB ?_ | refine goA (wr := false) (by simp only [kB, kG, k182, Nat.reduceAdd, Nat.reduceLT, Nat.reduceEqDiff, ↓reduceIte, reduceCtorEq]; first | done | rfl) ?_)); exact h9.out) : G := h ⟨g⟩
theorem within_ac3 (p q : Pat) (hp : PB 1000000 p) (hq : PB 1000000 q) : AC Tryz.prog 182 [aPat p, aPat q] [] (fun r st => r = B (withinB p q) ∧ st = []) := by
 have hcp := check3_ac p hp
 have hcq := check3_ac q hq
 have hW : withinB p q = (okP p && okP q && decide (q.parts.length ≤ p.parts.length) && (q.rest || (!p.rest && decide (p.parts.length ≤ q.parts.length))) && !(q.rest && decide (p.parts.length = q.parts.length) && !p.rest)
  && (List.range q.parts.length).all fun i => insideB (p.parts.getD i noS) (q.parts.getD i noS)) := rfl
 have hok : okP p = decide (checkP p = 0) := rfl
 have hokq : okP q = decide (checkP q = 0) := rfl
 obtain ⟨ps, rp⟩ := p
 obtain ⟨qs, rq⟩ := q
 have hp1 := hp.1
 have hq1 := hq.1
 simp only at hp1 hq1 hW
 generalize withinB ⟨ps, rp⟩ ⟨qs, rq⟩ = R at hW
 generalize checkP ⟨ps, rp⟩ = ep at hcp hok
 generalize checkP ⟨qs, rq⟩ = eq at hcq hokq
 refine AC_enter Tryz.func182 rfl rfl (by simp only [Tryz.ntmps182, List.length]; omega) ?_
 intro x hx
 simp only [List.range, List.range.loop, List.length, List.zip, List.zipWith, Nat.reduceAdd, Tryz.ntmps182]
 (repeat (first | refine v182X5 ?_ | (refine caA [] (hcp) ?_; rintro r st' ⟨rfl, rfl⟩; refine frA ?_)))
 refine TO_stepO (wr := false) ([(16, I .i64 eq)] : List (Nat × AV)) rfl (by simp only [kD, kB, kG, k182, Nat.reduceAdd, Nat.reduceLT, Nat.reduceEqDiff, ↓reduceIte, reduceCtorEq]; first | done | rfl) ?_ ?_
 ·simp only [All, List.cons_append, List.nil_append, InR, List.mem_cons, List.not_mem_nil, or_false, forall_eq_or_imp, forall_eq, clAV, clCs, clC, clCaps, clCap, and_true, true_and, implies_true, List.length_map, List.length_cons, List.length_nil, dArr, cl_arr, tyCs]
  repeat' (first | exact trivial | exact hcq | refine And.intro ?_ ?_ | intro _ | assumption | rfl | omega | (simp; done) | (simp_all; done))
 simp only [kP, Nat.reduceEqDiff, ↓reduceIte, reduceCtorEq]
 try refine v182X5 ?_
 refine ifA ?_ ?_
 ·intro h
  have hR : R = false := by
   rw [hW, hok, hokq]
   by_cases e1 : ep = 0
   ·by_cases e2 : eq = 0
    ·simp only [e1, e2, decide_true, Bool.not_true, cond_false] at h
     have : ¬ qs.length ≤ ps.length := by have := of_decide_eq_true h; omega
     simp [this]
    ·simp [e2]
   ·simp [e1]
  try refine v182X5 ?_
  refine rtA (by simp only [kR, Tryz.results182, ↓reduceIte, Nat.reduceEqDiff, reduceCtorEq]; first | done | rfl) ([]) ?_
  refine ⟨?_, rfl⟩
  rw [hR]
 intro h
 have h0 : ep = 0 ∧ eq = 0 ∧ qs.length ≤ ps.length := by
  by_cases e1 : ep = 0
  ·by_cases e2 : eq = 0
   ·simp only [e1, e2, decide_true, Bool.not_true, cond_false] at h
    exact ⟨e1, e2, by have := of_decide_eq_false h; omega⟩
   ·simp [e1, e2] at h
  ·simp [e1] at h
 obtain ⟨e1, e2, hle⟩ := h0
 simp only [hok, hokq, e1, e2, decide_true, decide_eq_true hle, Bool.true_and] at hW
 try refine v182X5 ?_
 have g1 : decide ((qs.length : Int) < ps.length) = !decide (ps.length ≤ qs.length) := by rw [← decide_not]; exact decide_eq_decide.2 (by omega)
 have g2 : decide ((ps.length : Int) = qs.length) = decide (ps.length = qs.length) := decide_eq_decide.2 (by omega)
 refine ifA ?_ ?_
 ·intro h
  have hR : R = false := by
   rw [hW]
   rw [g1, g2] at h
   generalize decide (ps.length ≤ qs.length) = a at h
   generalize decide (ps.length = qs.length) = b at h
   cases rp <;> cases rq <;> cases a <;> cases b <;> first | rfl | (exact absurd h (by decide))
  try refine v182X5 ?_
  refine rtA (by simp only [kR, Tryz.results182, ↓reduceIte, Nat.reduceEqDiff, reduceCtorEq]; first | done | rfl) ([]) ?_
  refine ⟨?_, rfl⟩
  rw [hR]
 intro h
 have hR : R = (List.range qs.length).all fun i => insideB (ps.getD i noS) (qs.getD i noS) := by
  rw [hW]
  rw [g1, g2] at h
  generalize decide (ps.length ≤ qs.length) = a at h
  generalize decide (ps.length = qs.length) = b at h
  cases rp <;> cases rq <;> cases a <;> cases b <;> first | rfl | (exact absurd h (by decide))
 try refine v182X5 ?_
 refine T_loop (ι := Nat) (I := fun k => ⟨73, [(2, .c (.ptr 2 0)), (57, aStrs qs), (58, I .i64 qs.length), (59, I .i64 k)], [(2, .box ((encPat ⟨ps, rp⟩).map C.d))]⟩)
  (Inv := fun k => k ≤ qs.length ∧ ((List.range k).all fun i => insideB (ps.getD i noS) (qs.getD i noS)) = true) (μ := fun k => qs.length - k) 0 ⟨by omega, rfl⟩ ?_ ?_
 ·exact enA
 rintro k ⟨hk, hall⟩
 try refine v182X5 ?_
 refine ifA ?_ ?_
 ·intro hlt
  have hlt' : k < qs.length := by simpa using hlt
  obtain ⟨v, hv, he, _⟩ := round encS qs k noS hlt'
  obtain ⟨u, hu, he2, _⟩ := round encS ps k noS (by omega)
  have ev := getD_sm (z := noS) hv
  have eu := getD_sm (z := noS) hu
  have hvs : v.size ≤ 1000000 := hq.2 v (List.mem_of_getElem? hv)
  have hus : u.size ≤ 1000000 := hp.2 u (List.mem_of_getElem? hu)
  (repeat (first | refine nvB ?_ | refine goA (wr := false) (by simp only [kB, kG, k182, Nat.reduceAdd, Nat.reduceLT, Nat.reduceEqDiff, ↓reduceIte, reduceCtorEq, he, he2]; first | done | rfl) ?_ | (refine caA [] (inside_ac u v hus hvs) ?_; rintro r st' ⟨rfl, rfl⟩; refine frA ?_)))
  refine ifA ?_ ?_
  ·intro hb
   have hb' : insideB u v = false := by simpa using hb
   have hR2 : R = false := by
    rw [hR]
    cases e : (List.range qs.length).all fun i => insideB (ps.getD i noS) (qs.getD i noS)
    ·rfl
    ·have := range_all _ k _ hlt' e
     simp only [ev, eu, hb'] at this
     cases this
   try refine v182X5 ?_
   refine rtA (by simp only [kR, Tryz.results182, ↓reduceIte, Nat.reduceEqDiff, reduceCtorEq]; first | done | rfl) ([]) ?_
   refine ⟨?_, rfl⟩
   rw [hR2]
  ·intro hb
   have hb' : insideB u v = true := by simpa using hb
   try refine v182X5 ?_
   refine ⟨k + 1, ⟨by omega, ?_⟩, by omega, ?_⟩
   ·rw [List.range_succ, List.all_append, hall]; simp only [List.all_cons, List.all_nil, ev, eu, hb']; rfl
   ·exact enA
 intro hge
 have hk' : k = qs.length := by have : ¬ k < qs.length := by simpa using hge
                                omega
 rw [hk'] at hall
 rw [hall] at hR
 try refine v182X5 ?_
 refine rtA (by simp only [kR, Tryz.results182, ↓reduceIte, Nat.reduceEqDiff, reduceCtorEq]; first | done | rfl) ([]) ?_
 refine ⟨?_, rfl⟩
 rw [hR]
@[reducible] def pPats : Option (List Pat) → Bool × List C
 | none => (false, [.d (.v (.slice none 0 0))])
 | some l => (false, [.d (.ps 2 (l.map encPat))])
theorem bindT_len (p q : Pat) : ∀ k, (bindT p q k).length ≤ k
 | 0 => Nat.le_refl _
 | k + 1 => by
   have := bindT_len p q k
   simp only [bindT, List.length_append]
   split <;> simp <;> omega
theorem within_len {p q : Pat} (h : withinB q p = true) : p.parts.length ≤ q.parts.length := by
 simp only [withinB, Bool.and_eq_true, decide_eq_true_eq] at h
 exact h.1.1.1.2
theorem within_suf {p q : Pat} (h : withinB q p = true) {k : Nat} (hk : k < p.parts.length) (hs : starB (p.parts.getD k noS) = true) : (suf (p.parts.getD k noS)).size ≤ (q.parts.getD k noS).size := by
 simp only [withinB, Bool.and_eq_true] at h
 have h1 := range_all _ k _ hk h.2
 simp only [insideB, hs, if_true] at h1
 split at h1
 ·have a := hasSuf_le h1
  have b := suf_le (q.parts.getD k noS)
  omega
 ·simp only [capt, hs, if_true] at h1
  split at h1
  ·rename_i h2; exact hasSuf_le h2
  ·cases h1
def k179 := And.intro @Tryz.ntmps179 <| And.intro @Tryz.underlying257 <| And.intro @Tryz.underlying77 <| And.intro @Tryz.underlying9 <| And.intro @bld306 <| And.intro @bld79 <| And.intro @elt257 <| And.intro @elt77 <| And.intro @fld306_0 <| And.intro @fld306_1 <| And.intro @fld79_0 <| And.intro @fld79_1 <| And.intro @ti257 <| And.intro @ti306 <| And.intro @ti4 <| And.intro @ti77 <| And.intro @ti79 <| @ti9
theorem v179X7 {G G' : Prop} (g : G') (h : Hid G' → G := by intro h9; (first | refine nvB ?_ | refine goA (wr := false) (by simp only [kB, kS, k179, Nat.reduceAdd, Nat.reduceLT, Nat.reduceEqDiff, ↓reduceIte, reduceCtorEq]; first | done | rfl) ?_); (repeat (first | refine nvB ?_ | refine goA (wr := false) (by simp only [kB, kS, k179, Nat.reduceAdd, Nat.reduceLT, Nat.reduceEqDiff, ↓reduceIte, reduceCtorEq]; first | done | rfl) ?_)); exact h9.out) : G := h ⟨g⟩
theorem bind_ac (p q : Pat) (hp : PB 1000000 p) (hq : PB 1000000 q) : AC Tryz.prog 179 [aPat p, aPat q] [] (fun r st => r = .tup [pPats (bindP p q), pB (bindP p q).isSome] ∧ st = []) := by
 have hw := within_ac3 q p hq hp
 have hB : bindP p q = if withinB q p then some (bindT p q p.parts.length ++ (if p.rest then [⟨q.parts.drop p.parts.length, q.rest⟩] else [])) else none := rfl
 have hlen := within_len (p := p) (q := q)
 have hsf := @within_suf _ p q
 have hT : ∀ k, bindT p q (k + 1) = bindT p q k ++ (if starB (p.parts.getD k noS) then [⟨[(q.parts.getD k noS).extract 0 ((q.parts.getD k noS).size - (suf (p.parts.getD k noS)).size)], false⟩] else []) := fun _ => rfl
 have hT0 : bindT p q 0 = [] := rfl
 have hTl := bindT_len p q
 have hp1 := hp.1
 have hq1 := hq.1
 have hpg := hp.get
 have hqg := hq.get
 generalize bindT p q = bT at hB hT hT0 hTl
 generalize bindP p q = M at hB
 generalize withinB q p = wb at hw hB hlen hsf
 obtain ⟨ps, rp⟩ := p
 obtain ⟨qs, rq⟩ := q
 simp only at hB hT hlen hsf hp1 hq1 hpg hqg
 refine AC_enter Tryz.func179 rfl rfl (by simp only [Tryz.ntmps179, List.length]; omega) ?_
 intro x hx
 simp only [List.range, List.range.loop, List.length, List.zip, List.zipWith, Nat.reduceAdd, Tryz.ntmps179]
 (repeat (first | refine v179X7 ?_ | (refine caA [] (hw) ?_; rintro r st' ⟨rfl, rfl⟩; refine frA ?_)))
 refine ifA ?_ ?_
 ·intro h
  have h' : wb = false := by simpa using h
  rw [h', if_neg (by simp)] at hB
  try refine v179X7 ?_
  refine rtA (by simp only [kR, Tryz.results179, ↓reduceIte, Nat.reduceEqDiff, reduceCtorEq]; first | done | rfl) ([]) ?_
  refine ⟨?_, rfl⟩
  rw [hB]; rfl
 intro h
 have h' : wb = true := by simpa using h
 rw [if_pos h'] at hB
 have hlen := hlen h'
 have hsf := @hsf h'
 refine nvA ?_
 refine goA (wr := false) (by simp only [kB, kS, k179, Nat.reduceAdd, Nat.reduceLT, Nat.reduceEqDiff, ↓reduceIte, reduceCtorEq]; first | done | rfl) ?_
 refine nvA ?_
 refine TO_ent (Ent_adopt (i := 6) (id := 100) (sz := 2) rfl rfl (by omega)) ?_
 refine fzA ?_
 try refine v179X7 ?_
 refine T_loop (ι := Nat) (I := fun k => ⟨65, [(2, .c (.ptr 2 0)), (3, .c (.ptr 3 0)), (6, .c (.ms 100 2 0 (bT k).length)), (17, aStrs ps), (18, I .i64 ps.length), (19, I .i64 k)],
   [(2, .box ((encPat ⟨ps, rp⟩).map C.d)), (3, .box ((encPat ⟨qs, rq⟩).map C.d)), (100, dArr 2 ((bT k).map encPat))]⟩)
  (Inv := fun k => k ≤ ps.length) (μ := fun k => ps.length - k) 0 (by omega) ?_ ?_
 ·(refine Ent_sub (fun i => i) rfl ?_ ⟨?_, ?_, ?_, keepI hx (by simp [domOf, Ab.get])⟩ <;> first | (simp only [kE, dArr, ↓reduceIte, Nat.reduceEqDiff, reduceCtorEq, hT0]; done) | simp [renAV_id, renAO_id, flat_up, Ab.get, clAV, clC, clCs, clAO, cl_f1, cl_s1, cl_f2, cl_s2, cl_a1, domOf, List.flatten, hT0])
 intro k hk
 have hbl := hTl k
 try refine v179X7 ?_
 refine ifA ?_ ?_
 ·intro hlt
  have hlt' : k < ps.length := by simpa using hlt
  obtain ⟨u, hu, he, _⟩ := round encS ps k noS hlt'
  obtain ⟨v, hv, he2, _⟩ := round encS qs k noS (by omega)
  have eu := getD_sm (z := noS) hu
  have ev := getD_sm (z := noS) hv
  have hus : u.size ≤ 1000000 := by rw [← eu]; exact hpg k
  have hvs : v.size ≤ 1000000 := by rw [← ev]; exact hqg k
  have hTk := hT k
  have hsk := @hsf k hlt'
  rw [eu, ev] at hTk hsk
  (repeat (first | refine nvB ?_ | refine goA (wr := false) (by simp only [kB, kS, k179, Nat.reduceAdd, Nat.reduceLT, Nat.reduceEqDiff, ↓reduceIte, reduceCtorEq, he]; first | done | rfl) ?_ | (refine caA [] (star_ac u hus) ?_; rintro r st' ⟨rfl, rfl⟩; refine frA ?_)))
  refine ifA ?_ ?_
  ·intro hs
   have hs' : starB u = false := by simpa using hs
   rw [hs', if_neg (by simp), List.append_nil] at hTk
   try refine v179X7 ?_
   refine ⟨k + 1, by omega, by omega, ?_⟩
   rw [hTk]
   exact enA
  intro hs
  have hs' : starB u = true := by simpa using hs
  rw [hs', if_pos rfl] at hTk
  have hsk := hsk hs'
  have e9 : ((v.size : Int) - (suf u).size).toNat = v.size - (suf u).size := by omega
  refine nvA ?_
  refine goA (wr := false) (by simp only [kB, kS, k179, Nat.reduceAdd, Nat.reduceLT, Nat.reduceEqDiff, ↓reduceIte, reduceCtorEq, he2]; first | done | rfl) ?_
  refine nvA ?_
  refine TO_go (wr := false) 8 (by simp only [kB, kS, k179, Nat.reduceAdd, Nat.reduceLT, Nat.reduceEqDiff, ↓reduceIte, reduceCtorEq, e9]; first | done | rfl) ?_ ?_
  ·exact obN
  refine TO_ent (Ent_frzSlot (i := 44) (id := 44) (sz := 1) (ys := [encS (v.extract 0 (v.size - (suf u).size))]) rfl rfl rfl) ?_
  refine fzA ?_
  try refine v179X7 ?_
  refine ⟨k + 1, by omega, by omega, ?_⟩
  rw [hTk]
  exact enR (fun i => if i = 100 then 47 else i)
 intro hge
 have hk' : k = ps.length := by have : ¬ k < ps.length := by simpa using hge
                                omega
 subst hk'
 try refine v179X7 ?_
 refine ifA ?_ ?_
 ·intro hr
  subst hr
  rw [if_pos rfl] at hB
  have o1 : (List.drop ps.length (List.map encS qs)).length * 16 ≤ 140737488355328 := by rw [List.length_drop, List.length_map]; omega
  have o2 : ∀ l ∈ List.map (fun l => List.map C.d l) (List.drop ps.length (List.map encS qs)), l.length = 1 := by
   intro l hl
   obtain ⟨y, hy, rfl⟩ := List.mem_map.1 hl
   obtain ⟨z, _, rfl⟩ := List.mem_map.1 (List.mem_of_mem_drop hy)
   rfl
  refine nvA ?_
  refine T_drawk (wr := false) 12 ([] : List (Nat × AV)) (by kernel_rfl) (by simp only [List.take_succ_cons, List.take_zero, kD, kB, kS, k179, Nat.reduceAdd, Nat.reduceLT, Nat.reduceEqDiff, ↓reduceIte, reduceCtorEq]; first | done | rfl) ?_ (by decide) (by kernel_rfl) (by kernel_rfl) ?_
  rotate_left
  simp only [List.drop_succ_cons, List.drop_zero]
  rotate_left
  ·exact obG (o1) (o2)
  refine TO_ent (Ent_frzArrCell (bid := 62) (id := 58) (sz2 := 1) (j := 0) (ys := (qs.map encS).drop ps.length) (by decide) rfl rfl rfl rfl) ?_
  refine fzA ?_
  refine goA (wr := false) (by simp only [kB, kS, k179, Nat.reduceAdd, Nat.reduceLT, Nat.reduceEqDiff, ↓reduceIte, reduceCtorEq]; first | done | rfl) ?_
  refine nvA ?_
  refine TO_ent (Ent_frzSlot (i := 6) (id := 63) (sz := 2) (ys := (bT ps.length).map encPat ++ [[.ps 1 ((qs.map encS).drop ps.length), .v (.bool rq)]]) rfl (by simp [Ab.get]) (by simp)) ?_
  refine fzA ?_
  try refine v179X7 ?_
  refine rtA (by simp only [kR, Tryz.results179, ↓reduceIte, Nat.reduceEqDiff, reduceCtorEq]; first | done | rfl) ([]) ?_
  refine ⟨?_, rfl⟩
  rw [hB]; simp [pPats, pB, List.map_drop]
 ·intro hr
  subst hr
  rw [if_neg (by simp), List.append_nil] at hB
  refine nvA ?_
  refine TO_ent (Ent_frzSlot (i := 6) (id := 100) (sz := 2) (ys := (bT ps.length).map encPat) rfl rfl (by simp)) ?_
  refine fzA ?_
  try refine v179X7 ?_
  refine rtA (by simp only [kR, Tryz.results179, ↓reduceIte, Nat.reduceEqDiff, reduceCtorEq]; first | done | rfl) ([]) ?_
  refine ⟨?_, rfl⟩
  rw [hB]; rfl
end Go.Proofs.YtmhboloicpieeaaGreatDoor
namespace Go.Proofs.YtmhboloicpieeaaGreatDoor
open Go.Ab Tys
variable [DrF]
def k256 := And.intro @Tryz.ntmps256 <| And.intro @Tryz.underlying77 <| And.intro @bld79 <| And.intro @elt77 <| And.intro @fld79_0 <| And.intro @ti77 <| And.intro @ti79 <| @ti9
theorem v256X11 {G G' : Prop} (g : G') (h : Hid G' → G := by intro h9; (first | refine nvB ?_ | refine goA (wr := false) (by simp only [kB, k256, Nat.reduceAdd, Nat.reduceLT, Nat.reduceEqDiff, ↓reduceIte, reduceCtorEq]; first | done | rfl) ?_); (repeat (first | refine nvB ?_ | refine goA (wr := false) (by simp only [kB, k256, Nat.reduceAdd, Nat.reduceLT, Nat.reduceEqDiff, ↓reduceIte, reduceCtorEq]; first | done | rfl) ?_)); exact h9.out) : G := h ⟨g⟩
theorem partN_ac (p : Pat) (i : Nat) (hp : p.parts.length ≤ 1000000) (hi : i ≤ 1000000) : AC Tryz.prog 256 [aPat p, I .i64 i] [] (fun x st => x = Str (partN p i) ∧ st = []) := by
 have hR : partN p i = if i < p.parts.length then p.parts.getD i noS else starS := rfl
 generalize partN p i = R at hR
 obtain ⟨ps, rp⟩ := p
 simp only at hR hp
 refine AC_enter Tryz.func256 rfl rfl (by simp only [Tryz.ntmps256, List.length]; omega) ?_
 intro x hx
 simp only [List.range, List.range.loop, List.length, List.zip, List.zipWith, Nat.reduceAdd, Tryz.ntmps256]
 try refine v256X11 ?_
 refine ifA ?_ ?_
 ·intro h
  have h' : i < ps.length := by simpa using h
  obtain ⟨v, hv, he, _⟩ := round encS ps i noS h'
  rw [if_pos h', getD_sm (z := noS) hv] at hR
  (repeat (first | refine nvB ?_ | refine goA (wr := false) (by simp only [kB, k256, Nat.reduceAdd, Nat.reduceLT, Nat.reduceEqDiff, ↓reduceIte, reduceCtorEq, he]; first | done | rfl) ?_))
  refine rtA (by simp only [kR, Tryz.results256, ↓reduceIte, Nat.reduceEqDiff, reduceCtorEq]; first | done | rfl) ([]) ?_
  refine ⟨?_, rfl⟩
  rw [hR]
 ·intro h
  have h' : ¬ i < ps.length := by simpa using h
  rw [if_neg h'] at hR
  try refine v256X11 ?_
  refine rtA (by simp only [kR, Tryz.results256, ↓reduceIte, Nat.reduceEqDiff, reduceCtorEq]; first | done | rfl) ([]) ?_
  refine ⟨?_, rfl⟩
  rw [hR]
def k255 := And.intro @Tryz.ntmps255 <| And.intro @Tryz.underlying77 <| And.intro @bld79 <| And.intro @elt77 <| And.intro @fld79_0 <| And.intro @fld79_1 <| And.intro @ti4 <| And.intro @ti77 <| And.intro @ti79 <| @ti9
theorem v255X11 {G G' : Prop} (g : G') (h : Hid G' → G := by intro h9; (first | refine nvB ?_ | refine goA (wr := false) (by simp only [kB, k255, Nat.reduceAdd, Nat.reduceLT, Nat.reduceEqDiff, ↓reduceIte, reduceCtorEq]; first | done | rfl) ?_); (repeat (first | refine nvB ?_ | refine goA (wr := false) (by simp only [kB, k255, Nat.reduceAdd, Nat.reduceLT, Nat.reduceEqDiff, ↓reduceIte, reduceCtorEq]; first | done | rfl) ?_)); exact h9.out) : G := h ⟨g⟩
theorem counts_ac (p : Pat) (n : Nat) (hp : p.parts.length ≤ 1000000) : AC Tryz.prog 255 [aPat p, I .i64 n] [] (fun x st => x = B (countsB p n) ∧ st = []) := by
 have hR : countsB p n = if p.rest then decide (p.parts.length < n) else decide (n = p.parts.length) := rfl
 generalize countsB p n = R at hR
 obtain ⟨ps, rp⟩ := p
 simp only at hR hp
 have e1 : decide ((ps.length : Int) < n) = decide (ps.length < n) := decide_eq_decide.2 (by omega)
 have e2 : decide ((n : Int) = ps.length) = decide (n = ps.length) := decide_eq_decide.2 (by omega)
 refine AC_enter Tryz.func255 rfl rfl (by simp only [Tryz.ntmps255, List.length]; omega) ?_
 intro x hx
 simp only [List.range, List.range.loop, List.length, List.zip, List.zipWith, Nat.reduceAdd, Tryz.ntmps255]
 try refine v255X11 ?_
 refine ifA ?_ ?_
 ·intro h
  rw [if_pos h] at hR
  try refine v255X11 ?_
  refine rtA (by simp only [kR, Tryz.results255, ↓reduceIte, Nat.reduceEqDiff, reduceCtorEq]; first | done | rfl) ([]) ?_
  refine ⟨?_, rfl⟩
  rw [hR, e1]
 ·intro h
  rw [if_neg (by simp [h])] at hR
  try refine v255X11 ?_
  refine rtA (by simp only [kR, Tryz.results255, ↓reduceIte, Nat.reduceEqDiff, reduceCtorEq]; first | done | rfl) ([]) ?_
  refine ⟨?_, rfl⟩
  rw [hR, e2]
def k231 := And.intro @Tryz.ntmps231 <| And.intro @Tryz.underlying77 <| And.intro @bld79 <| And.intro @elt77 <| And.intro @fld79_0 <| And.intro @ti77 <| And.intro @ti79 <| @ti9
theorem v231X11 {G G' : Prop} (g : G') (h : Hid G' → G := by intro h9; (first | refine nvB ?_ | refine goA (wr := false) (by simp only [kB, kG, k231, Nat.reduceAdd, Nat.reduceLT, Nat.reduceEqDiff, ↓reduceIte, reduceCtorEq]; first | done | rfl) ?_); (repeat (first | refine nvB ?_ | refine goA (wr := false) (by simp only [kB, kG, k231, Nat.reduceAdd, Nat.reduceLT, Nat.reduceEqDiff, ↓reduceIte, reduceCtorEq]; first | done | rfl) ?_)); exact h9.out) : G := h ⟨g⟩
theorem covers_ac (b h : Pat) (n : Nat) (hb : PB 1000000 b) (hh : PB 1000000 h) (hn : n ≤ 1000000) : AC Tryz.prog 231 [aPat b, aPat h, I .i64 0, I .i64 n] [] (fun x st => x = B (coversB b h n) ∧ st = []) := by
 have h1 := counts_ac h n hh.1
 have hpt := fun i => partN_ac b i hb.1
 have hR : coversB b h n = (countsB h n && (List.range (min n h.parts.length)).all fun i => insideB (partN b i) (h.parts.getD i noS)) := rfl
 have hps : ∀ i, (partN b i).size ≤ 1000000 := by
  intro i
  unfold partN
  split
  ·exact hb.get i
  ·show 1 ≤ 1000000; omega
 generalize coversB b h n = R at hR
 generalize countsB h n = cb at h1 hR
 generalize partN b = pn at hpt hR hps
 obtain ⟨qs, rq⟩ := h
 obtain ⟨ps, rp⟩ := b
 have hq1 := hh.1
 simp only at hR hq1
 refine AC_enter Tryz.func231 rfl rfl (by simp only [Tryz.ntmps231, List.length]; omega) ?_
 intro x hx
 simp only [List.range, List.range.loop, List.length, List.zip, List.zipWith, Nat.reduceAdd, Tryz.ntmps231]
 (repeat (first | refine v231X11 ?_ | (refine caA [] (h1) ?_; rintro r st' ⟨rfl, rfl⟩; refine frA ?_)))
 refine ifA ?_ ?_
 ·intro hc
  have e : cb = false := by simpa using hc
  rw [e, Bool.false_and] at hR
  try refine v231X11 ?_
  refine rtA (by simp only [kR, Tryz.results231, ↓reduceIte, Nat.reduceEqDiff, reduceCtorEq]; first | done | rfl) ([]) ?_
  refine ⟨?_, rfl⟩
  rw [hR]
 intro hc
 have e : cb = true := by simpa using hc
 rw [e, Bool.true_and] at hR
 try refine v231X11 ?_
 refine T_loop (ι := Nat) (I := fun k => ⟨35, [(2, I .i64 k), (3, I .i64 n), (4, .c (.ptr 4 0)), (5, .c (.ptr 5 0))], [(4, .box ((encPat ⟨ps, rp⟩).map C.d)), (5, .box ((encPat ⟨qs, rq⟩).map C.d))]⟩)
  (Inv := fun k => k ≤ min n qs.length ∧ ((List.range k).all fun i => insideB (pn i) (qs.getD i noS)) = true) (μ := fun k => min n qs.length - k) 0 ⟨by omega, rfl⟩ ?_ ?_
 ·exact enA
 rintro k ⟨hk, hall⟩
 try refine v231X11 ?_
 refine ifA ?_ ?_
 ·intro hlt
  have hlt' : k < n ∧ k < qs.length := by
   by_cases e : k < n
   ·have e' : decide ((k : Int) < n) = true := decide_eq_true (by omega)
    rw [e'] at hlt
    exact ⟨e, by have := of_decide_eq_true hlt; omega⟩
   ·have e' : decide ((k : Int) < n) = false := decide_eq_false (by omega)
    rw [e'] at hlt; cases hlt
  obtain ⟨u, hu, he, _⟩ := round encS qs k noS hlt'.2
  have eu := getD_sm (z := noS) hu
  have hus : u.size ≤ 1000000 := hh.2 u (List.mem_of_getElem? hu)
  refine nvA ?_
  refine drA (wr := false) ([(27, Str (pn k)), (33, B (insideB (pn k) u))] : List (Nat × AV)) (by simp only [kD, kB, kG, k231, Nat.reduceAdd, Nat.reduceLT, Nat.reduceEqDiff, ↓reduceIte, reduceCtorEq, he]; first | done | rfl) ?_ ?_
  ·simp only [All, List.cons_append, List.nil_append, InR, List.mem_cons, List.not_mem_nil, or_false, forall_eq_or_imp, forall_eq, clAV, clCs, clC, clCaps, clCap, and_true, true_and, implies_true, List.length_map, List.length_cons, List.length_nil, dArr, cl_arr, tyCs]
   repeat' (first | exact trivial | exact hpt k (by omega) | exact inside_ac (pn k) u (hps k) hus | refine And.intro ?_ ?_ | intro _ | assumption | rfl | omega | (rw [Bool.not_eq_true']; assumption) | (simp; done) | (simp only [decide_eq_true_eq] at *; omega) | (simp_all; done))
  refine nvA ?_
  refine ifA ?_ ?_
  ·intro hb
   have hb' : insideB (pn k) u = false := by simpa using hb
   have hR2 : R = false := by
    rw [hR]
    cases e : (List.range (min n qs.length)).all fun i => insideB (pn i) (qs.getD i noS)
    ·rfl
    ·have := range_all _ k _ (by omega) e
     rw [eu, hb'] at this; cases this
   try refine v231X11 ?_
   refine rtA (by simp only [kR, Tryz.results231, ↓reduceIte, Nat.reduceEqDiff, reduceCtorEq]; first | done | rfl) ([]) ?_
   refine ⟨?_, rfl⟩
   rw [hR2]
  ·intro hb
   have hb' : insideB (pn k) u = true := by simpa using hb
   try refine v231X11 ?_
   refine ⟨k + 1, ⟨by omega, ?_⟩, by omega, ?_⟩
   ·rw [List.range_succ, List.all_append, hall]; simp only [List.all_cons, List.all_nil, eu, hb']; rfl
   ·exact enA
 intro hge
 have hk' : k = min n qs.length := by
  by_cases e : k < n
  ·have e' : decide ((k : Int) < n) = true := decide_eq_true (by omega)
   rw [e'] at hge
   have := of_decide_eq_false hge
   omega
  ·omega
 rw [← hk', hall] at hR
 try refine v231X11 ?_
 refine rtA (by simp only [kR, Tryz.results231, ↓reduceIte, Nat.reduceEqDiff, reduceCtorEq]; first | done | rfl) ([]) ?_
 refine ⟨?_, rfl⟩
 rw [hR]
def k185 := And.intro @Tryz.ntmps185 <| And.intro @Tryz.underlying80 <| And.intro @bld151 <| And.intro @bld79 <| And.intro @elt80 <| And.intro @fld151_0 <| And.intro @fld151_1 <| And.intro @ti151 <| And.intro @ti79 <| @ti80
theorem v185X11 {G G' : Prop} (g : G') (h : Hid G' → G := by intro h9; (first | refine nvB ?_ | refine goA (wr := false) (by simp only [kB, k185, Nat.reduceAdd, Nat.reduceLT, Nat.reduceEqDiff, ↓reduceIte, reduceCtorEq]; first | done | rfl) ?_); (repeat (first | refine nvB ?_ | refine goA (wr := false) (by simp only [kB, k185, Nat.reduceAdd, Nat.reduceLT, Nat.reduceEqDiff, ↓reduceIte, reduceCtorEq]; first | done | rfl) ?_)); exact h9.out) : G := h ⟨g⟩
theorem full_ac (g : Rgn) (n : Nat) (hb : PB 1000000 g.base) (hl : g.holes.length ≤ 1000000) (hh : ∀ h ∈ g.holes, PB 1000000 h) (hn : n ≤ 1000000) : AC Tryz.prog 185 [aRgn g, I .i64 n] [] (fun x st => x = B (fullB g n) ∧ st = []) := by
 have hR : fullB g n = g.holes.any fun h => coversB g.base h n := rfl
 have hcv := fun h hh => covers_ac g.base h n hb hh hn
 generalize fullB g n = R at hR
 obtain ⟨b, hs⟩ := g
 simp only at hR hl hh hcv
 generalize coversB b = cv at hcv hR
 obtain ⟨ps, rp⟩ := b
 refine AC_enter Tryz.func185 rfl rfl (by simp only [Tryz.ntmps185, List.length]; omega) ?_
 intro x hx
 simp only [List.range, List.range.loop, List.length, List.zip, List.zipWith, Nat.reduceAdd, Tryz.ntmps185]
 try refine v185X11 ?_
 refine T_loop (ι := Nat) (I := fun k => ⟨20, [(1, I .i64 n), (2, .c (.ptr 2 0)), (8, aPats hs), (9, I .i64 hs.length), (10, I .i64 k)], [(2, .box ((encRgn ⟨⟨ps, rp⟩, hs⟩).map C.d))]⟩)
  (Inv := fun k => k ≤ hs.length ∧ ((hs.take k).any fun h => cv h n) = false) (μ := fun k => hs.length - k) 0 ⟨by omega, rfl⟩ ?_ ?_
 ·exact enA
 rintro k ⟨hk, hall⟩
 try refine v185X11 ?_
 refine ifA ?_ ?_
 ·intro hlt
  have hlt' : k < hs.length := by simpa using hlt
  obtain ⟨v, hv, he, htk⟩ := round encPat hs k zPat hlt'
  have hm := hcv v (hh v (List.mem_of_getElem? hv))
  generalize hvb : cv v n = vb at hm
  (repeat (first | refine nvB ?_ | refine goA (wr := false) (by simp only [kB, k185, Nat.reduceAdd, Nat.reduceLT, Nat.reduceEqDiff, ↓reduceIte, reduceCtorEq, he]; first | done | rfl) ?_ | (refine caA [] (hm) ?_; rintro r st' ⟨rfl, rfl⟩; refine frA ?_)))
  refine ifA ?_ ?_
  ·intro hb
   have hn2 : (hs.any fun h => cv h n) = true := List.any_eq_true.2 ⟨v, List.mem_of_getElem? hv, by rw [hvb]; exact hb⟩
   rw [hn2] at hR
   try refine v185X11 ?_
   refine rtA (by simp only [kR, Tryz.results185, ↓reduceIte, Nat.reduceEqDiff, reduceCtorEq]; first | done | rfl) ([]) ?_
   refine ⟨?_, rfl⟩
   rw [hR]
  ·intro hb
   try refine v185X11 ?_
   refine ⟨k + 1, ⟨by omega, by rw [htk, List.any_append, hall]; simp [hvb, hb]⟩, by omega, ?_⟩
   exact enA
 intro hge
 have hk' : k = hs.length := by have : ¬ k < hs.length := by simpa using hge
                                omega
 rw [hk', List.take_length] at hall
 rw [hall] at hR
 try refine v185X11 ?_
 refine rtA (by simp only [kR, Tryz.results185, ↓reduceIte, Nat.reduceEqDiff, reduceCtorEq]; first | done | rfl) ([]) ?_
 refine ⟨?_, rfl⟩
 rw [hR]
end Go.Proofs.YtmhboloicpieeaaGreatDoor
namespace Go.Proofs.YtmhboloicpieeaaGreatDoor
open Go.Ab Tys
variable [DrF]
theorem maxH_append : ∀ (l : List Pat) (h : Pat) (m : Nat), maxH (l ++ [h]) m = max (maxH l m) h.parts.length
 | [], _, _ => rfl
 | a :: l, h, m => maxH_append l h _
theorem maxH_ge : ∀ (l : List Pat) (m : Nat), m ≤ maxH l m
 | [], _ => Nat.le_refl _
 | a :: l, m => Nat.le_trans (Nat.le_max_left _ _) (maxH_ge l _)
theorem maxH_le {n : Nat} : ∀ (l : List Pat) (m : Nat), m ≤ n → (∀ h ∈ l, h.parts.length ≤ n) → maxH l m ≤ n
 | [], _, h, _ => h
 | a :: l, m, h, hl => maxH_le l _ (Nat.max_le.2 ⟨h, hl a (by simp)⟩) fun b hb => hl b (by simp [hb])
theorem find_range {p : Nat → Bool} {M j : Nat} (hj : j < M) (hp : p j = true) (hn : ∀ i, i < j → p i = false) : (List.range M).find? p = some j := by
 rw [List.find?_eq_some_iff_append]
 refine ⟨hp, (List.range M).take j, (List.range M).drop (j + 1), ?_, ?_⟩
 ·have h1 := List.take_append_drop j (List.range M)
  rw [List.drop_eq_getElem?_toList_append, List.getElem?_range hj] at h1
  exact h1.symm
 ·intro a ha
  rw [List.take_range] at ha
  have := List.mem_range.1 ha
  rw [hn a (by omega)]; rfl
def k130 := And.intro @Tryz.ntmps130 <| And.intro @Tryz.underlying77 <| And.intro @Tryz.underlying80 <| And.intro @bld151 <| And.intro @bld79 <| And.intro @elt77 <| And.intro @elt80 <| And.intro @fld151_0 <| And.intro @fld151_1 <| And.intro @fld79_0 <| And.intro @fld79_1 <| And.intro @ti151 <| And.intro @ti4 <| And.intro @ti77 <| And.intro @ti79 <| And.intro @ti80 <| @ti9
theorem v130X12 {G G' : Prop} (g : G') (h : Hid G' → G := by intro h9; (first | refine nvB ?_ | refine goA (wr := false) (by simp only [kB, k130, Nat.reduceAdd, Nat.reduceLT, Nat.reduceEqDiff, ↓reduceIte, reduceCtorEq]; first | done | rfl) ?_); (repeat (first | refine nvB ?_ | refine goA (wr := false) (by simp only [kB, k130, Nat.reduceAdd, Nat.reduceLT, Nat.reduceEqDiff, ↓reduceIte, reduceCtorEq]; first | done | rfl) ?_)); exact h9.out) : G := h ⟨g⟩
theorem len5_ac (g : Rgn) (hb : PB 100000 g.base) (hl : g.holes.length ≤ 100000) (hh : ∀ h ∈ g.holes, PB 100000 h) : AC Tryz.prog 130 [aRgn g] [] (fun x st => x = I .i64 (lenN g) ∧ st = []) := by
 have hf := fun n hn => full_ac g n (hb.mono (by omega)) (by omega) (fun h hx => (hh h hx).mono (by omega)) hn
 have hR : lenN g = if g.base.rest then (match (List.range (maxH g.holes g.base.parts.length + 1 - g.base.parts.length)).find? (fun j => !fullB g (g.base.parts.length + 1 + j)) with | some j => g.base.parts.length + 1 + j | none => 0)
  else if fullB g g.base.parts.length then 0 else g.base.parts.length := rfl
 generalize lenN g = R at hR
 generalize fullB g = fB at hf hR
 obtain ⟨b, hs⟩ := g
 have hb1 := hb.1
 simp only at hR hl hh hf hb1
 obtain ⟨ps, rp⟩ := b
 simp only at hR hb1
 refine AC_enter Tryz.func130 rfl rfl (by simp only [Tryz.ntmps130, List.length]; omega) ?_
 intro x hx
 simp only [List.range, List.range.loop, List.length, List.zip, List.zipWith, Nat.reduceAdd, Tryz.ntmps130]
 try refine v130X12 ?_
 refine ifA ?_ ?_
 ·intro h
  have e : rp = false := by simpa using h
  rw [e, if_neg (by simp)] at hR
  have hf := hf ps.length (by omega)
  generalize fB ps.length = f at hf hR
  (repeat (first | refine v130X12 ?_ | (refine caA [] (hf) ?_; rintro r st' ⟨rfl, rfl⟩; refine frA ?_)))
  refine ifA ?_ ?_
  ·intro h
   rw [if_pos h] at hR
   try refine v130X12 ?_
   refine rtA (by simp only [kR, Tryz.results130, ↓reduceIte, Nat.reduceEqDiff, reduceCtorEq]; first | done | rfl) ([]) ?_
   refine ⟨?_, rfl⟩
   rw [hR]; rfl
  ·intro h
   rw [if_neg (by simp [h])] at hR
   try refine v130X12 ?_
   refine rtA (by simp only [kR, Tryz.results130, ↓reduceIte, Nat.reduceEqDiff, reduceCtorEq]; first | done | rfl) ([]) ?_
   refine ⟨?_, rfl⟩
   rw [hR]
 intro h
 have e : rp = true := by simpa using h
 rw [e, if_pos rfl] at hR
 try refine v130X12 ?_
 refine T_loop (ι := Nat) (I := fun k => ⟨54, [(1, .c (.ptr 1 0)), (3, I .i64 (maxH (hs.take k) ps.length)), (26, aPats hs), (27, I .i64 hs.length), (28, I .i64 k)], [(1, .box ((encRgn ⟨⟨ps, rp⟩, hs⟩).map C.d))]⟩)
  (Inv := fun k => k ≤ hs.length) (μ := fun k => hs.length - k) 0 (by omega) ?_ ?_
 ·(refine Ent_sub (fun i => i) rfl ?_ ⟨?_, ?_, ?_, keepI hx (by simp [domOf, Ab.get])⟩ <;> first | (simp only [kE, dArr, ↓reduceIte, Nat.reduceEqDiff, reduceCtorEq, maxH]; done) | simp [renAV_id, renAO_id, flat_up, Ab.get, clAV, clC, clCs, clAO, cl_f1, cl_s1, cl_f2, cl_s2, cl_a1, domOf, List.flatten, maxH])
 intro k hk
 try refine v130X12 ?_
 refine ifA ?_ ?_
 ·intro hlt
  have hlt' : k < hs.length := by simpa using hlt
  obtain ⟨v, hv, he, htk⟩ := round encPat hs k zPat hlt'
  have hm : maxH (hs.take (k + 1)) ps.length = max (maxH (hs.take k) ps.length) v.parts.length := by rw [htk, maxH_append]
  have hmi : ((max (maxH (hs.take k) ps.length) v.parts.length : Nat) : Int) = max ((maxH (hs.take k) ps.length : Nat) : Int) (v.parts.length : Int) := by omega
  (repeat (first | refine nvB ?_ | refine goA (wr := false) (by simp only [kB, k130, Nat.reduceAdd, Nat.reduceLT, Nat.reduceEqDiff, ↓reduceIte, reduceCtorEq, he]; first | done | rfl) ?_))
  refine ⟨k + 1, by omega, by omega, ?_⟩
  rw [hm, hmi]
  exact enA
 intro hge
 have hk' : k = hs.length := by have : ¬ k < hs.length := by simpa using hge
                                omega
 rw [hk', List.take_length]
 have hmx := maxH_le hs ps.length hb1 fun h hx => (hh h hx).1
 have hmg := maxH_ge hs ps.length
 generalize maxH hs ps.length = mx at hmx hmg hR
 try refine v130X12 ?_
 refine T_loop (ι := Nat) (I := fun j => ⟨54, [(1, .c (.ptr 1 0)), (3, I .i64 mx), (6, I .i64 ((ps.length + 1 + j : Nat) : Int))], [(1, .box ((encRgn ⟨⟨ps, rp⟩, hs⟩).map C.d))]⟩)
  (Inv := fun j => j ≤ mx + 1 - ps.length ∧ ∀ i, i < j → fB (ps.length + 1 + i) = true) (μ := fun j => mx + 1 - ps.length - j) 0 ⟨by omega, by omega⟩ ?_ ?_
 ·exact enA
 rintro j ⟨hj, hall⟩
 try refine v130X12 ?_
 refine ifA ?_ ?_
 ·intro hle
  have hle' : ps.length + 1 + j ≤ mx + 1 := by have := of_decide_eq_true hle; omega
  have hf := hf (ps.length + 1 + j) (by omega)
  generalize hfb : fB (ps.length + 1 + j) = f at hf
  (repeat (first | refine v130X12 ?_ | (refine caA [] (hf) ?_; rintro r st' ⟨rfl, rfl⟩; refine frA ?_)))
  refine ifA ?_ ?_
  ·intro hb
   have hb' : f = false := by simpa using hb
   rw [find_range (M := mx + 1 - ps.length) (j := j) (by omega) (by rw [hfb, hb']; rfl) (fun i hi => by rw [hall i hi]; rfl)] at hR
   try refine v130X12 ?_
   refine rtA (by simp only [kR, Tryz.results130, ↓reduceIte, Nat.reduceEqDiff, reduceCtorEq]; first | done | rfl) ([]) ?_
   refine ⟨?_, rfl⟩
   rw [hR]
  ·intro hb
   have hb' : f = true := by simpa using hb
   try refine v130X12 ?_
   refine ⟨j + 1, ⟨by omega, ?_⟩, by omega, ?_⟩
   ·intro i hi
    rcases Nat.lt_succ_iff_lt_or_eq.1 hi with hi | rfl
    ·exact hall i hi
    ·rw [hfb, hb']
   ·have hcast : ((ps.length + 1 + (j + 1) : Nat) : Int) = ((ps.length + 1 + j : Nat) : Int) + 1 := by omega
    rw [hcast]
    exact enA
 intro hgt
 have hgt' : ¬ ps.length + 1 + j ≤ mx + 1 := by have := of_decide_eq_false hgt; omega
 have hj' : j = mx + 1 - ps.length := by omega
 have hno : (List.range (mx + 1 - ps.length)).find? (fun j => !fB (ps.length + 1 + j)) = none := by
  rw [List.find?_eq_none]
  intro i hi
  have := List.mem_range.1 hi
  rw [hall i (by omega)]; simp
 rw [hno] at hR
 try refine v130X12 ?_
 refine rtA (by simp only [kR, Tryz.results130, ↓reduceIte, Nat.reduceEqDiff, reduceCtorEq]; first | done | rfl) ([]) ?_
 refine ⟨?_, rfl⟩
 rw [hR]; rfl
end Go.Proofs.YtmhboloicpieeaaGreatDoor

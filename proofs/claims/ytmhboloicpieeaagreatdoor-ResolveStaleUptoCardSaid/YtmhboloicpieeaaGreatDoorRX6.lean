/- A part of the proof. -/
import Derived.Test.YtmhboloicpieeaaGreatDoorRX2
import Derived.Test.YtmhboloicpieeaaGreatDoorRL3a
import Derived.Test.YtmhboloicpieeaaGreatDoorRAbCe
import Derived.Test.YtmhboloicpieeaaGreatDoorRH7
set_option linter.all false
namespace Go.Proofs.YtmhboloicpieeaaGreatDoor
open Go.Ab Tys
variable [Dr]
@[reducible] def nilK : C := .d (.v (.slice none 0 0))
@[reducible] def pPatO : Option Pat → Bool × List C
 | none => (true, [nilK, .d (.v (.bool false))])
 | some p => pPat p
theorem meetT_len (p q : Pat) : ∀ k, (meetT p q k).length = k
 | 0 => rfl
 | k + 1 => by simp [meetT, meetT_len p q k]
theorem meet1_cond {p q : Pat} : (bif bif decide ((q.parts.length : Int) < p.parts.length) then !q.rest else false then true else bif decide ((p.parts.length : Int) = q.parts.length) then !(p.rest == q.rest) else false) =
  decide ((q.parts.length < p.parts.length ∧ q.rest = false) ∨ (p.parts.length = q.parts.length ∧ p.rest ≠ q.rest)) := by
 rw [show decide ((q.parts.length : Int) < p.parts.length) = decide (q.parts.length < p.parts.length) by simp, show decide ((p.parts.length : Int) = q.parts.length) = decide (p.parts.length = q.parts.length) from decide_eq_decide.2 (by omega)]
 by_cases a : q.parts.length < p.parts.length <;> by_cases b : p.parts.length = q.parts.length <;> cases e1 : p.rest <;> cases e2 : q.rest <;> simp_all
def k129 := And.intro @Tryz.ntmps129 <| And.intro @Tryz.underlying4 <| And.intro @Tryz.underlying77 <| And.intro @bld79 <| And.intro @elt77 <| And.intro @fld79_0 <| And.intro @fld79_1 <| And.intro @ti4 <| And.intro @ti77 <| And.intro @ti79 <| @ti9
theorem v129X6 {G G' : Prop} (g : G') (h : Hid G' → G := by intro h9; (first | refine nvB ?_ | refine goA (wr := false) (by simp only [kB, kG, kS, k129, Nat.reduceAdd, Nat.reduceLT, Nat.reduceEqDiff, ↓reduceIte, reduceCtorEq]; first | done | rfl) ?_); (repeat (first | refine nvB ?_ | refine goA (wr := false) (by simp only [kB, kG, kS, k129, Nat.reduceAdd, Nat.reduceLT, Nat.reduceEqDiff, ↓reduceIte, reduceCtorEq]; first | done | rfl) ?_)); exact h9.out) : G := h ⟨g⟩
set_option maxRecDepth 100000 in
set_option maxHeartbeats 8000000 in
theorem meet_ac (p q : Pat) (hp : PB 1000000 p) (hq : PB 1000000 q) : AC Tryz.prog 129 [aPat p, aPat q] [] (fun r st => r = .tup [pPatO (meetP p q), pB (meetP p q).isSome] ∧ st = []) := by
 have hcp := check3_ac p hp
 have hcq := check3_ac q hq
 have hok : okP p = decide (checkP p = 0) := rfl
 have hokq : okP q = decide (checkP q = 0) := rfl
 obtain ⟨a, b, hab⟩ : ∃ a b : Pat, (a, b) = if p.parts.length < q.parts.length then (q, p) else (p, q) := ⟨_, _, rfl⟩
 have hM : meetP p q = if okP p && okP q then meet1 a b else none := by
  unfold meetP
  split
  ·by_cases hl : p.parts.length < q.parts.length
   ·rw [if_pos hl] at hab ⊢; cases hab; rfl
   ·rw [if_neg hl] at hab ⊢; cases hab; rfl
  ·rfl
 have ha : PB 1000000 a := by split at hab <;> cases hab <;> assumption
 have hb : PB 1000000 b := by split at hab <;> cases hab <;> assumption
 have hba : b.parts.length ≤ a.parts.length := by split at hab <;> (cases hab; omega)
 generalize hMM : meetP p q = M at hM
 generalize checkP p = ep at hcp hok
 generalize checkP q = eq at hcq hokq
 refine AC_enter Tryz.func129 rfl rfl (by simp only [Tryz.ntmps129, List.length]; omega) ?_
 intro x hx
 simp only [List.range, List.range.loop, List.length, List.zip, List.zipWith, Nat.reduceAdd, Tryz.ntmps129]
 (repeat (first | refine v129X6 ?_ | (refine caA [] (hcp) ?_; rintro r st' ⟨rfl, rfl⟩; refine frA ?_)))
 refine TO_stepO (wr := false) ([(15, I .i64 eq)] : List (Nat × AV)) rfl (by simp only [kD, kB, kG, kS, k129, Nat.reduceAdd, Nat.reduceLT, Nat.reduceEqDiff, ↓reduceIte, reduceCtorEq]; first | done | rfl) ?_ ?_
 ·simp only [All, List.cons_append, List.nil_append, InR, List.mem_cons, List.not_mem_nil, or_false, forall_eq_or_imp, forall_eq, clAV, clCs, clC, clCaps, clCap, and_true, true_and, implies_true, List.length_map, List.length_cons, List.length_nil, dArr, cl_arr, tyCs]
  repeat' (first | exact trivial | exact hcq | refine And.intro ?_ ?_ | intro _ | assumption | rfl | omega | (simp; done) | (simp_all; done))
 simp only [kP, Nat.reduceEqDiff, ↓reduceIte, reduceCtorEq]
 try refine v129X6 ?_
 refine ifA ?_ ?_
 ·intro h
  have hR : M = none := by
   rw [hM, hok, hokq]
   by_cases e1 : ep = 0
   ·by_cases e2 : eq = 0
    ·simp only [e1, e2, decide_true, Bool.not_true, cond_false] at h; cases h
    ·simp [e2]
   ·simp [e1]
  try refine v129X6 ?_
  refine rtA (by simp only [kR, Tryz.results129, ↓reduceIte, Nat.reduceEqDiff, reduceCtorEq, effLoad, cellsOf, List.map, List.length_cons, List.length_nil, List.getD_cons_zero, List.getD_cons_succ, List.getD_nil, List.drop, List.take, splice, ti79]; first | done | rfl) ([]) ?_
  refine ⟨?_, rfl⟩
  rw [hR]; rfl
 intro h
 have h0 : ep = 0 ∧ eq = 0 := by
  by_cases e1 : ep = 0
  ·by_cases e2 : eq = 0
   ·exact ⟨e1, e2⟩
   ·simp [e1, e2] at h
  ·simp [e1] at h
 obtain ⟨e1, e2⟩ := h0
 simp only [hok, hokq, e1, e2, decide_true, Bool.and_true, if_true] at hM
 try refine v129X6 ?_
 refine T_join ⟨107, [(2, .c (.ptr 2 0)), (3, .c (.ptr 3 0)), (4, .c (.ptr 4 0))], [(2, .box ((encPat a).map C.d)), (3, .box ((encPat b).map C.d)), (4, .box [nilK, .d (.v (.bool false))])]⟩ ?_ ?_
 ·refine ifA ?_ ?_
  ·intro hl
   have hl' : p.parts.length < q.parts.length := by have := of_decide_eq_true hl; omega
   rw [if_pos hl'] at hab
   cases hab
   try refine v129X6 ?_
   refine ⟨rfl, ?_⟩
   exact enA
  ·intro hl
   have hl' : ¬ p.parts.length < q.parts.length := by have := of_decide_eq_false hl; omega
   rw [if_neg hl'] at hab
   cases hab
   try refine v129X6 ?_
   refine ⟨rfl, ?_⟩
   exact enA
 clear hcp hcq hok hokq hp hq
 have hcond := meet1_cond (p := a) (q := b)
 have hm1 : meet1 a b = if (b.parts.length < a.parts.length ∧ b.rest = false) ∨ (a.parts.length = b.parts.length ∧ a.rest ≠ b.rest) then none
  else if (List.range a.parts.length).all (meetB a b) then some ⟨meetT a b a.parts.length, a.rest⟩ else none := rfl
 rw [hm1] at hM
 have hbB : ∀ i, meetB a b i = (decide (b.parts.length ≤ i) || insideB (a.parts.getD i noS) (b.parts.getD i noS) || insideB (b.parts.getD i noS) (a.parts.getD i noS)) := fun _ => rfl
 have hbT : ∀ k, meetT a b (k + 1) = meetT a b k ++ [if decide (b.parts.length ≤ k) || insideB (a.parts.getD k noS) (b.parts.getD k noS) then a.parts.getD k noS else b.parts.getD k noS] := fun _ => rfl
 have hb0 : meetT a b 0 = [] := rfl
 have hbl := meetT_len a b
 have hag := ha.get
 have hbg := hb.get
 have ha1 := ha.1
 have hb1 := hb.1
 generalize meetT a b = mT at hM hbT hbl hb0
 generalize meetB a b = mB at hM hbB
 obtain ⟨ps, rp⟩ := a
 obtain ⟨qs, rq⟩ := b
 simp only at hcond hM hbB hbT hba ha1 hb1 hag hbg
 try refine v129X6 ?_
 refine ifA ?_ ?_
 ·intro h
  rw [hcond] at h
  rw [if_pos (of_decide_eq_true h)] at hM
  try refine v129X6 ?_
  refine rtA (by simp only [kR, Tryz.results129, ↓reduceIte, Nat.reduceEqDiff, reduceCtorEq, effLoad, cellsOf, List.map, List.length_cons, List.length_nil, List.getD_cons_zero, List.getD_cons_succ, List.getD_nil, List.drop, List.take, splice, ti79]; first | done | rfl) ([]) ?_
  refine ⟨?_, rfl⟩
  rw [hM]; rfl
 intro h
 rw [hcond] at h
 rw [if_neg (of_decide_eq_false h)] at hM
 refine nvA ?_
 refine goA (wr := false) (by simp only [kB, kG, kS, k129, Nat.reduceAdd, Nat.reduceLT, Nat.reduceEqDiff, ↓reduceIte, reduceCtorEq]; first | done | rfl) ?_
 refine nvA ?_
 refine TO_ent (Ent_adoptCell (bid := 7) (j := 0) (id := 100) (sz := 1) rfl rfl rfl (by omega)) ?_
 refine fzA ?_
 try refine v129X6 ?_
 refine T_loop (ι := Nat) (I := fun k => ⟨107, [(3, .c (.ptr 3 0)), (4, .c (.ptr 4 0)), (6, I .i64 qs.length), (7, .c (.ptr 7 0)), (60, aStrs ps), (61, I .i64 ps.length), (62, I .i64 k)],
   [(3, .box ((encPat ⟨qs, rq⟩).map C.d)), (4, .box [nilK, .d (.v (.bool false))]), (7, .box [.ms 100 1 0 (mT k).length, .d (.v (.bool rp))]), (100, dArr 1 ((mT k).map encS))]⟩)
  (Inv := fun k => k ≤ ps.length ∧ (List.range k).all mB = true) (μ := fun k => ps.length - k) 0 ⟨by omega, rfl⟩ ?_ ?_
 ·(refine Ent_sub (fun i => i) rfl ?_ ⟨?_, ?_, ?_, keepI hx (by simp [domOf, Ab.get])⟩ <;> first | (simp only [kE, dArr, ↓reduceIte, Nat.reduceEqDiff, reduceCtorEq, hb0]; done) | simp [renAV_id, renAO_id, flat_up, Ab.get, clAV, clC, clCs, clAO, cl_f1, cl_s1, cl_f2, cl_s2, cl_a1, domOf, List.flatten, hb0])
 rintro k ⟨hk, hall⟩
 have hbk := hbl k
 try refine v129X6 ?_
 refine ifA ?_ ?_
 ·intro hlt
  have hlt' : k < ps.length := by simpa using hlt
  obtain ⟨v, hv, he, _⟩ := round encS ps k noS hlt'
  have ev := getD_sm (z := noS) hv
  have hvs : v.size ≤ 1000000 := by rw [← ev]; exact hag k
  have e0 : ((qs.map encS).getD k []).getD 0 (D.v (.string .empty)) = D.v (.string (qs.getD k noS)) := by
   simp only [List.getD_eq_getElem?_getD, List.getElem?_map]
   cases qs[k]? <;> rfl
  have hin : AC Tryz.prog 184 [Str v, .c (.d (((qs.map encS).getD k []).getD 0 (D.v (.string .empty))))] [] (fun r st => r = B (insideB v (qs.getD k noS)) ∧ st = []) := by rw [e0]; exact inside_ac v _ hvs (hbg k)
  have hbBk := hbB k
  rw [ev] at hbBk
  have hbTk := hbT k
  rw [ev] at hbTk
  (repeat (first | refine nvB ?_ | refine goA (wr := false) (by simp only [kB, kG, kS, k129, Nat.reduceAdd, Nat.reduceLT, Nat.reduceEqDiff, ↓reduceIte, reduceCtorEq, he]; first | done | rfl) ?_))
  refine TO_stepO (wr := false) ([(79, B (insideB v (qs.getD k noS)))] : List (Nat × AV)) rfl (by simp only [kD, kB, kG, kS, k129, Nat.reduceAdd, Nat.reduceLT, Nat.reduceEqDiff, ↓reduceIte, reduceCtorEq]; first | done | rfl) ?_ ?_
  ·simp only [All, List.cons_append, List.nil_append, InR, List.mem_cons, List.not_mem_nil, or_false, forall_eq_or_imp, forall_eq, clAV, clCs, clC, clCaps, clCap, and_true, true_and, implies_true, List.length_map, List.length_cons, List.length_nil, dArr, cl_arr, tyCs]
   repeat' (first | exact trivial | exact hin | refine And.intro ?_ ?_ | intro _ | assumption | rfl | omega | (simp; done) | (simp_all; done))
  simp only [kP, Nat.reduceEqDiff, ↓reduceIte, reduceCtorEq]
  try refine v129X6 ?_
  have e9 : (bif decide ((qs.length : Int) ≤ k) then true else insideB v (qs.getD k noS)) = (decide (qs.length ≤ k) || insideB v (qs.getD k noS)) := by
   rw [show decide ((qs.length : Int) ≤ k) = decide (qs.length ≤ k) by simp]; cases decide (qs.length ≤ k) <;> rfl
  refine ifA ?_ ?_
  ·intro hc
   rw [e9] at hc
   try refine v129X6 ?_
   refine ⟨k + 1, ⟨by omega, by rw [List.range_succ, List.all_append, hall]; simp only [List.all_cons, List.all_nil, hbBk, hc]; rfl⟩, by omega, ?_⟩
   rw [hc, if_pos rfl] at hbTk
   rw [hbTk]
   exact enR (fun i => if i = 100 then 85 else i)
  intro hc
  rw [e9] at hc
  have hkn : k < qs.length := by
   by_cases e : qs.length ≤ k
   ·simp [e] at hc
   ·omega
  obtain ⟨u, hu, he2, _⟩ := round encS qs k noS hkn
  have eu := getD_sm (z := noS) hu
  have hus : u.size ≤ 1000000 := by rw [← eu]; exact hbg k
  (repeat (first | refine nvB ?_ | refine goA (wr := false) (by simp only [kB, kG, kS, k129, Nat.reduceAdd, Nat.reduceLT, Nat.reduceEqDiff, ↓reduceIte, reduceCtorEq, he2]; first | done | rfl) ?_ | (refine caA [] (inside_ac u v hus hvs) ?_; rintro r st' ⟨rfl, rfl⟩; refine frA ?_)))
  refine ifA ?_ ?_
  ·intro hd
   refine nvA ?_
   refine drA (wr := false) ([] : List (Nat × AV)) (by simp only [kD, kB, kG, kS, k129, Nat.reduceAdd, Nat.reduceLT, Nat.reduceEqDiff, ↓reduceIte, reduceCtorEq, he2]; first | done | rfl) ?_ ?_
   ·exact obN
   try refine v129X6 ?_
   refine ⟨k + 1, ⟨by omega, by rw [List.range_succ, List.all_append, hall]; simp only [List.all_cons, List.all_nil, hbBk, eu, hd, Bool.or_true, Bool.and_true]⟩, by omega, ?_⟩
   rw [hc, if_neg (by simp), eu] at hbTk
   rw [hbTk]
   exact enR (fun i => if i = 100 then 103 else i)
  ·intro hd
   have hR : M = none := by
    rw [hM, if_neg]
    intro e
    have := range_all _ k _ hlt' e
    rw [hbBk, hc, eu, hd] at this; cases this
   try refine v129X6 ?_
   refine rtA (by simp only [kR, Tryz.results129, ↓reduceIte, Nat.reduceEqDiff, reduceCtorEq, effLoad, cellsOf, List.map, List.length_cons, List.length_nil, List.getD_cons_zero, List.getD_cons_succ, List.getD_nil, List.drop, List.take, splice, ti79]; first | done | rfl) ([]) ?_
   refine ⟨?_, rfl⟩
   rw [hR]; rfl
 intro hge
 have hk' : k = ps.length := by have : ¬ k < ps.length := by simpa using hge
                                omega
 subst hk'
 rw [if_pos hall] at hM
 refine nvA ?_
 refine TO_ent (Ent_frzCell (bid := 7) (id := 100) (sz := 1) (j := 0) (ys := (mT ps.length).map encS) (by decide) rfl rfl rfl (by simp)) ?_
 refine fzA ?_
 try refine v129X6 ?_
 refine rtA (by simp only [kR, Tryz.results129, ↓reduceIte, Nat.reduceEqDiff, reduceCtorEq, effLoad, cellsOf, List.map, List.length_cons, List.length_nil, List.getD_cons_zero, List.getD_cons_succ, List.getD_nil, List.drop, List.take, splice, ti79]; first | done | rfl) ([]) ?_
 refine ⟨?_, rfl⟩
 rw [hM]; rfl
end Go.Proofs.YtmhboloicpieeaaGreatDoor

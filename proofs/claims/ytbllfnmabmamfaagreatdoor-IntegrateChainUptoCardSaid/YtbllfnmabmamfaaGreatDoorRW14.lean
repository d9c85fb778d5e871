/- A part of the proof. -/
import Derived.Test.YtbllfnmabmamfaaGreatDoorRBd2
import Derived.Test.YtbllfnmabmamfaaGreatDoorRW12
import Derived.Test.YtbllfnmabmamfaaGreatDoorRW13
import Derived.Test.YtbllfnmabmamfaaGreatDoorRU10
import Derived.Test.YtbllfnmabmamfaaGreatDoorRT8
import Derived.Test.YtbllfnmabmamfaaGreatDoorRR2a
import Derived.Test.YtbllfnmabmamfaaGreatDoorRH8
set_option linter.all false
namespace Go.Proofs.YtbllfnmabmamfaaGreatDoor
open Go.Ab Tys
theorem mem_memL {d : Dep} (hg : Good d.revs) {f : Fil} {v : Rev} (h : alook (memL d.revs) f = some v) : ∃ i : Nat, d.revs[i]? = some v ∧ ¬ v.act = 5 ∧ fileOf v = f := by
  obtain ⟨h1, h2, h3⟩ := alook_memL h
  obtain ⟨i, hi⟩ := List.getElem?_of_mem h1
  exact ⟨i, hi, h2, h3⟩
theorem remS_some' {d : Dep} {s t : Fil} {l : List Fil} (h : remS d s t = some l) : ∃ v w, member? d s.path s.num = some v ∧ member? d t.path t.num = some w ∧ l = remL d v t := by
  unfold remS at h
  split at h
  · rename_i v w h1 h2
    exact ⟨v, w, h1, h2, by simpa using h.symm⟩
  · cases h
@[reducible] def stC (s m t : Fil) (d : Dep) (f : Fil) : List (Nat × AO) := [(5, .box ((encFil s).map C.d)), (6, .box ((encFil m).map C.d)), (7, .box ((encFil t).map C.d)), (9, .box ((encDep d).map C.d)), (10, .box ((encFil f).map C.d))]
def k5 := And.intro @Tryz.ntmps5 <| And.intro @Tryz.underlying27 <| And.intro @Tryz.underlying65 <| And.intro @Tryz.underlying9 <| And.intro @bld30 <| And.intro @bld37 <| And.intro @bld46 <| And.intro @elt27 <| And.intro @elt65 <| And.intro @eqt37 <| And.intro @fld37_0 <| And.intro @fld37_1 <| And.intro @fld46_0 <| And.intro @fld46_1 <| And.intro @kyt37 <| And.intro @mpt68 <| And.intro @ti27 <| And.intro @ti3 <| And.intro @ti30 <| And.intro @ti37 <| And.intro @ti4 <| And.intro @ti46 <| And.intro @ti65 <| And.intro @ti68 <| @ti9
theorem v5W14 {G G' : Prop} (g : G') (h : Hid G' → G := by intro h9; (first | refine nvB ?_ | refine goA (wr := false) (by simp only [kB, kG, kM, k5, Nat.reduceAdd, Nat.reduceLT, Nat.reduceEqDiff, ↓reduceIte, reduceCtorEq]; first | done | rfl) ?_); (repeat (first | refine nvB ?_ | refine goA (wr := false) (by simp only [kB, kG, kM, k5, Nat.reduceAdd, Nat.reduceLT, Nat.reduceEqDiff, ↓reduceIte, reduceCtorEq]; first | done | rfl) ?_)); exact h9.out) : G := h ⟨g⟩
set_option maxRecDepth 100000 in
set_option maxHeartbeats 32000000 in
theorem chainL_ac (hL : ∀ d, Good d.revs → d.revs.length ≤ 512 → PathOK d → ListC d) (l : List Chg) (hf : Few l) (s m t : Fil) (hs : s.path.size ≤ 2000000) (hm : m.path.size ≤ 2000000) (ht : t.path.size ≤ 2000000) :
    AC Tryz.prog 5 [.c (.d (.ps 5 (l.map encChg))), aFil s, aFil m, aFil t] [] (fun r st => r = B true ∧ st = []) := by
  have haw := awake_ac
  refine AC_enter Tryz.func5 rfl rfl (by simp only [Tryz.ntmps5, List.length]; omega) ?_
  intro x hx
  simp only [List.range, List.range.loop, List.length, List.zip, List.zipWith, Nat.reduceAdd, Tryz.ntmps5]
  try refine v5W14 ?_
  refine caA [] (small_ac l hf) ?_
  rintro r st' ⟨⟨b, rfl, hb⟩, rfl⟩ <;> refine frA ?_
  try refine v5W14 ?_
  refine ifA ?_ ?_
  · intro _
    (repeat (first | refine v5W14 ?_ | (refine caA [] (haw) ?_; rintro r st' ⟨rfl, rfl⟩; refine frA ?_)))
    refine rtA (by simp only [kR, Tryz.results5, ↓reduceIte, Nat.reduceEqDiff, reduceCtorEq]; first | done | rfl) ([]) ?_
    refine ⟨?_, rfl⟩
    rfl
  intro hc
  have hb1 : b = true := by cases b <;> simp_all
  obtain ⟨b1, b2, b3⟩ := hb hb1
  try refine v5W14 ?_
  refine caA [] (build_ac l (by omega) (sC_ok b2 b3)) ?_
  rintro r st' ⟨⟨d, rfl, hB⟩, rfl⟩ <;> refine frA ?_
  obtain ⟨o1, o2, o3⟩ := hB.ok
  have hg := hB.good
  have hI1 := Identity_ac d hg (by omega) s.path s.num
  have hI2 := Identity_ac d hg (by omega) m.path m.num
  cases hk1 : alook (memL d.revs) s with
  | none =>
    have e1 : idM (memL d.revs) ⟨s.path, s.num⟩ = none := by rw [idM, show (⟨s.path, s.num⟩ : Fil) = s from rfl, hk1]; rfl
    rw [e1] at hI1
    simp only [pB, Option.isSome, Option.getD] at hI1
    generalize hI2b : (idM (memL d.revs) ⟨m.path, m.num⟩).isSome = q at hI2
    generalize (idM (memL d.revs) ⟨m.path, m.num⟩).getD zFil = q2 at hI2
    (repeat (first | refine v5W14 ?_ | (refine caA [] (hI1) ?_; rintro r st' ⟨rfl, rfl⟩; refine frA ?_) | (refine caA [] (hI2) ?_; rintro r st' ⟨rfl, rfl⟩; refine frA ?_)))
    refine ifA ?_ ?_
    rotate_left
    · intro h; cases h
    intro _
    (repeat (first | refine v5W14 ?_ | (refine caA [] (haw) ?_; rintro r st' ⟨rfl, rfl⟩; refine frA ?_)))
    refine rtA (by simp only [kR, Tryz.results5, ↓reduceIte, Nat.reduceEqDiff, reduceCtorEq]; first | done | rfl) ([]) ?_
    refine ⟨?_, rfl⟩
    rfl
  | some v =>
    obtain ⟨iv, hv, v5, rfl⟩ := mem_memL hg hk1
    have e1 : idM (memL d.revs) ⟨(fileOf v).path, (fileOf v).num⟩ = some (first d v) := idM_first hg o1 hv v5
    rw [e1] at hI1
    simp only [pB, Option.isSome, Option.getD] at hI1
    cases hk2 : alook (memL d.revs) m with
    | none =>
      have e2 : idM (memL d.revs) ⟨m.path, m.num⟩ = none := by rw [idM, show (⟨m.path, m.num⟩ : Fil) = m from rfl, hk2]; rfl
      rw [e2] at hI2
      simp only [pB, Option.isSome, Option.getD] at hI2
      (repeat (first | refine v5W14 ?_ | (refine caA [] (hI1) ?_; rintro r st' ⟨rfl, rfl⟩; refine frA ?_) | (refine caA [] (hI2) ?_; rintro r st' ⟨rfl, rfl⟩; refine frA ?_)))
      refine ifA ?_ ?_
      rotate_left
      · intro h; cases h
      intro _
      (repeat (first | refine v5W14 ?_ | (refine caA [] (haw) ?_; rintro r st' ⟨rfl, rfl⟩; refine frA ?_)))
      refine rtA (by simp only [kR, Tryz.results5, ↓reduceIte, Nat.reduceEqDiff, reduceCtorEq]; first | done | rfl) ([]) ?_
      refine ⟨?_, rfl⟩
      rfl
    | some w =>
      obtain ⟨iw, hw, w5, rfl⟩ := mem_memL hg hk2
      have e2 : idM (memL d.revs) ⟨(fileOf w).path, (fileOf w).num⟩ = some (first d w) := idM_first hg o1 hw w5
      rw [e2] at hI2
      simp only [pB, Option.isSome, Option.getD] at hI2
      generalize first d w = fw at hI2
      (repeat (first | refine v5W14 ?_ | (refine caA [] (hI1) ?_; rintro r st' ⟨rfl, rfl⟩; refine frA ?_) | (refine caA [] (hI2) ?_; rintro r st' ⟨rfl, rfl⟩; refine frA ?_)))
      refine ifA ?_ ?_
      · intro _
        (repeat (first | refine v5W14 ?_ | (refine caA [] (haw) ?_; rintro r st' ⟨rfl, rfl⟩; refine frA ?_)))
        refine rtA (by simp only [kR, Tryz.results5, ↓reduceIte, Nat.reduceEqDiff, reduceCtorEq]; first | done | rfl) ([]) ?_
        refine ⟨?_, rfl⟩
        rfl
      intro _
      have hS := hB.src
      have hP := hL d hg o1 hB.paths
      have hCr := Carried_ac d hg o1 o2 hS hP (fun f g h => SA_file f g (.inl h)) iw w hw w5
      try refine v5W14 ?_
      refine caA [] (hCr) ?_
      rintro r st' ⟨⟨lc, hlc, hlcl, rfl⟩, rfl⟩ <;> refine frA ?_
      try refine v5W14 ?_
      refine ifA ?_ ?_
      · intro h; simp at h
      intro _
      try refine v5W14 ?_
      refine T_loop (ι := Nat × List Fil) (I := fun j => ⟨181, [(5, .c (.ptr 5 0)), (6, .c (.ptr 6 0)), (7, .c (.ptr 7 0)), (9, .c (.ptr 9 0)), (10, .c (.ptr 10 0)), (16, .c (.mp 90)), (91, aFils lc), (92, I .i64 lc.length), (93, I .i64 j.1)], stC (fileOf v) (fileOf w) t d (first d v) ++ [(90, uMap kF j.2)]⟩)
        (Inv := fun j => j.1 ≤ lc.length ∧ ∀ g, g ∈ j.2 ↔ g ∈ lc.take j.1) (μ := fun j => lc.length - j.1) (0, []) ⟨by simp, by simp⟩ ?_ ?_
      · exact enA
      rintro ⟨q, hs0⟩ ⟨hq, hh⟩
      simp only at hq hh ⊢
      try refine v5W14 ?_
      refine ifA ?_ ?_
      · intro hlt
        have hlt' : q < lc.length := by simpa using hlt
        obtain ⟨x0, hx0, he, htk⟩ := round encFil lc q zFil hlt'
        (repeat (first | refine nvB ?_ | refine goA (wr := false) (by simp only [kB, kG, kM, k5, Nat.reduceAdd, Nat.reduceLT, Nat.reduceEqDiff, ↓reduceIte, reduceCtorEq, he]; first | done | rfl) ?_))
        refine TO_go (wr := false) 400 (by simp only [kB, kG, kM, k5, Nat.reduceAdd, Nat.reduceLT, Nat.reduceEqDiff, ↓reduceIte, reduceCtorEq, ins_F]; first | done | rfl) ?_ ?_
        · exact obT (ty_F hs0)
        try refine v5W14 ?_
        refine ⟨(q + 1, addS hs0 x0), ⟨by simp; omega, fun g => ?_⟩, by simp; omega, ?_⟩
        · rw [mem_addS, hh g, htk]; simp
        · exact enA
      intro hge
      have hge' : q = lc.length := by have : ¬ q < lc.length := by simpa using hge
                                      omega
      subst hge'
      rw [List.take_length] at hh
      refine T_ent (Ent_frzMapSlot (i := 16) (id := 90) rfl rfl) ?_
      refine fzA ?_
      have hRa := Remaining_ac d hg o1 o2 (fileOf w) t
      have hRb := Remaining_ac d hg o1 o2 (fileOf v) t
      have hLn := hLine_ac d (by omega) (first d v)
      have hmem := fun u => lnP_mem hg o1 (f := first d v) (u := u)
      have hpw := line_pair hg o1 (first d v)
      have hlen : (lnP d (first d v)).length ≤ 512 := by rw [lnP_line hg o1]; exact Nat.le_trans (List.length_filter_le ..) o1
      generalize lnP d (first d v) = line at hLn hmem hpw hlen
      (repeat (first | refine v5W14 ?_ | (refine caA [] (hLn) ?_; rintro r st' ⟨rfl, rfl⟩; refine frA ?_)))
      refine T_loop (ι := Nat × Bool) (I := fun j => ⟨181, [(5, .c (.ptr 5 0)), (6, .c (.ptr 6 0)), (7, .c (.ptr 7 0)), (9, .c (.ptr 9 0)), (16, .c (.d (.pm (sEnt kF hs0)))), (19, B j.2), (102, aRevs line), (103, I .i64 line.length), (104, I .i64 j.1)], stC (fileOf v) (fileOf w) t d (first d v)⟩)
        (Inv := fun j => j.1 ≤ line.length ∧ (j.2 = true → ∀ u ∈ line.take j.1, ∀ g, (SA d (fileOf u)).con g → g ∈ hs0)) (μ := fun j => line.length - j.1) (0, true) ⟨by simp, by simp⟩ ?_ ?_
      · exact enA
      rintro ⟨k, p⟩ ⟨hk, hps⟩
      simp only at hk hps ⊢
      try refine v5W14 ?_
      refine ifA ?_ ?_
      rotate_left
      · intro hge
        have hge' : k = line.length := by have : ¬ k < line.length := by simpa using hge
                                          omega
        subst hge'
        rw [List.take_length] at hps
        have hfin : p = true → ∀ u ∈ line, u.chg ≤ v.chg → ∀ g, (SA d (fileOf u)).con g → g ∈ hs0 := fun hp u hu _ => hps hp u hu
        clear hps hge
        simp only [remA] at hRa hRb
        have hca : (if (remS d (fileOf w) t).isSome then (0 : Int) else 150) = 0 → remS d (fileOf w) t = some ((remS d (fileOf w) t).getD []) := by
          cases remS d (fileOf w) t <;> simp
        have hcb : (if (remS d (fileOf v) t).isSome then (0 : Int) else 150) = 0 → remS d (fileOf v) t = some ((remS d (fileOf v) t).getD []) := by
          cases remS d (fileOf v) t <;> simp
        generalize (if (remS d (fileOf w) t).isSome then (0 : Int) else 150) = ca at hRa hca
        generalize (if (remS d (fileOf v) t).isSome then (0 : Int) else 150) = cb at hRb hcb
        generalize (remS d (fileOf w) t).getD [] = La at hRa hca
        generalize (remS d (fileOf v) t).getD [] = Lb at hRb hcb
        (repeat (first | refine v5W14 ?_ | (refine caA [] (hRa) ?_; rintro r st' ⟨rfl, rfl⟩; refine frA ?_) | (refine caA [] (hRb) ?_; rintro r st' ⟨rfl, rfl⟩; refine frA ?_)))
        refine ifA ?_ ?_
        · intro _
          (repeat (first | refine v5W14 ?_ | (refine caA [] (haw) ?_; rintro r st' ⟨rfl, rfl⟩; refine frA ?_)))
          refine rtA (by simp only [kR, Tryz.results5, ↓reduceIte, Nat.reduceEqDiff, reduceCtorEq]; first | done | rfl) ([]) ?_
          refine ⟨?_, rfl⟩
          rfl
        intro hcc
        have hh3 : ca = 0 ∧ cb = 0 ∧ p = true ∧ La = [] := by
          revert hcc
          cases p <;> by_cases h1 : ca = 0 <;> by_cases h2 : cb = 0 <;> simp [h1, h2]
        obtain ⟨rfl, rfl, hpt, rfl⟩ := hh3
        have hLb : Lb = [] := by
          obtain ⟨m1, _, hm1, _, hr1⟩ := remS_some' (hca rfl)
          obtain ⟨m2, _, hm2, _, hr2⟩ := remS_some' (hcb rfl)
          obtain ⟨j1, q1, q2, _⟩ := (member?_iff hg).1 hm1
          obtain ⟨j2, q3, q4, _⟩ := (member?_iff hg).1 hm2
          have := good_file hg q1 hw q2
          subst this
          rw [hw] at q1; cases q1
          have := good_file hg q3 hv q4
          subst this
          rw [hv] at q3; cases q3
          rw [hr2]
          refine chain_rem hg o1 (i := 0) hw w5 hr1.symm ?_
          intro k' u' hk' u5' hf' hc' g hcon
          exact (hlc g).1 ((hh g).1 (hfin hpt u' ((hmem u').2 ⟨List.mem_of_getElem? hk', u5', hf'⟩) hc' g hcon))
        subst hLb
        try refine v5W14 ?_
        refine TO_stepO (wr := false) ([(179, B true)] : List (Nat × AV)) rfl (by simp only [kD, kB, kG, kM, k5, Nat.reduceAdd, Nat.reduceLT, Nat.reduceEqDiff, ↓reduceIte, reduceCtorEq]; first | done | rfl) ?_ ?_
        · simp only [All, List.cons_append, List.nil_append, InR, List.mem_cons, List.not_mem_nil, or_false, forall_eq_or_imp, forall_eq, clAV, clCs, clC, clCaps, clCap, and_true, true_and, implies_true, List.length_map, List.length_cons, List.length_nil, dArr, cl_arr, tyCs]
          repeat' (first | exact trivial | exact haw | refine And.intro ?_ ?_ | intro _ | assumption | rfl | omega | (simp; done) | (simp_all; done))
        simp only [kP, Nat.reduceEqDiff, ↓reduceIte, reduceCtorEq]
        try refine v5W14 ?_
        refine rtA (by simp only [kR, Tryz.results5, ↓reduceIte, Nat.reduceEqDiff, reduceCtorEq]; first | done | rfl) ([]) ?_
        refine ⟨?_, rfl⟩
        rfl
      intro hlt
      have hlt' : k < line.length := by simpa using hlt
      obtain ⟨u, hu, he, htk⟩ := round encRev line k zRev hlt'
      obtain ⟨u1, u2, u3⟩ := (hmem u).1 (List.mem_of_getElem? hu)
      obtain ⟨iu, hiu⟩ := List.getElem?_of_mem u1
      have hCt := Contribution_ac d hg o1 o2 hS hP (fun f g h => SA_file f g (.inr (.inl h))) iu u hiu u2
      (repeat (first | refine nvB ?_ | refine goA (wr := false) (by simp only [kB, kG, kM, k5, Nat.reduceAdd, Nat.reduceLT, Nat.reduceEqDiff, ↓reduceIte, reduceCtorEq, he]; first | done | rfl) ?_))
      refine caA [] (hCt) ?_
      rintro r st' ⟨⟨la, hla, hlal, rfl⟩, rfl⟩ <;> refine frA ?_
      try refine v5W14 ?_
      refine T_loop (ι := Nat × Bool) (I := fun j => ⟨181, [(5, .c (.ptr 5 0)), (6, .c (.ptr 6 0)), (7, .c (.ptr 7 0)), (9, .c (.ptr 9 0)), (16, .c (.d (.pm (sEnt kF hs0)))), (19, B j.2), (21, .c (.ptr 21 0)), (23, I .i64 0), (102, aRevs line), (103, I .i64 line.length), (104, I .i64 k), (117, aFils la), (118, I .i64 la.length), (119, I .i64 j.1)], stC (fileOf v) (fileOf w) t d (first d v) ++ [(21, .box ((encRev u).map C.d))]⟩)
        (Inv := fun j => j.1 ≤ la.length ∧ (j.2 = true → p = true ∧ ∀ g ∈ la.take j.1, g ∈ hs0)) (μ := fun j => la.length - j.1) (0, p) ⟨by simp, by simp⟩ ?_ ?_
      · exact enA
      rintro ⟨q, p2⟩ ⟨hq, hp2⟩
      simp only at hq hp2 ⊢
      try refine v5W14 ?_
      refine ifA ?_ ?_
      · intro hlt2
        have hlt2' : q < la.length := by simpa using hlt2
        obtain ⟨x0, hx0, he2, htk2⟩ := round encFil la q zFil hlt2'
        cases p2 with
        | false =>
          (repeat (first | refine nvB ?_ | refine goA (wr := false) (by simp only [kB, kG, kM, k5, Nat.reduceAdd, Nat.reduceLT, Nat.reduceEqDiff, ↓reduceIte, reduceCtorEq, he2]; first | done | rfl) ?_))
          refine TO_go (wr := false) 400 (by simp only [kB, kG, kM, k5, Nat.reduceAdd, Nat.reduceLT, Nat.reduceEqDiff, ↓reduceIte, reduceCtorEq, look_F]; first | done | rfl) ?_ ?_
          · exact obT (ty_F hs0)
          try refine v5W14 ?_
          refine ⟨(q + 1, false), ⟨by simp; omega, by simp⟩, by simp; omega, ?_⟩
          exact enA
        | true =>
          (repeat (first | refine nvB ?_ | refine goA (wr := false) (by simp only [kB, kG, kM, k5, Nat.reduceAdd, Nat.reduceLT, Nat.reduceEqDiff, ↓reduceIte, reduceCtorEq, he2]; first | done | rfl) ?_))
          refine TO_go (wr := false) 400 (by simp only [kB, kG, kM, k5, Nat.reduceAdd, Nat.reduceLT, Nat.reduceEqDiff, ↓reduceIte, reduceCtorEq, look_F]; first | done | rfl) ?_ ?_
          · exact obT (ty_F hs0)
          try refine v5W14 ?_
          refine ⟨(q + 1, decide (x0 ∈ hs0)), ⟨by simp; omega, fun h => ⟨(hp2 rfl).1, fun g hg' => ?_⟩⟩, by simp; omega, ?_⟩
          · rw [htk2, List.mem_append] at hg'
            rcases hg' with hg' | hg'
            · exact (hp2 rfl).2 g hg'
            · simp at hg'; subst hg'; exact of_decide_eq_true h
          · exact enA
      intro hge2
      have hge2' : q = la.length := by have : ¬ q < la.length := by simpa using hge2
                                       omega
      subst hge2'
      rw [List.take_length] at hp2
      have hps2 : p2 = true → ∀ u ∈ line.take (k + 1), ∀ g, (SA d (fileOf u)).con g → g ∈ hs0 := by
        intro h u' hu' g hcon
        obtain ⟨a1, a2⟩ := hp2 h
        rw [htk, List.mem_append] at hu'
        rcases hu' with hu' | hu'
        · exact hps a1 u' hu' g hcon
        · simp at hu'; subst hu'; exact a2 g ((hla g).2 hcon)
      try refine v5W14 ?_
      refine ifA ?_ ?_
      · intro h; simp at h
      intro _
      try refine v5W14 ?_
      refine ifA ?_ ?_
      · intro hbr
        simp [fileOf] at hbr
        have hbr : u.path = v.path ∧ u.num = v.num := ⟨of_decide_eq_true hbr.1, of_decide_eq_true hbr.2⟩
        have hiv := good_file hg hiu hv (by simp [fileOf, hbr.1, hbr.2])
        subst hiv
        have huv : v = u := by rw [hv] at hiu; cases hiu; rfl
        subst huv
        have hfin : p2 = true → ∀ u' ∈ line, u'.chg ≤ v.chg → ∀ g, (SA d (fileOf u')).con g → g ∈ hs0 := by
          intro hp u' hu' hc' g hcon
          obtain ⟨j', hj'⟩ := List.getElem?_of_mem hu'
          have hjl := (List.getElem?_eq_some_iff.1 hj').1
          rcases Nat.lt_or_ge k j' with hlt9 | hle9
          · have := (List.pairwise_iff_getElem.1 hpw) k j' hlt' hjl hlt9
            rw [List.getElem?_eq_getElem hlt'] at hu
            rw [List.getElem?_eq_getElem hjl] at hj'
            cases hu; cases hj'
            omega
          · exact hps2 hp u' (List.mem_of_getElem? (i := j') (by rw [List.getElem?_take_of_lt (by omega)]; exact hj')) g hcon
        clear hps2 hps hp2 hlt
        simp only [remA] at hRa hRb
        have hca : (if (remS d (fileOf w) t).isSome then (0 : Int) else 150) = 0 → remS d (fileOf w) t = some ((remS d (fileOf w) t).getD []) := by
          cases remS d (fileOf w) t <;> simp
        have hcb : (if (remS d (fileOf v) t).isSome then (0 : Int) else 150) = 0 → remS d (fileOf v) t = some ((remS d (fileOf v) t).getD []) := by
          cases remS d (fileOf v) t <;> simp
        generalize (if (remS d (fileOf w) t).isSome then (0 : Int) else 150) = ca at hRa hca
        generalize (if (remS d (fileOf v) t).isSome then (0 : Int) else 150) = cb at hRb hcb
        generalize (remS d (fileOf w) t).getD [] = La at hRa hca
        generalize (remS d (fileOf v) t).getD [] = Lb at hRb hcb
        (repeat (first | refine v5W14 ?_ | (refine caA [] (hRa) ?_; rintro r st' ⟨rfl, rfl⟩; refine frA ?_) | (refine caA [] (hRb) ?_; rintro r st' ⟨rfl, rfl⟩; refine frA ?_)))
        refine ifA ?_ ?_
        · intro _
          (repeat (first | refine v5W14 ?_ | (refine caA [] (haw) ?_; rintro r st' ⟨rfl, rfl⟩; refine frA ?_)))
          refine rtA (by simp only [kR, Tryz.results5, ↓reduceIte, Nat.reduceEqDiff, reduceCtorEq]; first | done | rfl) ([]) ?_
          refine ⟨?_, rfl⟩
          rfl
        intro hcc
        have hh3 : ca = 0 ∧ cb = 0 ∧ p2 = true ∧ La = [] := by
          revert hcc
          cases p2 <;> by_cases h1 : ca = 0 <;> by_cases h2 : cb = 0 <;> simp [h1, h2]
        obtain ⟨rfl, rfl, hpt, rfl⟩ := hh3
        have hLb : Lb = [] := by
          obtain ⟨m1, _, hm1, _, hr1⟩ := remS_some' (hca rfl)
          obtain ⟨m2, _, hm2, _, hr2⟩ := remS_some' (hcb rfl)
          obtain ⟨j1, q1, q2, _⟩ := (member?_iff hg).1 hm1
          obtain ⟨j2, q3, q4, _⟩ := (member?_iff hg).1 hm2
          have := good_file hg q1 hw q2
          subst this
          rw [hw] at q1; cases q1
          have := good_file hg q3 hv q4
          subst this
          rw [hv] at q3; cases q3
          rw [hr2]
          refine chain_rem hg o1 (i := 0) hw w5 hr1.symm ?_
          intro k' u' hk' u5' hf' hc' g hcon
          exact (hlc g).1 ((hh g).1 (hfin hpt u' ((hmem u').2 ⟨List.mem_of_getElem? hk', u5', hf'⟩) hc' g hcon))
        subst hLb
        try refine v5W14 ?_
        refine TO_stepO (wr := false) ([(179, B true)] : List (Nat × AV)) rfl (by simp only [kD, kB, kG, kM, k5, Nat.reduceAdd, Nat.reduceLT, Nat.reduceEqDiff, ↓reduceIte, reduceCtorEq]; first | done | rfl) ?_ ?_
        · simp only [All, List.cons_append, List.nil_append, InR, List.mem_cons, List.not_mem_nil, or_false, forall_eq_or_imp, forall_eq, clAV, clCs, clC, clCaps, clCap, and_true, true_and, implies_true, List.length_map, List.length_cons, List.length_nil, dArr, cl_arr, tyCs]
          repeat' (first | exact trivial | exact haw | refine And.intro ?_ ?_ | intro _ | assumption | rfl | omega | (simp; done) | (simp_all; done))
        simp only [kP, Nat.reduceEqDiff, ↓reduceIte, reduceCtorEq]
        try refine v5W14 ?_
        refine rtA (by simp only [kR, Tryz.results5, ↓reduceIte, Nat.reduceEqDiff, reduceCtorEq]; first | done | rfl) ([]) ?_
        refine ⟨?_, rfl⟩
        rfl
      · intro hbr
        try refine v5W14 ?_
        refine ⟨(k + 1, p2), ⟨by simp; omega, hps2⟩, by simp; omega, ?_⟩
        exact enA
end Go.Proofs.YtbllfnmabmamfaaGreatDoor

/- A part of the proof. -/
import Derived.Test.YtmhboloicpieeaaGreatDoorRPD
import Derived.Test.YtmhboloicpieeaaGreatDoorRX10
import Derived.Test.YtmhboloicpieeaaGreatDoorRT2
import Derived.Test.YtmhboloicpieeaaGreatDoorRR2
import Derived.Test.YtmhboloicpieeaaGreatDoorRL3a
import Derived.Test.YtmhboloicpieeaaGreatDoorRU15
set_option linter.all false
namespace Go.Proofs.YtmhboloicpieeaaGreatDoor
open Go.Ab Tys
def ptsE (e : Etr) : List Pat := e.left :: e.right :: e.holes
theorem ptsE_len (e : Etr) : (ptsE e).length = 2 + e.holes.length := by simp only [ptsE, List.length_cons]; omega
theorem ptsE_leni (e : Etr) : ((ptsE e).length : Int) = 2 + (e.holes.length : Int) := by have := ptsE_len e; omega
def szP (l : List Pat) : Nat := (l.map fun p => p.parts.length).sum
def szM (m : List Etr) : Nat := (m.map fun e => szP (ptsE e)).sum
theorem sum_bd {α : Type} {f : α → Nat} {c : Nat} : ∀ {l : List α}, (∀ x ∈ l, f x ≤ c) → (l.map f).sum ≤ l.length * c
  | [], _ => by simp
  | x :: l, h => by
    have h1 := h x List.mem_cons_self
    have h2 := sum_bd (l := l) (f := f) (c := c) fun y hy => h y (List.mem_cons_of_mem _ hy)
    simp only [List.map_cons, List.sum_cons, List.length_cons, Nat.add_mul, Nat.one_mul]; omega
theorem sum_mem {α : Type} {f : α → Nat} : ∀ {l : List α} {x : α}, x ∈ l → f x ≤ (l.map f).sum
  | [], x, h => by cases h
  | y :: l, x, h => by
    simp only [List.map_cons, List.sum_cons]
    rcases List.mem_cons.1 h with rfl | h
    · omega
    · have := sum_mem (f := f) h; omega
theorem szP_snoc (l : List Pat) (p : Pat) : szP (l ++ [p]) = szP l + p.parts.length := by simp [szP]
theorem szP_take (l : List Pat) (n : Nat) : szP (l.take n) ≤ szP l := by
  have : szP l = szP (l.take n) + szP (l.drop n) := by
    conv => lhs; rw [← List.take_append_drop n l]
    simp only [szP, List.map_append, List.sum_append]
  omega
theorem szM_snoc (l : List Etr) (e : Etr) : szM (l ++ [e]) = szM l + szP (ptsE e) := by simp [szM]
def smallM (m : List Etr) : Bool := (m.all fun e => (ptsE e).all fun p => p.parts.all fun s => decide (s.size ≤ 60)) && (decide (szM m ≤ 60) && decide (m.length ≤ 6))
theorem smallM_bad {m : List Etr} {e : Etr} {p : Pat} {s : ByteArray} (he : e ∈ m) (hp : p ∈ ptsE e) (hs : s ∈ p.parts) (h : ¬ s.size ≤ 60) : smallM m = false := by
  cases hb : smallM m with
  | false => rfl
  | true =>
    simp only [smallM, Bool.and_eq_true] at hb
    have h1 := List.all_eq_true.1 hb.1 e he
    have h2 := List.all_eq_true.1 h1 p hp
    have h3 := List.all_eq_true.1 h2 s hs
    exact absurd (of_decide_eq_true h3) h
theorem smallM_good {m : List Etr} (h : ∀ e ∈ m, ∀ p ∈ ptsE e, ∀ s ∈ p.parts, s.size ≤ 60) : smallM m = (decide (szM m ≤ 60) && decide (m.length ≤ 6)) := by
  have : (m.all fun e => (ptsE e).all fun p => p.parts.all fun s => decide (s.size ≤ 60)) = true :=
    List.all_eq_true.2 fun e he => List.all_eq_true.2 fun p hp => List.all_eq_true.2 fun s hs => decide_eq_true (h e he p hp s hs)
  rw [smallM, this, Bool.true_and]
theorem smallM_PB {m : List Etr} (h : smallM m = true) : m.length ≤ 6 ∧ ∀ e ∈ m, ∀ p ∈ ptsE e, PB 60 p := by
  simp only [smallM, Bool.and_eq_true, decide_eq_true_eq] at h
  obtain ⟨ha, h5, h6⟩ := h
  refine ⟨h6, fun e he p hp => ⟨?_, fun s hs => ?_⟩⟩
  · have h1 := sum_mem (f := fun p : Pat => p.parts.length) hp
    have h2 := sum_mem (f := fun e => szP (ptsE e)) he
    have h3 : szP (ptsE e) = ((ptsE e).map fun p => p.parts.length).sum := rfl
    have h4 : szM m = (m.map fun e => szP (ptsE e)).sum := rfl
    omega
  · have h1 := List.all_eq_true.1 ha e he
    have h2 := List.all_eq_true.1 h1 p hp
    exact of_decide_eq_true (List.all_eq_true.1 h2 s hs)
variable [DrF]
def k8 := And.intro @Tryz.ntmps8 <| And.intro @Tryz.underlying23 <| And.intro @Tryz.underlying77 <| And.intro @Tryz.underlying80 <| And.intro @Tryz.underlying9 <| And.intro @bld79 <| And.intro @bld82 <| And.intro @elt23 <| And.intro @elt77 <| And.intro @elt80 <| And.intro @fld79_0 <| And.intro @fld82_0 <| And.intro @fld82_1 <| And.intro @fld82_2 <| And.intro @ti23 <| And.intro @ti77 <| And.intro @ti79 <| And.intro @ti80 <| And.intro @ti82 <| @ti9
theorem v8X17 {G G' : Prop} (g : G') (h : Hid G' → G := by intro h9; (first | refine nvB ?_ | refine goA (wr := false) (by simp only [kB, kG, kS, k8, Nat.reduceAdd, Nat.reduceLT, Nat.reduceEqDiff, ↓reduceIte, reduceCtorEq]; first | done | rfl) ?_); (repeat (first | refine nvB ?_ | refine goA (wr := false) (by simp only [kB, kG, kS, k8, Nat.reduceAdd, Nat.reduceLT, Nat.reduceEqDiff, ↓reduceIte, reduceCtorEq]; first | done | rfl) ?_)); exact h9.out) : G := h ⟨g⟩
set_option maxRecDepth 100000 in
set_option maxHeartbeats 8000000 in
theorem small17_ac (m : List Etr) (hm : m.length ≤ 1048576) (hb : ∀ e ∈ m, EB 1048576 e) :
    AC Tryz.prog 8 [aEtrs m] [] (fun r st => r = B (smallM m) ∧ st = []) := by
  have hpb : ∀ e ∈ m, ∀ p ∈ ptsE e, PB 1048576 p := by
    intro e he p hp
    rcases List.mem_cons.1 hp with rfl | hp
    · exact (hb e he).left
    rcases List.mem_cons.1 hp with rfl | hp
    · exact (hb e he).right
    · exact (hb e he).holes p hp
  have hpl : ∀ e ∈ m, (ptsE e).length ≤ 1048578 := fun e he => by have := (hb e he).len; rw [ptsE_len]; omega
  have hsz : ∀ e ∈ m, szP (ptsE e) ≤ 1099513724928 := fun e he => by
    have h1 := sum_bd (l := ptsE e) (f := fun p => p.parts.length) (c := 1048576) fun p hp => (hpb e he p hp).1
    have h2 := hpl e he
    unfold szP
    omega
  have hszk : ∀ k, szM (m.take k) ≤ 1152921504606846976 + 3000000000000 := fun k => by
    have h1 := sum_bd (l := m.take k) (f := fun e => szP (ptsE e)) (c := 1099513724928) fun e he => hsz e (List.mem_of_mem_take he)
    have h2 : (m.take k).length ≤ 1048576 := by simp; omega
    unfold szM
    omega
  refine AC_enter Tryz.func8 rfl rfl (by simp only [Tryz.ntmps8, List.length]; omega) ?_
  intro x hx
  simp only [List.range, List.range.loop, List.length, List.zip, List.zipWith, Nat.reduceAdd, Tryz.ntmps8]
  try refine v8X17 ?_
  refine T_loop (ι := Nat) (I := fun k => ⟨54, [(0, aEtrs m), (3, I .i64 (szM (m.take k))), (10, aEtrs m), (11, I .i64 m.length), (12, I .i64 k)], []⟩)
    (Inv := fun k => k ≤ m.length ∧ ∀ e ∈ m.take k, ∀ p ∈ ptsE e, ∀ s ∈ p.parts, s.size ≤ 60) (μ := fun k => m.length - k) 0 ⟨by omega, by simp⟩ ?_ ?_
  · (refine Ent_sub (fun i => i) rfl ?_ ⟨?_, ?_, ?_, keepI hx (by simp [domOf, Ab.get])⟩ <;> first | (simp only [kE, dArr, ↓reduceIte, Nat.reduceEqDiff, reduceCtorEq, szM]; done) | simp [renAV_id, renAO_id, flat_up, Ab.get, clAV, clC, clCs, clAO, cl_f1, cl_s1, cl_f2, cl_s2, cl_a1, domOf, List.flatten, szM])
  rintro k ⟨hk, hall⟩
  have hk0 := hszk k
  try refine v8X17 ?_
  refine ifA ?_ ?_
  · intro hlt
    have hlt' : k < m.length := by simpa using hlt
    obtain ⟨e, hv, he, htk⟩ := round encEtr m k zEtr hlt'
    have hem := List.mem_of_getElem? hv
    have hpbe := hpb e hem
    have hple := hpl e hem
    have hszN := szM_snoc (m.take k) e
    rw [← htk] at hszN
    have hszk1 := hszk (k + 1)
    generalize szM (m.take k) = N0 at hszN hk0 ⊢
    have o2 : ∀ l ∈ List.map (fun l => List.map C.d l) (List.map encPat e.holes), l.length = 2 := by
      intro l hl
      obtain ⟨y, hy, rfl⟩ := List.mem_map.1 hl
      obtain ⟨z, _, rfl⟩ := List.mem_map.1 hy
      rfl
    have hehl : e.holes.length ≤ 1048576 := (hb e hem).len
    refine nvA ?_
    refine goA (wr := false) (by simp only [kB, kG, kS, k8, Nat.reduceAdd, Nat.reduceLT, Nat.reduceEqDiff, ↓reduceIte, reduceCtorEq, he]; first | done | rfl) ?_
    refine nvA ?_
    refine TO_go (wr := false) 400 (by simp only [kB, kG, kS, k8, Nat.reduceAdd, Nat.reduceLT, Nat.reduceEqDiff, ↓reduceIte, reduceCtorEq]; first | done | rfl) ?_ ?_
    · exact obT (o2)
    refine nvA ?_
    refine T_ent (Ent_frzSlot (i := 23) (id := 23) (ys := (ptsE e).map encPat) rfl rfl (by rw [List.length_map, ptsE_len])) ?_
    refine fzA ?_
    refine T_loop (ι := Nat) (I := fun j => ⟨54, [(0, aEtrs m), (3, I .i64 (N0 + szP ((ptsE e).take j) : Nat)), (10, aEtrs m), (11, I .i64 m.length), (12, I .i64 k), (23, aPats (ptsE e)), (24, I .i64 (ptsE e).length), (25, I .i64 j)], []⟩)
      (Inv := fun j => j ≤ (ptsE e).length ∧ ∀ p ∈ (ptsE e).take j, ∀ s ∈ p.parts, s.size ≤ 60) (μ := fun j => (ptsE e).length - j) 0 ⟨by omega, by simp⟩ ?_ ?_
    · (refine Ent_sub (fun i => i) rfl ?_ ⟨?_, ?_, ?_, keepI hx (by simp [domOf, Ab.get])⟩ <;> first | (simp only [kE, dArr, ↓reduceIte, Nat.reduceEqDiff, reduceCtorEq, szP, ptsE_len, ptsE_leni]; done) | simp [renAV_id, renAO_id, flat_up, Ab.get, clAV, clC, clCs, clAO, cl_f1, cl_s1, cl_f2, cl_s2, cl_a1, domOf, List.flatten, szP, ptsE_len, ptsE_leni])
    rintro j ⟨hj, hallj⟩
    try refine v8X17 ?_
    refine ifA ?_ ?_
    · intro hlt2
      have hlt2' : j < (ptsE e).length := by simpa using hlt2
      obtain ⟨p, hp, hpe, htj⟩ := round encPat (ptsE e) j zPat hlt2'
      have hpb1 := hpbe p (List.mem_of_getElem? hp)
      have hs1 := szP_snoc ((ptsE e).take j) p
      rw [← htj] at hs1
      have hs2 := szP_take (ptsE e) (j + 1)
      have hs3 : N0 + szP (ptsE e) ≤ 1152921504606846976 + 3000000000000 := by omega
      generalize hM1 : szP ((ptsE e).take (j + 1)) = M1 at hs1 hs2
      generalize szP ((ptsE e).take j) = M0 at hs1 ⊢
      have hplen := hpb1.1
      have hadd : (((N0 + M0 : Nat)) : Int) + ((p.parts.length : Nat) : Int) = ((N0 + M1 : Nat) : Int) := by omega
      obtain ⟨ps, pr⟩ := p
      simp only at hplen hadd hs1
      (repeat (first | refine nvB ?_ | refine goA (wr := false) (by simp only [kB, kG, kS, k8, Nat.reduceAdd, Nat.reduceLT, Nat.reduceEqDiff, ↓reduceIte, reduceCtorEq, hpe, hadd]; first | done | rfl) ?_))
      refine T_loop (ι := Nat) (I := fun i => ⟨54, [(0, aEtrs m), (3, I .i64 (N0 + M1 : Nat)), (10, aEtrs m), (11, I .i64 m.length), (12, I .i64 k), (23, aPats (ptsE e)), (24, I .i64 (ptsE e).length), (25, I .i64 j), (35, aStrs ps), (36, I .i64 ps.length), (37, I .i64 i)], []⟩)
        (Inv := fun i => i ≤ ps.length ∧ ∀ s ∈ ps.take i, s.size ≤ 60) (μ := fun i => ps.length - i) 0 ⟨by omega, by simp⟩ ?_ ?_
      · exact enA
      rintro i ⟨hi, halli⟩
      try refine v8X17 ?_
      refine ifA ?_ ?_
      · intro hlt3
        have hlt3' : i < ps.length := by simpa using hlt3
        obtain ⟨s, hs, hse, hti⟩ := round encS ps i noS hlt3'
        have hsb := hpb1.2 s (List.mem_of_getElem? hs)
        (repeat (first | refine nvB ?_ | refine goA (wr := false) (by simp only [kB, kG, kS, k8, Nat.reduceAdd, Nat.reduceLT, Nat.reduceEqDiff, ↓reduceIte, reduceCtorEq, hse]; first | done | rfl) ?_))
        refine ifA ?_ ?_
        · intro hc
          have hc' : ¬ s.size ≤ 60 := by simp at hc; omega
          have hbad := smallM_bad hem (List.mem_of_getElem? hp) (List.mem_of_getElem? hs) hc'
          try refine v8X17 ?_
          refine rtA (by simp only [kR, Tryz.results8, ↓reduceIte, Nat.reduceEqDiff, reduceCtorEq]; first | done | rfl) ([]) ?_
          refine ⟨?_, rfl⟩
          rw [hbad]
        intro hc
        have hc' : s.size ≤ 60 := by simp at hc; omega
        try refine v8X17 ?_
        refine ⟨i + 1, ⟨by omega, ?_⟩, by omega, ?_⟩
        · intro y hy
          rw [hti, List.mem_append] at hy
          rcases hy with hy | hy
          · exact halli y hy
          · simp at hy; rw [hy]; exact hc'
        · exact enA
      intro hge3
      have hi' : i = ps.length := by have : ¬ i < ps.length := by simpa using hge3
                                     omega
      rw [hi', List.take_length] at halli
      try refine v8X17 ?_
      refine ⟨j + 1, ⟨by omega, ?_⟩, by omega, ?_⟩
      · intro y hy
        rw [htj, List.mem_append] at hy
        rcases hy with hy | hy
        · exact hallj y hy
        · simp at hy; rw [hy]; exact halli
      · (refine Ent_sub (fun i => i) rfl ?_ ⟨?_, ?_, ?_, keepI hx (by simp [domOf, Ab.get])⟩ <;> first | (simp only [kE, dArr, ↓reduceIte, Nat.reduceEqDiff, reduceCtorEq, hM1]; done) | simp [renAV_id, renAO_id, flat_up, Ab.get, clAV, clC, clCs, clAO, cl_f1, cl_s1, cl_f2, cl_s2, cl_a1, domOf, List.flatten, hM1])
    intro hge2
    have hj' : j = (ptsE e).length := by have : ¬ j < (ptsE e).length := by simpa using hge2
                                         omega
    rw [hj', List.take_length] at hallj
    try refine v8X17 ?_
    refine ⟨k + 1, ⟨by omega, ?_⟩, by omega, ?_⟩
    · intro y hy
      rw [htk, List.mem_append] at hy
      rcases hy with hy | hy
      · exact hall y hy
      · simp only [List.mem_singleton] at hy; rw [hy]; exact hallj
    · rw [hj', List.take_length]
      (refine Ent_sub (fun i => i) rfl ?_ ⟨?_, ?_, ?_, keepI hx (by simp [domOf, Ab.get])⟩ <;> first | (simp only [kE, dArr, ↓reduceIte, Nat.reduceEqDiff, reduceCtorEq, hszN]; done) | simp [renAV_id, renAO_id, flat_up, Ab.get, clAV, clC, clCs, clAO, cl_f1, cl_s1, cl_f2, cl_s2, cl_a1, domOf, List.flatten, hszN])
  intro hge
  have hk' : k = m.length := by have : ¬ k < m.length := by simpa using hge
                                omega
  rw [hk', List.take_length] at hall
  have hkm : m.take k = m := by rw [hk', List.take_length]
  rw [hkm] at hk0 ⊢
  try refine v8X17 ?_
  refine rtA (by simp only [kR, Tryz.results8, ↓reduceIte, Nat.reduceEqDiff, reduceCtorEq]; first | done | rfl) ([]) ?_
  refine ⟨?_, rfl⟩
  rw [smallM_good hall]
  by_cases a : szM m ≤ 60 <;> by_cases b : m.length ≤ 6 <;> simp [a, b] <;> omega
end Go.Proofs.YtmhboloicpieeaaGreatDoor
namespace Go.Proofs.YtmhboloicpieeaaGreatDoor
open Go.Ab Tys
variable [Dr]
def k32 := And.intro @Tryz.ntmps32 <| And.intro @Tryz.underlying27 <| And.intro @Tryz.underlying70 <| And.intro @bld159 <| And.intro @bld30 <| And.intro @bld37 <| And.intro @bld46 <| And.intro @elt27 <| And.intro @elt70 <| And.intro @fld159_2 <| And.intro @fld159_3 <| And.intro @fld37_0 <| And.intro @fld37_1 <| And.intro @fld46_2 <| And.intro @kyt37 <| And.intro @mpt85 <| And.intro @ti157 <| And.intro @ti159 <| And.intro @ti27 <| And.intro @ti3 <| And.intro @ti30 <| And.intro @ti37 <| And.intro @ti46 <| And.intro @ti70 <| And.intro @ti85 <| @ti9
theorem v32R3 {G G' : Prop} (g : G') (h : Hid G' → G := by intro h9; (first | refine nvB ?_ | refine goA (wr := false) (by simp only [kB, kG, kS, kM, k32, Nat.reduceAdd, Nat.reduceLT, Nat.reduceEqDiff, ↓reduceIte, reduceCtorEq]; first | done | rfl) ?_); (repeat (first | refine nvB ?_ | refine goA (wr := false) (by simp only [kB, kG, kS, kM, k32, Nat.reduceAdd, Nat.reduceLT, Nat.reduceEqDiff, ↓reduceIte, reduceCtorEq]; first | done | rfl) ?_)); exact h9.out) : G := h ⟨g⟩
set_option maxRecDepth 100000 in
set_option maxHeartbeats 16000000 in
theorem remaining_ac (d : Dep) (hg : Good d.revs) (hn : d.revs.length ≤ 512) (A : List (Fil × SV)) (hA : SvOK A (SA d)) (hD : DomA d d.revs.length A) (s t : Fil) :
    AC Tryz.prog 32 [aDep d, .c (.d (.pm (mEnt kF vSV A))), aFil s, aFil t] [] (fun r st => r = remA d s t ∧ st = []) := by
  have h1 := Member_ac d s.path s.num (by omega)
  have h2 := Member_ac d t.path t.num (by omega)
  cases hs : member? d s.path s.num with
  | none =>
    rw [hs] at h1
    simp only [pRev, pB, Option.isSome, Option.getD] at h1
    generalize hmt : (member? d t.path t.num) = mt at h2
    generalize mt.getD zRev = tv at h2
    generalize mt.isSome = tb at h2
    refine AC_enter Tryz.func32 rfl rfl (by simp only [Tryz.ntmps32, List.length]; omega) ?_
    intro x hx
    simp only [List.range, List.range.loop, List.length, List.zip, List.zipWith, Nat.reduceAdd, Tryz.ntmps32]
    (repeat (first | refine v32R3 ?_ | (refine caA [] (h1) ?_; rintro r st' ⟨rfl, rfl⟩; refine frA ?_) | (refine caA [] (h2) ?_; rintro r st' ⟨rfl, rfl⟩; refine frA ?_)))
    refine ifA ?_ ?_
    rotate_left
    · intro h; cases h
    intro _
    refine nvA ?_
    refine goA (wr := false) (by simp only [kB, kG, kS, kM, k32, Nat.reduceAdd, Nat.reduceLT, Nat.reduceEqDiff, ↓reduceIte, reduceCtorEq]; first | done | rfl) ?_
    refine TO_ent (Ent_nilSlot (i := 8) 2 rfl) ?_
    refine fzA ?_
    try refine v32R3 ?_
    refine rtA (by simp only [kR, Tryz.results32, ↓reduceIte, Nat.reduceEqDiff, reduceCtorEq]; first | done | rfl) ([]) ?_
    refine ⟨?_, rfl⟩
    exact remA_none (by simp [remS, hs])
  | some v =>
    rw [hs] at h1
    simp only [pRev, pB, Option.isSome, Option.getD] at h1
    cases ht : member? d t.path t.num with
    | none =>
      rw [ht] at h2
      simp only [pRev, pB, Option.isSome, Option.getD] at h2
      refine AC_enter Tryz.func32 rfl rfl (by simp only [Tryz.ntmps32, List.length]; omega) ?_
      intro x hx
      simp only [List.range, List.range.loop, List.length, List.zip, List.zipWith, Nat.reduceAdd, Tryz.ntmps32]
      (repeat (first | refine v32R3 ?_ | (refine caA [] (h1) ?_; rintro r st' ⟨rfl, rfl⟩; refine frA ?_) | (refine caA [] (h2) ?_; rintro r st' ⟨rfl, rfl⟩; refine frA ?_)))
      refine ifA ?_ ?_
      rotate_left
      · intro h; cases h
      intro _
      refine nvA ?_
      refine goA (wr := false) (by simp only [kB, kG, kS, kM, k32, Nat.reduceAdd, Nat.reduceLT, Nat.reduceEqDiff, ↓reduceIte, reduceCtorEq]; first | done | rfl) ?_
      refine TO_ent (Ent_nilSlot (i := 8) 2 rfl) ?_
      refine fzA ?_
      try refine v32R3 ?_
      refine rtA (by simp only [kR, Tryz.results32, ↓reduceIte, Nat.reduceEqDiff, reduceCtorEq]; first | done | rfl) ([]) ?_
      refine ⟨?_, rfl⟩
      exact remA_none (by simp [remS, hs, ht])
    | some tv =>
      rw [ht] at h2
      simp only [pRev, pB, Option.isSome, Option.getD] at h2
      obtain ⟨jt, t1, t2, t3⟩ := (member?_iff hg).1 ht
      obtain ⟨xt, hxt⟩ := hD jt tv (List.getElem?_eq_some_iff.1 t1).1 t1 t3
      rw [t2] at hxt
      have hxt' : alook A ⟨t.path, t.num⟩ = some xt := hxt
      have hll : (line d (first d v)).length ≤ 512 := Nat.le_trans (List.length_filter_le ..) hn
      have hlm : ∀ u ∈ line d (first d v), u ∈ d.revs ∧ ¬ u.act = 5 := fun u hu => line_mem hu
      have hfin := remR_eq hA t v
      have hline := Line_ac d (first d v) (by omega)
      generalize hln : line d (first d v) = l at hll hlm hfin hline
      refine AC_enter Tryz.func32 rfl rfl (by simp only [Tryz.ntmps32, List.length]; omega) ?_
      intro x hx
      simp only [List.range, List.range.loop, List.length, List.zip, List.zipWith, Nat.reduceAdd, Tryz.ntmps32]
      (repeat (first | refine v32R3 ?_ | (refine caA [] (h1) ?_; rintro r st' ⟨rfl, rfl⟩; refine frA ?_) | (refine caA [] (h2) ?_; rintro r st' ⟨rfl, rfl⟩; refine frA ?_)))
      refine ifA ?_ ?_
      · intro h; cases h
      intro _
      refine nvA ?_
      refine goA (wr := false) (by simp only [kB, kG, kS, kM, k32, Nat.reduceAdd, Nat.reduceLT, Nat.reduceEqDiff, ↓reduceIte, reduceCtorEq]; first | done | rfl) ?_
      refine nvA ?_
      refine drA (wr := false) ([(44, aFil (first d v)), (45, aRevs l)] : List (Nat × AV)) (by simp only [kD, kB, kG, kS, kM, k32, Nat.reduceAdd, Nat.reduceLT, Nat.reduceEqDiff, ↓reduceIte, reduceCtorEq]; first | done | rfl) ?_ ?_
      · simp only [All, List.cons_append, List.nil_append, InR, List.mem_cons, List.not_mem_nil, or_false, forall_eq_or_imp, forall_eq, clAV, clCs, clC, clCaps, clCap, and_true, true_and, implies_true, List.length_map, List.length_cons, List.length_nil, dArr, cl_arr, tyCs]
        repeat' (first | exact trivial | exact first_ac d v (by omega) | exact hline | refine And.intro ?_ ?_ | intro _ | assumption | rfl | omega | (rw [Bool.not_eq_true']; assumption) | (simp; done) | (simp only [decide_eq_true_eq] at *; omega) | (simp_all; done))
      refine nvA ?_
      refine T_ent (Ent_adopt (i := 14) (id := 100) (sz := 2) rfl rfl (by omega)) ?_
      refine fzA ?_
      refine T_loop (ι := Nat) (I := fun k => ⟨76, [(1, .c (.d (.pm (mEnt kF vSV A)))), (7, .c (.ptr 7 0)), (10, .c (.ptr 10 0)), (14, .c (.ms 100 2 0 (remR A t v (l.take k)).length)), (45, aRevs l), (46, I .i64 l.length), (47, I .i64 k)],
          [(7, .box ((encFil t).map C.d)), (10, .box ((encRev v).map C.d)), (100, dArr 2 ((remR A t v (l.take k)).map encFil))]⟩)
        (Inv := fun k => k ≤ l.length) (μ := fun k => l.length - k) 0 (by simp) ?_ ?_
      · (refine Ent_sub (fun i => i) rfl ?_ ⟨?_, ?_, ?_, keepI hx (by simp [domOf, Ab.get])⟩ <;> first | (simp only [kE, dArr, ↓reduceIte, Nat.reduceEqDiff, reduceCtorEq, remR]; done) | simp [renAV_id, renAO_id, flat_up, Ab.get, clAV, clC, clCs, clAO, cl_f1, cl_s1, cl_f2, cl_s2, cl_a1, domOf, List.flatten, remR])
      intro k hk
      have hF := remR_len A t v (l.take k)
      have hF2 : (l.take k).length ≤ 512 := by simp; omega
      try refine v32R3 ?_
      refine ifA ?_ ?_
      · intro hlt
        have hlt' : k < l.length := by simpa using hlt
        obtain ⟨u, hu, he, htk⟩ := round encRev l k zRev hlt'
        obtain ⟨u1, u2⟩ := hlm u (List.mem_of_getElem? hu)
        obtain ⟨ju, hju⟩ := List.getElem?_of_mem u1
        obtain ⟨xu, hxu⟩ := hD ju u (List.getElem?_eq_some_iff.1 hju).1 hju u2
        have hxu' : alook A ⟨(fileOf u).path, (fileOf u).num⟩ = some xu := hxu
        have hop : (bif decide (u.chg ≤ v.chg) then !subB xu.con xt.cre else false) = opA A t v u := by simp only [opA, hxu, hxt, Option.map, Option.getD]
        (repeat (first | refine nvB ?_ | refine goA (wr := false) (by simp only [kB, kG, kS, kM, k32, Nat.reduceAdd, Nat.reduceLT, Nat.reduceEqDiff, ↓reduceIte, reduceCtorEq, he]; first | done | rfl) ?_))
        refine drA (wr := false) ([(59, aFil (fileOf u)), (66, B (subB xu.con xt.cre))] : List (Nat × AV)) (by simp only [kD, kB, kG, kS, kM, k32, Nat.reduceAdd, Nat.reduceLT, Nat.reduceEqDiff, ↓reduceIte, reduceCtorEq, look_SV, hxu', hxt']; first | done | rfl) ?_ ?_
        · exact obH (file_ac u) (Within_ac xu.con xt.cre) (ty_SV A)
        refine nvA ?_
        refine ifA ?_ ?_
        · intro ho
          rw [hop] at ho
          (repeat (first | refine v32R3 ?_ | (refine caA [] (file_ac u) ?_; rintro r st' ⟨rfl, rfl⟩; refine frA ?_)))
          refine ⟨k + 1, by omega, by omega, ?_⟩
          have e : remR A t v (l.take (k + 1)) = remR A t v (l.take k) ++ [fileOf u] := by rw [htk, remR, List.filter_append, List.map_append]; simp [remR, ho]
          rw [e]
          exact enR (fun i => if i = 100 then 73 else i)
        · intro ho
          rw [hop] at ho
          try refine v32R3 ?_
          refine ⟨k + 1, by omega, by omega, ?_⟩
          have e : remR A t v (l.take (k + 1)) = remR A t v (l.take k) := by rw [htk, remR, List.filter_append, List.map_append]; simp [remR, ho]
          rw [e]
          exact enA
      · intro hge
        have hge' : k = l.length := by have : ¬ k < l.length := by simpa using hge
                                       omega
        refine nvA ?_
        refine TO_ent (Ent_frzSlot (i := 14) (id := 100) (ys := (remR A t v (l.take k)).map encFil) rfl rfl (by simp)) ?_
        refine fzA ?_
        try refine v32R3 ?_
        refine rtA (by simp only [kR, Tryz.results32, ↓reduceIte, Nat.reduceEqDiff, reduceCtorEq]; first | done | rfl) ([]) ?_
        refine ⟨?_, rfl⟩
        rw [hge', List.take_length, hfin]
        exact remA_some (by simp [remS, hs, ht])
end Go.Proofs.YtmhboloicpieeaaGreatDoor

/- A part of the proof. -/
import Derived.Test.YtmhboloicpieeaaGreatDoorRX10
set_option maxRecDepth 100000
set_option maxHeartbeats 16000000
set_option linter.all false
namespace Go.Proofs.YtmhboloicpieeaaGreatDoor
open Go.Ab Tys
def ptsE (e : Etr) : List Pat := e.left :: e.right :: e.holes
theorem ptsE_len (e : Etr) : (ptsE e).length = 2 + e.holes.length := by simp only [ptsE, List.length_cons]; omega
theorem ptsE_leni (e : Etr) : ((ptsE e).length : Int) = 2 + (e.holes.length : Int) := by have := ptsE_len e; omega
def szP (l : List Pat) : Nat := (l.map fun p => p.parts.length).sum
def szM (m : List Etr) : Nat := (m.map fun e => szP (ptsE e)).sum
theorem sum_bd {α : Type} {f : α → Nat} {c : Nat} : ∀ {l : List α}, (∀ x ∈ l, f x ≤ c) → (l.map f).sum ≤ l.length * c
 | [], _ => by simp
 | x :: l, h => by
   have h1 := h x List.mem_cons_self
   have h2 := sum_bd (l := l) (f := f) (c := c) fun y hy => h y (List.mem_cons_of_mem _ hy)
   simp only [List.map_cons, List.sum_cons, List.length_cons, Nat.add_mul, Nat.one_mul]; omega
theorem sum_mem {α : Type} {f : α → Nat} : ∀ {l : List α} {x : α}, x ∈ l → f x ≤ (l.map f).sum
 | [], x, h => by cases h
 | y :: l, x, h => by
   simp only [List.map_cons, List.sum_cons]
   rcases List.mem_cons.1 h with rfl | h
   ·omega
   ·have := sum_mem (f := f) h; omega
theorem szP_snoc (l : List Pat) (p : Pat) : szP (l ++ [p]) = szP l + p.parts.length := by simp [szP]
theorem szP_take (l : List Pat) (n : Nat) : szP (l.take n) ≤ szP l := by
 have : szP l = szP (l.take n) + szP (l.drop n) := by
  conv => lhs; rw [← List.take_append_drop n l]
  simp only [szP, List.map_append, List.sum_append]
 omega
theorem szM_snoc (l : List Etr) (e : Etr) : szM (l ++ [e]) = szM l + szP (ptsE e) := by simp [szM]
def smallM (m : List Etr) : Bool := (m.all fun e => (ptsE e).all fun p => p.parts.all fun s => decide (s.size ≤ 60)) && (decide (szM m ≤ 60) && decide (m.length ≤ 6))
theorem smallM_bad {m : List Etr} {e : Etr} {p : Pat} {s : ByteArray} (he : e ∈ m) (hp : p ∈ ptsE e) (hs : s ∈ p.parts) (h : ¬ s.size ≤ 60) : smallM m = false := by
 cases hb : smallM m with
 | false => rfl
 | true =>
   simp only [smallM, Bool.and_eq_true] at hb
   have h1 := List.all_eq_true.1 hb.1 e he
   have h2 := List.all_eq_true.1 h1 p hp
   have h3 := List.all_eq_true.1 h2 s hs
   exact absurd (of_decide_eq_true h3) h
theorem smallM_good {m : List Etr} (h : ∀ e ∈ m, ∀ p ∈ ptsE e, ∀ s ∈ p.parts, s.size ≤ 60) : smallM m = (decide (szM m ≤ 60) && decide (m.length ≤ 6)) := by
 have : (m.all fun e => (ptsE e).all fun p => p.parts.all fun s => decide (s.size ≤ 60)) = true :=
  List.all_eq_true.2 fun e he => List.all_eq_true.2 fun p hp => List.all_eq_true.2 fun s hs => decide_eq_true (h e he p hp s hs)
 rw [smallM, this, Bool.true_and]
theorem smallM_PB {m : List Etr} (h : smallM m = true) : m.length ≤ 6 ∧ ∀ e ∈ m, ∀ p ∈ ptsE e, PB 60 p := by
 simp only [smallM, Bool.and_eq_true, decide_eq_true_eq] at h
 obtain ⟨ha, h5, h6⟩ := h
 refine ⟨h6, fun e he p hp => ⟨?_, fun s hs => ?_⟩⟩
 ·have h1 := sum_mem (f := fun p : Pat => p.parts.length) hp
  have h2 := sum_mem (f := fun e => szP (ptsE e)) he
  have h3 : szP (ptsE e) = ((ptsE e).map fun p => p.parts.length).sum := rfl
  have h4 : szM m = (m.map fun e => szP (ptsE e)).sum := rfl
  omega
 ·have h1 := List.all_eq_true.1 ha e he
  have h2 := List.all_eq_true.1 h1 p hp
  exact of_decide_eq_true (List.all_eq_true.1 h2 s hs)
variable [DrF]
def k8 := And.intro @Tryz.ntmps8 <| And.intro @Tryz.underlying23 <| And.intro @Tryz.underlying77 <| And.intro @Tryz.underlying80 <| And.intro @Tryz.underlying9 <| And.intro @bld79 <| And.intro @bld82 <| And.intro @elt23 <| And.intro @elt77 <| And.intro @elt80 <| And.intro @fld79_0 <| And.intro @fld82_0 <| And.intro @fld82_1 <| And.intro @fld82_2 <| And.intro @ti23 <| And.intro @ti77 <| And.intro @ti79 <| And.intro @ti80 <| And.intro @ti82 <| @ti9
theorem v8X17 {G G' : Prop} (g : G') (h : Hid G' → G := by intro h9; (first | refine nvB ?_ | refine goA (wr := false) (by simp only [kB, kG, kS, k8, Nat.reduceAdd, Nat.reduceLT, Nat.reduceEqDiff, ↓reduceIte, reduceCtorEq]; first | done | rfl) ?_); (repeat (first | refine nvB ?_ | refine goA (wr := false) (by simp only [kB, kG, kS, k8, Nat.reduceAdd, Nat.reduceLT, Nat.reduceEqDiff, ↓reduceIte, reduceCtorEq]; first | done | rfl) ?_)); exact h9.out) : G := h ⟨g⟩
theorem small17_ac (m : List Etr) (hm : m.length ≤ 1048576) (hb : ∀ e ∈ m, EB 1048576 e) :
  AC Tryz.prog 8 [aEtrs m] [] (fun r st => r = B (smallM m) ∧ st = []) := by
 have hpb : ∀ e ∈ m, ∀ p ∈ ptsE e, PB 1048576 p := by
  intro e he p hp
  rcases List.mem_cons.1 hp with rfl | hp
  ·exact (hb e he).left
  rcases List.mem_cons.1 hp with rfl | hp
  ·exact (hb e he).right
  ·exact (hb e he).holes p hp
 have hpl : ∀ e ∈ m, (ptsE e).length ≤ 1048578 := fun e he => by have := (hb e he).len; rw [ptsE_len]; omega
 have hsz : ∀ e ∈ m, szP (ptsE e) ≤ 1099513724928 := fun e he => by
  have h1 := sum_bd (l := ptsE e) (f := fun p => p.parts.length) (c := 1048576) fun p hp => (hpb e he p hp).1
  have h2 := hpl e he
  unfold szP
  omega
 have hszk : ∀ k, szM (m.take k) ≤ 1152921504606846976 + 3000000000000 := fun k => by
  have h1 := sum_bd (l := m.take k) (f := fun e => szP (ptsE e)) (c := 1099513724928) fun e he => hsz e (List.mem_of_mem_take he)
  have h2 : (m.take k).length ≤ 1048576 := by simp; omega
  unfold szM
  omega
 refine AC_enter Tryz.func8 rfl rfl (by simp only [Tryz.ntmps8, List.length]; omega) ?_
 intro x hx
 simp only [List.range, List.range.loop, List.length, List.zip, List.zipWith, Nat.reduceAdd, Tryz.ntmps8]
 try refine v8X17 ?_
 refine T_loop (ι := Nat) (I := fun k => ⟨54, [(0, aEtrs m), (3, I .i64 (szM (m.take k))), (10, aEtrs m), (11, I .i64 m.length), (12, I .i64 k)], []⟩)
  (Inv := fun k => k ≤ m.length ∧ ∀ e ∈ m.take k, ∀ p ∈ ptsE e, ∀ s ∈ p.parts, s.size ≤ 60) (μ := fun k => m.length - k) 0 ⟨by omega, by simp⟩ ?_ ?_
 ·(refine Ent_sub (fun i => i) rfl ?_ ⟨?_, ?_, ?_, keepI hx (by simp [domOf, Ab.get])⟩ <;> first | (simp only [kE, dArr, ↓reduceIte, Nat.reduceEqDiff, reduceCtorEq, szM]; done) | simp [renAV_id, renAO_id, flat_up, Ab.get, clAV, clC, clCs, clAO, cl_f1, cl_s1, cl_f2, cl_s2, cl_a1, domOf, List.flatten, szM])
 rintro k ⟨hk, hall⟩
 have hk0 := hszk k
 try refine v8X17 ?_
 refine ifA ?_ ?_
 ·intro hlt
  have hlt' : k < m.length := by simpa using hlt
  obtain ⟨e, hv, he, htk⟩ := round encEtr m k zEtr hlt'
  have hem := List.mem_of_getElem? hv
  have hpbe := hpb e hem
  have hple := hpl e hem
  have hszN := szM_snoc (m.take k) e
  rw [← htk] at hszN
  have hszk1 := hszk (k + 1)
  generalize szM (m.take k) = N0 at hszN hk0 ⊢
  have o2 : ∀ l ∈ List.map (fun l => List.map C.d l) (List.map encPat e.holes), l.length = 2 := by
   intro l hl
   obtain ⟨y, hy, rfl⟩ := List.mem_map.1 hl
   obtain ⟨z, _, rfl⟩ := List.mem_map.1 hy
   rfl
  have hehl : e.holes.length ≤ 1048576 := (hb e hem).len
  refine nvA ?_
  refine goA (wr := false) (by simp only [kB, kG, kS, k8, Nat.reduceAdd, Nat.reduceLT, Nat.reduceEqDiff, ↓reduceIte, reduceCtorEq, he]; first | done | rfl) ?_
  refine nvA ?_
  refine TO_go (wr := false) 400 (by simp only [kB, kG, kS, k8, Nat.reduceAdd, Nat.reduceLT, Nat.reduceEqDiff, ↓reduceIte, reduceCtorEq]; first | done | rfl) ?_ ?_
  ·exact obT (o2)
  refine nvA ?_
  refine T_ent (Ent_frzSlot (i := 23) (id := 23) (ys := (ptsE e).map encPat) rfl rfl (by rw [List.length_map, ptsE_len])) ?_
  refine fzA ?_
  refine T_loop (ι := Nat) (I := fun j => ⟨54, [(0, aEtrs m), (3, I .i64 (N0 + szP ((ptsE e).take j) : Nat)), (10, aEtrs m), (11, I .i64 m.length), (12, I .i64 k), (23, aPats (ptsE e)), (24, I .i64 (ptsE e).length), (25, I .i64 j)], []⟩)
   (Inv := fun j => j ≤ (ptsE e).length ∧ ∀ p ∈ (ptsE e).take j, ∀ s ∈ p.parts, s.size ≤ 60) (μ := fun j => (ptsE e).length - j) 0 ⟨by omega, by simp⟩ ?_ ?_
  ·(refine Ent_sub (fun i => i) rfl ?_ ⟨?_, ?_, ?_, keepI hx (by simp [domOf, Ab.get])⟩ <;> first | (simp only [kE, dArr, ↓reduceIte, Nat.reduceEqDiff, reduceCtorEq, szP, ptsE_len, ptsE_leni]; done) | simp [renAV_id, renAO_id, flat_up, Ab.get, clAV, clC, clCs, clAO, cl_f1, cl_s1, cl_f2, cl_s2, cl_a1, domOf, List.flatten, szP, ptsE_len, ptsE_leni])
  rintro j ⟨hj, hallj⟩
  try refine v8X17 ?_
  refine ifA ?_ ?_
  ·intro hlt2
   have hlt2' : j < (ptsE e).length := by simpa using hlt2
   obtain ⟨p, hp, hpe, htj⟩ := round encPat (ptsE e) j zPat hlt2'
   have hpb1 := hpbe p (List.mem_of_getElem? hp)
   have hs1 := szP_snoc ((ptsE e).take j) p
   rw [← htj] at hs1
   have hs2 := szP_take (ptsE e) (j + 1)
   have hs3 : N0 + szP (ptsE e) ≤ 1152921504606846976 + 3000000000000 := by omega
   generalize hM1 : szP ((ptsE e).take (j + 1)) = M1 at hs1 hs2
   generalize szP ((ptsE e).take j) = M0 at hs1 ⊢
   have hplen := hpb1.1
   have hadd : (((N0 + M0 : Nat)) : Int) + ((p.parts.length : Nat) : Int) = ((N0 + M1 : Nat) : Int) := by omega
   obtain ⟨ps, pr⟩ := p
   simp only at hplen hadd hs1
   (repeat (first | refine nvB ?_ | refine goA (wr := false) (by simp only [kB, kG, kS, k8, Nat.reduceAdd, Nat.reduceLT, Nat.reduceEqDiff, ↓reduceIte, reduceCtorEq, hpe, hadd]; first | done | rfl) ?_))
   refine T_loop (ι := Nat) (I := fun i => ⟨54, [(0, aEtrs m), (3, I .i64 (N0 + M1 : Nat)), (10, aEtrs m), (11, I .i64 m.length), (12, I .i64 k), (23, aPats (ptsE e)), (24, I .i64 (ptsE e).length), (25, I .i64 j), (35, aStrs ps), (36, I .i64 ps.length), (37, I .i64 i)], []⟩)
    (Inv := fun i => i ≤ ps.length ∧ ∀ s ∈ ps.take i, s.size ≤ 60) (μ := fun i => ps.length - i) 0 ⟨by omega, by simp⟩ ?_ ?_
   ·exact enA
   rintro i ⟨hi, halli⟩
   try refine v8X17 ?_
   refine ifA ?_ ?_
   ·intro hlt3
    have hlt3' : i < ps.length := by simpa using hlt3
    obtain ⟨s, hs, hse, hti⟩ := round encS ps i noS hlt3'
    have hsb := hpb1.2 s (List.mem_of_getElem? hs)
    (repeat (first | refine nvB ?_ | refine goA (wr := false) (by simp only [kB, kG, kS, k8, Nat.reduceAdd, Nat.reduceLT, Nat.reduceEqDiff, ↓reduceIte, reduceCtorEq, hse]; first | done | rfl) ?_))
    refine ifA ?_ ?_
    ·intro hc
     have hc' : ¬ s.size ≤ 60 := by simp at hc; omega
     have hbad := smallM_bad hem (List.mem_of_getElem? hp) (List.mem_of_getElem? hs) hc'
     try refine v8X17 ?_
     refine rtA (by simp only [kR, Tryz.results8, ↓reduceIte, Nat.reduceEqDiff, reduceCtorEq]; first | done | rfl) ([]) ?_
     refine ⟨?_, rfl⟩
     rw [hbad]
    intro hc
    have hc' : s.size ≤ 60 := by simp at hc; omega
    try refine v8X17 ?_
    refine ⟨i + 1, ⟨by omega, ?_⟩, by omega, ?_⟩
    ·intro y hy
     rw [hti, List.mem_append] at hy
     rcases hy with hy | hy
     ·exact halli y hy
     ·simp at hy; rw [hy]; exact hc'
    ·exact enA
   intro hge3
   have hi' : i = ps.length := by have : ¬ i < ps.length := by simpa using hge3
                                  omega
   rw [hi', List.take_length] at halli
   try refine v8X17 ?_
   refine ⟨j + 1, ⟨by omega, ?_⟩, by omega, ?_⟩
   ·intro y hy
    rw [htj, List.mem_append] at hy
    rcases hy with hy | hy
    ·exact hallj y hy
    ·simp at hy; rw [hy]; exact halli
   ·(refine Ent_sub (fun i => i) rfl ?_ ⟨?_, ?_, ?_, keepI hx (by simp [domOf, Ab.get])⟩ <;> first | (simp only [kE, dArr, ↓reduceIte, Nat.reduceEqDiff, reduceCtorEq, hM1]; done) | simp [renAV_id, renAO_id, flat_up, Ab.get, clAV, clC, clCs, clAO, cl_f1, cl_s1, cl_f2, cl_s2, cl_a1, domOf, List.flatten, hM1])
  intro hge2
  have hj' : j = (ptsE e).length := by have : ¬ j < (ptsE e).length := by simpa using hge2
                                       omega
  rw [hj', List.take_length] at hallj
  try refine v8X17 ?_
  refine ⟨k + 1, ⟨by omega, ?_⟩, by omega, ?_⟩
  ·intro y hy
   rw [htk, List.mem_append] at hy
   rcases hy with hy | hy
   ·exact hall y hy
   ·simp only [List.mem_singleton] at hy; rw [hy]; exact hallj
  ·rw [hj', List.take_length]
   (refine Ent_sub (fun i => i) rfl ?_ ⟨?_, ?_, ?_, keepI hx (by simp [domOf, Ab.get])⟩ <;> first | (simp only [kE, dArr, ↓reduceIte, Nat.reduceEqDiff, reduceCtorEq, hszN]; done) | simp [renAV_id, renAO_id, flat_up, Ab.get, clAV, clC, clCs, clAO, cl_f1, cl_s1, cl_f2, cl_s2, cl_a1, domOf, List.flatten, hszN])
 intro hge
 have hk' : k = m.length := by have : ¬ k < m.length := by simpa using hge
                               omega
 rw [hk', List.take_length] at hall
 have hkm : m.take k = m := by rw [hk', List.take_length]
 rw [hkm] at hk0 ⊢
 try refine v8X17 ?_
 refine rtA (by simp only [kR, Tryz.results8, ↓reduceIte, Nat.reduceEqDiff, reduceCtorEq]; first | done | rfl) ([]) ?_
 refine ⟨?_, rfl⟩
 rw [smallM_good hall]
 by_cases a : szM m ≤ 60 <;> by_cases b : m.length ≤ 6 <;> simp [a, b] <;> omega
end Go.Proofs.YtmhboloicpieeaaGreatDoor
namespace Go.Proofs.YtmhboloicpieeaaGreatDoor
open Go.Ab Tys
variable [Dr]
def memS (l : List ByteArray) (p : ByteArray) : Bool := l.any fun x => decide (x = p)
theorem memS_iff {l : List ByteArray} {p : ByteArray} : memS l p = true ↔ p ∈ l := by simp [memS]
theorem look_S' (l : List ByteArray) (p : ByteArray) : (findE [C.d (.v (.string p))] ((sEnt kS' l).map upE)).getD (false, [C.d (.v (.bool false))]) = (false, [C.d (.v (.bool (memS l p)))]) := by
 have := findE_set kS_eq l p
 rw [show ((kS' p).2.map C.d) = [C.d (.v (.string p))] from rfl] at this
 rw [this]
 by_cases h : p ∈ l
 ·rw [if_pos h, memS_iff.2 h]; rfl
 ·have : memS l p = false := by cases hb : memS l p with | false => rfl | true => exact absurd (memS_iff.1 hb) h
  rw [if_neg h, this]; rfl
theorem ins_S' (l : List ByteArray) (p : ByteArray) : insE (false, [C.d (.v (.string p))]) (false, [C.d (.v (.bool true))]) ((sEnt kS' l).map upE) = (sEnt kS' (addS l p)).map upE := insE_set kS_eq l p
theorem ty_S' (l : List ByteArray) : ∀ e ∈ (sEnt kS' l).map upE, e.1.1 = false ∧ tyCs [.str] e.1.2 := by
 intro e he
 simp only [sEnt, List.mem_map] at he
 obtain ⟨_, ⟨f, _, rfl⟩, rfl⟩ := he
 exact ⟨rfl, by simp [upE, upD, tyCs]⟩
def k27 := And.intro @Tryz.ntmps27 <| And.intro @Tryz.underlying27 <| And.intro @Tryz.underlying77 <| And.intro @bld30 <| And.intro @bld46 <| And.intro @elt27 <| And.intro @elt77 <| And.intro @fld30_0 <| And.intro @fld46_0 <| And.intro @kyt9 <| And.intro @mpt162 <| And.intro @ti162 <| And.intro @ti27 <| And.intro @ti30 <| And.intro @ti4 <| And.intro @ti46 <| And.intro @ti77 <| @ti9
theorem v27X16 {G G' : Prop} (g : G') (h : Hid G' → G := by intro h9; (first | refine nvB ?_ | refine goA (wr := false) (by simp only [kB, kG, kS, kM, k27, Nat.reduceAdd, Nat.reduceLT, Nat.reduceEqDiff, ↓reduceIte, reduceCtorEq]; first | done | rfl) ?_); (repeat (first | refine nvB ?_ | refine goA (wr := false) (by simp only [kB, kG, kS, kM, k27, Nat.reduceAdd, Nat.reduceLT, Nat.reduceEqDiff, ↓reduceIte, reduceCtorEq]; first | done | rfl) ?_)); exact h9.out) : G := h ⟨g⟩
theorem paths_ac (d : Dep) (hN : d.revs.length ≤ 512) (hpt : ∀ v ∈ d.revs, v.path.size ≤ 100000) : AC Tryz.prog 27 [aDep d] [] (fun r st => r = aStrs (pathsF d) ∧ st = []) := by
 refine AC_enter Tryz.func27 rfl rfl (by simp only [Tryz.ntmps27, List.length]; omega) ?_
 intro x hx
 simp only [List.range, List.range.loop, List.length, List.zip, List.zipWith, Nat.reduceAdd, Tryz.ntmps27]
 refine nvA ?_
 refine goA (wr := false) (by simp only [kB, kG, kS, kM, k27, Nat.reduceAdd, Nat.reduceLT, Nat.reduceEqDiff, ↓reduceIte, reduceCtorEq]; first | done | rfl) ?_
 refine nvA ?_
 refine goA (wr := false) (by simp only [kB, kG, kS, kM, k27, Nat.reduceAdd, Nat.reduceLT, Nat.reduceEqDiff, ↓reduceIte, reduceCtorEq]; first | done | rfl) ?_
 refine nvA ?_
 refine TO_ent (Ent_adopt (i := 3) (id := 100) (sz := 1) rfl rfl (by omega)) ?_
 refine fzA ?_
 try refine v27X16 ?_
 refine T_loop (ι := Nat) (I := fun k => ⟨72, [(1, .c (.ptr 1 0)), (3, .c (.ms 100 1 0 (pthL (d.revs.take k)).length)), (4, .c (.mp 9)), (11, aRevs d.revs), (12, I .i64 d.revs.length), (13, I .i64 k)],
   [(1, .box ((encDep d).map C.d)), (9, uMap kS' (pthL (d.revs.take k))), (100, dArr 1 ((pthL (d.revs.take k)).map encS))]⟩)
  (Inv := fun k => k ≤ d.revs.length) (μ := fun k => d.revs.length - k) 0 (by omega) ?_ ?_
 ·(refine Ent_sub (fun i => i) rfl ?_ ⟨?_, ?_, ?_, keepI hx (by simp [domOf, Ab.get])⟩ <;> first | (simp only [kE, dArr, ↓reduceIte, Nat.reduceEqDiff, reduceCtorEq, pthL]; done) | simp [renAV_id, renAO_id, flat_up, Ab.get, clAV, clC, clCs, clAO, cl_f1, cl_s1, cl_f2, cl_s2, cl_a1, domOf, List.flatten, pthL])
 intro k hk
 have hlk := pthL_len (d.revs.take k)
 have hlk2 : (d.revs.take k).length ≤ k := by simp; omega
 try refine v27X16 ?_
 refine ifA ?_ ?_
 ·intro hlt
  have hlt' : k < d.revs.length := by simpa using hlt
  obtain ⟨v, hv, he, htk⟩ := round encRev d.revs k zRev hlt'
  have hsk := pthL_snoc (d.revs.take k) v
  rw [← htk] at hsk
  generalize hA : pthL (d.revs.take k) = A at hsk hlk
  refine nvA ?_
  refine goA (wr := false) (by simp only [kB, kG, kS, kM, k27, Nat.reduceAdd, Nat.reduceLT, Nat.reduceEqDiff, ↓reduceIte, reduceCtorEq, he]; first | done | rfl) ?_
  refine nvA ?_
  refine TO_go (wr := false) 400 (by simp only [kB, kG, kS, kM, k27, Nat.reduceAdd, Nat.reduceLT, Nat.reduceEqDiff, ↓reduceIte, reduceCtorEq, look_S']; first | done | rfl) ?_ ?_
  ·exact obT (ty_S' A)
  refine nvA ?_
  refine ifA ?_ ?_
  ·intro hc
   have hc' : ¬ v.path ∈ A := by rw [← memS_iff]; simpa using hc
   have e2 : pthL (d.revs.take (k + 1)) = A ++ [v.path] := by rw [hsk, addS, if_neg hc']
   have e3 : addS A v.path = A ++ [v.path] := by rw [addS, if_neg hc']
   refine nvA ?_
   refine TO_go (wr := false) 400 (by simp only [kB, kG, kS, kM, k27, Nat.reduceAdd, Nat.reduceLT, Nat.reduceEqDiff, ↓reduceIte, reduceCtorEq, ins_S']; first | done | rfl) ?_ ?_
   ·exact obT (ty_S' A)
   try refine v27X16 ?_
   refine ⟨k + 1, by omega, by omega, ?_⟩
   rw [e2]
   (refine Ent_sub (fun i => if i = 100 then 29 else i) rfl ?_ ⟨?_, ?_, ?_, keepR hx (by simp [domOf, Ab.get])⟩ <;> first | (intro i hi; have h0 := hx i hi; constructor <;> (revert h0; simp only [domOf, Ab.get]; (repeat' split) <;> simp_all); done) | (simp only [kE, dArr, ↓reduceIte, Nat.reduceEqDiff, reduceCtorEq]; done) | (simp only [dArr, ren_arr, ren_map, List.mem_cons, List.not_mem_nil, or_false, forall_eq_or_imp, forall_eq]; simp [renAV, renC, renAO, ren_up, flat_up, Ab.get, clAV, clC, clCs, clAO, cl_f1, cl_s1, cl_f2, cl_s2, cl_a1, domOf, List.flatten, clCs_append, clPs, e3]; done) | simp [renAV, renC, renAO, ren_up, flat_up, Ab.get, clAV, clC, clCs, clAO, cl_f1, cl_s1, cl_f2, cl_s2, cl_a1, domOf, List.flatten, clCs_append, clPs, e3])
  ·intro hc
   have hc' : v.path ∈ A := by rw [← memS_iff]; simpa using hc
   have e2 : pthL (d.revs.take (k + 1)) = A := by rw [hsk, addS, if_pos hc']
   try refine v27X16 ?_
   refine ⟨k + 1, by omega, by omega, ?_⟩
   rw [e2]
   exact enA
 intro hge
 have hk' : k = d.revs.length := by have : ¬ k < d.revs.length := by simpa using hge
                                    omega
 rw [hk', List.take_length] at hlk ⊢
 have hMp : ∀ r ∈ pthL d.revs, r.size ≤ 100000 := by
  intro r hr
  obtain ⟨v, h1, h2⟩ := pthL_mem hr
  rw [← h2]; exact hpt v h1
 have hR : pathsF d = sortS (pthL d.revs) (pthL d.revs).length := rfl
 generalize pathsF d = R at hR
 generalize pthL d.revs = M at hlk hMp hR
 try refine v27X16 ?_
 refine T_loop (ι := Nat × List ByteArray) (I := fun i => ⟨72, [(3, .c (.ms 100 1 0 M.length)), (32, I .i64 M.length), (33, I .i64 i.1)], [(100, dArr 1 (i.2.map encS))]⟩)
  (Inv := fun i => i.1 ≤ M.length ∧ i.2.length = M.length ∧ (∀ r ∈ i.2, r.size ≤ 100000) ∧ i.2 = sortS M i.1) (μ := fun i => M.length - i.1) (0, M) ⟨by simp, rfl, hMp, rfl⟩ ?_ ?_
 ·exact enA
 rintro ⟨k, m⟩ ⟨h1, h2, h3, h4⟩
 simp only at h1 h2 h3 h4 ⊢
 try refine v27X16 ?_
 refine ifA ?_ ?_
 ·intro hlt
  have hlt' : k < M.length := by simpa using hlt
  try refine v27X16 ?_
  refine T_loop (ι := Nat × List ByteArray) (I := fun i => ⟨72, [(3, .c (.ms 100 1 0 M.length)), (8, I .i64 i.1), (32, I .i64 M.length), (33, I .i64 k)], [(100, dArr 1 (i.2.map encS))]⟩)
   (Inv := fun i => i.1 ≤ k ∧ i.2.length = M.length ∧ (∀ r ∈ i.2, r.size ≤ 100000) ∧ sinkS i.1 i.2 = sortS M (k + 1)) (μ := fun i => i.1) (k, m) ⟨by simp, h2, h3, by rw [h4]; rfl⟩ ?_ ?_
  ·exact enA
  rintro ⟨j, t⟩ ⟨g1, g2, g3, g4⟩
  simp only at g1 g2 g3 g4 ⊢
  have hj1 : ((j : Int) - 1).toNat = j - 1 := by omega
  have hjt : j < t.length := by omega
  have hjt2 : j - 1 < t.length := by omega
  have e1 := uGet encS t j noS hjt
  have e2 := uGet encS t (j - 1) noS hjt2
  have m1 : t.getD j noS ∈ t := by rw [List.getD_eq_getElem?_getD, List.getElem?_eq_getElem hjt]; simp
  have m2 : t.getD (j - 1) noS ∈ t := by rw [List.getD_eq_getElem?_getD, List.getElem?_eq_getElem hjt2]; simp
  generalize hv : t.getD j noS = v at e1 m1
  generalize hw : t.getD (j - 1) noS = w at e2 m2
  refine nvA ?_
  refine drA (wr := false) ([(49, I .i64 (ord v w))] : List (Nat × AV)) (by simp only [kD, kB, kG, kS, kM, k27, Nat.reduceAdd, Nat.reduceLT, Nat.reduceEqDiff, ↓reduceIte, reduceCtorEq, hj1, e1, e2]; first | done | rfl) ?_ ?_
  ·simp only [All, List.cons_append, List.nil_append, InR, List.mem_cons, List.not_mem_nil, or_false, forall_eq_or_imp, forall_eq, clAV, clCs, clC, clCaps, clCap, and_true, true_and, implies_true, List.length_map, List.length_cons, List.length_nil, dArr, cl_arr, tyCs]
   repeat' (first | exact trivial | exact ord_ac _ _ (g3 _ m1) (g3 _ m2) | refine And.intro ?_ ?_ | intro _ | assumption | rfl | omega | (rw [Bool.not_eq_true']; assumption) | (simp; done) | (simp only [decide_eq_true_eq] at *; omega) | (simp_all; done))
  refine nvA ?_
  refine ifA ?_ ?_
  ·intro hc
   have hc' : 0 < j ∧ ord v w < 0 := by
    cases j with
    | zero => exact absurd hc (by simp)
    | succ j => exact ⟨by omega, by simpa using hc⟩
   obtain ⟨hj, hb⟩ := hc'
   have hjn : j - 1 ≠ j := by omega
   have e3 := uGet encS (t.set j w) (j - 1) noS (by simp; omega)
   refine nvA ?_
   refine T_draw (wr := false) ([] : List (Nat × AV)) (by kernel_rfl) (by simp only [kD, kB, kG, kS, kM, k27, Nat.reduceAdd, Nat.reduceLT, Nat.reduceEqDiff, ↓reduceIte, reduceCtorEq, hj1, e1, e2, set_S, set_up]; first | done | rfl) (by first | exact trivial | (simp only [kO]; omega) | (simp [All, InR]; first | done | omega) | (simp +contextual [All, InR]; first | done | grind)) (by kernel_rfl) ?_
   try refine v27X16 ?_
   have hlen : ((t.set j w).set (j - 1) v).length = M.length := by simp [g2]
   refine ⟨(j - 1, (t.set j w).set (j - 1) v), ⟨by simp; omega, hlen, swapS (P := fun r => r.size ≤ 100000) (g3 _ m1) (g3 _ m2) g3, ?_⟩, by simp; omega, ?_⟩
   ·rw [← g4]
    obtain ⟨i, rfl⟩ : ∃ i, j = i + 1 := ⟨j - 1, by omega⟩
    have e0 : i + 1 - 1 = i := by omega
    rw [e0] at hw
    conv => rhs; rw [sinkS]
    rw [hv, hw, if_pos hb]; rfl
   ·have hcast : ((j - 1 : Nat) : Int) = (j : Int) - 1 := by omega
    (refine Ent_sub (fun i => i) rfl ?_ ⟨?_, ?_, ?_, keepI hx (by simp [domOf, Ab.get])⟩ <;> first | (simp only [kE, dArr, ↓reduceIte, Nat.reduceEqDiff, reduceCtorEq, hcast]; done) | simp [renAV_id, renAO_id, flat_up, Ab.get, clAV, clC, clCs, clAO, cl_f1, cl_s1, cl_f2, cl_s2, cl_a1, domOf, List.flatten, hcast])
  ·intro hc
   try refine v27X16 ?_
   refine ⟨(k + 1, t), ⟨by simp; omega, g2, g3, ?_⟩, by simp; omega, ?_⟩
   ·rw [← g4]
    cases j with
    | zero => rfl
    | succ i =>
      have hb : ¬ ord v w < 0 := by simpa using hc
      have e0 : i + 1 - 1 = i := by omega
      rw [e0] at hw
      simp only
      rw [sinkS, hv, hw, if_neg hb]
   ·exact enA
 intro hge
 have hge' : k = M.length := by have : ¬ k < M.length := by simpa using hge
                                omega
 rw [hge'] at h4
 rw [← h4] at hR
 refine nvA ?_
 refine TO_ent (Ent_frzSlot (i := 3) (id := 100) (ys := m.map encS) rfl rfl (by simp [h2])) ?_
 refine fzA ?_
 try refine v27X16 ?_
 refine rtA (by simp only [kR, Tryz.results27, ↓reduceIte, Nat.reduceEqDiff, reduceCtorEq]; first | done | rfl) ([]) ?_
 refine ⟨?_, rfl⟩
 rw [hR]
def k35 := And.intro @Tryz.ntmps35 <| And.intro @Tryz.underlying70 <| And.intro @bld37 <| And.intro @bld46 <| And.intro @elt70 <| And.intro @eqt37 <| And.intro @ti37 <| And.intro @ti46 <| @ti70
theorem v35X16 {G G' : Prop} (g : G') (h : Hid G' → G := by intro h9; (first | refine nvB ?_ | refine goA (wr := false) (by simp only [kB, k35, Nat.reduceAdd, Nat.reduceLT, Nat.reduceEqDiff, ↓reduceIte, reduceCtorEq]; first | done | rfl) ?_); (repeat (first | refine nvB ?_ | refine goA (wr := false) (by simp only [kB, k35, Nat.reduceAdd, Nat.reduceLT, Nat.reduceEqDiff, ↓reduceIte, reduceCtorEq]; first | done | rfl) ?_)); exact h9.out) : G := h ⟨g⟩
theorem inF_ac (l : List Fil) (hl : l.length ≤ 1000000) (v : Rev) : AC Tryz.prog 35 [aFils l, aRev v] [] (fun r st => r = B (decide (fileOf v ∈ l)) ∧ st = []) := by
 refine AC_enter Tryz.func35 rfl rfl (by simp only [Tryz.ntmps35, List.length]; omega) ?_
 intro x hx
 simp only [List.range, List.range.loop, List.length, List.zip, List.zipWith, Nat.reduceAdd, Tryz.ntmps35]
 try refine v35X16 ?_
 refine T_loop (ι := Nat) (I := fun k => ⟨18, [(3, .c (.ptr 3 0)), (7, aFils l), (8, I .i64 l.length), (9, I .i64 k)], [(3, .box ((encRev v).map C.d))]⟩)
  (Inv := fun k => k ≤ l.length ∧ ¬ fileOf v ∈ l.take k) (μ := fun k => l.length - k) 0 ⟨by omega, by simp⟩ ?_ ?_
 ·exact enA
 rintro k ⟨hk, hall⟩
 try refine v35X16 ?_
 refine ifA ?_ ?_
 ·intro hlt
  have hlt' : k < l.length := by simpa using hlt
  obtain ⟨u, hu, he, htk⟩ := round encFil l k zFil hlt'
  (repeat (first | refine nvB ?_ | refine goA (wr := false) (by simp only [kB, k35, Nat.reduceAdd, Nat.reduceLT, Nat.reduceEqDiff, ↓reduceIte, reduceCtorEq, he]; first | done | rfl) ?_))
  refine drA (wr := false) ([(15, aFil (fileOf v))] : List (Nat × AV)) (by simp only [kD, kB, k35, Nat.reduceAdd, Nat.reduceLT, Nat.reduceEqDiff, ↓reduceIte, reduceCtorEq]; first | done | rfl) ?_ ?_
  ·exact obT (file_ac v)
  refine nvA ?_
  refine ifA ?_ ?_
  ·intro hc
   have hc' : fileOf v ∈ l := by
    have : u = fileOf v := by
     obtain ⟨a, b⟩ := u
     simp only [fileOf] at hc ⊢
     simp at hc
     rw [of_decide_eq_true hc.1, of_decide_eq_true hc.2]
    rw [← this]; exact List.mem_of_getElem? hu
   try refine v35X16 ?_
   refine rtA (by simp only [kR, Tryz.results35, ↓reduceIte, Nat.reduceEqDiff, reduceCtorEq]; first | done | rfl) ([]) ?_
   refine ⟨?_, rfl⟩
   simp [hc']
  ·intro hc
   have hc' : ¬ fileOf v = u := by
    intro e
    subst e
    simp [fileOf] at hc
   try refine v35X16 ?_
   refine ⟨k + 1, ⟨by omega, by rw [htk, List.mem_append]; simp [hall, hc']⟩, by omega, ?_⟩
   exact enA
 intro hge
 have hk' : k = l.length := by have : ¬ k < l.length := by simpa using hge
                               omega
 rw [hk', List.take_length] at hall
 try refine v35X16 ?_
 refine rtA (by simp only [kR, Tryz.results35, ↓reduceIte, Nat.reduceEqDiff, reduceCtorEq]; first | done | rfl) ([]) ?_
 refine ⟨?_, rfl⟩
 simp [hall]
end Go.Proofs.YtmhboloicpieeaaGreatDoor

/- A part of the proof. -/
import Derived.Test.YtmhboloicpieeaaGreatDoorRPD
import Derived.Test.YtmhboloicpieeaaGreatDoorRL3a
import Derived.Test.YtmhboloicpieeaaGreatDoorRU8
import Derived.Test.YtmhboloicpieeaaGreatDoorRH1
import Derived.Test.YtmhboloicpieeaaGreatDoorRP14
import Derived.Test.YtmhboloicpieeaaGreatDoorRT2
import Derived.Test.YtmhboloicpieeaaGreatDoorRU10
import Derived.Test.YtmhboloicpieeaaGreatDoorRU3
set_option linter.all false
namespace Go.Proofs.YtmhboloicpieeaaGreatDoor
open Go.Ab Tys
variable [Dr]
def memS (l : List ByteArray) (p : ByteArray) : Bool := l.any fun x => decide (x = p)
theorem memS_iff {l : List ByteArray} {p : ByteArray} : memS l p = true ↔ p ∈ l := by simp [memS]
theorem look_S' (l : List ByteArray) (p : ByteArray) : (findE [C.d (.v (.string p))] ((sEnt kS' l).map upE)).getD (false, [C.d (.v (.bool false))]) = (false, [C.d (.v (.bool (memS l p)))]) := by
  have := findE_set kS_eq l p
  rw [show ((kS' p).2.map C.d) = [C.d (.v (.string p))] from rfl] at this
  rw [this]
  by_cases h : p ∈ l
  · rw [if_pos h, memS_iff.2 h]; rfl
  · have : memS l p = false := by cases hb : memS l p with | false => rfl | true => exact absurd (memS_iff.1 hb) h
    rw [if_neg h, this]; rfl
theorem ins_S' (l : List ByteArray) (p : ByteArray) : insE (false, [C.d (.v (.string p))]) (false, [C.d (.v (.bool true))]) ((sEnt kS' l).map upE) = (sEnt kS' (addS l p)).map upE := insE_set kS_eq l p
theorem ty_S' (l : List ByteArray) : ∀ e ∈ (sEnt kS' l).map upE, e.1.1 = false ∧ tyCs [.str] e.1.2 := by
  intro e he
  simp only [sEnt, List.mem_map] at he
  obtain ⟨_, ⟨f, _, rfl⟩, rfl⟩ := he
  exact ⟨rfl, by simp [upE, upD, tyCs]⟩
def k27 := And.intro @Tryz.ntmps27 <| And.intro @Tryz.underlying27 <| And.intro @Tryz.underlying77 <| And.intro @bld30 <| And.intro @bld46 <| And.intro @elt27 <| And.intro @elt77 <| And.intro @fld30_0 <| And.intro @fld46_0 <| And.intro @kyt9 <| And.intro @mpt162 <| And.intro @ti162 <| And.intro @ti27 <| And.intro @ti30 <| And.intro @ti4 <| And.intro @ti46 <| And.intro @ti77 <| @ti9
theorem v27X16 {G G' : Prop} (g : G') (h : Hid G' → G := by intro h9; (first | refine nvB ?_ | refine goA (wr := false) (by simp only [kB, kG, kS, kM, k27, Nat.reduceAdd, Nat.reduceLT, Nat.reduceEqDiff, ↓reduceIte, reduceCtorEq]; first | done | rfl) ?_); (repeat (first | refine nvB ?_ | refine goA (wr := false) (by simp only [kB, kG, kS, kM, k27, Nat.reduceAdd, Nat.reduceLT, Nat.reduceEqDiff, ↓reduceIte, reduceCtorEq]; first | done | rfl) ?_)); exact h9.out) : G := h ⟨g⟩
set_option maxRecDepth 100000 in
set_option maxHeartbeats 16000000 in
theorem paths_ac (d : Dep) (hN : d.revs.length ≤ 512) (hpt : ∀ v ∈ d.revs, v.path.size ≤ 100000) : AC Tryz.prog 27 [aDep d] [] (fun r st => r = aStrs (pathsF d) ∧ st = []) := by
  refine AC_enter Tryz.func27 rfl rfl (by simp only [Tryz.ntmps27, List.length]; omega) ?_
  intro x hx
  simp only [List.range, List.range.loop, List.length, List.zip, List.zipWith, Nat.reduceAdd, Tryz.ntmps27]
  refine nvA ?_
  refine goA (wr := false) (by simp only [kB, kG, kS, kM, k27, Nat.reduceAdd, Nat.reduceLT, Nat.reduceEqDiff, ↓reduceIte, reduceCtorEq]; first | done | rfl) ?_
  refine nvA ?_
  refine goA (wr := false) (by simp only [kB, kG, kS, kM, k27, Nat.reduceAdd, Nat.reduceLT, Nat.reduceEqDiff, ↓reduceIte, reduceCtorEq]; first | done | rfl) ?_
  refine nvA ?_
  refine TO_ent (Ent_adopt (i := 3) (id := 100) (sz := 1) rfl rfl (by omega)) ?_
  refine fzA ?_
  try refine v27X16 ?_
  refine T_loop (ι := Nat) (I := fun k => ⟨72, [(1, .c (.ptr 1 0)), (3, .c (.ms 100 1 0 (pthL (d.revs.take k)).length)), (4, .c (.mp 9)), (11, aRevs d.revs), (12, I .i64 d.revs.length), (13, I .i64 k)],
      [(1, .box ((encDep d).map C.d)), (9, uMap kS' (pthL (d.revs.take k))), (100, dArr 1 ((pthL (d.revs.take k)).map encS))]⟩)
    (Inv := fun k => k ≤ d.revs.length) (μ := fun k => d.revs.length - k) 0 (by omega) ?_ ?_
  · (refine Ent_sub (fun i => i) rfl ?_ ⟨?_, ?_, ?_, keepI hx (by simp [domOf, Ab.get])⟩ <;> first | (simp only [kE, dArr, ↓reduceIte, Nat.reduceEqDiff, reduceCtorEq, pthL]; done) | simp [renAV_id, renAO_id, flat_up, Ab.get, clAV, clC, clCs, clAO, cl_f1, cl_s1, cl_f2, cl_s2, cl_a1, domOf, List.flatten, pthL])
  intro k hk
  have hlk := pthL_len (d.revs.take k)
  have hlk2 : (d.revs.take k).length ≤ k := by simp; omega
  try refine v27X16 ?_
  refine ifA ?_ ?_
  · intro hlt
    have hlt' : k < d.revs.length := by simpa using hlt
    obtain ⟨v, hv, he, htk⟩ := round encRev d.revs k zRev hlt'
    have hsk := pthL_snoc (d.revs.take k) v
    rw [← htk] at hsk
    generalize hA : pthL (d.revs.take k) = A at hsk hlk
    refine nvA ?_
    refine goA (wr := false) (by simp only [kB, kG, kS, kM, k27, Nat.reduceAdd, Nat.reduceLT, Nat.reduceEqDiff, ↓reduceIte, reduceCtorEq, he]; first | done | rfl) ?_
    refine nvA ?_
    refine TO_go (wr := false) 400 (by simp only [kB, kG, kS, kM, k27, Nat.reduceAdd, Nat.reduceLT, Nat.reduceEqDiff, ↓reduceIte, reduceCtorEq, look_S']; first | done | rfl) ?_ ?_
    · exact obT (ty_S' A)
    refine nvA ?_
    refine ifA ?_ ?_
    · intro hc
      have hc' : ¬ v.path ∈ A := by rw [← memS_iff]; simpa using hc
      have e2 : pthL (d.revs.take (k + 1)) = A ++ [v.path] := by rw [hsk, addS, if_neg hc']
      have e3 : addS A v.path = A ++ [v.path] := by rw [addS, if_neg hc']
      refine nvA ?_
      refine TO_go (wr := false) 400 (by simp only [kB, kG, kS, kM, k27, Nat.reduceAdd, Nat.reduceLT, Nat.reduceEqDiff, ↓reduceIte, reduceCtorEq, ins_S']; first | done | rfl) ?_ ?_
      · exact obT (ty_S' A)
      try refine v27X16 ?_
      refine ⟨k + 1, by omega, by omega, ?_⟩
      rw [e2]
      (refine Ent_sub (fun i => if i = 100 then 29 else i) rfl ?_ ⟨?_, ?_, ?_, keepR hx (by simp [domOf, Ab.get])⟩ <;> first | (intro i hi; have h0 := hx i hi; constructor <;> (revert h0; simp only [domOf, Ab.get]; (repeat' split) <;> simp_all); done) | (simp only [kE, dArr, ↓reduceIte, Nat.reduceEqDiff, reduceCtorEq]; done) | (simp only [dArr, ren_arr, ren_map, List.mem_cons, List.not_mem_nil, or_false, forall_eq_or_imp, forall_eq]; simp [renAV, renC, renAO, ren_up, flat_up, Ab.get, clAV, clC, clCs, clAO, cl_f1, cl_s1, cl_f2, cl_s2, cl_a1, domOf, List.flatten, clCs_append, clPs, e3]; done) | simp [renAV, renC, renAO, ren_up, flat_up, Ab.get, clAV, clC, clCs, clAO, cl_f1, cl_s1, cl_f2, cl_s2, cl_a1, domOf, List.flatten, clCs_append, clPs, e3])
    · intro hc
      have hc' : v.path ∈ A := by rw [← memS_iff]; simpa using hc
      have e2 : pthL (d.revs.take (k + 1)) = A := by rw [hsk, addS, if_pos hc']
      try refine v27X16 ?_
      refine ⟨k + 1, by omega, by omega, ?_⟩
      rw [e2]
      exact enA
  intro hge
  have hk' : k = d.revs.length := by have : ¬ k < d.revs.length := by simpa using hge
                                     omega
  rw [hk', List.take_length] at hlk ⊢
  have hMp : ∀ r ∈ pthL d.revs, r.size ≤ 100000 := by
    intro r hr
    obtain ⟨v, h1, h2⟩ := pthL_mem hr
    rw [← h2]; exact hpt v h1
  have hR : pathsF d = sortS (pthL d.revs) (pthL d.revs).length := rfl
  generalize pathsF d = R at hR
  generalize pthL d.revs = M at hlk hMp hR
  try refine v27X16 ?_
  refine T_loop (ι := Nat × List ByteArray) (I := fun i => ⟨72, [(3, .c (.ms 100 1 0 M.length)), (32, I .i64 M.length), (33, I .i64 i.1)], [(100, dArr 1 (i.2.map encS))]⟩)
    (Inv := fun i => i.1 ≤ M.length ∧ i.2.length = M.length ∧ (∀ r ∈ i.2, r.size ≤ 100000) ∧ i.2 = sortS M i.1) (μ := fun i => M.length - i.1) (0, M) ⟨by simp, rfl, hMp, rfl⟩ ?_ ?_
  · exact enA
  rintro ⟨k, m⟩ ⟨h1, h2, h3, h4⟩
  simp only at h1 h2 h3 h4 ⊢
  try refine v27X16 ?_
  refine ifA ?_ ?_
  · intro hlt
    have hlt' : k < M.length := by simpa using hlt
    try refine v27X16 ?_
    refine T_loop (ι := Nat × List ByteArray) (I := fun i => ⟨72, [(3, .c (.ms 100 1 0 M.length)), (8, I .i64 i.1), (32, I .i64 M.length), (33, I .i64 k)], [(100, dArr 1 (i.2.map encS))]⟩)
      (Inv := fun i => i.1 ≤ k ∧ i.2.length = M.length ∧ (∀ r ∈ i.2, r.size ≤ 100000) ∧ sinkS i.1 i.2 = sortS M (k + 1)) (μ := fun i => i.1) (k, m) ⟨by simp, h2, h3, by rw [h4]; rfl⟩ ?_ ?_
    · exact enA
    rintro ⟨j, t⟩ ⟨g1, g2, g3, g4⟩
    simp only at g1 g2 g3 g4 ⊢
    have hj1 : ((j : Int) - 1).toNat = j - 1 := by omega
    have hjt : j < t.length := by omega
    have hjt2 : j - 1 < t.length := by omega
    have e1 := uGet encS t j noS hjt
    have e2 := uGet encS t (j - 1) noS hjt2
    have m1 : t.getD j noS ∈ t := by rw [List.getD_eq_getElem?_getD, List.getElem?_eq_getElem hjt]; simp
    have m2 : t.getD (j - 1) noS ∈ t := by rw [List.getD_eq_getElem?_getD, List.getElem?_eq_getElem hjt2]; simp
    generalize hv : t.getD j noS = v at e1 m1
    generalize hw : t.getD (j - 1) noS = w at e2 m2
    refine nvA ?_
    refine drA (wr := false) ([(49, I .i64 (ord v w))] : List (Nat × AV)) (by simp only [kD, kB, kG, kS, kM, k27, Nat.reduceAdd, Nat.reduceLT, Nat.reduceEqDiff, ↓reduceIte, reduceCtorEq, hj1, e1, e2]; first | done | rfl) ?_ ?_
    · simp only [All, List.cons_append, List.nil_append, InR, List.mem_cons, List.not_mem_nil, or_false, forall_eq_or_imp, forall_eq, clAV, clCs, clC, clCaps, clCap, and_true, true_and, implies_true, List.length_map, List.length_cons, List.length_nil, dArr, cl_arr, tyCs]
      repeat' (first | exact trivial | exact ord_ac _ _ (g3 _ m1) (g3 _ m2) | refine And.intro ?_ ?_ | intro _ | assumption | rfl | omega | (rw [Bool.not_eq_true']; assumption) | (simp; done) | (simp only [decide_eq_true_eq] at *; omega) | (simp_all; done))
    refine nvA ?_
    refine ifA ?_ ?_
    · intro hc
      have hc' : 0 < j ∧ ord v w < 0 := by
        cases j with
        | zero => exact absurd hc (by simp)
        | succ j => exact ⟨by omega, by simpa using hc⟩
      obtain ⟨hj, hb⟩ := hc'
      have hjn : j - 1 ≠ j := by omega
      have e3 := uGet encS (t.set j w) (j - 1) noS (by simp; omega)
      refine nvA ?_
      refine T_draw (wr := false) ([] : List (Nat × AV)) (by kernel_rfl) (by simp only [kD, kB, kG, kS, kM, k27, Nat.reduceAdd, Nat.reduceLT, Nat.reduceEqDiff, ↓reduceIte, reduceCtorEq, hj1, e1, e2, set_S, set_up]; first | done | rfl) (by first | exact trivial | (simp only [kO]; omega) | (simp [All, InR]; first | done | omega) | (simp +contextual [All, InR]; first | done | grind)) (by kernel_rfl) ?_
      try refine v27X16 ?_
      have hlen : ((t.set j w).set (j - 1) v).length = M.length := by simp [g2]
      refine ⟨(j - 1, (t.set j w).set (j - 1) v), ⟨by simp; omega, hlen, swapS (P := fun r => r.size ≤ 100000) (g3 _ m1) (g3 _ m2) g3, ?_⟩, by simp; omega, ?_⟩
      · rw [← g4]
        obtain ⟨i, rfl⟩ : ∃ i, j = i + 1 := ⟨j - 1, by omega⟩
        have e0 : i + 1 - 1 = i := by omega
        rw [e0] at hw
        conv => rhs; rw [sinkS]
        rw [hv, hw, if_pos hb]; rfl
      · have hcast : ((j - 1 : Nat) : Int) = (j : Int) - 1 := by omega
        (refine Ent_sub (fun i => i) rfl ?_ ⟨?_, ?_, ?_, keepI hx (by simp [domOf, Ab.get])⟩ <;> first | (simp only [kE, dArr, ↓reduceIte, Nat.reduceEqDiff, reduceCtorEq, hcast]; done) | simp [renAV_id, renAO_id, flat_up, Ab.get, clAV, clC, clCs, clAO, cl_f1, cl_s1, cl_f2, cl_s2, cl_a1, domOf, List.flatten, hcast])
    · intro hc
      try refine v27X16 ?_
      refine ⟨(k + 1, t), ⟨by simp; omega, g2, g3, ?_⟩, by simp; omega, ?_⟩
      · rw [← g4]
        cases j with
        | zero => rfl
        | succ i =>
          have hb : ¬ ord v w < 0 := by simpa using hc
          have e0 : i + 1 - 1 = i := by omega
          rw [e0] at hw
          simp only
          rw [sinkS, hv, hw, if_neg hb]
      · exact enA
  intro hge
  have hge' : k = M.length := by have : ¬ k < M.length := by simpa using hge
                                 omega
  rw [hge'] at h4
  rw [← h4] at hR
  refine nvA ?_
  refine TO_ent (Ent_frzSlot (i := 3) (id := 100) (ys := m.map encS) rfl rfl (by simp [h2])) ?_
  refine fzA ?_
  try refine v27X16 ?_
  refine rtA (by simp only [kR, Tryz.results27, ↓reduceIte, Nat.reduceEqDiff, reduceCtorEq]; first | done | rfl) ([]) ?_
  refine ⟨?_, rfl⟩
  rw [hR]
def k35 := And.intro @Tryz.ntmps35 <| And.intro @Tryz.underlying70 <| And.intro @bld37 <| And.intro @bld46 <| And.intro @elt70 <| And.intro @eqt37 <| And.intro @ti37 <| And.intro @ti46 <| @ti70
theorem v35X16 {G G' : Prop} (g : G') (h : Hid G' → G := by intro h9; (first | refine nvB ?_ | refine goA (wr := false) (by simp only [kB, k35, Nat.reduceAdd, Nat.reduceLT, Nat.reduceEqDiff, ↓reduceIte, reduceCtorEq]; first | done | rfl) ?_); (repeat (first | refine nvB ?_ | refine goA (wr := false) (by simp only [kB, k35, Nat.reduceAdd, Nat.reduceLT, Nat.reduceEqDiff, ↓reduceIte, reduceCtorEq]; first | done | rfl) ?_)); exact h9.out) : G := h ⟨g⟩
set_option maxRecDepth 100000 in
set_option maxHeartbeats 8000000 in
theorem inF_ac (l : List Fil) (hl : l.length ≤ 1000000) (v : Rev) : AC Tryz.prog 35 [aFils l, aRev v] [] (fun r st => r = B (decide (fileOf v ∈ l)) ∧ st = []) := by
  refine AC_enter Tryz.func35 rfl rfl (by simp only [Tryz.ntmps35, List.length]; omega) ?_
  intro x hx
  simp only [List.range, List.range.loop, List.length, List.zip, List.zipWith, Nat.reduceAdd, Tryz.ntmps35]
  try refine v35X16 ?_
  refine T_loop (ι := Nat) (I := fun k => ⟨18, [(3, .c (.ptr 3 0)), (7, aFils l), (8, I .i64 l.length), (9, I .i64 k)], [(3, .box ((encRev v).map C.d))]⟩)
    (Inv := fun k => k ≤ l.length ∧ ¬ fileOf v ∈ l.take k) (μ := fun k => l.length - k) 0 ⟨by omega, by simp⟩ ?_ ?_
  · exact enA
  rintro k ⟨hk, hall⟩
  try refine v35X16 ?_
  refine ifA ?_ ?_
  · intro hlt
    have hlt' : k < l.length := by simpa using hlt
    obtain ⟨u, hu, he, htk⟩ := round encFil l k zFil hlt'
    (repeat (first | refine nvB ?_ | refine goA (wr := false) (by simp only [kB, k35, Nat.reduceAdd, Nat.reduceLT, Nat.reduceEqDiff, ↓reduceIte, reduceCtorEq, he]; first | done | rfl) ?_))
    refine drA (wr := false) ([(15, aFil (fileOf v))] : List (Nat × AV)) (by simp only [kD, kB, k35, Nat.reduceAdd, Nat.reduceLT, Nat.reduceEqDiff, ↓reduceIte, reduceCtorEq]; first | done | rfl) ?_ ?_
    · exact obT (file_ac v)
    refine nvA ?_
    refine ifA ?_ ?_
    · intro hc
      have hc' : fileOf v ∈ l := by
        have : u = fileOf v := by
          obtain ⟨a, b⟩ := u
          simp only [fileOf] at hc ⊢
          simp at hc
          rw [of_decide_eq_true hc.1, of_decide_eq_true hc.2]
        rw [← this]; exact List.mem_of_getElem? hu
      try refine v35X16 ?_
      refine rtA (by simp only [kR, Tryz.results35, ↓reduceIte, Nat.reduceEqDiff, reduceCtorEq]; first | done | rfl) ([]) ?_
      refine ⟨?_, rfl⟩
      simp [hc']
    · intro hc
      have hc' : ¬ fileOf v = u := by
        intro e
        subst e
        simp [fileOf] at hc
      try refine v35X16 ?_
      refine ⟨k + 1, ⟨by omega, by rw [htk, List.mem_append]; simp [hall, hc']⟩, by omega, ?_⟩
      exact enA
  intro hge
  have hk' : k = l.length := by have : ¬ k < l.length := by simpa using hge
                                omega
  rw [hk', List.take_length] at hall
  try refine v35X16 ?_
  refine rtA (by simp only [kR, Tryz.results35, ↓reduceIte, Nat.reduceEqDiff, reduceCtorEq]; first | done | rfl) ([]) ?_
  refine ⟨?_, rfl⟩
  simp [hall]
end Go.Proofs.YtmhboloicpieeaaGreatDoor
namespace Go.Proofs.YtmhboloicpieeaaGreatDoor
open Go.Ab Tys
variable [Dr]
@[reducible] def vW (w : Int × Int × Nat) : Bool × List D := (true, [.v (.int .i64 w.1), .v (.int .i64 w.2.1), .v (.func (.func w.2.2) #[] #[])])
def wayL (k : Int) : List (Int × (Int × Int × Nat)) := if k = 1 then [(2, (1, 1, 80))] else if k = 3 then [(1, (2, 3, 81)), (2, (3, 1, 82))] else [(1, (2, 3, 81)), (2, (2, 1, 80)), (3, (2, 2, 83)), (4, (2, 4, 83))]
theorem look_W (m : List (Int × (Int × Int × Nat))) (n : Int) : findE [C.d (.v (.int .i64 n))] ((mEnt kN vW m).map upE) = (alook m n).map fun v => upD (vW v) := findE_ent (ve := vW) kN_eq m n
theorem ty_W (m : List (Int × (Int × Int × Nat))) : ∀ e ∈ (mEnt kN vW m).map upE, e.1.1 = false ∧ tyCs [.int .i64] e.1.2 := by
  intro e he
  simp only [mEnt, List.mem_map] at he
  obtain ⟨_, ⟨f, _, rfl⟩, rfl⟩ := he
  exact ⟨rfl, by simp [upE, upD, tyCs]⟩
def k38 := And.intro @Tryz.ntmps38 <| And.intro @bld105 <| And.intro @fld105_0 <| And.intro @fld105_1 <| And.intro @fld105_2 <| And.intro @kyt3 <| And.intro @mpt107 <| And.intro @ti103 <| And.intro @ti105 <| And.intro @ti107 <| @ti3
theorem v38U13 {G G' : Prop} (g : G') (h : Hid G' → G := by intro h9; (first | refine nvB ?_ | refine goA (wr := false) (by simp only [kB, kS, kM, k38, Nat.reduceAdd, Nat.reduceLT, Nat.reduceEqDiff, ↓reduceIte, reduceCtorEq]; first | done | rfl) ?_); (repeat (first | refine nvB ?_ | refine goA (wr := false) (by simp only [kB, kS, kM, k38, Nat.reduceAdd, Nat.reduceLT, Nat.reduceEqDiff, ↓reduceIte, reduceCtorEq]; first | done | rfl) ?_)); exact h9.out) : G := h ⟨g⟩
set_option maxRecDepth 100000 in
set_option maxHeartbeats 8000000 in
theorem ways_ac (k : Int) : AC Tryz.prog 38 [I .i64 k] [] (fun r st => r = .c (.d (.pm (mEnt kN vW (wayL k)))) ∧ st = []) := by
  refine AC_enter Tryz.func38 rfl rfl (by simp only [Tryz.ntmps38, List.length]; omega) ?_
  intro x hx
  simp only [List.range, List.range.loop, List.length, List.zip, List.zipWith, Nat.reduceAdd, Tryz.ntmps38]
  try refine v38U13 ?_
  refine ifA ?_ ?_
  · intro h
    have h' : k = 1 := by simpa using h
    refine nvA ?_
    refine TO_go (wr := false) 400 (by simp only [kB, kS, kM, k38, Nat.reduceAdd, Nat.reduceLT, Nat.reduceEqDiff, ↓reduceIte, reduceCtorEq, insE, keyB, eqC]; first | done | rfl) ?_ ?_
    · simp [All, InR, tyCs, insE, keyB, eqC]
    refine TO_ent (Ent_frzMapSlot (i := 2) (id := 6) (es := mEnt kN vW [(2, (1, 1, 80))]) rfl rfl) ?_
    refine fzA ?_
    try refine v38U13 ?_
    refine rtA (by simp only [kR, Tryz.results38, ↓reduceIte, Nat.reduceEqDiff, reduceCtorEq]; first | done | rfl) ([]) ?_
    refine ⟨?_, rfl⟩
    simp [wayL, h']
  intro h
  have h' : ¬ k = 1 := by simpa using h
  try refine v38U13 ?_
  refine ifA ?_ ?_
  · intro h3
    have h3' : k = 3 := by simpa using h3
    refine nvA ?_
    refine TO_go (wr := false) 400 (by simp only [kB, kS, kM, k38, Nat.reduceAdd, Nat.reduceLT, Nat.reduceEqDiff, ↓reduceIte, reduceCtorEq, insE, keyB, eqC]; first | done | rfl) ?_ ?_
    · simp [All, InR, tyCs, insE, keyB, eqC]
    refine TO_ent (Ent_frzMapSlot (i := 2) (id := 11) (es := mEnt kN vW [(1, (2, 3, 81)), (2, (3, 1, 82))]) rfl rfl) ?_
    refine fzA ?_
    try refine v38U13 ?_
    refine rtA (by simp only [kR, Tryz.results38, ↓reduceIte, Nat.reduceEqDiff, reduceCtorEq]; first | done | rfl) ([]) ?_
    refine ⟨?_, rfl⟩
    simp [wayL, h3']
  intro h3
  have h3' : ¬ k = 3 := by simpa using h3
  refine nvA ?_
  refine TO_go (wr := false) 400 (by simp only [kB, kS, kM, k38, Nat.reduceAdd, Nat.reduceLT, Nat.reduceEqDiff, ↓reduceIte, reduceCtorEq, insE, keyB, eqC]; first | done | rfl) ?_ ?_
  · simp [All, InR, tyCs, insE, keyB, eqC]
  refine TO_ent (Ent_frzMapSlot (i := 2) (id := 15) (es := mEnt kN vW [(1, (2, 3, 81)), (2, (2, 1, 80)), (3, (2, 2, 83)), (4, (2, 4, 83))]) rfl rfl) ?_
  refine fzA ?_
  try refine v38U13 ?_
  refine rtA (by simp only [kR, Tryz.results38, ↓reduceIte, Nat.reduceEqDiff, reduceCtorEq]; first | done | rfl) ([]) ?_
  refine ⟨?_, rfl⟩
  simp [wayL, h', h3']
theorem way_none {k ch : Int} (h : alook (wayL k) ch = none) : allowB k ch = false := by
  unfold wayL at h
  unfold allowB
  by_cases k1 : k = 1
  · rw [if_pos k1] at h ⊢
    by_cases c2 : ch = 2
    · simp [alook, c2] at h
    · simp [c2]
  rw [if_neg k1] at h ⊢
  by_cases c1 : ch = 1
  · exfalso; revert h; split <;> simp [alook, c1]
  by_cases c2 : ch = 2
  · exfalso; revert h; split <;> simp [alook, c2]
  by_cases k3 : k = 3
  · rw [if_pos k3]
    simp [c1, c2]
  rw [if_neg k3] at h ⊢
  by_cases c3 : ch = 3
  · simp [alook, c3] at h
  by_cases c4 : ch = 4
  · simp [alook, c4] at h
  simp; omega
theorem way_some {d : Dep} {t : Tsk} {ch : Int} {w : Rsn} {a h : Int} {F : Nat} (hw : alook (wayL t.kind) ch = some (a, h, F)) : allowB t.kind ch = true ∧ ∃ (b : Int) (kw ex xe : Bool) (sm sz : Int),
    resE d t ch w = (⟨t.to, a, b, kw, ex, xe, sm, sz, t.head, noS, 0, 0⟩, h) ∧ AC Tryz.prog F [.agg ((encPrb d t (srcR d t) (tgtR d t)).map C.d), aRsn w] [] (fun r st => r = .tup [(true, [.d (.v (.int .i64 b)), .d (.v (.bool kw)), .d (.v (.bool ex)), .d (.v (.bool xe))]), (true, [.d (.v (.int .u64 sm)), .d (.v (.int .i64 sz))])] ∧ st = []) := by
  unfold wayL at hw
  by_cases k1 : t.kind = 1
  · rw [if_pos k1] at hw
    by_cases c2 : ch = 2
    · subst c2
      simp [alook] at hw
      obtain ⟨rfl, rfl, rfl⟩ := hw
      exact ⟨by simp [allowB, k1], _, _, _, _, _, _, by simp [resE, k1] <;> rfl, ofSource_ac d t (srcR d t) (tgtR d t) w⟩
    · simp [alook, c2] at hw
  rw [if_neg k1] at hw
  by_cases k3 : t.kind = 3
  · rw [if_pos k3] at hw
    by_cases c1 : ch = 1
    · subst c1
      simp [alook] at hw
      obtain ⟨rfl, rfl, rfl⟩ := hw
      exact ⟨by simp [allowB, k3], _, _, _, _, _, _, by simp [resE, k3] <;> rfl, ofTarget_ac d t (srcR d t) (tgtR d t) w⟩
    by_cases c2 : ch = 2
    · subst c2
      simp [alook] at hw
      obtain ⟨rfl, rfl, rfl⟩ := hw
      exact ⟨by simp [allowB, k3], _, _, _, _, _, _, by simp [resE, k3] <;> rfl, ofDeleted_ac d t (srcR d t) (tgtR d t) w⟩
    · simp [alook, c1, c2] at hw
  rw [if_neg k3] at hw
  by_cases c1 : ch = 1
  · subst c1
    simp [alook] at hw
    obtain ⟨rfl, rfl, rfl⟩ := hw
    exact ⟨by simp [allowB, k1, k3], _, _, _, _, _, _, by simp [resE, k1] <;> rfl, ofTarget_ac d t (srcR d t) (tgtR d t) w⟩
  by_cases c2 : ch = 2
  · subst c2
    simp [alook] at hw
    obtain ⟨rfl, rfl, rfl⟩ := hw
    exact ⟨by simp [allowB, k1, k3], _, _, _, _, _, _, by simp [resE, k1, k3] <;> rfl, ofSource_ac d t (srcR d t) (tgtR d t) w⟩
  by_cases c3 : ch = 3
  · subst c3
    simp [alook] at hw
    obtain ⟨rfl, rfl, rfl⟩ := hw
    exact ⟨by simp [allowB, k1, k3], _, _, _, _, _, _, by simp [resE, k1, k3] <;> rfl, ofMerge_ac d t (srcR d t) (tgtR d t) w⟩
  by_cases c4 : ch = 4
  · subst c4
    simp [alook] at hw
    obtain ⟨rfl, rfl, rfl⟩ := hw
    exact ⟨by simp [allowB, k1, k3], _, _, _, _, _, _, by simp [resE, k1, k3] <;> rfl, ofMerge_ac d t (srcR d t) (tgtR d t) w⟩
  · simp [alook, c1, c2, c3, c4] at hw
def k40 := And.intro @Tryz.ntmps40 <| And.intro @bld100 <| And.intro @bld30 <| And.intro @bld39 <| And.intro @bld41 <| And.intro @bld46 <| And.intro @bld56 <| And.intro @elt50 <| And.intro @fld100_0 <| And.intro @fld100_1 <| And.intro @fld100_3 <| And.intro @fld39_5 <| And.intro @fld39_6 <| And.intro @fld39_8 <| And.intro @fld46_1 <| And.intro @fld46_4 <| And.intro @fld56_0 <| And.intro @fld56_1 <| And.intro @fld56_2 <| And.intro @fld56_4 <| And.intro @fld56_5 <| And.intro @fld56_6 <| And.intro @ti100 <| And.intro @ti3 <| And.intro @ti30 <| And.intro @ti39 <| And.intro @ti41 <| And.intro @ti46 <| And.intro @ti50 <| And.intro @ti56 <| @ti9
theorem v40U13 {G G' : Prop} (g : G') (h : Hid G' → G := by intro h9; (first | refine nvB ?_ | refine goA (wr := false) (by simp only [kB, kS, k40, Nat.reduceAdd, Nat.reduceLT, Nat.reduceEqDiff, ↓reduceIte, reduceCtorEq]; first | done | rfl) ?_); (repeat (first | refine nvB ?_ | refine goA (wr := false) (by simp only [kB, kS, k40, Nat.reduceAdd, Nat.reduceLT, Nat.reduceEqDiff, ↓reduceIte, reduceCtorEq]; first | done | rfl) ?_)); exact h9.out) : G := h ⟨g⟩
set_option maxRecDepth 100000 in
set_option maxHeartbeats 8000000 in
theorem pmoved_ac (d : Dep) (hg : Good d.revs) (hd : d.revs.length ≤ 1000000) (t : Tsk) (s : Rev) (e : Edt) (hto : usableB t.to = true) (hmv : usableB t.move = true) (ht : t.to.size ≤ 1500) (hm : t.move.size ≤ 1500) :
    AC Tryz.prog 40 [.agg ((encPrb d t s (tgtR d t)).map C.d), aEdt e] [] (fun r st => r = .c (.d (.ps 12 ((movE d t e).map encEdt))) ∧ st = []) := by
  have hL := hLast_ac d hg hd t.move
  have hC := pcompare_ac t.to t.move (by omega) (by omega)
  have v1 : (path? t.to).isSome = true := by
    cases h : (path? t.to).isSome with
    | true => rfl
    | false => simp [usableB, h] at hto
  have v2 : (path? t.move).isSome = true := by
    cases h : (path? t.move).isSome with
    | true => rfl
    | false => simp [usableB, h] at hmv
  rw [v1, v2] at hC
  simp only [Bool.and_self, if_true] at hC
  have hln : lastNum d t.move = ((last? d t.move).getD zRev).num := rfl
  generalize (last? d t.move).getD zRev = lm at hL hln
  generalize (last? d t.move).isSome = lb at hL
  refine AC_enter Tryz.func40 rfl rfl (by simp only [Tryz.ntmps40, List.length]; omega) ?_
  intro x hx
  simp only [List.range, List.range.loop, List.length, List.zip, List.zipWith, Nat.reduceAdd, Tryz.ntmps40]
  (repeat (first | refine v40U13 ?_ | (refine caA [] (hL) ?_; rintro r st' ⟨rfl, rfl⟩; refine frA ?_)))
  refine drA (wr := false) ([] : List (Nat × AV)) (by simp only [kD, kB, kS, k40, Nat.reduceAdd, Nat.reduceLT, Nat.reduceEqDiff, ↓reduceIte, reduceCtorEq]; first | done | rfl) ?_ ?_
  · exact obN
  refine nvA ?_
  refine drA (wr := false) ([] : List (Nat × AV)) (by simp only [kD, kB, kS, k40, Nat.reduceAdd, Nat.reduceLT, Nat.reduceEqDiff, ↓reduceIte, reduceCtorEq]; first | done | rfl) ?_ ?_
  · exact obN
  refine nvA ?_
  (repeat (first | refine v40U13 ?_ | (refine caA [] (hC) ?_; rintro r st' ⟨rfl, rfl⟩; refine frA ?_)))
  refine ifA ?_ ?_
  · intro h
    have h' : ord t.to t.move < 0 := by simpa using h
    refine nvA ?_
    refine goA (wr := false) (by simp only [kB, kS, k40, Nat.reduceAdd, Nat.reduceLT, Nat.reduceEqDiff, ↓reduceIte, reduceCtorEq]; first | done | rfl) ?_
    refine TO_ent (Ent_frzSlot (i := 4) (id := 56) (ys := [encEdt (awayE d t), encEdt (hereE d t e)]) rfl ?_ rfl) ?_
    · simp only [awayE, hereE, hln]; rfl
    refine fzA ?_
    try refine v40U13 ?_
    refine rtA (by simp only [kR, Tryz.results40, ↓reduceIte, Nat.reduceEqDiff, reduceCtorEq]; first | done | rfl) ([]) ?_
    refine ⟨?_, rfl⟩
    simp only [movE, if_pos h', List.map]
  intro h
  have h' : ¬ ord t.to t.move < 0 := by simpa using h
  refine nvA ?_
  refine goA (wr := false) (by simp only [kB, kS, k40, Nat.reduceAdd, Nat.reduceLT, Nat.reduceEqDiff, ↓reduceIte, reduceCtorEq]; first | done | rfl) ?_
  refine TO_ent (Ent_frzSlot (i := 4) (id := 59) (ys := [encEdt (hereE d t e), encEdt (awayE d t)]) rfl ?_ rfl) ?_
  · simp only [awayE, hereE, hln]; rfl
  refine fzA ?_
  try refine v40U13 ?_
  refine rtA (by simp only [kR, Tryz.results40, ↓reduceIte, Nat.reduceEqDiff, reduceCtorEq]; first | done | rfl) ([]) ?_
  refine ⟨?_, rfl⟩
  simp only [movE, if_neg h', List.map]
end Go.Proofs.YtmhboloicpieeaaGreatDoor

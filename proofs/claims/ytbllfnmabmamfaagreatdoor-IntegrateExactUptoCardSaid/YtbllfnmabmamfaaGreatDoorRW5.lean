/- A part of the proof. -/
import Derived.Test.YtbllfnmabmamfaaGreatDoorRBd2
import Derived.Test.YtbllfnmabmamfaaGreatDoorRW3
import Derived.Test.YtbllfnmabmamfaaGreatDoorQP4
set_option linter.all false
namespace Go.Proofs.YtbllfnmabmamfaaGreatDoor
open Go.Ab Tys
@[reducible] def pFil (f : Fil) : Bool × List C := (true, (encFil f).map C.d)
def idM (m : List (Fil × Rev)) (f : Fil) : Option Fil := (alook m f).map fun r => fileOf (lst m (m.length - 1) r)
theorem wfO_get {l : List (Nat × AO)} (h : ∀ p ∈ l, wfO p.2 = true) : ∀ id o, Ab.get l id = some o → wfO o = true := fun id o hg => h _ (get_mem hg)
theorem wfAV_get {l : List (Nat × AV)} (h : ∀ p ∈ l, wfAV p.2 = true) : ∀ id o, Ab.get l id = some o → wfAV o = true := fun id o hg => h _ (get_mem hg)
theorem alook_memL {l : List Rev} {f : Fil} {r : Rev} (h : alook (memL l) f = some r) : r ∈ l ∧ ¬ r.act = 5 ∧ fileOf r = f := by
  induction l with
  | nil => simp [alook] at h
  | cons a l ih =>
    by_cases h5 : a.act = 5
    · have e : memL (a :: l) = memL l := by simp [memL, List.filter_cons, isM, h5]
      rw [e] at h
      obtain ⟨a1, a2, a3⟩ := ih h
      exact ⟨by simp [a1], a2, a3⟩
    · have e : memL (a :: l) = (fileOf a, a) :: memL l := by simp [memL, List.filter_cons, isM, h5]
      rw [e, alook] at h
      split at h
      · rename_i ef; cases h; exact ⟨by simp, h5, ef.symm⟩
      · obtain ⟨a1, a2, a3⟩ := ih h
        exact ⟨by simp [a1], a2, a3⟩
theorem memL_len (l : List Rev) : (memL l).length ≤ l.length := by simp [memL]; exact List.length_filter_le ..
theorem num_mem {d : Dep} (hg : Good d.revs) {r : Rev} (h : r ∈ d.revs) : 1 ≤ r.num ∧ r.num ≤ d.revs.length := by
  obtain ⟨i, hi⟩ := List.getElem?_of_mem h
  have := hg.num i r hi
  have := (List.getElem?_eq_some_iff.1 hi).1
  omega
def k19 := And.intro @Tryz.ntmps19 <| And.intro @bld30 <| And.intro @bld37 <| And.intro @bld46 <| And.intro @fld37_0 <| And.intro @fld37_1 <| And.intro @kyt37 <| And.intro @mpt117 <| And.intro @ti117 <| And.intro @ti3 <| And.intro @ti30 <| And.intro @ti37 <| And.intro @ti46 <| @ti9
theorem v19W4 {G G' : Prop} (g : G') (h : Hid G' → G := by intro h9; (first | refine nvB ?_ | refine goA (wr := false) (by simp only [kB, kS, kM, k19, Nat.reduceAdd, Nat.reduceLT, Nat.reduceEqDiff, ↓reduceIte, reduceCtorEq]; first | done | rfl) ?_); (repeat (first | refine nvB ?_ | refine goA (wr := false) (by simp only [kB, kS, kM, k19, Nat.reduceAdd, Nat.reduceLT, Nat.reduceEqDiff, ↓reduceIte, reduceCtorEq]; first | done | rfl) ?_)); exact h9.out) : G := h ⟨g⟩
set_option maxRecDepth 100000 in
set_option maxHeartbeats 8000000 in
theorem Identity_ac (d : Dep) (hg : Good d.revs) (hd : d.revs.length ≤ 1000000) (p : ByteArray) (n : Int) : AC Tryz.prog 19 [aDep d, Str p, I .i64 n] []
    (fun r st => r = .tup [pFil ((idM (memL d.revs) ⟨p, n⟩).getD zFil), pB (idM (memL d.revs) ⟨p, n⟩).isSome] ∧ st = []) := by
  refine AC_enterM Tryz.func19 rfl rfl (by simp only [Tryz.ntmps19, List.length]; omega) ?_
  intro x hrf hx0
  have hx : ∀ id, x.d0 id → domOf [] id = true := fun id h => absurd h (hx0 id)
  simp only [List.range, List.range.loop, List.length, List.zip, List.zipWith, Nat.reduceAdd, Tryz.ntmps19]
  have hM := membersOf_ac d hg hd
  cases hk : alook (memL d.revs) ⟨p, n⟩ with
  | none =>
    (repeat (first | refine v19W4 ?_ | (refine caA [] (hM) ?_; rintro r st' ⟨rfl, rfl⟩; refine frA ?_)))
    refine TO_go (wr := false) 400 (by simp only [kB, kS, kM, k19, Nat.reduceAdd, Nat.reduceLT, Nat.reduceEqDiff, ↓reduceIte, reduceCtorEq, lookRv, hk, Option.map_none, Option.getD_none]; first | done | rfl) ?_ ?_
    · exact obF tyRv
    try refine v19W4 ?_
    refine ifA ?_ ?_
    rotate_left
    · intro h; cases h
    intro _
    try refine v19W4 ?_
    refine ⟨.inl rfl, ⟨34, [(6, .c (.ptr 6 0)), (7, B false)], [(6, .box ((encFil zFil).map C.d))]⟩, ?_, wfO_get (by simp [wfO, wfC]), wfAV_get (by simp [wfAV, wfC]), _, _, (by simp only [kR, Tryz.results19, effLoad, kB, k19, ↓reduceIte, Nat.reduceEqDiff, reduceCtorEq]; first | done | rfl), ?_, ?_, ?_⟩
    · (refine Ent_sub (fun i => i) rfl ?_ ⟨?_, ?_, ?_, keepI hx (by simp [domOf, Ab.get])⟩ <;> first | (simp only [kE, dArr, ↓reduceIte, Nat.reduceEqDiff, reduceCtorEq, zFil]; done) | simp [renAV_id, renAO_id, flat_up, Ab.get, clAV, clC, clCs, clAO, cl_f1, cl_s1, cl_f2, cl_s2, cl_a1, domOf, List.flatten, zFil])
    · simp [All]
    · rfl
    · simp [idM, hk, zFil]
  | some r =>
    obtain ⟨r1, r2, r3⟩ := alook_memL hk
    have hnr := num_mem hg r1
    have hne : memL d.revs ≠ [] := by intro e; rw [e] at hk; cases hk
    have hlen := memL_len d.revs
    have hB := back_ac (memL d.revs) r
    have hI := fun L D lr hp hAR => back1_ac L D lr (memL d.revs) r r (by omega) ⟨hnr.1, by omega⟩ (fun a u h => by
      unfold prevM at h
      split at h
      · cases h
      · have := num_mem hg (alook_memL h).1; omega) hp hne hAR
    have hres : idM (memL d.revs) ⟨p, n⟩ = some (fileOf (lst (memL d.revs) ((memL d.revs).length - 1) r)) := by simp [idM, hk]
    rw [hres]
    clear hres
    generalize lst (memL d.revs) ((memL d.revs).length - 1) r = q at hI
    (repeat (first | refine v19W4 ?_ | (refine caA [] (hM) ?_; rintro r st' ⟨rfl, rfl⟩; refine frA ?_)))
    refine TO_go (wr := false) 400 (by simp only [kB, kS, kM, k19, Nat.reduceAdd, Nat.reduceLT, Nat.reduceEqDiff, ↓reduceIte, reduceCtorEq, lookRv, hk, Option.map_some, Option.getD_some]; first | done | rfl) ?_ ?_
    · exact obF tyRv
    try refine v19W4 ?_
    refine ifA ?_ ?_
    · intro h; cases h
    intro _
    try refine v19W4 ?_
    refine caA ([]) (hB) ?_
    rintro rv9 st' ⟨rfl, rfl⟩ <;> refine frA ?_
    refine nvA ?_
    refine T_rangeFunc (env0 := envI) 3000 [(11, .box ((encRev r).map C.d)), (1103, .box ((encRev r).map C.d))] hrf (by simp only [kV, ↓reduceIte, Nat.reduceEqDiff, reduceCtorEq]; first | done | rfl) (by simp only [kFn, List.map]; first | done | rfl) (by simp [Ab.get]) (by simp [Ab.get]) (by simp [clAO, clCs, clC]) (by simp [clAV, clC, domOf, Ab.get]) (by simp [clEnv, clAV, clC, domOf, Ab.get]) ?_
      (R := fun L D lr v st' => (lr.state = .ready ∧ lr.pending = none) ∧ ∃ c, st' = stI L D lr q c) ?_ ?_
    · intro i v h
      by_cases e : 11 = i
      · subst e; simp [envI, Ab.get] at h; subst h; simp only [kV, ↓reduceIte, Nat.reduceEqDiff]
      · simp [envI, Ab.get, e] at h
    · intro L D lr h1 h2 h3 h4 h5 h6
      have hlr : { lr with state := .ready, pending := none } = lr := by cases lr; simp_all
      refine (hI L D lr (by rw [h4]; rfl) (fun f c v => ?_)).mono fun _ _ h => ⟨⟨h1, h2⟩, h⟩
      refine AR_enter (id := 3000) (D := D) (env := envI) (ps := [30]) h5 h6 h3 rfl h4 h1 rfl (by simp) ?_
      intro x hx
      have hop := open_round (P := Tryz.prog) L
      refine TR_region ?_
      simp only [List.zip, List.zipWith, List.foldl, envI, kP, Nat.reduceEqDiff, ↓reduceIte, reduceCtorEq]
      refine TJ_step hop (wr := false) rfl (by rfl) (by simp only [kB, kS, kM, k19, Nat.reduceAdd, Nat.reduceLT, Nat.reduceEqDiff, ↓reduceIte, reduceCtorEq]; first | done | rfl) (by first | exact trivial | (simp only [kO]; omega) | (simp [All, InR]; first | done | omega) | (simp +contextual [All, InR]; first | done | grind)) ?_
      try simp only [kP, Nat.reduceEqDiff, ↓reduceIte, reduceCtorEq]
      refine TJ_step hop (wr := false) rfl (by rfl) (by simp only [kB, kS, kM, k19, Nat.reduceAdd, Nat.reduceLT, Nat.reduceEqDiff, ↓reduceIte, reduceCtorEq]; first | done | rfl) (by first | exact trivial | (simp only [kO]; omega) | (simp [All, InR]; first | done | omega) | (simp +contextual [All, InR]; first | done | grind)) ?_
      try simp only [kP, Nat.reduceEqDiff, ↓reduceIte, reduceCtorEq]
      refine TJ_nil ⟨rfl, rfl, ?_⟩
      refine TR_block ?_
      simp only [kP, Nat.reduceEqDiff, ↓reduceIte, reduceCtorEq]
      refine TR_region ?_
      refine TJ_step hop (wr := false) rfl (by rfl) (by simp only [kB, kS, kM, k19, Nat.reduceAdd, Nat.reduceLT, Nat.reduceEqDiff, ↓reduceIte, reduceCtorEq]; first | done | rfl) (by first | exact trivial | (simp only [kO]; omega) | (simp [All, InR]; first | done | omega) | (simp +contextual [All, InR]; first | done | grind)) ?_
      try simp only [kP, Nat.reduceEqDiff, ↓reduceIte, reduceCtorEq]
      refine TJ_step hop (wr := false) rfl (by rfl) (by simp only [kB, kS, kM, k19, Nat.reduceAdd, Nat.reduceLT, Nat.reduceEqDiff, ↓reduceIte, reduceCtorEq]; first | done | rfl) (by first | exact trivial | (simp only [kO]; omega) | (simp [All, InR]; first | done | omega) | (simp +contextual [All, InR]; first | done | grind)) ?_
      try simp only [kP, Nat.reduceEqDiff, ↓reduceIte, reduceCtorEq]
      refine TJ_nil (inB_normal ⟨rfl, rfl, stI L D lr v c, ?_, rfl⟩)
      simp only [Ab.put, Nat.reduceEqDiff, ↓reduceIte, reduceCtorEq]
      rw [hlr]
      exact ⟨by simp [Ab.get, renAO_id], by simp, by simp [clAO, clEnv, clAV, clCs, clC, domOf, Ab.get], keepI hx (by simp [domOf, Ab.get])⟩
    · rintro L D lr v st' ⟨⟨h1, h2⟩, c, rfl⟩
      refine ⟨by simp [domOf, Ab.get], ⟨_, rfl, by rw [h1]; simp, h2⟩, ?_⟩
      simp only [kP, Nat.reduceEqDiff, ↓reduceIte, reduceCtorEq]
      have hN := name_ac q
      (repeat (first | refine v19W4 ?_ | (refine caA [] (hN) ?_; rintro r st' ⟨rfl, rfl⟩; refine frA ?_)))
      refine ⟨.inl rfl, ⟨34, [(6, .c (.ptr 6 0)), (7, B true)], [(6, .box ((encFil (fileOf q)).map C.d))]⟩, ?_, wfO_get (by simp [wfO, wfC]), wfAV_get (by simp [wfAV, wfC]), _, _, (by simp only [kR, Tryz.results19, effLoad, kB, k19, ↓reduceIte, Nat.reduceEqDiff, reduceCtorEq]; first | done | rfl), ?_, ?_, ?_⟩
      · exact enA
      · simp [All]
      · rfl
      · rfl
end Go.Proofs.YtbllfnmabmamfaaGreatDoor
namespace Go.Proofs.YtbllfnmabmamfaaGreatDoor
open Go.Ab Tys
structure IsS (l : List Fil) (S : Fil → Prop) : Prop where
  nodup : l.Nodup
  mem : ∀ g, g ∈ l ↔ S g
theorem addS_nodup {l : List Fil} (h : l.Nodup) (k : Fil) : (addS l k).Nodup := by
  unfold addS
  split
  · exact h
  · rename_i hk
    rw [List.nodup_append]
    refine ⟨h, by simp, ?_⟩
    intro a ha b hb
    simp at hb; subst hb
    rintro rfl; exact hk ha
@[reducible] def vNs (l : List Int) : Bool × List D := (false, [.ps 1 (l.map fun i => [.v (.int .i64 i)])])
@[reducible] def vRc (l : List Rcd) : Bool × List D := (false, [.ps 6 (l.map encRcd)])
@[reducible] def vSt (o : Option (List Fil)) : Bool × List D := (false, [dSet kF o])
@[reducible] def credBox (M : List (Fil × Rev)) (N : List (ByteArray × List Int)) (R : List (Fil × List Rcd)) : AO :=
  .box [.d (.pm (mEnt kF vR M)), .d (.pm (mEnt kS' vNs N)), .d (.pm (mEnt kF vRc R)), .mp 1201, .mp 1202, .mp 1203]
@[reducible] def setMap (c : List (Fil × Option (List Fil))) : AO := .map ((mEnt kF vSt c).map upE)
@[reducible] def credSt (M : List (Fil × Rev)) (N : List (ByteArray × List Int)) (R : List (Fil × List Rcd)) (c r k : List (Fil × Option (List Fil))) : List (Nat × AO) :=
  [(1200, credBox M N R), (1201, setMap c), (1202, setMap r), (1203, setMap k)]
def k96 := And.intro @Tryz.ntmps96 <| And.intro @Tryz.underlying229 <| And.intro @bld37 <| And.intro @elt229 <| And.intro @kyt37 <| And.intro @mpt181 <| And.intro @ti181 <| And.intro @ti229 <| And.intro @ti37 <| @ti4
theorem v96W5 {G G' : Prop} (g : G') (h : Hid G' → G := by intro h9; (first | refine nvB ?_ | refine goA (wr := false) (by simp only [kB, kM, k96, Nat.reduceAdd, Nat.reduceLT, Nat.reduceEqDiff, ↓reduceIte, reduceCtorEq]; first | done | rfl) ?_); (repeat (first | refine nvB ?_ | refine goA (wr := false) (by simp only [kB, kM, k96, Nat.reduceAdd, Nat.reduceLT, Nat.reduceEqDiff, ↓reduceIte, reduceCtorEq]; first | done | rfl) ?_)); exact h9.out) : G := h ⟨g⟩
set_option maxRecDepth 100000 in
set_option maxHeartbeats 8000000 in
theorem addC_ac (id : Nat) (h6 : ¬ id = 6) (h14 : ¬ id = 14) (l0 : List Fil) (hn0 : l0.Nodup) (m : List Fil) : AC Tryz.prog 96 [.c (.mp id), .c (.d (.ps 1 [[.pm (sEnt kF m)]]))] [(id, uMap kF l0)]
    (fun _ st => ∃ l, (l.Nodup ∧ ∀ k, k ∈ l ↔ k ∈ l0 ∨ k ∈ m) ∧ st = [(id, uMap kF l)]) := by
  have g6 : ¬ 6 = id := fun h => h6 h.symm
  have g14 : ¬ 14 = id := fun h => h14 h.symm
  refine AC_enter Tryz.func96 rfl rfl (by simp only [Tryz.ntmps96, List.length]; omega) ?_
  intro x hx
  simp only [List.range, List.range.loop, List.length, List.zip, List.zipWith, Nat.reduceAdd, Tryz.ntmps96]
  (repeat (first | refine nvB ?_ | refine goA (wr := false) (by simp only [kB, kM, k96, Nat.reduceAdd, Nat.reduceLT, Nat.reduceEqDiff, ↓reduceIte, reduceCtorEq, h6, h14, g6, g14, if_false]; first | done | rfl) ?_))
  refine T_loop (ι := Nat × List Fil) (I := fun i => ⟨22, [(0, .c (.mp id)), (7, .c (.d (.ps 1 [[.pm (sEnt kF m)]]))), (8, I .i64 1), (9, I .i64 i.1)], [(id, uMap kF i.2)]⟩)
    (Inv := fun i => (i.1 = 0 ∧ i.2 = l0) ∨ (i.1 = 1 ∧ i.2.Nodup ∧ ∀ k, k ∈ i.2 ↔ k ∈ l0 ∨ k ∈ m)) (μ := fun i => 1 - i.1) (0, l0) (by simp) ?_ ?_
  · (refine Ent_sub (fun i => i) rfl ?_ ⟨?_, ?_, ?_, keepI hx (by simp [domOf, Ab.get])⟩ <;> first | (simp only [kE, dArr, ↓reduceIte, Nat.reduceEqDiff, reduceCtorEq, h6, h14, g6, g14]; done) | simp [renAV_id, renAO_id, flat_up, Ab.get, clAV, clC, clCs, clAO, cl_f1, cl_s1, cl_f2, cl_s2, cl_a1, domOf, List.flatten, h6, h14, g6, g14])
  rintro ⟨j, l⟩ (⟨rfl, rfl⟩ | ⟨rfl, hn, hl⟩)
  · (repeat (first | refine nvB ?_ | refine goA (wr := false) (by simp only [kB, kM, k96, Nat.reduceAdd, Nat.reduceLT, Nat.reduceEqDiff, ↓reduceIte, reduceCtorEq, h6, h14, g6, g14]; first | done | rfl) ?_))
    refine ifA ?_ ?_
    rotate_left
    · intro h; simp at h
    intro _
    (repeat (first | refine nvB ?_ | refine goA (wr := false) (by simp only [kB, kM, k96, Nat.reduceAdd, Nat.reduceLT, Nat.reduceEqDiff, ↓reduceIte, reduceCtorEq, h6, h14, g6, g14, if_false]; first | done | rfl) ?_))
    refine T_loop (ι := Option EntD × List Fil × List Fil) (I := fun i => ⟨22, [(0, .c (.mp id)), (7, .c (.d (.ps 1 [[.pm (sEnt kF m)]]))), (8, I .i64 1), (9, I .i64 0), (14, .c (.ptr 14 0))], [(id, uMap kF i.2.2), (14, .iter i.1 (sEnt kF i.2.1))]⟩)
      (Inv := fun i => (∀ k, (k ∈ i.2.2 ∨ k ∈ i.2.1) ↔ (k ∈ l ∨ k ∈ m)) ∧ i.2.2.Nodup) (μ := fun i => i.2.1.length) (none, m, l) (by simp [hn0]) ?_ ?_
    · (refine Ent_sub (fun i => i) rfl ?_ ⟨?_, ?_, ?_, keepI hx (by simp [domOf, Ab.get])⟩ <;> first | (simp only [kE, dArr, ↓reduceIte, Nat.reduceEqDiff, reduceCtorEq, h6, h14, g6, g14]; done) | simp [renAV_id, renAO_id, flat_up, Ab.get, clAV, clC, clCs, clAO, cl_f1, cl_s1, cl_f2, cl_s2, cl_a1, domOf, List.flatten, h6, h14, g6, g14])
    rintro ⟨cur, rest, l⟩ ⟨h, hn⟩
    simp only at h hn ⊢
    refine nvA ?_
    refine TO_next (id := 14) (cur := cur) (left := sEnt kF rest) (by simp) rfl (by simp [Ab.get, h14]) ?_ ?_
    · intro h0
      simp only [kP, Nat.reduceEqDiff, ↓reduceIte, reduceCtorEq, h6, h14, g6, g14]
      try refine v96W5 ?_
      refine ifA ?_ ?_
      · intro hh; cases hh
      intro _
      try refine v96W5 ?_
      have : rest = [] := by simpa [sEnt] using h0
      subst this
      refine ⟨(1, l), .inr ⟨rfl, hn, fun k => by rw [← h k]; simp⟩, by simp, ?_⟩
      (refine Ent_sub (fun i => i) rfl ?_ ⟨?_, ?_, ?_, keepI hx (by simp [domOf, Ab.get])⟩ <;> first | (simp only [kE, dArr, ↓reduceIte, Nat.reduceEqDiff, reduceCtorEq, h6, h14, g6, g14]; done) | simp [renAV_id, renAO_id, flat_up, Ab.get, clAV, clC, clCs, clAO, cl_f1, cl_s1, cl_f2, cl_s2, cl_a1, domOf, List.flatten, h6, h14, g6, g14])
    intro l1 e l2 hsp
    obtain ⟨xs, k, y, rfl, rfl, rfl, rfl⟩ := sEnt_split hsp
    simp only [kP, Nat.reduceEqDiff, ↓reduceIte, reduceCtorEq, h6, h14, g6, g14]
    (repeat (first | refine nvB ?_ | refine goA (wr := false) (by simp only [kB, kM, k96, Nat.reduceAdd, Nat.reduceLT, Nat.reduceEqDiff, ↓reduceIte, reduceCtorEq, upD, h6, h14, g6, g14]; first | done | rfl) ?_))
    refine ifA ?_ ?_
    rotate_left
    · intro hh; cases hh
    intro _
    (repeat (first | refine nvB ?_ | refine goA (wr := false) (by simp only [kB, kM, k96, Nat.reduceAdd, Nat.reduceLT, Nat.reduceEqDiff, ↓reduceIte, reduceCtorEq, upD, h6, h14, g6, g14]; first | done | rfl) ?_))
    refine TO_go (wr := false) 400 (by simp only [kB, kM, k96, Nat.reduceAdd, Nat.reduceLT, Nat.reduceEqDiff, ↓reduceIte, reduceCtorEq, ins_F, h6, h14, g6, g14]; first | done | rfl) ?_ ?_
    · exact obT (ty_F l)
    try refine v96W5 ?_
    refine ⟨(some (kF k, (false, [.v (.bool true)])), xs ++ y, addS l k), ⟨?_, addS_nodup hn k⟩, by simp, ?_⟩
    · intro j
      rw [← h j, mem_addS]
      simp only [List.mem_append, List.mem_cons]
      constructor
      · rintro ((h | h) | h | h)
        · exact .inl h
        · exact .inr (.inr (.inl h))
        · exact .inr (.inl h)
        · exact .inr (.inr (.inr h))
      · rintro (h | h | h | h)
        · exact .inl (.inl h)
        · exact .inr (.inl h)
        · exact .inl (.inr h)
        · exact .inr (.inr h)
    · (refine Ent_sub (fun i => i) rfl ?_ ⟨?_, ?_, ?_, keepI hx (by simp [domOf, Ab.get])⟩ <;> first | (simp only [kE, dArr, ↓reduceIte, Nat.reduceEqDiff, reduceCtorEq, h6, h14, g6, g14]; done) | simp [renAV_id, renAO_id, flat_up, Ab.get, clAV, clC, clCs, clAO, cl_f1, cl_s1, cl_f2, cl_s2, cl_a1, domOf, List.flatten, h6, h14, g6, g14])
  · (repeat (first | refine nvB ?_ | refine goA (wr := false) (by simp only [kB, kM, k96, Nat.reduceAdd, Nat.reduceLT, Nat.reduceEqDiff, ↓reduceIte, reduceCtorEq, h6, h14, g6, g14]; first | done | rfl) ?_))
    refine ifA ?_ ?_
    · intro h; simp at h
    intro _
    try refine v96W5 ?_
    refine RetQ_norm (by simp only [kR, Tryz.results96, ↓reduceIte, Nat.reduceEqDiff, reduceCtorEq]; first | done | rfl) (by first | exact trivial | (simp only [kO]; omega) | (simp [All, InR]; first | done | omega) | (simp +contextual [All, InR]; first | done | grind)) [(id, uMap kF l)] ⟨by simp [Ab.get, renAO_id, h6, h14, g6, g14], by simp, by simp [clAO, cl_f1, cl_s1, cl_f2, cl_s2, cl_a1, flat_up, clCs, clC, domOf, Ab.get, h6, h14, g6, g14], keepI hx (by simp [domOf, Ab.get, h6, h14, g6, g14])⟩ (by simp [clAV, clPs, clCs, clC, domOf, Ab.get, h6, h14, g6, g14]) ?_
    exact ⟨l, ⟨hn, hl⟩, rfl⟩
def k136 := And.intro @Tryz.ntmps136 <| And.intro @bld76 <| And.intro @fld76_5 <| And.intro @ti3 <| @ti76
theorem v136W5 {G G' : Prop} (g : G') (h : Hid G' → G := by intro h9; (first | refine nvB ?_ | refine goA (wr := false) (by simp only [kB, k136, Nat.reduceAdd, Nat.reduceLT, Nat.reduceEqDiff, ↓reduceIte, reduceCtorEq]; first | done | rfl) ?_); (repeat (first | refine nvB ?_ | refine goA (wr := false) (by simp only [kB, k136, Nat.reduceAdd, Nat.reduceLT, Nat.reduceEqDiff, ↓reduceIte, reduceCtorEq]; first | done | rfl) ?_)); exact h9.out) : G := h ⟨g⟩
set_option maxRecDepth 100000 in
set_option maxHeartbeats 4000000 in
theorem origF_ac (r : Rcd) : AC Tryz.prog 136 [aRcd r] [] (fun x st => x = B (decide (r.how = 4)) ∧ st = []) := by
  refine AC_enter Tryz.func136 rfl rfl (by simp only [Tryz.ntmps136, List.length]; omega) ?_
  intro x hx
  simp only [List.range, List.range.loop, List.length, List.zip, List.zipWith, Nat.reduceAdd, Tryz.ntmps136]
  try refine v136W5 ?_
  refine rtA (by simp only [kR, Tryz.results136, ↓reduceIte, Nat.reduceEqDiff, reduceCtorEq]; first | done | rfl) ([]) ?_
  refine ⟨?_, rfl⟩
  rfl
def k169 := And.intro @Tryz.ntmps169 <| And.intro @Tryz.underlying28 <| And.intro @bld76 <| And.intro @elt28 <| And.intro @ti28 <| @ti76
theorem v169W5 {G G' : Prop} (g : G') (h : Hid G' → G := by intro h9; (first | refine nvB ?_ | refine goA (wr := false) (by simp only [kB, kFn, k169, Nat.reduceAdd, Nat.reduceLT, Nat.reduceEqDiff, ↓reduceIte, reduceCtorEq]; first | done | rfl) ?_); (repeat (first | refine nvB ?_ | refine goA (wr := false) (by simp only [kB, kFn, k169, Nat.reduceAdd, Nat.reduceLT, Nat.reduceEqDiff, ↓reduceIte, reduceCtorEq]; first | done | rfl) ?_)); exact h9.out) : G := h ⟨g⟩
set_option maxRecDepth 100000 in
set_option maxHeartbeats 8000000 in
theorem indexF_ac (rs : List Rcd) (hl : rs.length ≤ 512) : AC Tryz.prog 169 [.c (.d (.ps 6 (rs.map encRcd))), .c (.d (.v (.func (.func 136) #[] #[])))] []
    (fun x st => (∃ i : Int, x = I .i64 i ∧ (0 ≤ i ↔ ∃ r ∈ rs, r.how = 4)) ∧ st = []) := by
  refine AC_enter Tryz.func169 rfl rfl (by simp only [Tryz.ntmps169, List.length]; omega) ?_
  intro x hx
  simp only [List.range, List.range.loop, List.length, List.zip, List.zipWith, Nat.reduceAdd, Tryz.ntmps169]
  try refine v169W5 ?_
  refine T_loop (ι := Nat) (I := fun k => ⟨19, [(0, .c (.d (.ps 6 (rs.map encRcd)))), (1, .c (.d (.v (.func (.func 136) #[] #[])))), (7, I .i64 rs.length), (8, I .i64 k)], []⟩)
    (Inv := fun k => k ≤ rs.length ∧ ∀ r ∈ rs.take k, ¬ r.how = 4) (μ := fun k => rs.length - k) 0 (by simp) ?_ ?_
  · exact enA
  rintro k ⟨hk, hno⟩
  try refine v169W5 ?_
  refine ifA ?_ ?_
  · intro hlt
    have hlt' : k < rs.length := by simpa using hlt
    obtain ⟨v, hv, he, htk⟩ := round encRcd rs k zRcd hlt'
    have hq := origF_ac v
    (repeat (first | refine nvB ?_ | refine goA (wr := false) (by simp only [kB, kFn, k169, Nat.reduceAdd, Nat.reduceLT, Nat.reduceEqDiff, ↓reduceIte, reduceCtorEq, he]; first | done | rfl) ?_))
    refine TO_stepO (wr := false) ([(16, B (decide (v.how = 4)))] : List (Nat × AV)) rfl (by simp only [kD, kB, kFn, k169, Nat.reduceAdd, Nat.reduceLT, Nat.reduceEqDiff, ↓reduceIte, reduceCtorEq]; first | done | rfl) ?_ ?_
    · simp only [All, List.cons_append, List.nil_append, InR, List.mem_cons, List.not_mem_nil, or_false, forall_eq_or_imp, forall_eq, clAV, clCs, clC, clCaps, clCap, and_true, true_and, implies_true, List.length_map, List.length_cons, List.length_nil, dArr, cl_arr, tyCs]
      repeat' (first | exact trivial | exact hq | refine And.intro ?_ ?_ | intro _ | assumption | rfl | omega | (simp; done) | (simp_all; done))
    simp only [kP, Nat.reduceEqDiff, ↓reduceIte, reduceCtorEq]
    try refine v169W5 ?_
    refine ifA ?_ ?_
    · intro h4
      have h4 : v.how = 4 := by simpa using h4
      try refine v169W5 ?_
      refine rtA (by simp only [kR, Tryz.results169, ↓reduceIte, Nat.reduceEqDiff, reduceCtorEq]; first | done | rfl) ([]) ?_
      refine ⟨?_, rfl⟩
      exact ⟨k, rfl, by simp; exact ⟨v, List.mem_of_getElem? hv, h4⟩⟩
    · intro h4
      have h4 : ¬ v.how = 4 := by simpa using h4
      try refine v169W5 ?_
      refine ⟨k + 1, ⟨by omega, ?_⟩, by omega, ?_⟩
      · intro r hr
        rw [htk, List.mem_append] at hr
        rcases hr with hr | hr
        · exact hno r hr
        · simp at hr; subst hr; exact h4
      · exact enA
  · intro hge
    have hge' : k = rs.length := by have : ¬ k < rs.length := by simpa using hge
                                    omega
    subst hge'
    rw [List.take_length] at hno
    try refine v169W5 ?_
    refine rtA (by simp only [kR, Tryz.results169, ↓reduceIte, Nat.reduceEqDiff, reduceCtorEq]; first | done | rfl) ([]) ?_
    refine ⟨?_, rfl⟩
    refine ⟨-1, rfl, ?_⟩
    constructor
    · intro h; omega
    · rintro ⟨r, hr, h⟩; exact absurd h (hno r hr)
def k135 := And.intro @Tryz.ntmps135 <| trivial
theorem v135W5 {G G' : Prop} (g : G') (h : Hid G' → G := by intro h9; (first | refine nvB ?_ | refine goA (wr := false) (by simp only [kB, k135, Nat.reduceAdd, Nat.reduceLT, Nat.reduceEqDiff, ↓reduceIte, reduceCtorEq]; first | done | rfl) ?_); (repeat (first | refine nvB ?_ | refine goA (wr := false) (by simp only [kB, k135, Nat.reduceAdd, Nat.reduceLT, Nat.reduceEqDiff, ↓reduceIte, reduceCtorEq]; first | done | rfl) ?_)); exact h9.out) : G := h ⟨g⟩
set_option maxRecDepth 100000 in
set_option maxHeartbeats 4000000 in
theorem containsF_ac (rs : List Rcd) (hl : rs.length ≤ 512) : AC Tryz.prog 135 [.c (.d (.ps 6 (rs.map encRcd))), .c (.d (.v (.func (.func 136) #[] #[])))] []
    (fun x st => x = B (decide (∃ r ∈ rs, r.how = 4)) ∧ st = []) := by
  refine AC_enter Tryz.func135 rfl rfl (by simp only [Tryz.ntmps135, List.length]; omega) ?_
  intro x hx
  simp only [List.range, List.range.loop, List.length, List.zip, List.zipWith, Nat.reduceAdd, Tryz.ntmps135]
  try refine v135W5 ?_
  refine caA [] (indexF_ac rs hl) ?_
  rintro r st' ⟨⟨i, rfl, hi⟩, rfl⟩ <;> refine frA ?_
  try refine v135W5 ?_
  refine rtA (by simp only [kR, Tryz.results135, ↓reduceIte, Nat.reduceEqDiff, reduceCtorEq]; first | done | rfl) ([]) ?_
  refine ⟨?_, rfl⟩
  rw [show decide (0 ≤ i) = decide (∃ r ∈ rs, r.how = 4) from decide_eq_decide.2 hi]
end Go.Proofs.YtbllfnmabmamfaaGreatDoor

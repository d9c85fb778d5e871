/- A part of the proof. -/
import Derived.Test.YtbllfnmabmamfaaGreatDoorRBd2
import Derived.Test.YtbllfnmabmamfaaGreatDoorRW8
import Derived.Test.YtbllfnmabmamfaaGreatDoorRT1
import Derived.Test.YtbllfnmabmamfaaGreatDoorRT4
import Derived.Test.YtbllfnmabmamfaaGreatDoorRAbDl
set_option linter.all false
namespace Go.Proofs.YtbllfnmabmamfaaGreatDoor
open Go.Ab Tys
theorem T_take {P : Program} {x : X} {κ β : Type} [DecidableEq κ] {ke : κ → Bool × List D} (hk : ∀ a b, keyB ((ke a).2.map C.d) ((ke b).2.map C.d) = decide (a = b)) {c : Code} {Q : Exit → S → Prop} (enc : β → List D) {s : S} {mid pid pid' aid sz : Nat} {G : List (κ × (Value × List β))} {k : κ} {v : Value} {ys : List β} {ps : List (Value × List (List D))} (hm : get s.st mid = some (.map ((mEnt ke vV G).map upE)))
    (hp : get s.st pid = some (.pool sz ps)) (hpm : ps.Perm (poolOf enc G)) (hkG : alook G k = some (v, ys)) (hp' : get s.st pid' = none) (ha : get s.st aid = none) (hne : pid' ≠ aid)
    (h : ∀ ps', ((v, ys.map enc) :: ps').Perm ps → T P x c ⟨s.n, s.env, put (put (put (put s.st pid .dead) pid' (.pool sz ps')) aid (.arr sz ((ys.map enc).map fun l => l.map C.d))) mid (.map (insE (upD (ke k)) (false, [.ms aid sz 0 ys.length]) ((mEnt ke vV G).map upE)))⟩ Q) : T P x c s Q := by
  obtain ⟨ps', h1, h2⟩ := Ent_take (x := x) hk enc hm hp hpm hkG hp' ha hne
  exact T_ent h2 (h ps' h1)
structure GrowG {κ β : Type} [DecidableEq κ] (enc : β → List D) (f : κ → List β) (G : List (κ × (Value × List β))) (ps : List (Value × List (List D))) : Prop where
  perm : ps.Perm (poolOf enc G)
  look : ∀ p, (alook (unV G) p).getD [] = f p
theorem GrowG.step {κ β : Type} [DecidableEq κ] {enc : β → List D} {f g : κ → List β} {G : List (κ × (Value × List β))} {ps ps' : List (Value × List (List D))} (h : GrowG enc f G ps) (k : κ) (b : β) (v : Value) (zs : List β) (hz : zs = (alook (unV G) k).getD [] ++ [b])
    (hp : ps'.Perm (poolOf enc (aput G k (v, zs)))) (hg : ∀ p, g p = if p = k then f p ++ [b] else f p) : GrowG enc g (aput G k (v, zs)) ps' := by
  refine ⟨hp, fun p => ?_⟩
  rw [aput_unV, alook_aput, hg]
  by_cases e : p = k
  · subst e; rw [if_pos rfl, if_pos rfl, hz, ← h.look p]; rfl
  · rw [if_neg e, if_neg e]; exact h.look p
theorem tyS_V {β : Type} (m : List (ByteArray × (Value × List β))) : ∀ e ∈ (mEnt kS' vV m).map upE, e.1.1 = false ∧ tyCs [.str] e.1.2 := by
  intro e he
  simp only [mEnt, List.mem_map] at he
  obtain ⟨_, ⟨f, _, rfl⟩, rfl⟩ := he
  exact ⟨rfl, by simp [upE, upD, tyCs]⟩
theorem lookS_V {β : Type} (m : List (ByteArray × (Value × List β))) (p : ByteArray) : findE [C.d (.v (.string p))] ((mEnt kS' vV m).map upE) = (alook m p).map fun v => (false, [C.d (.v v.1)]) :=
  findE_ent (ve := vV) kS_eq m p
theorem tyS_ins (p : ByteArray) (w : Bool × List C) : ∀ es : List Ent1, (∀ e ∈ es, e.1.1 = false ∧ tyCs [.str] e.1.2) → ∀ e ∈ insE (false, [C.d (.v (.string p))]) w es, e.1.1 = false ∧ tyCs [.str] e.1.2
  | [], _ => by intro e he; simp [insE] at he; subst he; simp [tyCs]
  | a :: es, h => by
    intro e he
    simp only [insE] at he
    split at he
    · rcases List.mem_cons.1 he with rfl | he
      · simp [tyCs]
      · exact h e (List.mem_cons_of_mem _ he)
    · rcases List.mem_cons.1 he with rfl | he
      · exact h _ List.mem_cons_self
      · exact tyS_ins p w es (fun e he => h e (List.mem_cons_of_mem _ he)) e he
@[reducible] def eN (i : Int) : List D := [.v (.int .i64 i)]
@[reducible] def credL0 (M : List (Fil × Rev)) (G : List (ByteArray × (Value × List Int))) (R : List (Fil × (Value × List Rcd))) : List (Nat × AO) :=
  [(1200, .box [.mp 1204, .mp 1205, .mp 1206, .mp 1201, .mp 1202, .mp 1203]), (1201, setMap []), (1202, setMap []), (1203, setMap []), (1204, .map ((mEnt kF vR M).map upE)), (1205, .map ((mEnt kS' vV G).map upE)), (1206, .map ((mEnt kF vV R).map upE))]
def numsOf (l : List Rev) (p : ByteArray) : List Int := (l.filter fun v => decide (¬ v.act = 5 ∧ v.path = p)).map (·.num)
theorem numsOf_new {l : List Rev} {v : Rev} (h5 : ¬ v.act = 5) (p : ByteArray) : numsOf (l ++ [v]) p = if p = v.path then numsOf l p ++ [v.num] else numsOf l p := by
  unfold numsOf
  rw [List.filter_append, List.map_append]
  by_cases e : p = v.path
  · rw [if_pos e]; simp [h5, e]
  · rw [if_neg e]; simp [h5, Ne.symm e, fun h : v.path = p => e h.symm]
theorem numsOf_skip {l : List Rev} {v : Rev} (h5 : v.act = 5) (p : ByteArray) : numsOf (l ++ [v]) p = numsOf l p := by
  unfold numsOf
  rw [List.filter_append, List.map_append]; simp [h5]
theorem ty_V' {β : Type} (m : List (Fil × (Value × List β))) : ∀ e ∈ (mEnt kF vV m).map upE, e.1.1 = true ∧ tyCs [.str, .int .i64] e.1.2 := by
  intro e he
  simp only [mEnt, List.mem_map] at he
  obtain ⟨_, ⟨f, _, rfl⟩, rfl⟩ := he
  exact ⟨rfl, by simp [upE, upD, tyCs]⟩
theorem look_V' {β : Type} (m : List (Fil × (Value × List β))) (p : ByteArray) (n : Int) : findE [C.d (.v (.string p)), C.d (.v (.int .i64 n))] ((mEnt kF vV m).map upE) = (alook m ⟨p, n⟩).map fun v => (false, [C.d (.v v.1)]) :=
  findE_ent (ve := vV) kF_eq m ⟨p, n⟩
def k92 := And.intro @Tryz.ntmps92 <| And.intro @Tryz.underlying27 <| And.intro @Tryz.underlying28 <| And.intro @Tryz.underlying59 <| And.intro @bld180 <| And.intro @bld30 <| And.intro @bld37 <| And.intro @bld46 <| And.intro @bld76 <| And.intro @elt27 <| And.intro @elt28 <| And.intro @elt59 <| And.intro @fld180_0 <| And.intro @fld180_1 <| And.intro @fld180_2 <| And.intro @fld180_3 <| And.intro @fld180_4 <| And.intro @fld180_5 <| And.intro @fld30_0 <| And.intro @fld30_1 <| And.intro @fld37_0 <| And.intro @fld37_1 <| And.intro @fld46_0 <| And.intro @fld46_1 <| And.intro @fld46_3 <| And.intro @fld76_3 <| And.intro @fld76_4 <| And.intro @kyt37 <| And.intro @kyt9 <| And.intro @mpt116 <| And.intro @mpt176 <| And.intro @mpt177 <| And.intro @mpt178 <| And.intro @ti116 <| And.intro @ti176 <| And.intro @ti177 <| And.intro @ti178 <| And.intro @ti180 <| And.intro @ti181 <| And.intro @ti27 <| And.intro @ti28 <| And.intro @ti3 <| And.intro @ti30 <| And.intro @ti37 <| And.intro @ti46 <| And.intro @ti59 <| And.intro @ti76 <| @ti9
theorem v92W7 {G G' : Prop} (g : G') (h : Hid G' → G := by intro h9; (first | refine nvB ?_ | refine goA (wr := false) (by simp only [kB, kG, kS, kM, k92, Nat.reduceAdd, Nat.reduceLT, Nat.reduceEqDiff, ↓reduceIte, reduceCtorEq]; first | done | rfl) ?_); (repeat (first | refine nvB ?_ | refine goA (wr := false) (by simp only [kB, kG, kS, kM, k92, Nat.reduceAdd, Nat.reduceLT, Nat.reduceEqDiff, ↓reduceIte, reduceCtorEq]; first | done | rfl) ?_)); exact h9.out) : G := h ⟨g⟩
set_option maxRecDepth 100000 in
set_option maxHeartbeats 16000000 in
theorem newLedgerC_ac (d : Dep) (hg : Good d.revs) (hn : d.revs.length ≤ 512) (hm : d.recs.length ≤ 512) :
    AC Tryz.prog 92 [aDep d] [] (fun r st => ∃ M N R, CredOK d M N R ∧ r = .c (.ptr 1200 0) ∧ st = credSt M N R [] [] []) := by
  refine AC_enter Tryz.func92 rfl rfl (by simp only [Tryz.ntmps92, List.length]; omega) ?_
  intro x hx
  simp only [List.range, List.range.loop, List.length, List.zip, List.zipWith, Nat.reduceAdd, Tryz.ntmps92]
  try refine v92W7 ?_
  refine ifA ?_ ?_
  · intro h
    exfalso
    rw [show decide (512 < (d.revs.length : Int)) = false by simp; omega, show decide (512 < (d.recs.length : Int)) = false by simp; omega] at h
    cases h
  intro _
  try refine v92W7 ?_
  refine T_ent (s' := ⟨91, [(1, .c (.ptr 1 0)), (3, .c (.ptr 1200 0)), (29, aRevs d.revs), (30, I .i64 d.revs.length), (31, I .i64 0)], credL0 [] [] [] ++ [(1, .box [.d (.ps 12 (d.revs.map encRev)), .d (.ps 6 (d.recs.map encRcd))])]⟩) ?_ ?_
  · exact enR (fun i => if i = 1200 then 16 else if i = 1201 then 12 else if i = 1202 then 13 else if i = 1203 then 14 else if i = 1204 then 9 else if i = 1205 then 10 else if i = 1206 then 11 else i)
  refine T_ent (Ent_poolNew (id := 1207) (sz := 1) rfl (by omega)) ?_
  refine fzA ?_
  refine T_ent (Ent_poolNew (id := 1208) (sz := 6) rfl (by omega)) ?_
  simp only [credL0, List.cons_append, List.nil_append, Ab.put, Nat.reduceEqDiff, ↓reduceIte, reduceCtorEq, if_false, if_true]
  refine T_loop (ι := Nat × List (ByteArray × (Value × List Int)) × List (Value × List (List D)))
    (I := fun j => ⟨91, [(1, .c (.ptr 1 0)), (3, .c (.ptr 1200 0)), (29, aRevs d.revs), (30, I .i64 d.revs.length), (31, I .i64 j.1)], credL0 (memL (d.revs.take j.1)) j.2.1 [] ++ [(1, .box [.d (.ps 12 (d.revs.map encRev)), .d (.ps 6 (d.recs.map encRcd))]), (1207, .pool 1 j.2.2), (1208, .pool 6 [])]⟩)
    (Inv := fun j => j.1 ≤ d.revs.length ∧ GrowG eN (numsOf (d.revs.take j.1)) j.2.1 j.2.2) (μ := fun j => d.revs.length - j.1) (0, [], []) ⟨by simp, by constructor <;> simp [poolOf, unV, alook, numsOf]⟩ ?_ ?_
  · exact enA
  rintro ⟨k, G, ps⟩ ⟨hk, hG⟩
  simp only at hk hG ⊢
  try refine v92W7 ?_
  refine ifA ?_ ?_
  · intro hlt
    have hlt' : k < d.revs.length := by simpa using hlt
    obtain ⟨v, hv, he, htk⟩ := round encRev d.revs k zRev hlt'
    (repeat (first | refine nvB ?_ | refine goA (wr := false) (by simp only [kB, kG, kS, kM, k92, Nat.reduceAdd, Nat.reduceLT, Nat.reduceEqDiff, ↓reduceIte, reduceCtorEq, he]; first | done | rfl) ?_))
    refine ifA ?_ ?_
    rotate_left
    · intro h5
      have h5' : v.act = 5 := by simpa using h5
      try refine v92W7 ?_
      refine ⟨(k + 1, G, ps), ⟨by simp; omega, ?_⟩, by simp; omega, ?_⟩
      · refine ⟨hG.perm, fun p => ?_⟩
        simp only [htk]
        rw [numsOf_skip h5']; exact hG.look p
      · simp only [htk]
        rw [memL_skip h5']
        exact enA
    intro h5
    have h5' : ¬ v.act = 5 := by simpa using h5
    have hs := memL_step hg hv h5'
    rw [← htk] at hs
    refine nvA ?_
    refine drA (wr := false) ([] : List (Nat × AV)) (by simp only [kD, kB, kG, kS, kM, k92, Nat.reduceAdd, Nat.reduceLT, Nat.reduceEqDiff, ↓reduceIte, reduceCtorEq, ins_R]; first | done | rfl) ?_ ?_
    · exact obF tyRv
    rw [show (⟨v.path, v.num⟩ : Fil) = fileOf v from rfl, hs]
    cases hkG : alook G v.path with
    | none =>
      refine nvA ?_
      refine drA (wr := false) ([] : List (Nat × AV)) (by simp only [kD, kB, kG, kS, kM, k92, Nat.reduceAdd, Nat.reduceLT, Nat.reduceEqDiff, ↓reduceIte, reduceCtorEq, lookS_V, hkG, Option.map_none, Option.getD]; first | done | rfl) ?_ ?_
      · exact obF tyS_V
      refine nvA ?_
      refine TO_ex _ (put_back kS_eq eN (mid := 1205) (pid := 1207) (pid' := 2002) (aid := 64) (G := G) (k := v.path) (ys := [v.num]) (ps := ps) rfl rfl rfl rfl (by simp) rfl) ?_
      intro vv
      refine fzA ?_
      try refine v92W7 ?_
      refine ⟨(k + 1, aput G v.path (vv, [v.num]), (vv, [v.num].map eN) :: ps), ⟨by simp; omega, ?_⟩, by simp; omega, ?_⟩
      · exact hG.step v.path v.num vv [v.num] (by rw [alook_unV, hkG]; rfl) (perm_new eN hkG hG.perm) (fun p => by simp only [htk]; exact numsOf_new h5' p)
      · exact enR (fun i => if i = 1207 then 2002 else i)
    | some g =>
      obtain ⟨v0, ys⟩ := g
      have hyl : ys.length ≤ 512 := by
        have h1 := hG.look v.path
        rw [alook_unV, hkG] at h1
        simp only [Option.map_some, Option.getD] at h1
        rw [h1, numsOf, List.length_map]
        have := List.length_filter_le (fun w : Rev => decide (¬ w.act = 5 ∧ w.path = v.path)) (d.revs.take k)
        simp at this ⊢; omega
      have kk : keyB [C.d (.v (.string v.path))] [C.d (.v (.string v.path))] = true := by simp [keyB, eqC]
      have hfi := find_ins (false, [C.d (.v (.string v.path))]) (false, [.ms 2003 1 0 ys.length]) ((mEnt kS' vV G).map upE) kk
      have hii := fun w => ins_ins (false, [C.d (.v (.string v.path))]) (false, [.ms 2003 1 0 ys.length]) w ((mEnt kS' vV G).map upE) kk
      simp only at hfi hii
      refine T_take kS_eq eN (mid := 1205) (pid := 1207) (pid' := 2001) (aid := 2003) rfl rfl hG.perm hkG rfl rfl (by decide) ?_
      intro ps' hpe
      refine fzA ?_
      rw [show upD (kS' v.path) = (false, [C.d (.v (.string v.path))]) from rfl]
      refine nvA ?_
      refine drA (wr := false) ([] : List (Nat × AV)) (by simp only [kD, kB, kG, kS, kM, k92, Nat.reduceAdd, Nat.reduceLT, Nat.reduceEqDiff, ↓reduceIte, reduceCtorEq, hfi, hii, Option.getD]; first | done | rfl) ?_ ?_
      · simp only [All, List.cons_append, List.nil_append, InR, List.mem_cons, List.not_mem_nil, or_false, forall_eq_or_imp, forall_eq, clAV, clCs, clC, clCaps, clCap, and_true, true_and, implies_true, List.length_map, List.length_cons, List.length_nil, dArr, cl_arr, tyCs]
        repeat' (first | exact trivial | exact tyS_ins _ _ _ (tyS_V _) | refine And.intro ?_ ?_ | intro _ | assumption | rfl | omega | (rw [Bool.not_eq_true']; assumption) | (simp; done) | (simp only [decide_eq_true_eq] at *; omega) | (simp_all; done))
      refine nvA ?_
      refine TO_ex _ (put_back kS_eq eN (mid := 1205) (pid := 2001) (pid' := 2002) (aid := 64) (G := G) (k := v.path) (ys := ys ++ [v.num]) (ps := ps') rfl rfl (by simp [Ab.get]) (by simp) (by simp) rfl) ?_
      intro vv
      refine fzA ?_
      try refine v92W7 ?_
      refine ⟨(k + 1, aput G v.path (vv, ys ++ [v.num]), (vv, (ys ++ [v.num]).map eN) :: ps'), ⟨by simp; omega, ?_⟩, by simp; omega, ?_⟩
      · exact hG.step v.path v.num vv (ys ++ [v.num]) (by rw [alook_unV, hkG]; rfl) (perm_old eN hkG hG.perm hpe) (fun p => by simp only [htk]; exact numsOf_new h5' p)
      · exact enR (fun i => if i = 1207 then 2002 else i)
  intro hge
  have hge' : k = d.revs.length := by have : ¬ k < d.revs.length := by simpa using hge
                                      omega
  rw [hge', List.take_length] at hG ⊢
  try refine v92W7 ?_
  refine T_loop (ι := Nat × List (Fil × (Value × List Rcd)) × List (Value × List (List D)))
    (I := fun j => ⟨91, [(3, .c (.ptr 1200 0)), (67, .c (.d (.ps 6 (d.recs.map encRcd)))), (68, I .i64 d.recs.length), (69, I .i64 j.1)], credL0 (memL d.revs) G j.2.1 ++ [(1207, .pool 1 ps), (1208, .pool 6 j.2.2)]⟩)
    (Inv := fun j => j.1 ≤ d.recs.length ∧ GrowG encRcd (fun f => (d.recs.take j.1).filter fun r => decide ((⟨r.to, r.num⟩ : Fil) = f)) j.2.1 j.2.2) (μ := fun j => d.recs.length - j.1) (0, [], []) ⟨by simp, by constructor <;> simp [poolOf, unV, alook]⟩ ?_ ?_
  · exact enA
  rintro ⟨j, H, qs⟩ ⟨hj, hH⟩
  simp only at hj hH ⊢
  try refine v92W7 ?_
  refine ifA ?_ ?_
  · intro hlt
    have hlt' : j < d.recs.length := by simpa using hlt
    obtain ⟨r, hr, he, htk⟩ := round encRcd d.recs j zRcd hlt'
    have hst : ∀ f : Fil, (d.recs.take (j + 1)).filter (fun r => decide ((⟨r.to, r.num⟩ : Fil) = f)) = if f = ⟨r.to, r.num⟩ then (d.recs.take j).filter (fun r => decide ((⟨r.to, r.num⟩ : Fil) = f)) ++ [r] else (d.recs.take j).filter (fun r => decide ((⟨r.to, r.num⟩ : Fil) = f)) := by
      intro f
      rw [htk, List.filter_append]
      by_cases e : f = ⟨r.to, r.num⟩
      · rw [if_pos e, e]; simp
      · rw [if_neg e]; simp [Ne.symm e, fun h : (⟨r.to, r.num⟩ : Fil) = f => e h.symm]
    cases hkH : alook H ⟨r.to, r.num⟩ with
    | none =>
      (repeat (first | refine nvB ?_ | refine goA (wr := false) (by simp only [kB, kG, kS, kM, k92, Nat.reduceAdd, Nat.reduceLT, Nat.reduceEqDiff, ↓reduceIte, reduceCtorEq, he]; first | done | rfl) ?_))
      refine T_drawa (wr := false) 7 ([] : List (Nat × AV)) (by kernel_rfl) (by simp only [List.take_succ_cons, List.take_zero, kD, kB, kG, kS, kM, k92, Nat.reduceAdd, Nat.reduceLT, Nat.reduceEqDiff, ↓reduceIte, reduceCtorEq]; first | done | rfl) ?_ (by decide) (by kernel_rfl) (by kernel_rfl) ?_
      · exact obN
      refine TA_step [7] 7 (by kernel_rfl) (by kernel_rfl) (by simp) (by kernel_rfl) (by simp) ?_
      intro i hi
      obtain rfl : i = 7 := by simpa using hi
      refine ⟨_, rfl, ?_⟩
      refine TO_mapEntry (id := 1206) (es := (mEnt kF vV H).map upE) (ak := aFil ⟨r.to, r.num⟩) (p := (true, [C.d (.v (.string r.to)), C.d (.v (.int .i64 r.num))])) (by simp) mpt177 kyt37 ti28 rfl rfl rfl rfl rfl (by simp [tyCs]) (ty_V' H) ?_
      intro β
      simp only [look_V', hkH, Option.map_none, Option.getD]
      refine fzA ?_
      refine TO_nil ⟨rfl, ?_⟩
      refine TA_step [8, 10] 8 (by kernel_rfl) (by kernel_rfl) (by simp) (by kernel_rfl) (by simp) ?_
      intro i hi
      rcases (by simpa using hi : i = 8 ∨ i = 10) with rfl | rfl
      · refine ⟨_, rfl, ?_⟩
        refine goA (wr := false) (by simp only [kB, kG, kS, kM, k92, Nat.reduceAdd, Nat.reduceLT, Nat.reduceEqDiff, ↓reduceIte, reduceCtorEq]; first | done | rfl) ?_
        refine TO_nil ⟨rfl, ?_⟩
        refine TA_step [9, 10] 9 (by kernel_rfl) (by kernel_rfl) (by simp) (by kernel_rfl) (by simp) ?_
        intro i hi
        rcases (by simpa using hi : i = 9 ∨ i = 10) with rfl | rfl
        · refine ⟨_, rfl, ?_⟩
          refine goA (wr := false) (by simp only [kB, kG, kS, kM, k92, Nat.reduceAdd, Nat.reduceLT, Nat.reduceEqDiff, ↓reduceIte, reduceCtorEq]; first | done | rfl) ?_
          refine TO_nil ⟨rfl, ?_⟩
          refine TA_step [10] 10 (by kernel_rfl) (by kernel_rfl) (by simp) (by kernel_rfl) (by simp) ?_
          intro i hi
          obtain rfl : i = 10 := by simpa using hi
          refine ⟨_, rfl, ?_⟩
          refine goA (wr := false) (by simp only [kB, kG, kS, kM, k92, Nat.reduceAdd, Nat.reduceLT, Nat.reduceEqDiff, ↓reduceIte, reduceCtorEq]; first | done | rfl) ?_
          refine TO_nil ⟨rfl, ?_⟩
          refine TA_step [11] 11 (by kernel_rfl) (by kernel_rfl) (by simp) (by kernel_rfl) (by simp) ?_
          intro i hi
          obtain rfl : i = 11 := by simpa using hi
          refine ⟨_, rfl, ?_⟩
          refine TO_entryStore rfl rfl rfl rfl rfl (insE_idx _ _ _) ?_
          rw [Ab.insE_set]
          refine fzA ?_
          refine TO_nil ⟨rfl, TA_end (by kernel_rfl) ?_⟩
          refine nvA ?_
          refine TO_ex _ (put_back kF_eq encRcd (mid := 1206) (pid := 1208) (pid' := 2002) (aid := 87) (G := H) (k := ⟨r.to, r.num⟩) (ys := [r]) (ps := qs) rfl rfl rfl rfl (by simp) rfl) ?_
          intro vv
          refine fzA ?_
          try refine v92W7 ?_
          refine ⟨(j + 1, aput H ⟨r.to, r.num⟩ (vv, [r]), (vv, [r].map encRcd) :: qs), ⟨by simp; omega, ?_⟩, by simp; omega, ?_⟩
          · exact hH.step ⟨r.to, r.num⟩ r vv [r] (by rw [alook_unV, hkH]; rfl) (perm_new encRcd hkH hH.perm) hst
          · exact enR (fun i => if i = 1208 then 2002 else i)
        · refine ⟨_, rfl, ?_⟩
          refine goA (wr := false) (by simp only [kB, kG, kS, kM, k92, Nat.reduceAdd, Nat.reduceLT, Nat.reduceEqDiff, ↓reduceIte, reduceCtorEq]; first | done | rfl) ?_
          refine TO_nil ⟨rfl, ?_⟩
          refine TA_step [9] 9 (by kernel_rfl) (by kernel_rfl) (by simp) (by kernel_rfl) (by simp) ?_
          intro i hi
          obtain rfl : i = 9 := by simpa using hi
          refine ⟨_, rfl, ?_⟩
          refine goA (wr := false) (by simp only [kB, kG, kS, kM, k92, Nat.reduceAdd, Nat.reduceLT, Nat.reduceEqDiff, ↓reduceIte, reduceCtorEq]; first | done | rfl) ?_
          refine TO_nil ⟨rfl, ?_⟩
          refine TA_step [11] 11 (by kernel_rfl) (by kernel_rfl) (by simp) (by kernel_rfl) (by simp) ?_
          intro i hi
          obtain rfl : i = 11 := by simpa using hi
          refine ⟨_, rfl, ?_⟩
          refine TO_entryStore rfl rfl rfl rfl rfl (insE_idx _ _ _) ?_
          rw [Ab.insE_set]
          refine fzA ?_
          refine TO_nil ⟨rfl, TA_end (by kernel_rfl) ?_⟩
          refine nvA ?_
          refine TO_ex _ (put_back kF_eq encRcd (mid := 1206) (pid := 1208) (pid' := 2002) (aid := 87) (G := H) (k := ⟨r.to, r.num⟩) (ys := [r]) (ps := qs) rfl rfl rfl rfl (by simp) rfl) ?_
          intro vv
          refine fzA ?_
          try refine v92W7 ?_
          refine ⟨(j + 1, aput H ⟨r.to, r.num⟩ (vv, [r]), (vv, [r].map encRcd) :: qs), ⟨by simp; omega, ?_⟩, by simp; omega, ?_⟩
          · exact hH.step ⟨r.to, r.num⟩ r vv [r] (by rw [alook_unV, hkH]; rfl) (perm_new encRcd hkH hH.perm) hst
          · exact enR (fun i => if i = 1208 then 2002 else i)
      · refine ⟨_, rfl, ?_⟩
        refine goA (wr := false) (by simp only [kB, kG, kS, kM, k92, Nat.reduceAdd, Nat.reduceLT, Nat.reduceEqDiff, ↓reduceIte, reduceCtorEq]; first | done | rfl) ?_
        refine TO_nil ⟨rfl, ?_⟩
        refine TA_step [8] 8 (by kernel_rfl) (by kernel_rfl) (by simp) (by kernel_rfl) (by simp) ?_
        intro i hi
        obtain rfl : i = 8 := by simpa using hi
        refine ⟨_, rfl, ?_⟩
        refine goA (wr := false) (by simp only [kB, kG, kS, kM, k92, Nat.reduceAdd, Nat.reduceLT, Nat.reduceEqDiff, ↓reduceIte, reduceCtorEq]; first | done | rfl) ?_
        refine TO_nil ⟨rfl, ?_⟩
        refine TA_step [9] 9 (by kernel_rfl) (by kernel_rfl) (by simp) (by kernel_rfl) (by simp) ?_
        intro i hi
        obtain rfl : i = 9 := by simpa using hi
        refine ⟨_, rfl, ?_⟩
        refine goA (wr := false) (by simp only [kB, kG, kS, kM, k92, Nat.reduceAdd, Nat.reduceLT, Nat.reduceEqDiff, ↓reduceIte, reduceCtorEq]; first | done | rfl) ?_
        refine TO_nil ⟨rfl, ?_⟩
        refine TA_step [11] 11 (by kernel_rfl) (by kernel_rfl) (by simp) (by kernel_rfl) (by simp) ?_
        intro i hi
        obtain rfl : i = 11 := by simpa using hi
        refine ⟨_, rfl, ?_⟩
        refine TO_entryStore rfl rfl rfl rfl rfl (insE_idx _ _ _) ?_
        rw [Ab.insE_set]
        refine fzA ?_
        refine TO_nil ⟨rfl, TA_end (by kernel_rfl) ?_⟩
        refine nvA ?_
        refine TO_ex _ (put_back kF_eq encRcd (mid := 1206) (pid := 1208) (pid' := 2002) (aid := 87) (G := H) (k := ⟨r.to, r.num⟩) (ys := [r]) (ps := qs) rfl rfl rfl rfl (by simp) rfl) ?_
        intro vv
        refine fzA ?_
        try refine v92W7 ?_
        refine ⟨(j + 1, aput H ⟨r.to, r.num⟩ (vv, [r]), (vv, [r].map encRcd) :: qs), ⟨by simp; omega, ?_⟩, by simp; omega, ?_⟩
        · exact hH.step ⟨r.to, r.num⟩ r vv [r] (by rw [alook_unV, hkH]; rfl) (perm_new encRcd hkH hH.perm) hst
        · exact enR (fun i => if i = 1208 then 2002 else i)
    | some g =>
      obtain ⟨v0, ys⟩ := g
      have hyl : ys.length ≤ 512 := by
        have h1 := hH.look ⟨r.to, r.num⟩
        rw [alook_unV, hkH] at h1
        have h2 := List.length_filter_le (fun r' : Rcd => decide ((⟨r'.to, r'.num⟩ : Fil) = ⟨r.to, r.num⟩)) (d.recs.take j)
        rw [← h1] at h2
        simp at h2; omega
      have kk : keyB [C.d (.v (.string r.to)), C.d (.v (.int .i64 r.num))] [C.d (.v (.string r.to)), C.d (.v (.int .i64 r.num))] = true := by simp [keyB, eqC]
      have hfi := find_ins (true, [C.d (.v (.string r.to)), C.d (.v (.int .i64 r.num))]) (false, [.ms 2003 6 0 ys.length]) ((mEnt kF vV H).map upE) kk
      have hii := fun w => ins_ins (true, [C.d (.v (.string r.to)), C.d (.v (.int .i64 r.num))]) (false, [.ms 2003 6 0 ys.length]) w ((mEnt kF vV H).map upE) kk
      simp only at hfi hii
      (repeat (first | refine nvB ?_ | refine goA (wr := false) (by simp only [kB, kG, kS, kM, k92, Nat.reduceAdd, Nat.reduceLT, Nat.reduceEqDiff, ↓reduceIte, reduceCtorEq, he]; first | done | rfl) ?_))
      refine T_take kF_eq encRcd (mid := 1206) (pid := 1208) (pid' := 2001) (aid := 2003) rfl rfl hH.perm hkH rfl rfl (by decide) ?_
      intro ps' hpe
      refine fzA ?_
      refine T_drawa (wr := false) 7 ([] : List (Nat × AV)) (by kernel_rfl) (by simp only [List.take_succ_cons, List.take_zero, kD, kB, kG, kS, kM, k92, Nat.reduceAdd, Nat.reduceLT, Nat.reduceEqDiff, ↓reduceIte, reduceCtorEq]; first | done | rfl) ?_ (by decide) (by kernel_rfl) (by kernel_rfl) ?_
      · exact obN
      refine TA_step [7] 7 (by kernel_rfl) (by kernel_rfl) (by simp) (by kernel_rfl) (by simp) ?_
      intro i hi
      obtain rfl : i = 7 := by simpa using hi
      refine ⟨_, rfl, ?_⟩
      refine TO_mapEntry (id := 1206) (es := insE (true, [C.d (.v (.string r.to)), C.d (.v (.int .i64 r.num))]) (false, [.ms 2003 6 0 ys.length]) ((mEnt kF vV H).map upE)) (ak := aFil ⟨r.to, r.num⟩) (p := (true, [C.d (.v (.string r.to)), C.d (.v (.int .i64 r.num))])) (by simp) mpt177 kyt37 ti28 rfl rfl rfl rfl rfl (by simp [tyCs]) (tyF_ins _ _ _ _ (ty_V' H)) ?_
      intro β
      simp only [hfi, Option.getD]
      refine fzA ?_
      refine TO_nil ⟨rfl, ?_⟩
      refine TA_step [8, 10] 8 (by kernel_rfl) (by kernel_rfl) (by simp) (by kernel_rfl) (by simp) ?_
      intro i hi
      rcases (by simpa using hi : i = 8 ∨ i = 10) with rfl | rfl
      · refine ⟨_, rfl, ?_⟩
        refine goA (wr := false) (by simp only [kB, kG, kS, kM, k92, Nat.reduceAdd, Nat.reduceLT, Nat.reduceEqDiff, ↓reduceIte, reduceCtorEq]; first | done | rfl) ?_
        refine TO_nil ⟨rfl, ?_⟩
        refine TA_step [9, 10] 9 (by kernel_rfl) (by kernel_rfl) (by simp) (by kernel_rfl) (by simp) ?_
        intro i hi
        rcases (by simpa using hi : i = 9 ∨ i = 10) with rfl | rfl
        · refine ⟨_, rfl, ?_⟩
          refine goA (wr := false) (by simp only [kB, kG, kS, kM, k92, Nat.reduceAdd, Nat.reduceLT, Nat.reduceEqDiff, ↓reduceIte, reduceCtorEq]; first | done | rfl) ?_
          refine TO_nil ⟨rfl, ?_⟩
          refine TA_step [10] 10 (by kernel_rfl) (by kernel_rfl) (by simp) (by kernel_rfl) (by simp) ?_
          intro i hi
          obtain rfl : i = 10 := by simpa using hi
          refine ⟨_, rfl, ?_⟩
          refine goA (wr := false) (by simp only [kB, kG, kS, kM, k92, Nat.reduceAdd, Nat.reduceLT, Nat.reduceEqDiff, ↓reduceIte, reduceCtorEq]; first | done | rfl) ?_
          refine TO_nil ⟨rfl, ?_⟩
          refine TA_step [11] 11 (by kernel_rfl) (by kernel_rfl) (by simp) (by kernel_rfl) (by simp) ?_
          intro i hi
          obtain rfl : i = 11 := by simpa using hi
          refine ⟨_, rfl, ?_⟩
          refine TO_entryStore rfl rfl rfl rfl rfl (insE_idx _ _ _) ?_
          rw [Ab.insE_set]
          refine fzA ?_
          simp only [hii]
          refine TO_nil ⟨rfl, TA_end (by kernel_rfl) ?_⟩
          refine nvA ?_
          refine TO_ex _ (put_back kF_eq encRcd (mid := 1206) (pid := 2001) (pid' := 2002) (aid := 87) (G := H) (k := ⟨r.to, r.num⟩) (ys := ys ++ [r]) (ps := ps') rfl rfl (by simp [Ab.get]) (by simp) (by simp) rfl) ?_
          intro vv
          refine fzA ?_
          try refine v92W7 ?_
          refine ⟨(j + 1, aput H ⟨r.to, r.num⟩ (vv, ys ++ [r]), (vv, (ys ++ [r]).map encRcd) :: ps'), ⟨by simp; omega, ?_⟩, by simp; omega, ?_⟩
          · exact hH.step ⟨r.to, r.num⟩ r vv (ys ++ [r]) (by rw [alook_unV, hkH]; rfl) (perm_old encRcd hkH hH.perm hpe) hst
          · exact enR (fun i => if i = 1208 then 2002 else i)
        · refine ⟨_, rfl, ?_⟩
          refine goA (wr := false) (by simp only [kB, kG, kS, kM, k92, Nat.reduceAdd, Nat.reduceLT, Nat.reduceEqDiff, ↓reduceIte, reduceCtorEq]; first | done | rfl) ?_
          refine TO_nil ⟨rfl, ?_⟩
          refine TA_step [9] 9 (by kernel_rfl) (by kernel_rfl) (by simp) (by kernel_rfl) (by simp) ?_
          intro i hi
          obtain rfl : i = 9 := by simpa using hi
          refine ⟨_, rfl, ?_⟩
          refine goA (wr := false) (by simp only [kB, kG, kS, kM, k92, Nat.reduceAdd, Nat.reduceLT, Nat.reduceEqDiff, ↓reduceIte, reduceCtorEq]; first | done | rfl) ?_
          refine TO_nil ⟨rfl, ?_⟩
          refine TA_step [11] 11 (by kernel_rfl) (by kernel_rfl) (by simp) (by kernel_rfl) (by simp) ?_
          intro i hi
          obtain rfl : i = 11 := by simpa using hi
          refine ⟨_, rfl, ?_⟩
          refine TO_entryStore rfl rfl rfl rfl rfl (insE_idx _ _ _) ?_
          rw [Ab.insE_set]
          refine fzA ?_
          simp only [hii]
          refine TO_nil ⟨rfl, TA_end (by kernel_rfl) ?_⟩
          refine nvA ?_
          refine TO_ex _ (put_back kF_eq encRcd (mid := 1206) (pid := 2001) (pid' := 2002) (aid := 87) (G := H) (k := ⟨r.to, r.num⟩) (ys := ys ++ [r]) (ps := ps') rfl rfl (by simp [Ab.get]) (by simp) (by simp) rfl) ?_
          intro vv
          refine fzA ?_
          try refine v92W7 ?_
          refine ⟨(j + 1, aput H ⟨r.to, r.num⟩ (vv, ys ++ [r]), (vv, (ys ++ [r]).map encRcd) :: ps'), ⟨by simp; omega, ?_⟩, by simp; omega, ?_⟩
          · exact hH.step ⟨r.to, r.num⟩ r vv (ys ++ [r]) (by rw [alook_unV, hkH]; rfl) (perm_old encRcd hkH hH.perm hpe) hst
          · exact enR (fun i => if i = 1208 then 2002 else i)
      · refine ⟨_, rfl, ?_⟩
        refine goA (wr := false) (by simp only [kB, kG, kS, kM, k92, Nat.reduceAdd, Nat.reduceLT, Nat.reduceEqDiff, ↓reduceIte, reduceCtorEq]; first | done | rfl) ?_
        refine TO_nil ⟨rfl, ?_⟩
        refine TA_step [8] 8 (by kernel_rfl) (by kernel_rfl) (by simp) (by kernel_rfl) (by simp) ?_
        intro i hi
        obtain rfl : i = 8 := by simpa using hi
        refine ⟨_, rfl, ?_⟩
        refine goA (wr := false) (by simp only [kB, kG, kS, kM, k92, Nat.reduceAdd, Nat.reduceLT, Nat.reduceEqDiff, ↓reduceIte, reduceCtorEq]; first | done | rfl) ?_
        refine TO_nil ⟨rfl, ?_⟩
        refine TA_step [9] 9 (by kernel_rfl) (by kernel_rfl) (by simp) (by kernel_rfl) (by simp) ?_
        intro i hi
        obtain rfl : i = 9 := by simpa using hi
        refine ⟨_, rfl, ?_⟩
        refine goA (wr := false) (by simp only [kB, kG, kS, kM, k92, Nat.reduceAdd, Nat.reduceLT, Nat.reduceEqDiff, ↓reduceIte, reduceCtorEq]; first | done | rfl) ?_
        refine TO_nil ⟨rfl, ?_⟩
        refine TA_step [11] 11 (by kernel_rfl) (by kernel_rfl) (by simp) (by kernel_rfl) (by simp) ?_
        intro i hi
        obtain rfl : i = 11 := by simpa using hi
        refine ⟨_, rfl, ?_⟩
        refine TO_entryStore rfl rfl rfl rfl rfl (insE_idx _ _ _) ?_
        rw [Ab.insE_set]
        refine fzA ?_
        simp only [hii]
        refine TO_nil ⟨rfl, TA_end (by kernel_rfl) ?_⟩
        refine nvA ?_
        refine TO_ex _ (put_back kF_eq encRcd (mid := 1206) (pid := 2001) (pid' := 2002) (aid := 87) (G := H) (k := ⟨r.to, r.num⟩) (ys := ys ++ [r]) (ps := ps') rfl rfl (by simp [Ab.get]) (by simp) (by simp) rfl) ?_
        intro vv
        refine fzA ?_
        try refine v92W7 ?_
        refine ⟨(j + 1, aput H ⟨r.to, r.num⟩ (vv, ys ++ [r]), (vv, (ys ++ [r]).map encRcd) :: ps'), ⟨by simp; omega, ?_⟩, by simp; omega, ?_⟩
        · exact hH.step ⟨r.to, r.num⟩ r vv (ys ++ [r]) (by rw [alook_unV, hkH]; rfl) (perm_old encRcd hkH hH.perm hpe) hst
        · exact enR (fun i => if i = 1208 then 2002 else i)
  · intro hge2
    have hge2' : j = d.recs.length := by have : ¬ j < d.recs.length := by simpa using hge2
                                         omega
    rw [hge2', List.take_length] at hH
    obtain ⟨ff1, ff2⟩ := frz_form (ke := kS') eN 1 G
    obtain ⟨fg1, fg2⟩ := frz_form (ke := kF) encRcd 6 H
    have hpm1 := frz_mem (ke := kS') eN hG.perm
    have hpm2 := frz_mem (ke := kF) encRcd hH.perm
    have hN := hG.look
    have hR := hH.look
    refine nvA ?_
    rw [ff1, fg1]
    refine TO_ent (Ent_frzMapCell (bid := 1200) (id := 1204) (j := 0) (es := mEnt kF vR (memL d.revs)) (by decide) rfl rfl rfl) ?_
    refine fzA ?_
    refine TO_ent (Ent_frzPoolCell (bid := 1200) (mid := 1205) (pid := 1207) (sz := 1) (j := 1) rfl rfl rfl rfl hpm1) ?_
    refine fzA ?_
    refine TO_ent (Ent_frzPoolCell (bid := 1200) (mid := 1206) (pid := 1208) (sz := 6) (j := 2) rfl rfl rfl rfl hpm2) ?_
    refine fzA ?_
    rw [ff2, fg2]
    generalize unV G = N at hN
    generalize unV H = R at hR
    simp only [List.set_cons_zero, List.set_cons_succ]
    try refine v92W7 ?_
    refine rtA (by simp only [kR, Tryz.results92, ↓reduceIte, Nat.reduceEqDiff, reduceCtorEq]; first | done | rfl) ((credSt (memL d.revs) N R [] [] [])) ?_
    exact ⟨memL d.revs, N, R, ⟨rfl, hN, hR⟩, rfl, rfl⟩
end Go.Proofs.YtbllfnmabmamfaaGreatDoor

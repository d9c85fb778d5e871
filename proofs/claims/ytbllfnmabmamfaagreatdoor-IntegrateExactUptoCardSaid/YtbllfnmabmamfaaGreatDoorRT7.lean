/- A part of the proof. -/
import Derived.Test.YtbllfnmabmamfaaGreatDoorRBd2
import Derived.Test.YtbllfnmabmamfaaGreatDoorRH2
import Derived.Test.YtbllfnmabmamfaaGreatDoorQP4
import Derived.Test.YtbllfnmabmamfaaGreatDoorRT5
import Derived.Test.YtbllfnmabmamfaaGreatDoorRT6
import Derived.Test.YtbllfnmabmamfaaGreatDoorRT1
set_option linter.all false
namespace Go.Proofs.YtbllfnmabmamfaaGreatDoor
open Go.Ab Tys
theorem ty_V {β : Type} (m : List (Fil × (Value × List β))) : ∀ e ∈ (mEnt kF vV m).map upE, e.1.1 = true ∧ tyCs [.str, .int .i64] e.1.2 := by
  intro e he
  simp only [mEnt, List.mem_map] at he
  obtain ⟨_, ⟨f, _, rfl⟩, rfl⟩ := he
  exact ⟨rfl, by simp [upE, upD, tyCs]⟩
theorem look_V {β : Type} (m : List (Fil × (Value × List β))) (p : ByteArray) (n : Int) : findE [C.d (.v (.string p)), C.d (.v (.int .i64 n))] ((mEnt kF vV m).map upE) = (alook m ⟨p, n⟩).map fun v => (false, [C.d (.v v.1)]) :=
  findE_ent (ve := vV) kF_eq m ⟨p, n⟩
theorem cl_rep (dom : Nat → Bool) (n : Nat) (x : D) : clCs dom (List.replicate n (C.d x)) = True := by
  refine eq_true ?_
  induction n with
  | zero => trivial
  | succ n ih => exact ⟨trivial, ih⟩
structure IntoG (rs : List Rcd) (G : List (Fil × (Value × List Rcd))) (ps : List (Value × List (List D))) : Prop where
  perm : ps.Perm (poolOf encRcd G)
  look : ∀ f, (alook (unV G) f).getD [] = rs.filter fun r => decide ((⟨r.to, r.num⟩ : Fil) = f)
  ne : ∀ f, alook (unV G) f ≠ some []
theorem IntoG.step {rs : List Rcd} {G : List (Fil × (Value × List Rcd))} {ps ps' : List (Value × List (List D))} (h : IntoG rs G ps) (r : Rcd) (v : Value) (zs : List Rcd) (hz : zs = (alook (unV G) ⟨r.to, r.num⟩).getD [] ++ [r])
    (hp : ps'.Perm (poolOf encRcd (aput G ⟨r.to, r.num⟩ (v, zs)))) : IntoG (rs ++ [r]) (aput G ⟨r.to, r.num⟩ (v, zs)) ps' := by
  refine ⟨hp, ?_, ?_⟩
  · intro f
    rw [aput_unV, alook_aput, List.filter_append, ← h.look f]
    by_cases e : f = ⟨r.to, r.num⟩
    · subst e; rw [if_pos rfl, hz]; simp
    · rw [if_neg e]
      have : List.filter (fun r' => decide ((⟨r'.to, r'.num⟩ : Fil) = f)) [r] = [] := by simp; exact fun h => e h.symm
      rw [this, List.append_nil]
  · intro f
    rw [aput_unV, alook_aput]
    split
    · rw [hz]; simp
    · exact h.ne f
theorem LedInv.noKey {d : Dep} {k : Nat} {L : Led} {me : List (Int × List Int)} (h : LedInv d k L me) : alook me (k : Int) = none := by
  have h1 := h.mem (k : Int) (by omega)
  have h2 : (List.range k).filter (fun j => decide (L.fst.getD j 0 = (k : Int))) = [] := List.filter_eq_nil_iff.2 fun j hj => by
    have hj : j < k := by simpa using hj
    have hl : j < d.revs.length := by have := h.kn; omega
    have hv := List.getElem?_eq_getElem hl
    by_cases w5 : (d.revs[j]).act = 5
    · have := (h.f5 j _ hj hv w5).1
      simp only [decide_eq_true_eq]; omega
    · have := (h.fm j _ hj hv w5).2
      simp only [decide_eq_true_eq]; omega
  rw [h2] at h1
  cases hc : alook me (k : Int) with
  | none => rfl
  | some l => rw [hc] at h1; simp at h1; subst h1; exact absurd hc (h.mne _)
theorem LedInv.hasKey {d : Dep} {k : Nat} {L : Led} {me : List (Int × List Int)} (h : LedInv d k L me) {u : Nat} (hu : u < k) (h0 : 0 ≤ L.fst.getD u 0) : ∃ ys, alook me (L.fst.getD u 0) = some ys ∧ ys.length ≤ k := by
  have h1 := h.mem (L.fst.getD u 0) h0
  cases hc : alook me (L.fst.getD u 0) with
  | none =>
    exfalso
    rw [hc] at h1
    simp only [Option.getD] at h1
    have : u ∈ (List.range k).filter (fun j => decide (L.fst.getD j 0 = L.fst.getD u 0)) := by simp [hu]
    rw [List.map_eq_nil_iff.1 h1.symm] at this
    cases this
  | some l =>
    rw [hc] at h1
    simp only [Option.getD] at h1
    refine ⟨l, rfl, ?_⟩
    rw [h1, List.length_map]
    exact Nat.le_trans (List.length_filter_le ..) (by simp)
theorem ins_I (m : List (Fil × Int)) (p : ByteArray) (n k : Int) : insE (true, [C.d (.v (.string p)), C.d (.v (.int .i64 n))]) (false, [C.d (.v (.int .i64 k))]) ((mEnt kF vI m).map upE) = (mEnt kF vI (aput m ⟨p, n⟩ k)).map upE := insE_ent (ve := vI) kF_eq m ⟨p, n⟩ k
theorem ins_La (m : List (ByteArray × Int)) (p : ByteArray) (k : Int) : insE (false, [C.d (.v (.string p))]) (false, [C.d (.v (.int .i64 k))]) ((mEnt kS' vI m).map upE) = (mEnt kS' vI (aput m p k)).map upE := insE_ent (ve := vI) kS_eq m p k
theorem look_La (m : List (ByteArray × Int)) (p : ByteArray) : findE [C.d (.v (.string p))] ((mEnt kS' vI m).map upE) = (alook m p).map fun v => (false, [C.d (.v (.int .i64 v))]) := findE_ent (ve := vI) kS_eq m p
theorem look_R (m : List (Fil × List Rcd)) (p : ByteArray) (n : Int) : findE [C.d (.v (.string p)), C.d (.v (.int .i64 n))] ((mEnt kF (fun l : List Rcd => (false, [D.ps 6 (l.map encRcd)])) m).map upE) = (alook m ⟨p, n⟩).map fun l => (false, [C.d (.ps 6 (l.map encRcd))]) :=
  findE_ent (ve := fun l : List Rcd => (false, [D.ps 6 (l.map encRcd)])) kF_eq m ⟨p, n⟩
theorem ty_R (m : List (Fil × List Rcd)) : ∀ e ∈ (mEnt kF (fun l : List Rcd => (false, [D.ps 6 (l.map encRcd)])) m).map upE, e.1.1 = true ∧ tyCs [.str, .int .i64] e.1.2 := by
  intro e he
  simp only [mEnt, List.mem_map] at he
  obtain ⟨_, ⟨f, _, rfl⟩, rfl⟩ := he
  exact ⟨rfl, by simp [upE, upD, tyCs]⟩
theorem ty_La (m : List (ByteArray × Int)) : ∀ e ∈ (mEnt kS' vI m).map upE, e.1.1 = false ∧ tyCs [.str] e.1.2 := by
  intro e he
  simp only [mEnt, List.mem_map] at he
  obtain ⟨_, ⟨f, _, rfl⟩, rfl⟩ := he
  exact ⟨rfl, by simp [upE, upD, tyCs]⟩
def k52 := And.intro @Tryz.ntmps52 <| And.intro @Tryz.underlying27 <| And.intro @Tryz.underlying28 <| And.intro @bld139 <| And.intro @bld30 <| And.intro @bld37 <| And.intro @bld46 <| And.intro @bld76 <| And.intro @elt137 <| And.intro @elt27 <| And.intro @elt28 <| And.intro @elt59 <| And.intro @fld139_0 <| And.intro @fld139_1 <| And.intro @fld139_2 <| And.intro @fld139_3 <| And.intro @fld139_4 <| And.intro @fld139_5 <| And.intro @fld139_6 <| And.intro @fld139_7 <| And.intro @fld139_8 <| And.intro @fld30_0 <| And.intro @fld30_1 <| And.intro @fld37_0 <| And.intro @fld37_1 <| And.intro @fld46_0 <| And.intro @fld46_1 <| And.intro @fld46_3 <| And.intro @fld76_3 <| And.intro @fld76_4 <| And.intro @kyt3 <| And.intro @kyt37 <| And.intro @kyt9 <| And.intro @mpt134 <| And.intro @mpt135 <| And.intro @mpt136 <| And.intro @mpt177 <| And.intro @ti134 <| And.intro @ti135 <| And.intro @ti136 <| And.intro @ti137 <| And.intro @ti139 <| And.intro @ti177 <| And.intro @ti191 <| And.intro @ti27 <| And.intro @ti28 <| And.intro @ti3 <| And.intro @ti30 <| And.intro @ti37 <| And.intro @ti46 <| And.intro @ti59 <| And.intro @ti76 <| @ti9
theorem v52T7 {G G' : Prop} (g : G') (h : Hid G' → G := by intro h9; (first | refine nvB ?_ | refine goA (wr := false) (by simp only [kB, kG, kS, kM, k52, Nat.reduceAdd, Nat.reduceLT, Nat.reduceEqDiff, ↓reduceIte, reduceCtorEq]; first | done | rfl) ?_); (repeat (first | refine nvB ?_ | refine goA (wr := false) (by simp only [kB, kG, kS, kM, k52, Nat.reduceAdd, Nat.reduceLT, Nat.reduceEqDiff, ↓reduceIte, reduceCtorEq]; first | done | rfl) ?_)); exact h9.out) : G := h ⟨g⟩
set_option maxRecDepth 100000 in
set_option maxHeartbeats 16000000 in
theorem newLedger_ac (d : Dep) (hg : Good d.revs) (hn : d.revs.length ≤ 512) (hm : d.recs.length ≤ 512) :
    AC Tryz.prog 52 [aDep d] [] (fun r st => (∃ L la me, LedRun d d.revs.length L me ∧ r = .tup [(false, [.pp (ledD L la me)]), pB true]) ∧ st = []) := by
  refine AC_enter Tryz.func52 rfl rfl (by simp only [Tryz.ntmps52, List.length]; omega) ?_
  intro x hx
  simp only [List.range, List.range.loop, List.length, List.zip, List.zipWith, Nat.reduceAdd, Tryz.ntmps52]
  try refine v52T7 ?_
  refine ifA ?_ ?_
  · intro h
    exfalso
    rw [show decide (512 < (d.revs.length : Int)) = false by simp; omega, show decide (512 < (d.recs.length : Int)) = false by simp; omega] at h
    cases h
  intro _
  refine nvA ?_
  refine drA (wr := false) ([] : List (Nat × AV)) (by simp only [kD, kB, kG, kS, kM, k52, Nat.reduceAdd, Nat.reduceLT, Nat.reduceEqDiff, ↓reduceIte, reduceCtorEq, Int.toNat_natCast]; first | done | rfl) ?_ ?_
  · exact obN
  refine nvA ?_
  refine TO_ent (s' := ⟨132, [(1, .c (.ptr 1 0)), (5, .c (.ptr 1000 0))], ledSt (led0 d) [] [] ++ [(1, .box [.d (.ps 12 (d.revs.map encRev)), .d (.ps 6 (d.recs.map encRcd))])]⟩) ?_ ?_
  · (refine Ent_sub (fun i => if i = 1000 then 44 else if i = 1001 then 29 else if i = 1002 then 31 else if i = 1003 then 33 else if i = 1004 then 35 else if i = 1005 then 36 else if i = 1006 then 38 else if i = 1007 then 40 else if i = 1008 then 42 else i) rfl ?_ ⟨?_, ?_, ?_, keepR hx (by simp [domOf, Ab.get])⟩ <;> first | (intro i hi; have h0 := hx i hi; constructor <;> (revert h0; simp only [domOf, Ab.get]; (repeat' split) <;> simp_all); done) | (simp only [kE, dArr, ↓reduceIte, Nat.reduceEqDiff, reduceCtorEq]; done) | (simp only [dArr, ren_arr, ren_map, List.mem_cons, List.not_mem_nil, or_false, forall_eq_or_imp, forall_eq]; simp [renAV, renC, renAO, ren_up, flat_up, Ab.get, clAV, clC, clCs, clAO, cl_f1, cl_s1, cl_f2, cl_s2, cl_a1, domOf, List.flatten, led0, cl_rep, clPs]; done) | simp [renAV, renC, renAO, ren_up, flat_up, Ab.get, clAV, clC, clCs, clAO, cl_f1, cl_s1, cl_f2, cl_s2, cl_a1, domOf, List.flatten, led0, cl_rep, clPs])
  try refine v52T7 ?_
  refine T_ent (Ent_poolNew (id := 49) (sz := 6) rfl (by omega)) ?_
  refine fzA ?_
  refine T_loop (ι := Nat × List (Fil × (Value × List Rcd)) × List (Value × List (List D))) (I := fun j => ⟨132, [(1, .c (.ptr 1 0)), (5, .c (.ptr 1000 0)), (6, .c (.mp 1010)), (50, .c (.d (.ps 6 (d.recs.map encRcd)))), (51, I .i64 d.recs.length), (52, I .i64 j.1)],
      ledSt (led0 d) [] [] ++ [(1, .box [.d (.ps 12 (d.revs.map encRev)), .d (.ps 6 (d.recs.map encRcd))]), (1010, .map ((mEnt kF vV j.2.1).map upE)), (1011, .pool 6 j.2.2)]⟩)
    (Inv := fun j => j.1 ≤ d.recs.length ∧ IntoG (d.recs.take j.1) j.2.1 j.2.2) (μ := fun j => d.recs.length - j.1) (0, [], []) ⟨by simp, by constructor <;> simp [poolOf, unV, alook]⟩ ?_ ?_
  · exact enR (fun i => if i = 1010 then 48 else if i = 1011 then 49 else i)
  rintro ⟨j, G, ps⟩ ⟨hj, hG⟩
  simp only at hj hG ⊢
  try refine v52T7 ?_
  refine ifA ?_ ?_
  · intro hlt
    have hlt' : j < d.recs.length := by simpa using hlt
    obtain ⟨r, hr, he, htk⟩ := round encRcd d.recs j zRcd hlt'
    have hFT : List.filter (fun r' => decide ((⟨r'.to, r'.num⟩ : Fil) = ⟨r.to, r.num⟩)) [r] = [r] := by simp
    cases hk : alook G ⟨r.to, r.num⟩ with
    | none =>
      have hk2 : alook (unV G) ⟨r.to, r.num⟩ = none := by rw [alook_unV, hk]; rfl
      (repeat (first | refine nvB ?_ | refine goA (wr := false) (by simp only [kB, kG, kS, kM, k52, Nat.reduceAdd, Nat.reduceLT, Nat.reduceEqDiff, ↓reduceIte, reduceCtorEq, he]; first | done | rfl) ?_))
      refine TO_mapEntry (id := 1010) (es := (mEnt kF vV G).map upE) (ak := aFil ⟨r.to, r.num⟩) (p := (true, [C.d (.v (.string r.to)), C.d (.v (.int .i64 r.num))])) (by simp) mpt177 kyt37 ti28 rfl rfl rfl rfl rfl (by simp [tyCs]) (ty_V G) ?_
      intro β
      simp only [look_V, hk, Option.map_none, Option.getD]
      refine fzA ?_
      try refine v52T7 ?_
      refine TO_entryStore rfl rfl rfl rfl rfl (insE_idx _ _ _) ?_
      rw [Ab.insE_set]
      refine fzA ?_
      refine nvA ?_
      refine TO_ex _ (put_back kF_eq encRcd (mid := 1010) (pid := 1011) (pid' := 2002) (aid := 67) (G := G) (k := ⟨r.to, r.num⟩) (ys := [r]) (ps := ps) rfl rfl rfl rfl (by simp) rfl) ?_
      intro v
      refine fzA ?_
      try refine v52T7 ?_
      refine ⟨(j + 1, aput G ⟨r.to, r.num⟩ (v, [r]), (v, [r].map encRcd) :: ps), ⟨by simp; omega, ?_⟩, by simp; omega, ?_⟩
      · simp only [htk]; exact hG.step r v [r] (by rw [hk2]; rfl) (perm_new encRcd hk hG.perm)
      · exact enR (fun i => if i = 1011 then 2002 else i)
    | some g =>
      obtain ⟨v0, ys⟩ := g
      have hk2 : alook (unV G) ⟨r.to, r.num⟩ = some ys := by rw [alook_unV, hk]; rfl
      have hyl : ys.length ≤ 512 := by
        have h1 := hG.look ⟨r.to, r.num⟩
        rw [hk2] at h1
        have h2 := List.length_filter_le (fun r' : Rcd => decide ((⟨r'.to, r'.num⟩ : Fil) = ⟨r.to, r.num⟩)) (d.recs.take j)
        rw [← h1] at h2
        simp at h2; omega
      have kk : keyB [C.d (.v (.string r.to)), C.d (.v (.int .i64 r.num))] [C.d (.v (.string r.to)), C.d (.v (.int .i64 r.num))] = true := by simp [keyB, eqC]
      have hfi := find_ins (true, [C.d (.v (.string r.to)), C.d (.v (.int .i64 r.num))]) (false, [.ms 2003 6 0 ys.length]) ((mEnt kF vV G).map upE) kk
      have hii := fun w => ins_ins (true, [C.d (.v (.string r.to)), C.d (.v (.int .i64 r.num))]) (false, [.ms 2003 6 0 ys.length]) w ((mEnt kF vV G).map upE) kk
      simp only at hfi hii
      (repeat (first | refine nvB ?_ | refine goA (wr := false) (by simp only [kB, kG, kS, kM, k52, Nat.reduceAdd, Nat.reduceLT, Nat.reduceEqDiff, ↓reduceIte, reduceCtorEq, he]; first | done | rfl) ?_))
      refine TO_take kF_eq encRcd (mid := 1010) (pid := 1011) (pid' := 2001) (aid := 2003) rfl rfl hG.perm hk rfl rfl (by decide) ?_
      intro ps' hpe
      refine fzA ?_
      refine TO_mapEntry (id := 1010) (es := insE (true, [C.d (.v (.string r.to)), C.d (.v (.int .i64 r.num))]) (false, [.ms 2003 6 0 ys.length]) ((mEnt kF vV G).map upE)) (ak := aFil ⟨r.to, r.num⟩) (p := (true, [C.d (.v (.string r.to)), C.d (.v (.int .i64 r.num))])) (by simp) mpt177 kyt37 ti28 rfl rfl rfl rfl rfl (by simp [tyCs]) (tyF_ins _ _ _ _ (ty_V G)) ?_
      intro β
      simp only [hfi, Option.getD]
      refine fzA ?_
      try refine v52T7 ?_
      refine TO_entryStore rfl rfl rfl rfl rfl (insE_idx _ _ _) ?_
      rw [Ab.insE_set]
      refine fzA ?_
      simp only [hii]
      refine nvA ?_
      refine TO_ex _ (put_back kF_eq encRcd (mid := 1010) (pid := 2001) (pid' := 2002) (aid := 67) (G := G) (k := ⟨r.to, r.num⟩) (ys := ys ++ [r]) (ps := ps') rfl rfl (by simp [Ab.get]) (by simp) (by simp) rfl) ?_
      intro v
      refine fzA ?_
      try refine v52T7 ?_
      refine ⟨(j + 1, aput G ⟨r.to, r.num⟩ (v, ys ++ [r]), (v, (ys ++ [r]).map encRcd) :: ps'), ⟨by simp; omega, ?_⟩, by simp; omega, ?_⟩
      · simp only [htk]; exact hG.step r v (ys ++ [r]) (by rw [hk2]; rfl) (perm_old encRcd hk hG.perm hpe)
      · exact enR (fun i => if i = 1011 then 2002 else i)
  intro hge
  have hge' : j = d.recs.length := by have : ¬ j < d.recs.length := by simpa using hge
                                      omega
  rw [hge', List.take_length] at hG
  obtain ⟨ff1, ff2⟩ := frz_form (ke := kF) encRcd 6 G
  rw [ff1]
  refine nvA ?_
  refine TO_ent (Ent_frzPoolSlot (i := 6) (mid := 1010) (pid := 1011) (sz := 6) rfl rfl rfl (frz_mem encRcd hG.perm)) ?_
  rw [ff2]
  refine fzA ?_
  obtain ⟨M, hM⟩ : ∃ M, M = unV G := ⟨_, rfl⟩
  have hMl : ∀ f, (alook M f).getD [] = intoR d f := by rw [hM]; exact hG.look
  rw [← hM]
  clear ff1 ff2 hM hG
  try refine v52T7 ?_
  refine T_ent (Ent_poolNew (id := 1009) (sz := 1) rfl (by omega)) ?_
  refine fzA ?_
  refine T_loop (ι := Nat × Led × List (ByteArray × Int) × List (Int × (Value × List Int)) × List (Value × List (List D)))
    (I := fun j => ⟨132, [(5, .c (.ptr 1000 0)), (6, .c (.d (.pm (mEnt kF (fun l => (false, [.ps 6 (l.map encRcd)])) M)))), (71, aRevs d.revs), (72, I .i64 d.revs.length), (73, I .i64 j.1)],
      ledSt j.2.1 (mEnt kS' vI j.2.2.1) (mEnt kN vV j.2.2.2.1) ++ [(1009, .pool 1 j.2.2.2.2)]⟩)
    (Inv := fun j => j.1 ≤ d.revs.length ∧ LedRun d j.1 j.2.1 (unV j.2.2.2.1) ∧ (∀ p i, alook j.2.2.1 p = some i → 0 ≤ i ∧ i < d.revs.length) ∧ j.2.2.2.2.Perm (poolOf eI j.2.2.2.1)) (μ := fun j => d.revs.length - j.1)
    (0, led0 d, [], [], []) ⟨by simp, by simpa [unV] using LedRun.zero, by simp [alook], by simp [poolOf]⟩ ?_ ?_
  · exact enA
  rintro ⟨k, L, la, G2, ps2⟩ ⟨hk, hrun, hla, hpm⟩
  simp only at hk hrun hla hpm ⊢
  have hI := hrun.inv hg
  have hL : LedOK L := ⟨by rw [hI.revs]; exact hn, by rw [hI.lp, hI.revs], by rw [hI.lf, hI.revs], by rw [hI.lc, hI.revs], by rw [hI.lo, hI.revs], by rw [hI.lr, hI.revs], fun p i h => by
    obtain ⟨j, v, rfl, h1, h2, h3⟩ := (hI.ix p i).1 h
    rw [hI.revs]; omega⟩
  try refine v52T7 ?_
  refine ifA ?_ ?_
  · intro hlt
    have hlt' : k < d.revs.length := by simpa using hlt
    obtain ⟨v, hv, he, htk⟩ := round encRev d.revs k zRev hlt'
    have hv' : L.revs[k]? = some v := by rw [hI.revs]; exact hv
    have hnum := hg.num k v hv
    (repeat (first | refine nvB ?_ | refine goA (wr := false) (by simp only [kB, kG, kS, kM, k52, Nat.reduceAdd, Nat.reduceLT, Nat.reduceEqDiff, ↓reduceIte, reduceCtorEq, he]; first | done | rfl) ?_))
    refine TO_call [] (by simp) (by simp only [evAll, kB, kG, kS, kM, k52, Nat.reduceAdd, Nat.reduceLT, Nat.reduceEqDiff, ↓reduceIte, reduceCtorEq]; first | done | rfl) ⟨by simp, by simp, by simp [clAV, clC, clCs, clCaps, clCap]⟩ (fileOf_ac v) ?_
    rintro r st' ⟨rfl, rfl⟩
    refine ⟨by simp [Fresh], ?_⟩
    simp only [kP, Nat.reduceEqDiff, ↓reduceIte, reduceCtorEq]
    refine goA (wr := false) (by simp only [kB, kG, kS, kM, k52, Nat.reduceAdd, Nat.reduceLT, Nat.reduceEqDiff, ↓reduceIte, reduceCtorEq]; first | done | rfl) ?_
    refine TO_nil ?_
    refine then_normal ?_
    refine T_seq ?_
    by_cases h5 : v.act = 5
    · refine nvA ?_
      refine TO_go (wr := false) 1 (by simp only [kB, kG, kS, kM, k52, Nat.reduceAdd, Nat.reduceLT, Nat.reduceEqDiff, ↓reduceIte, reduceCtorEq]; first | done | rfl) (by exact trivial) ?_
      refine caA (ledSt L (mEnt kS' vI la) (mEnt kN vV G2)) (enter5_ac L hL (mEnt kS' vI la) (mEnt kN vV G2) k v hv' h5 (by omega)) ?_
      rintro rv9 st' rfl <;> refine frA ?_
      (repeat (first | refine nvB ?_ | refine goA (wr := false) (by simp only [kB, kG, kS, kM, k52, Nat.reduceAdd, Nat.reduceLT, Nat.reduceEqDiff, ↓reduceIte, reduceCtorEq, h5]; first | done | rfl) ?_))
      refine ifA ?_ ?_
      · intro h; cases h
      intro _
      have hrun2 : LedRun d (k + 1) (ixL (enterL L k v) (fileOf v) k) (unV G2) := .away hrun hv h5
      have hrv1 : (enterL L k v).revs = d.revs := hI.revs
      generalize enterL L k v = L1 at hrun2 hrv1 ⊢
      have hpp := hpm
      generalize G2 = GG at hrun2 hpp ⊢
      generalize ps2 = pp2 at hpp ⊢
      refine nvA ?_
      refine drA (wr := false) ([] : List (Nat × AV)) (by simp only [kD, kB, kG, kS, kM, k52, Nat.reduceAdd, Nat.reduceLT, Nat.reduceEqDiff, ↓reduceIte, reduceCtorEq, ins_I]; first | done | rfl) ?_ ?_
      · exact obF ty_I
      refine nvA ?_
      have hl1 : 0 < L1.revs.length := by rw [hrv1]; omega
      have hl1' : (0 : Int) < (L1.revs.length : Int) := by omega
      cases hla2 : alook la v.path with
      | none =>
        have er0 := getD_enc encRev L1.revs 0 zRev hl1
        generalize L1.revs.getD 0 zRev = w0 at er0
        refine drA (wr := false) ([] : List (Nat × AV)) (by simp only [kD, kB, kG, kS, kM, k52, Nat.reduceAdd, Nat.reduceLT, Nat.reduceEqDiff, ↓reduceIte, reduceCtorEq, look_La, hla2, Option.map_none, Option.isSome]; first | done | rfl) ?_ ?_
        · exact obF ty_La
        refine nvA ?_
        refine drA (wr := false) ([] : List (Nat × AV)) (by simp only [kD, kB, kG, kS, kM, k52, Nat.reduceAdd, Nat.reduceLT, Nat.reduceEqDiff, ↓reduceIte, reduceCtorEq, er0, Int.toNat_zero]; first | done | rfl) ?_ ?_
        · exact obN
        refine nvA ?_
        refine ifA ?_ ?_
        rotate_left
        · intro h; cases h
        · intro _
          refine nvA ?_
          refine drA (wr := false) ([] : List (Nat × AV)) (by simp only [kD, kB, kG, kS, kM, k52, Nat.reduceAdd, Nat.reduceLT, Nat.reduceEqDiff, ↓reduceIte, reduceCtorEq, ins_La]; first | done | rfl) ?_ ?_
          · exact obF ty_La
          try refine v52T7 ?_
          refine ⟨(k + 1, ixL L1 (fileOf v) k, aput la v.path k, GG, pp2), ⟨hlt', hrun2, ?_, hpp⟩, by simp; omega, ?_⟩
          · intro p i hpi
            rw [alook_aput] at hpi
            split at hpi
            · cases hpi; omega
            · exact hla p i hpi
          · (refine Ent_sub (fun i => i) rfl ?_ ⟨?_, ?_, ?_, keepI hx (by simp [domOf, Ab.get])⟩ <;> first | (simp only [kE, dArr, ↓reduceIte, Nat.reduceEqDiff, reduceCtorEq, clPs, ixL]; done) | simp [renAV_id, renAO_id, flat_up, Ab.get, clAV, clC, clCs, clAO, cl_f1, cl_s1, cl_f2, cl_s2, cl_a1, domOf, List.flatten, clPs, ixL])
      | some z =>
        obtain ⟨z1, z2⟩ := hla _ _ hla2
        have z3 : z < (L1.revs.length : Int) := by rw [hrv1]; exact z2
        have erz := getD_enc encRev L1.revs z.toNat zRev (by omega)
        generalize L1.revs.getD z.toNat zRev = w0 at erz
        refine drA (wr := false) ([] : List (Nat × AV)) (by simp only [kD, kB, kG, kS, kM, k52, Nat.reduceAdd, Nat.reduceLT, Nat.reduceEqDiff, ↓reduceIte, reduceCtorEq, look_La, hla2, Option.isSome]; first | done | rfl) ?_ ?_
        · exact obF ty_La
        refine nvA ?_
        refine drA (wr := false) ([] : List (Nat × AV)) (by simp only [kD, kB, kG, kS, kM, k52, Nat.reduceAdd, Nat.reduceLT, Nat.reduceEqDiff, ↓reduceIte, reduceCtorEq, erz]; first | done | rfl) ?_ ?_
        · exact obN
        refine nvA ?_
        refine ifA ?_ ?_
        · intro _
          refine nvA ?_
          refine drA (wr := false) ([] : List (Nat × AV)) (by simp only [kD, kB, kG, kS, kM, k52, Nat.reduceAdd, Nat.reduceLT, Nat.reduceEqDiff, ↓reduceIte, reduceCtorEq, ins_La]; first | done | rfl) ?_ ?_
          · exact obF ty_La
          try refine v52T7 ?_
          refine ⟨(k + 1, ixL L1 (fileOf v) k, aput la v.path k, GG, pp2), ⟨hlt', hrun2, ?_, hpp⟩, by simp; omega, ?_⟩
          · intro p i hpi
            rw [alook_aput] at hpi
            split at hpi
            · cases hpi; omega
            · exact hla p i hpi
          · (refine Ent_sub (fun i => i) rfl ?_ ⟨?_, ?_, ?_, keepI hx (by simp [domOf, Ab.get])⟩ <;> first | (simp only [kE, dArr, ↓reduceIte, Nat.reduceEqDiff, reduceCtorEq, clPs, ixL]; done) | simp [renAV_id, renAO_id, flat_up, Ab.get, clAV, clC, clCs, clAO, cl_f1, cl_s1, cl_f2, cl_s2, cl_a1, domOf, List.flatten, clPs, ixL])
        · intro _
          try refine v52T7 ?_
          refine ⟨(k + 1, ixL L1 (fileOf v) k, la, GG, pp2), ⟨hlt', hrun2, hla, hpp⟩, by simp; omega, ?_⟩
          (refine Ent_sub (fun i => i) rfl ?_ ⟨?_, ?_, ?_, keepI hx (by simp [domOf, Ab.get])⟩ <;> first | (simp only [kE, dArr, ↓reduceIte, Nat.reduceEqDiff, reduceCtorEq, clPs, ixL]; done) | simp [renAV_id, renAO_id, flat_up, Ab.get, clAV, clC, clCs, clAO, cl_f1, cl_s1, cl_f2, cl_s2, cl_a1, domOf, List.flatten, clPs, ixL])
    have hF : ∀ e ∈ (mEnt kN vV G2).map upE, e.1.1 = false ∧ tyCs [.int .i64] e.1.2 := by
      intro e he
      simp only [mEnt, List.mem_map] at he
      obtain ⟨_, ⟨f, _, rfl⟩, rfl⟩ := he
      exact ⟨rfl, by simp [upE, upD, tyCs]⟩
    refine T_joinE (ι := List (Int × (Value × List Int)) × List (Value × List (List D)))
      (fun j => ⟨132, [(5, .c (.ptr 1000 0)), (6, .c (.d (.pm (mEnt kF (fun l => (false, [.ps 6 (l.map encRcd)])) M)))), (10, I .i64 k), (11, .c (.ptr 11 0)), (12, .c (.ptr 12 0)), (71, aRevs d.revs), (72, I .i64 d.revs.length), (73, I .i64 k)],
        ledSt (enterL L k v) (mEnt kS' vI la) (mEnt kN vV j.1) ++ [(1009, .pool 1 j.2), (11, .box ((encRev v).map C.d)), (12, .box ((encFil (fileOf v)).map C.d))]⟩)
      (fun j => unV j.1 = pushM (unV G2) (lineOf L k v) k ∧ j.2.Perm (poolOf eI j.1)) ?_ ?_
    · rcases hI.look hg hv h5 with ⟨h1, h2, h3⟩ | ⟨h1, u, w, a1, a2, a3, a4, a5, a6, a7, a8, a9⟩
      · have hln : lineOf L k v = k := by simp only [lineOf, h3]
        have hGk : alook G2 (k : Int) = none := by
          have := hI.noKey
          rw [alook_unV] at this
          cases hc : alook G2 (k : Int) with
          | none => rfl
          | some g => rw [hc] at this; cases this
        have hfe : findE [C.d (.v (.int .i64 k))] ((mEnt kN vV G2).map upE) = none := by
          have := findE_ent (ve := vV) kN_eq G2 (k : Int)
          rw [hGk] at this; exact this
        refine nvA ?_
        refine TO_go (wr := false) 1 (by simp only [kB, kG, kS, kM, k52, Nat.reduceAdd, Nat.reduceLT, Nat.reduceEqDiff, ↓reduceIte, reduceCtorEq]; first | done | rfl) (by exact trivial) ?_
        refine caA (ledSt L (mEnt kS' vI la) (mEnt kN vV G2)) (enterN_ac L hL (mEnt kS' vI la) (mEnt kN vV G2) k v hv' h5 (by omega) h2 hF hfe) ?_
        rintro rv9 st' rfl <;> refine frA ?_
        refine TO_ex _ (put_back kN_eq eI (mid := 1005) (pid := 1009) (pid' := 2002) (aid := 115) (G := G2) (k := (k : Int)) (ys := [(k : Int)]) (ps := ps2) rfl rfl rfl rfl (by simp) rfl) ?_
        intro vv
        refine fzA ?_
        refine TO_nil ?_
        refine ⟨rfl, (aput G2 (k : Int) (vv, [(k : Int)]), (vv, [(k : Int)].map eI) :: ps2), ⟨?_, perm_new eI hGk hpm⟩, ?_⟩
        · rw [aput_unV, hln, pushM, alook_unV, hGk]; rfl
        · generalize enterL L k v = L1
          exact enR (fun i => if i = 1009 then 2002 else i)
      · obtain ⟨ys, hys, hyl⟩ := hI.hasKey a1 a8
        have hln : lineOf L k v = L.fst.getD u 0 := by simp only [lineOf, a7, Int.toNat_natCast]
        generalize hln' : L.fst.getD u 0 = ln at hys hln a8 a9
        have hG : ∃ v0, alook G2 ln = some (v0, ys) := by
          rw [alook_unV] at hys
          cases hc : alook G2 ln with
          | none => rw [hc] at hys; cases hys
          | some g => rw [hc] at hys; obtain ⟨v0, y⟩ := g; simp at hys; exact ⟨v0, by rw [hys]⟩
        obtain ⟨v0, hGk⟩ := hG
        refine nvA ?_
        refine TO_take kN_eq eI (mid := 1005) (pid := 1009) (pid' := 2001) (aid := 2003) rfl rfl hpm hGk rfl rfl (by decide) ?_
        intro ps' hpe
        refine fzA ?_
        rw [show upD (kN ln) = (false, [C.d (.v (.int .i64 ln))]) from rfl]
        generalize hem : mEnt kN vV G2 = em2 at hF ⊢
        refine TO_go (wr := false) 1 (by simp only [kB, kG, kS, kM, k52, Nat.reduceAdd, Nat.reduceLT, Nat.reduceEqDiff, ↓reduceIte, reduceCtorEq]; first | done | rfl) (by exact trivial) ?_
        refine TO_call (ledSt1 L (mEnt kS' vI la) (insE (false, [C.d (.v (.int .i64 ln))]) (false, [.ms 2003 1 0 ys.length]) (em2.map upE)) ++ [(2003, dArr 1 (ys.map eI))]) (by simp) (by simp only [kV, ↓reduceIte, Nat.reduceEqDiff, reduceCtorEq]; first | done | rfl) ⟨by simp [Ab.get, clF_ins, clS_ins], by simp [clAO, cl_f1, cl_s1, cl_f2, cl_s2, cl_a1, flat_up, clCs, clC, domOf, Ab.get, clF_ins, clS_ins], by simp [clAV, clC, clCs, domOf, Ab.get, clF_ins, clS_ins]⟩ (enterO_ac L hL (mEnt kS' vI la) em2 k v hv' h5 (by omega) u ln a6 (by omega) (by rw [Int.toNat_natCast]; exact hln') a8 hF ys (by omega)) ?_
        rintro rv9 st' rfl <;> (refine ⟨by simp [Fresh, domOf, Ab.get], ?_⟩; simp only [kP, Nat.reduceEqDiff, ↓reduceIte, reduceCtorEq, List.cons_append, List.nil_append])
        subst hem
        refine TO_ex _ (put_back kN_eq eI (mid := 1005) (pid := 2001) (pid' := 2002) (aid := 115) (G := G2) (k := ln) (ys := ys ++ [(k : Int)]) (ps := ps') rfl rfl rfl (by simp) (by simp) rfl) ?_
        intro vv
        refine fzA ?_
        refine TO_nil ?_
        refine ⟨rfl, (aput G2 ln (vv, ys ++ [(k : Int)]), (vv, (ys ++ [(k : Int)]).map eI) :: ps'), ⟨?_, perm_old eI hGk hpm hpe⟩, ?_⟩
        · rw [aput_unV, hln, pushM, alook_unV, hGk]; rfl
        · generalize enterL L k v = L1
          exact enR (fun i => if i = 1009 then 2002 else i)
    rintro ⟨G3, ps3⟩ ⟨hG3, hp3⟩
    simp only at hG3 hp3 ⊢
    try refine v52T7 ?_
    refine ifA ?_ ?_
    rotate_left
    · intro h; exact absurd (by simpa using h) h5
    intro _
    have hL1 : LedOK (enterL L k v) := ⟨hL.n, by simp [enterL, hL.prev], by simp [enterL, hL.fst], hL.car, hL.con, hL.cre, hL.ix⟩
    have hp1 : (enterL L k v).prev.getD k 0 < (enterL L k v).revs.length := by
      show (L.prev.set k _).getD k 0 < (L.revs.length : Int)
      rw [getD_set _ _ _ _ _ (by rw [hI.lp]; exact hlt'), if_neg h5, if_pos rfl, hI.revs]
      rcases hI.look hg hv h5 with ⟨h1, h2, h3⟩ | ⟨h1, u, w, a1, a2, a3, a4, a5, a6, a7, a8, a9⟩
      · simp only [prevOf, h3]; omega
      · simp only [prevOf, a7]; omega
    have hrl : (intoR d (fileOf v)).length ≤ 512 := Nat.le_trans (List.length_filter_le ..) hm
    refine T_joinE (ι := Led)
      (fun L1 => ⟨132, [(5, .c (.ptr 1000 0)), (6, .c (.d (.pm (mEnt kF (fun l => (false, [.ps 6 (l.map encRcd)])) M)))), (10, I .i64 k), (11, .c (.ptr 11 0)), (12, .c (.ptr 12 0)), (71, aRevs d.revs), (72, I .i64 d.revs.length), (73, I .i64 k)],
        ledSt L1 (mEnt kS' vI la) (mEnt kN vV G3) ++ [(1009, .pool 1 ps3), (11, .box ((encRev v).map C.d)), (12, .box ((encFil (fileOf v)).map C.d))]⟩)
      (fun L1 => ∃ c m cr, AccR (enterL L k v) k (intoR d (fileOf v)) c m cr ∧ L1 = setL (enterL L k v) k c m cr) ?_ ?_
    · have hMv := hMl (fileOf v)
      refine nvA ?_
      cases hkM : alook M (fileOf v) with
      | none =>
        rw [hkM] at hMv
        simp only [Option.getD] at hMv
        have hkM' : alook M ⟨(fileOf v).path, (fileOf v).num⟩ = none := hkM
        refine TO_go (wr := false) 4 (by simp only [kB, kG, kS, kM, k52, Nat.reduceAdd, Nat.reduceLT, Nat.reduceEqDiff, ↓reduceIte, reduceCtorEq, look_R, hkM', Option.map_none, Option.getD]; first | done | rfl) ?_ ?_
        · exact obT (ty_R M)
        refine TO_ent (Ent_nilSlot (i := 90) 6 rfl) ?_
        refine fzA ?_
        generalize hem : mEnt kN vV G3 = em3
        refine caA (ledSt (enterL L k v) (mEnt kS' vI la) em3) (account_ac (enterL L k v) hL1 (mEnt kS' vI la) em3 k (by show k < L.revs.length; rw [hI.revs]; exact hlt') hp1 [] (by simp)) ?_
        rintro rv9 st' ⟨c, m, cr, hA, rfl⟩ <;> refine frA ?_
        subst hem
        refine TO_nil ?_
        refine ⟨rfl, setL (enterL L k v) k c m cr, ⟨c, m, cr, by rw [← hMv]; exact hA, rfl⟩, ?_⟩
        generalize setL (enterL L k v) k c m cr = L1
        exact enA
      | some rs =>
        rw [hkM] at hMv
        simp only [Option.getD] at hMv
        have hkM' : alook M ⟨(fileOf v).path, (fileOf v).num⟩ = some rs := hkM
        refine TO_go (wr := false) 4 (by simp only [kB, kG, kS, kM, k52, Nat.reduceAdd, Nat.reduceLT, Nat.reduceEqDiff, ↓reduceIte, reduceCtorEq, look_R, hkM', Option.map_some, Option.getD]; first | done | rfl) ?_ ?_
        · exact obT (ty_R M)
        generalize hem : mEnt kN vV G3 = em3
        refine caA (ledSt (enterL L k v) (mEnt kS' vI la) em3) (account_ac (enterL L k v) hL1 (mEnt kS' vI la) em3 k (by show k < L.revs.length; rw [hI.revs]; exact hlt') hp1 rs (by rw [hMv]; exact hrl)) ?_
        rintro rv9 st' ⟨c, m, cr, hA, rfl⟩ <;> refine frA ?_
        subst hem
        refine TO_nil ?_
        refine ⟨rfl, setL (enterL L k v) k c m cr, ⟨c, m, cr, by rw [← hMv]; exact hA, rfl⟩, ?_⟩
        generalize setL (enterL L k v) k c m cr = L1
        exact enA
    rintro L1 ⟨c, m, cr, hA, hS1⟩
    have hrun2 : LedRun d (k + 1) (ixL L1 (fileOf v) k) (unV G3) := by rw [hS1, hG3]; exact .memb hrun hv h5 hA
    have hrv1 : L1.revs = d.revs := by rw [hS1]; exact hI.revs
    clear hA hS1
    have hpp := hp3
    generalize G3 = GG at hrun2 hpp ⊢
    generalize ps3 = pp2 at hpp ⊢
    refine nvA ?_
    refine drA (wr := false) ([] : List (Nat × AV)) (by simp only [kD, kB, kG, kS, kM, k52, Nat.reduceAdd, Nat.reduceLT, Nat.reduceEqDiff, ↓reduceIte, reduceCtorEq, ins_I]; first | done | rfl) ?_ ?_
    · exact obF ty_I
    refine nvA ?_
    have hl1 : 0 < L1.revs.length := by rw [hrv1]; omega
    have hl1' : (0 : Int) < (L1.revs.length : Int) := by omega
    cases hla2 : alook la v.path with
    | none =>
      have er0 := getD_enc encRev L1.revs 0 zRev hl1
      generalize L1.revs.getD 0 zRev = w0 at er0
      refine drA (wr := false) ([] : List (Nat × AV)) (by simp only [kD, kB, kG, kS, kM, k52, Nat.reduceAdd, Nat.reduceLT, Nat.reduceEqDiff, ↓reduceIte, reduceCtorEq, look_La, hla2, Option.map_none, Option.isSome]; first | done | rfl) ?_ ?_
      · exact obF ty_La
      refine nvA ?_
      refine drA (wr := false) ([] : List (Nat × AV)) (by simp only [kD, kB, kG, kS, kM, k52, Nat.reduceAdd, Nat.reduceLT, Nat.reduceEqDiff, ↓reduceIte, reduceCtorEq, er0, Int.toNat_zero]; first | done | rfl) ?_ ?_
      · exact obN
      refine nvA ?_
      refine ifA ?_ ?_
      rotate_left
      · intro h; cases h
      · intro _
        refine nvA ?_
        refine drA (wr := false) ([] : List (Nat × AV)) (by simp only [kD, kB, kG, kS, kM, k52, Nat.reduceAdd, Nat.reduceLT, Nat.reduceEqDiff, ↓reduceIte, reduceCtorEq, ins_La]; first | done | rfl) ?_ ?_
        · exact obF ty_La
        try refine v52T7 ?_
        refine ⟨(k + 1, ixL L1 (fileOf v) k, aput la v.path k, GG, pp2), ⟨hlt', hrun2, ?_, hpp⟩, by simp; omega, ?_⟩
        · intro p i hpi
          rw [alook_aput] at hpi
          split at hpi
          · cases hpi; omega
          · exact hla p i hpi
        · (refine Ent_sub (fun i => i) rfl ?_ ⟨?_, ?_, ?_, keepI hx (by simp [domOf, Ab.get])⟩ <;> first | (simp only [kE, dArr, ↓reduceIte, Nat.reduceEqDiff, reduceCtorEq, clPs, ixL]; done) | simp [renAV_id, renAO_id, flat_up, Ab.get, clAV, clC, clCs, clAO, cl_f1, cl_s1, cl_f2, cl_s2, cl_a1, domOf, List.flatten, clPs, ixL])
    | some z =>
      obtain ⟨z1, z2⟩ := hla _ _ hla2
      have z3 : z < (L1.revs.length : Int) := by rw [hrv1]; exact z2
      have erz := getD_enc encRev L1.revs z.toNat zRev (by omega)
      generalize L1.revs.getD z.toNat zRev = w0 at erz
      refine drA (wr := false) ([] : List (Nat × AV)) (by simp only [kD, kB, kG, kS, kM, k52, Nat.reduceAdd, Nat.reduceLT, Nat.reduceEqDiff, ↓reduceIte, reduceCtorEq, look_La, hla2, Option.isSome]; first | done | rfl) ?_ ?_
      · exact obF ty_La
      refine nvA ?_
      refine drA (wr := false) ([] : List (Nat × AV)) (by simp only [kD, kB, kG, kS, kM, k52, Nat.reduceAdd, Nat.reduceLT, Nat.reduceEqDiff, ↓reduceIte, reduceCtorEq, erz]; first | done | rfl) ?_ ?_
      · exact obN
      refine nvA ?_
      refine ifA ?_ ?_
      · intro _
        refine nvA ?_
        refine drA (wr := false) ([] : List (Nat × AV)) (by simp only [kD, kB, kG, kS, kM, k52, Nat.reduceAdd, Nat.reduceLT, Nat.reduceEqDiff, ↓reduceIte, reduceCtorEq, ins_La]; first | done | rfl) ?_ ?_
        · exact obF ty_La
        try refine v52T7 ?_
        refine ⟨(k + 1, ixL L1 (fileOf v) k, aput la v.path k, GG, pp2), ⟨hlt', hrun2, ?_, hpp⟩, by simp; omega, ?_⟩
        · intro p i hpi
          rw [alook_aput] at hpi
          split at hpi
          · cases hpi; omega
          · exact hla p i hpi
        · (refine Ent_sub (fun i => i) rfl ?_ ⟨?_, ?_, ?_, keepI hx (by simp [domOf, Ab.get])⟩ <;> first | (simp only [kE, dArr, ↓reduceIte, Nat.reduceEqDiff, reduceCtorEq, clPs, ixL]; done) | simp [renAV_id, renAO_id, flat_up, Ab.get, clAV, clC, clCs, clAO, cl_f1, cl_s1, cl_f2, cl_s2, cl_a1, domOf, List.flatten, clPs, ixL])
      · intro _
        try refine v52T7 ?_
        refine ⟨(k + 1, ixL L1 (fileOf v) k, la, GG, pp2), ⟨hlt', hrun2, hla, hpp⟩, by simp; omega, ?_⟩
        (refine Ent_sub (fun i => i) rfl ?_ ⟨?_, ?_, ?_, keepI hx (by simp [domOf, Ab.get])⟩ <;> first | (simp only [kE, dArr, ↓reduceIte, Nat.reduceEqDiff, reduceCtorEq, clPs, ixL]; done) | simp [renAV_id, renAO_id, flat_up, Ab.get, clAV, clC, clCs, clAO, cl_f1, cl_s1, cl_f2, cl_s2, cl_a1, domOf, List.flatten, clPs, ixL])
  intro hge
  have hge' : k = d.revs.length := by have : ¬ k < d.revs.length := by simpa using hge
                                      omega
  rw [hge'] at hrun
  have n1 := hL.prev
  have n2 := hL.fst
  have n3 := hL.car
  have n4 := hL.con
  have n5 := hL.cre
  obtain ⟨ff1, ff2⟩ := frz_form (ke := kN) eI 1 G2
  rw [ff1]
  refine nvA ?_
  refine TO_ent (Ent_frzMapCell (bid := 1000) (id := 1001) (j := 1) (es := mEnt kF vI L.index) (by decide) rfl rfl rfl) ?_
  refine fzA ?_
  refine TO_ent (Ent_frzMapCell (bid := 1000) (id := 1002) (j := 2) (es := mEnt kS' vI la) (by decide) rfl rfl rfl) ?_
  refine fzA ?_
  refine TO_ent (Ent_frzCell (bid := 1000) (id := 1003) (j := 3) (ys := L.prev.map eI) (by decide) rfl rfl rfl (by simp [n1])) ?_
  refine fzA ?_
  refine TO_ent (Ent_frzCell (bid := 1000) (id := 1004) (j := 4) (ys := L.fst.map eI) (by decide) rfl rfl rfl (by simp [n2])) ?_
  refine fzA ?_
  refine TO_ent (Ent_frzPoolCell (bid := 1000) (mid := 1005) (pid := 1009) (j := 5) (sz := 1) rfl rfl rfl rfl (frz_mem eI hpm)) ?_
  rw [ff2]
  refine fzA ?_
  refine TO_ent (Ent_frzCell (bid := 1000) (id := 1006) (j := 6) (ys := L.car.map eSet) (by decide) rfl rfl rfl (by simp [n3])) ?_
  refine fzA ?_
  refine TO_ent (Ent_frzCell (bid := 1000) (id := 1007) (j := 7) (ys := L.con.map eSet) (by decide) rfl rfl rfl (by simp [n4])) ?_
  refine fzA ?_
  refine TO_ent (Ent_frzCell (bid := 1000) (id := 1008) (j := 8) (ys := L.cre.map eSet) (by decide) rfl rfl rfl (by simp [n5])) ?_
  refine fzA ?_
  refine TO_ent (Ent_frzBoxSlot (i := 5) (id := 1000) (cs := ledD L la (unV G2)) rfl rfl) ?_
  refine fzA ?_
  try refine v52T7 ?_
  refine rtA (by simp only [kR, Tryz.results52, ↓reduceIte, Nat.reduceEqDiff, reduceCtorEq]; first | done | rfl) ([]) ?_
  refine ⟨?_, rfl⟩
  exact ⟨L, la, unV G2, hrun, rfl⟩
end Go.Proofs.YtbllfnmabmamfaaGreatDoor

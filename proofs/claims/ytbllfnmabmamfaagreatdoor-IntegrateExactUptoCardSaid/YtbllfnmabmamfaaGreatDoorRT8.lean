/- A part of the proof. -/
import Derived.Test.YtbllfnmabmamfaaGreatDoorRBd2
import Derived.Test.YtbllfnmabmamfaaGreatDoorRT7
import Derived.Test.YtbllfnmabmamfaaGreatDoorQP7
import Derived.Test.YtbllfnmabmamfaaGreatDoorRT5
set_option linter.all false
namespace Go.Proofs.YtbllfnmabmamfaaGreatDoor
open Go.Ab Tys
@[reducible] def pFils (l : List Fil) : Bool × List C := (false, [.d (.ps 2 (l.map encFil))])
noncomputable def remA (d : Dep) (s t : Fil) : AV := .tup [pFils ((remS d s t).getD []), pI (if (remS d s t).isSome then 0 else 150)]
theorem remA_none {d : Dep} {s t : Fil} (h : remS d s t = none) : .tup [pFils [], pI 150] = remA d s t := by simp [remA, h]
theorem remA_some {d : Dep} {s t : Fil} {l : List Fil} (h : remS d s t = some l) : .tup [pFils l, pI 0] = remA d s t := by simp [remA, h]
theorem noMember {d : Dep} (hg : Good d.revs) {L : Led} {me : List (Int × List Int)} (hI : LedInv d d.revs.length L me) {s : Fil} (hs : memB L s = none) : member? d s.path s.num = none := by
  cases h : member? d s.path s.num with
  | none => rfl
  | some w =>
    obtain ⟨j, h1, h2, h3⟩ := (member?_iff hg).1 h
    have := (memB_iff hI).2 ⟨j, w, rfl, (List.getElem?_eq_some_iff.1 h1).1, h1, h2, h3⟩
    rw [hs] at this; cases this
def remF (L : Led) (j : Int) (U : List Int) : List Fil := (U.filter (openB L j)).map fun x => fileOf (L.revs.getD x.toNat zRev)
theorem remF_len (L : Led) (j : Int) (U : List Int) : (remF L j U).length ≤ U.length := by simp only [remF, List.length_map]; exact List.length_filter_le ..
theorem upto_len : ∀ (l : List Int) (s : Int), (upto l s).length ≤ l.length
  | [], s => by simp [upto]
  | a :: l, s => by
    have := upto_len l s
    simp only [upto]; split <;> simp; omega
theorem upto_mem : ∀ {l : List Int} {s x : Int}, x ∈ upto l s → x ∈ l
  | [], s, x, h => by simp [upto] at h
  | a :: l, s, x, h => by
    simp only [upto] at h
    split at h
    · simp at h; simp [h]
    · rcases List.mem_cons.1 h with rfl | h
      · simp
      · exact List.mem_cons_of_mem _ (upto_mem h)
def k23 := And.intro @Tryz.ntmps23 <| And.intro @Tryz.underlying59 <| And.intro @Tryz.underlying65 <| And.intro @bld139 <| And.intro @bld30 <| And.intro @bld37 <| And.intro @bld46 <| And.intro @elt131 <| And.intro @elt27 <| And.intro @elt59 <| And.intro @elt65 <| And.intro @fld139_0 <| And.intro @ti131 <| And.intro @ti139 <| And.intro @ti27 <| And.intro @ti3 <| And.intro @ti30 <| And.intro @ti37 <| And.intro @ti4 <| And.intro @ti46 <| And.intro @ti59 <| @ti65
theorem v23T8 {G G' : Prop} (g : G') (h : Hid G' → G := by intro h9; (first | refine nvB ?_ | refine goA (wr := false) (by simp only [kB, kS, k23, Nat.reduceAdd, Nat.reduceLT, Nat.reduceEqDiff, ↓reduceIte, reduceCtorEq]; first | done | rfl) ?_); (repeat (first | refine nvB ?_ | refine goA (wr := false) (by simp only [kB, kS, k23, Nat.reduceAdd, Nat.reduceLT, Nat.reduceEqDiff, ↓reduceIte, reduceCtorEq]; first | done | rfl) ?_)); exact h9.out) : G := h ⟨g⟩
set_option maxRecDepth 100000 in
set_option maxHeartbeats 16000000 in
theorem Remaining_ac (d : Dep) (hg : Good d.revs) (hn : d.revs.length ≤ 512) (hm : d.recs.length ≤ 512) (s t : Fil) :
    AC Tryz.prog 23 [aDep d, aFil s, aFil t] [] (fun r st => r = remA d s t ∧ st = []) := by
  refine AC_enter Tryz.func23 rfl rfl (by simp only [Tryz.ntmps23, List.length]; omega) ?_
  intro x hx
  simp only [List.range, List.range.loop, List.length, List.zip, List.zipWith, Nat.reduceAdd, Tryz.ntmps23]
  try refine v23T8 ?_
  refine caA [] (newLedger_ac d hg hn hm) ?_
  rintro r st' ⟨⟨L, la, me, hrun, rfl⟩, rfl⟩ <;> refine frA ?_
  have hI := hrun.inv hg
  have hL : LedOK L := ⟨by rw [hI.revs]; exact hn, by rw [hI.lp, hI.revs], by rw [hI.lf, hI.revs], by rw [hI.lc, hI.revs], by rw [hI.lo, hI.revs], by rw [hI.lr, hI.revs], fun p i h => by
    obtain ⟨j, v, rfl, h1, h2, h3⟩ := (hI.ix p i).1 h
    rw [hI.revs]; omega⟩
  try refine v23T8 ?_
  refine ifA ?_ ?_
  · intro h; cases h
  intro _
  try refine v23T8 ?_
  refine caA [] (member_ac L hL la me s) ?_
  rintro r st' ⟨⟨i, rfl, hi⟩, rfl⟩ <;> refine frA ?_
  cases hs : memB L s with
  | none =>
    have hs2 := noMember hg hI hs
    try refine v23T8 ?_
    refine ifA ?_ ?_
    rotate_left
    · intro h; cases h
    intro _
    refine nvA ?_
    refine goA (wr := false) (by simp only [kB, kS, k23, Nat.reduceAdd, Nat.reduceLT, Nat.reduceEqDiff, ↓reduceIte, reduceCtorEq]; first | done | rfl) ?_
    refine TO_ent (Ent_nilSlot (i := 6) 2 rfl) ?_
    refine fzA ?_
    try refine v23T8 ?_
    refine rtA (by simp only [kR, Tryz.results23, ↓reduceIte, Nat.reduceEqDiff, reduceCtorEq]; first | done | rfl) ([]) ?_
    refine ⟨?_, rfl⟩
    exact remA_none (by simp [remS, hs2])
  | some i' =>
    have e := hi i' hs
    subst e
    obtain ⟨iN, v, rfl, i1, i2, i3, i4⟩ := (memB_iff hI).1 hs
    have hs2 := (member?_iff hg).2 ⟨iN, i2, i3, i4⟩
    try refine v23T8 ?_
    refine ifA ?_ ?_
    · intro h; cases h
    intro _
    try refine v23T8 ?_
    refine caA [] (member_ac L hL la me t) ?_
    rintro r st' ⟨⟨j, rfl, hj⟩, rfl⟩ <;> refine frA ?_
    cases ht : memB L t with
    | none =>
      have ht2 := noMember hg hI ht
      try refine v23T8 ?_
      refine ifA ?_ ?_
      rotate_left
      · intro h; cases h
      intro _
      refine nvA ?_
      refine goA (wr := false) (by simp only [kB, kS, k23, Nat.reduceAdd, Nat.reduceLT, Nat.reduceEqDiff, ↓reduceIte, reduceCtorEq]; first | done | rfl) ?_
      refine TO_ent (Ent_nilSlot (i := 6) 2 rfl) ?_
      refine fzA ?_
      try refine v23T8 ?_
      refine rtA (by simp only [kR, Tryz.results23, ↓reduceIte, Nat.reduceEqDiff, reduceCtorEq]; first | done | rfl) ([]) ?_
      refine ⟨?_, rfl⟩
      exact remA_none (by simp [remS, hs2, ht2])
    | some j' =>
      have e := hj j' ht
      subst e
      obtain ⟨jN, w, rfl, j1, j2, j3, j4⟩ := (memB_iff hI).1 ht
      have ht2 := (member?_iff hg).2 ⟨jN, j2, j3, j4⟩
      obtain ⟨ms, hms, hml⟩ := hI.hasKey i1 (hI.fm iN v i1 i2 i4).1
      have hmem : ∀ x ∈ ms, 0 ≤ x ∧ x < (L.revs.length : Int) ∧ ∃ l, L.con.getD x.toNat none = some l := by
        have h1 := hI.mem (L.fst.getD iN 0) (hI.fm iN v i1 i2 i4).1
        rw [hms] at h1
        simp only [Option.getD] at h1
        intro x hx
        rw [h1] at hx
        obtain ⟨y, hy, rfl⟩ := List.mem_map.1 hx
        obtain ⟨hy1, hy2⟩ := List.mem_filter.1 hy
        have hy1 : y < d.revs.length := by simpa using hy1
        have hyv := List.getElem?_eq_getElem hy1
        have hf : L.fst.getD y 0 = L.fst.getD iN 0 := of_decide_eq_true hy2
        have y5 : ¬ (d.revs[y]).act = 5 := by
          intro h5
          have := (hI.f5 y _ hy1 hyv h5).1
          have := (hI.fm iN v i1 i2 i4).1
          omega
        obtain ⟨c, m, cr, _, hc, _⟩ := hI.sets y _ hy1 hyv y5
        exact ⟨by omega, by rw [hI.revs]; omega, m, by rw [Int.toNat_natCast]; exact hc⟩
      obtain ⟨c, m, cr, _, _, hcr⟩ := hI.sets jN w j1 j2 j4
      have hrem := rem_eq hg hn hrun i2 j2 i4 j4
      rw [ledRem, Int.toNat_natCast, hms] at hrem
      simp only [Option.getD] at hrem
      have hrl : L.revs.length = d.revs.length := by rw [hI.revs]
      have hac := lremaining_ac L hL la me iN jN (by omega) (by omega) ms (by rw [Int.toNat_natCast]; exact hms) hmem ⟨cr, by rw [Int.toNat_natCast]; exact hcr⟩ (by omega)
      have hU1 := upto_len ms iN
      have hU2 : ∀ x ∈ upto ms iN, 0 ≤ x ∧ x < (L.revs.length : Int) := fun x hx => ⟨(hmem x (upto_mem hx)).1, (hmem x (upto_mem hx)).2.1⟩
      generalize upto ms iN = U at hrem hac hU1 hU2
      change remF L jN U = remL d v (fileOf w) at hrem
      rw [j3] at hrem
      try refine v23T8 ?_
      refine ifA ?_ ?_
      · intro h; cases h
      intro _
      (repeat (first | refine v23T8 ?_ | (refine caA [] (hac) ?_; rintro r st' ⟨rfl, rfl⟩; refine frA ?_)))
      refine T_ent (Ent_adopt (i := 12) (id := 100) (sz := 2) rfl rfl (by omega)) ?_
      refine fzA ?_
      refine T_loop (ι := Nat) (I := fun k => ⟨71, [(8, .c (.pp (ledD L la me))), (12, .c (.ms 100 2 0 (remF L jN (U.take k)).length)), (14, .c (.d (.ps 1 ((U.map (openB L jN)).map eB)))), (47, .c (.d (.ps 1 (U.map eI)))), (48, I .i64 U.length), (49, I .i64 k)], [(100, dArr 2 ((remF L jN (U.take k)).map encFil))]⟩)
        (Inv := fun k => k ≤ U.length) (μ := fun k => U.length - k) 0 (by simp) ?_ ?_
      · (refine Ent_sub (fun i => i) rfl ?_ ⟨?_, ?_, ?_, keepI hx (by simp [domOf, Ab.get])⟩ <;> first | (simp only [kE, dArr, ↓reduceIte, Nat.reduceEqDiff, reduceCtorEq, remF]; done) | simp [renAV_id, renAO_id, flat_up, Ab.get, clAV, clC, clCs, clAO, cl_f1, cl_s1, cl_f2, cl_s2, cl_a1, domOf, List.flatten, remF])
      intro k hk
      have hF := remF_len L jN (U.take k)
      have hF2 : (U.take k).length ≤ 512 := by simp; omega
      try refine v23T8 ?_
      refine ifA ?_ ?_
      · intro hlt
        have hlt' : k < U.length := by simpa using hlt
        obtain ⟨y, hy, he, htk⟩ := round eI U k 0 hlt'
        obtain ⟨y1, y2⟩ := hU2 y (List.mem_of_getElem? hy)
        have hl2 : k < (U.map (openB L jN)).length := by simpa using hlt'
        have hob : ((U.map (openB L jN)).map eB).getD k [] = eB (openB L jN y) := by
          rw [getD_enc eB _ k false hl2]
          simp [List.getD, hy]
        have er := getD_enc encRev L.revs y.toNat zRev (by omega)
        (repeat (first | refine nvB ?_ | refine goA (wr := false) (by simp only [kB, kS, k23, Nat.reduceAdd, Nat.reduceLT, Nat.reduceEqDiff, ↓reduceIte, reduceCtorEq, he, hob]; first | done | rfl) ?_))
        refine ifA ?_ ?_
        · intro ho
          (repeat (first | refine nvB ?_ | refine goA (wr := false) (by simp only [kB, kS, k23, Nat.reduceAdd, Nat.reduceLT, Nat.reduceEqDiff, ↓reduceIte, reduceCtorEq, er]; first | done | rfl) ?_ | (refine caA [] (fileOf_ac (L.revs.getD y.toNat zRev)) ?_; rintro r st' ⟨rfl, rfl⟩; refine frA ?_)))
          refine ⟨k + 1, by omega, by omega, ?_⟩
          have e : remF L jN (U.take (k + 1)) = remF L jN (U.take k) ++ [fileOf (L.revs.getD y.toNat zRev)] := by rw [htk, remF, List.filter_append, List.map_append]; simp [remF, ho]
          rw [e]
          exact enR (fun i => if i = 100 then 68 else i)
        · intro ho
          try refine v23T8 ?_
          refine ⟨k + 1, by omega, by omega, ?_⟩
          have e : remF L jN (U.take (k + 1)) = remF L jN (U.take k) := by rw [htk, remF, List.filter_append, List.map_append]; simp [remF, ho]
          rw [e]
          exact enA
      · intro hge
        have hge' : k = U.length := by have : ¬ k < U.length := by simpa using hge
                                       omega
        refine nvA ?_
        refine TO_ent (Ent_frzSlot (i := 12) (id := 100) (ys := (remF L jN (U.take k)).map encFil) rfl rfl (by simp)) ?_
        refine fzA ?_
        try refine v23T8 ?_
        refine rtA (by simp only [kR, Tryz.results23, ↓reduceIte, Nat.reduceEqDiff, reduceCtorEq]; first | done | rfl) ([]) ?_
        refine ⟨?_, rfl⟩
        rw [hge', List.take_length, hrem]
        exact remA_some (by simp [remS, hs2, ht2])
end Go.Proofs.YtbllfnmabmamfaaGreatDoor

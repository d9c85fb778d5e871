/- A part of the proof. -/
import Derived.Test.YtmhboloicpieeaaGreatDoorRX6
import Derived.Test.YtmhboloicpieeaaGreatDoorRX12
set_option linter.all false
namespace Go.Proofs.YtmhboloicpieeaaGreatDoor
open Go.Ab Tys
variable [DrF]
theorem metP_snoc (b : Pat) (l : List Pat) (v : Pat) : metP b (l ++ [v]) = metP b l ++ (meetP b v).toList := by
 unfold metP
 rw [List.filterMap_append, List.filterMap_cons]
 cases meetP b v <;> rfl
theorem metP_len (b : Pat) (l : List Pat) : (metP b l).length ≤ l.length := List.length_filterMap_le ..
theorem meetT_PB3 {n : Nat} {p q : Pat} (hp : PB n p) (hq : PB n q) : ∀ k, ∀ s ∈ meetT p q k, s.size ≤ n
 | 0, s, h => by simp [meetT] at h
 | k + 1, s, h => by
   simp only [meetT, List.mem_append, List.mem_singleton] at h
   rcases h with h | rfl
   ·exact meetT_PB3 hp hq k s h
   ·split
    ·exact hp.get k
    ·exact hq.get k
theorem meet1_PB3 {n : Nat} {p q m : Pat} (hp : PB n p) (hq : PB n q) (h : meet1 p q = some m) : PB n m := by
 unfold meet1 at h
 split at h
 ·cases h
 ·split at h
  ·cases h
   exact ⟨by simp only [meetT_len]; exact hp.1, meetT_PB3 hp hq _⟩
  ·cases h
theorem meetP_PB3 {n : Nat} {p q m : Pat} (hp : PB n p) (hq : PB n q) (h : meetP p q = some m) : PB n m := by
 unfold meetP at h
 split at h
 ·split at h
  ·exact meet1_PB3 hq hp h
  ·exact meet1_PB3 hp hq h
 ·cases h
theorem metP_PB {n : Nat} {b : Pat} {l : List Pat} (hb : PB n b) (hl : ∀ h ∈ l, PB n h) : ∀ m ∈ metP b l, PB n m := by
 intro m hm
 obtain ⟨h, h1, h2⟩ := List.mem_filterMap.1 hm
 exact meetP_PB3 hb (hl h h1) h2
theorem sinkP_len : ∀ (k : Nat) (l : List Pat), (sinkP k l).length = l.length
 | 0, l => rfl
 | k + 1, l => by
   simp only [sinkP]
   split
   ·rw [sinkP_len k]; simp
   ·rfl
theorem sortP_len (l : List Pat) : ∀ k, (sortP l k).length = l.length
 | 0 => rfl
 | k + 1 => by rw [sortP, sinkP_len, sortP_len l k]
theorem keepP_len (l : List Pat) : ∀ k, (keepP l k).length ≤ k
 | 0 => Nat.le_refl _
 | k + 1 => by
   have := keepP_len l k
   simp only [keepP, List.length_append]
   split <;> simp <;> omega
theorem swapP {P : Pat → Prop} {t : List Pat} {v w : Pat} {i j : Nat} (hv : P v) (hw : P w) (h : ∀ r ∈ t, P r) : ∀ r ∈ (t.set j w).set i v, P r := by
 intro r hr
 rcases List.mem_or_eq_of_mem_set hr with hr | rfl
 ·rcases List.mem_or_eq_of_mem_set hr with hr | rfl
  ·exact h r hr
  ·exact hw
 ·exact hv
theorem set_P (l : List Pat) (i : Nat) (v : Pat) : ((l.map encPat).map fun l => l.map C.d).set i (C.d (.ps 1 (v.parts.map encS)) :: C.d (.v (.bool v.rest)) :: List.drop 2 (((l.map encPat).map fun l => l.map C.d).getD i [])) = ((l.set i v).map encPat).map fun l => l.map C.d :=
 set_gen encPat l i v 2 (fun _ => rfl)
theorem set_P2 (l : List Pat) (i : Nat) (v : Pat) : ((l.map encPat).map fun l => l.map C.d).set i [C.d (.ps 1 (v.parts.map encS)), C.d (.v (.bool v.rest))] = ((l.set i v).map encPat).map fun l => l.map C.d := by
 simp [List.map_set]
theorem drop_cond {l : List Pat} {i j : Nat} : (bif bif !decide ((i : Int) = j) then withinB (l.getD i zPat) (l.getD j zPat) else false then bif decide ((j : Int) < i) then true else !decide (l.getD i zPat = l.getD j zPat) else false) = dropB l i j := by
 unfold dropB
 rw [show decide ((i : Int) = j) = decide (i = j) from decide_eq_decide.2 (by omega), show decide ((j : Int) < i) = decide (j < i) from decide_eq_decide.2 (by omega)]
 generalize decide (i = j) = a
 generalize decide (j < i) = b
 generalize decide (l.getD i zPat = l.getD j zPat) = c
 generalize withinB (l.getD i zPat) (l.getD j zPat) = d
 cases a <;> cases b <;> cases c <;> cases d <;> rfl
def k128 := And.intro @Tryz.ntmps128 <| And.intro @Tryz.underlying80 <| And.intro @bld151 <| And.intro @bld79 <| And.intro @elt80 <| And.intro @fld151_0 <| And.intro @fld151_1 <| And.intro @ti151 <| And.intro @ti79 <| @ti80
theorem v128X13 {G G' : Prop} (g : G') (h : Hid G' → G := by intro h9; (first | refine nvB ?_ | refine goA (wr := false) (by simp only [kB, kG, kS, k128, Nat.reduceAdd, Nat.reduceLT, Nat.reduceEqDiff, ↓reduceIte, reduceCtorEq]; first | done | rfl) ?_); (repeat (first | refine nvB ?_ | refine goA (wr := false) (by simp only [kB, kG, kS, k128, Nat.reduceAdd, Nat.reduceLT, Nat.reduceEqDiff, ↓reduceIte, reduceCtorEq]; first | done | rfl) ?_)); exact h9.out) : G := h ⟨g⟩
set_option maxRecDepth 100000 in
set_option maxHeartbeats 16000000 in
theorem simp5_ac (b : Pat) (hb : PB 100000 b) (hs : List Pat) (hl : hs.length ≤ 100000) (hh : ∀ h ∈ hs, PB 100000 h) : AC Tryz.prog 128 [aPat b, aPats hs] [] (fun x st => x = aRgn (simpG b hs) ∧ st = []) := by
 have hmt := fun v (hv : PB 100000 v) => meet_ac b v (hb.mono (by omega)) (hv.mono (by omega))
 have hsn := metP_snoc b
 have hml := metP_len b
 have hmp := metP_PB hb hh
 have hR : simpG b hs = ⟨b, keepP (sortP (metP b hs) (metP b hs).length) (metP b hs).length⟩ := rfl
 generalize simpG b hs = R at hR
 have hm0 : metP b [] = [] := rfl
 generalize hmP : metP b = mP at hsn hml hmp hR hm0
 generalize meetP b = me at hmt hsn
 obtain ⟨ps, rp⟩ := b
 refine AC_enter Tryz.func128 rfl rfl (by simp only [Tryz.ntmps128, List.length]; omega) ?_
 intro x hx
 simp only [List.range, List.range.loop, List.length, List.zip, List.zipWith, Nat.reduceAdd, Tryz.ntmps128]
 refine nvA ?_
 refine goA (wr := false) (by simp only [kB, kG, kS, k128, Nat.reduceAdd, Nat.reduceLT, Nat.reduceEqDiff, ↓reduceIte, reduceCtorEq]; first | done | rfl) ?_
 refine nvA ?_
 refine goA (wr := false) (by simp only [kB, kG, kS, k128, Nat.reduceAdd, Nat.reduceLT, Nat.reduceEqDiff, ↓reduceIte, reduceCtorEq]; first | done | rfl) ?_
 refine nvA ?_
 refine TO_ent (Ent_adopt (i := 5) (id := 100) (sz := 2) rfl rfl (by omega)) ?_
 refine fzA ?_
 try refine v128X13 ?_
 refine T_loop (ι := Nat) (I := fun k => ⟨122, [(2, .c (.ptr 2 0)), (4, .c (.ptr 4 0)), (5, .c (.ms 100 2 0 (mP (hs.take k)).length)), (18, aPats hs), (19, I .i64 hs.length), (20, I .i64 k)],
   [(2, .box ((encPat ⟨ps, rp⟩).map C.d)), (4, .box [nilK, .d (.v (.bool false)), nilK]), (100, dArr 2 ((mP (hs.take k)).map encPat))]⟩)
  (Inv := fun k => k ≤ hs.length) (μ := fun k => hs.length - k) 0 (by omega) ?_ ?_
 ·(refine Ent_sub (fun i => i) rfl ?_ ⟨?_, ?_, ?_, keepI hx (by simp [domOf, Ab.get])⟩ <;> first | (simp only [kE, dArr, ↓reduceIte, Nat.reduceEqDiff, reduceCtorEq, hm0]; done) | simp [renAV_id, renAO_id, flat_up, Ab.get, clAV, clC, clCs, clAO, cl_f1, cl_s1, cl_f2, cl_s2, cl_a1, domOf, List.flatten, hm0])
 intro k hk
 have hlk := hml (hs.take k)
 have hlk2 : (hs.take k).length ≤ k := by simp; omega
 try refine v128X13 ?_
 refine ifA ?_ ?_
 ·intro hlt
  have hlt' : k < hs.length := by simpa using hlt
  obtain ⟨v, hv, he, htk⟩ := round encPat hs k zPat hlt'
  have hmv := hmt v (hh v (List.mem_of_getElem? hv))
  have hsk := hsn (hs.take k) v
  rw [← htk] at hsk
  cases hme : me v with
  | none =>
    rw [hme] at hmv hsk
    simp only [pPatO, pB, Option.isSome] at hmv
    simp only [Option.toList, List.append_nil] at hsk
    (repeat (first | refine nvB ?_ | refine goA (wr := false) (by simp only [kB, kG, kS, k128, Nat.reduceAdd, Nat.reduceLT, Nat.reduceEqDiff, ↓reduceIte, reduceCtorEq, he]; first | done | rfl) ?_ | (refine caA [] (hmv) ?_; rintro r st' ⟨rfl, rfl⟩; refine frA ?_)))
    refine ifA ?_ ?_
    ·intro h; cases h
    intro _
    try refine v128X13 ?_
    refine ⟨k + 1, by omega, by omega, ?_⟩
    rw [hsk]
    exact enA
  | some m =>
    rw [hme] at hmv hsk
    obtain ⟨ms, rm⟩ := m
    simp only [pPatO, pB, Option.isSome] at hmv
    simp only [Option.toList] at hsk
    (repeat (first | refine nvB ?_ | refine goA (wr := false) (by simp only [kB, kG, kS, k128, Nat.reduceAdd, Nat.reduceLT, Nat.reduceEqDiff, ↓reduceIte, reduceCtorEq, he]; first | done | rfl) ?_ | (refine caA [] (hmv) ?_; rintro r st' ⟨rfl, rfl⟩; refine frA ?_)))
    refine ifA ?_ ?_
    rotate_left
    ·intro h; cases h
    intro _
    try refine v128X13 ?_
    refine ⟨k + 1, by omega, by omega, ?_⟩
    rw [hsk]
    exact enR (fun i => if i = 100 then 34 else i)
 intro hge
 have hk' : k = hs.length := by have : ¬ k < hs.length := by simpa using hge
                                omega
 rw [hk', List.take_length] at hlk ⊢
 generalize hM : mP hs = M at hlk hmp hR
 try refine v128X13 ?_
 refine T_loop (ι := Nat × List Pat) (I := fun i => ⟨122, [(2, .c (.ptr 2 0)), (4, .c (.ptr 4 0)), (5, .c (.ms 100 2 0 M.length)), (37, I .i64 M.length), (38, I .i64 i.1)],
   [(2, .box ((encPat ⟨ps, rp⟩).map C.d)), (4, .box [nilK, .d (.v (.bool false)), nilK]), (100, dArr 2 (i.2.map encPat))]⟩)
  (Inv := fun i => i.1 ≤ M.length ∧ i.2.length = M.length ∧ (∀ r ∈ i.2, PB 100000 r) ∧ i.2 = sortP M i.1) (μ := fun i => M.length - i.1) (0, M) ⟨by simp, rfl, hmp, rfl⟩ ?_ ?_
 ·exact enA
 rintro ⟨k, m⟩ ⟨h1, h2, h3, h4⟩
 simp only at h1 h2 h3 h4 ⊢
 try refine v128X13 ?_
 refine ifA ?_ ?_
 ·intro hlt
  have hlt' : k < M.length := by simpa using hlt
  try refine v128X13 ?_
  refine T_loop (ι := Nat × List Pat) (I := fun i => ⟨122, [(2, .c (.ptr 2 0)), (4, .c (.ptr 4 0)), (5, .c (.ms 100 2 0 M.length)), (11, I .i64 i.1), (37, I .i64 M.length), (38, I .i64 k)],
    [(2, .box ((encPat ⟨ps, rp⟩).map C.d)), (4, .box [nilK, .d (.v (.bool false)), nilK]), (100, dArr 2 (i.2.map encPat))]⟩)
   (Inv := fun i => i.1 ≤ k ∧ i.2.length = M.length ∧ (∀ r ∈ i.2, PB 100000 r) ∧ sinkP i.1 i.2 = sortP M (k + 1)) (μ := fun i => i.1) (k, m) ⟨by simp, h2, h3, by rw [h4]; rfl⟩ ?_ ?_
  ·exact enA
  rintro ⟨j, t⟩ ⟨g1, g2, g3, g4⟩
  simp only at g1 g2 g3 g4 ⊢
  have hj1 : ((j : Int) - 1).toNat = j - 1 := by omega
  have hjt : j < t.length := by omega
  have hjt2 : j - 1 < t.length := by omega
  have e1 := uGet encPat t j zPat hjt
  have e2 := uGet encPat t (j - 1) zPat hjt2
  have m1 : t.getD j zPat ∈ t := by rw [List.getD_eq_getElem?_getD, List.getElem?_eq_getElem hjt]; simp
  have m2 : t.getD (j - 1) zPat ∈ t := by rw [List.getD_eq_getElem?_getD, List.getElem?_eq_getElem hjt2]; simp
  generalize hv : t.getD j zPat = v at e1 m1
  generalize hw : t.getD (j - 1) zPat = w at e2 m2
  have t1 := text_ac v ((g3 _ m1).mono (by omega))
  have t2 := text_ac w ((g3 _ m2).mono (by omega))
  refine nvA ?_
  refine T_drawk (wr := false) 14 ([(49, Str (textP v)), (55, Str (textP w))] : List (Nat × AV)) (by kernel_rfl) (by simp only [List.take_succ_cons, List.take_zero, kD, kB, kG, kS, k128, Nat.reduceAdd, Nat.reduceLT, Nat.reduceEqDiff, ↓reduceIte, reduceCtorEq, hj1, e1, e2]; first | done | rfl) ?_ (by decide) (by kernel_rfl) (by kernel_rfl) ?_
  rotate_left
  simp only [List.drop_succ_cons, List.drop_zero]
  rotate_left
  ·exact obG (t1) (t2)
  refine TO_stropG (by simp) rfl rfl rfl ?_ (.inl ⟨rfl, rfl⟩) ?_
  ·intro h9
   simpa [obls, ev, Ab.get, strip, conj, All] using h9
  refine fzA ?_
  try refine v128X13 ?_
  refine ifA ?_ ?_
  ·intro hc
   have hc' : 0 < j ∧ cb (textP v) (textP w) < 0 := by
    cases j with
    | zero => exact absurd hc (by simp)
    | succ j => exact ⟨by omega, by simpa [cb, conj] using hc⟩
   obtain ⟨hj, hb⟩ := hc'
   have hjn : j - 1 ≠ j := by omega
   have e3 := uGet encPat (t.set j w) (j - 1) zPat (by simp; omega)
   refine nvA ?_
   refine T_draw (wr := false) ([] : List (Nat × AV)) (by kernel_rfl) (by simp only [kD, kB, kG, kS, k128, Nat.reduceAdd, Nat.reduceLT, Nat.reduceEqDiff, ↓reduceIte, reduceCtorEq, hj1, e1, e2, set_P, set_P2]; first | done | rfl) (by first | exact trivial | (simp only [kO]; omega) | (simp [All, InR]; first | done | omega) | (simp +contextual [All, InR]; first | done | grind)) (by kernel_rfl) ?_
   try refine v128X13 ?_
   have hlen : ((t.set j w).set (j - 1) v).length = M.length := by simp [g2]
   refine ⟨(j - 1, (t.set j w).set (j - 1) v), ⟨by simp; omega, hlen, swapP (g3 _ m1) (g3 _ m2) g3, ?_⟩, by simp; omega, ?_⟩
   ·rw [← g4]
    obtain ⟨i, rfl⟩ : ∃ i, j = i + 1 := ⟨j - 1, by omega⟩
    have e0 : i + 1 - 1 = i := by omega
    rw [e0] at hw
    conv => rhs; rw [sinkP]
    rw [hv, hw, if_pos hb]; rfl
   ·have hcast : ((j - 1 : Nat) : Int) = (j : Int) - 1 := by omega
    (refine Ent_sub (fun i => i) rfl ?_ ⟨?_, ?_, ?_, keepI hx (by simp [domOf, Ab.get])⟩ <;> first | (simp only [kE, dArr, ↓reduceIte, Nat.reduceEqDiff, reduceCtorEq, hcast]; done) | simp [renAV_id, renAO_id, flat_up, Ab.get, clAV, clC, clCs, clAO, cl_f1, cl_s1, cl_f2, cl_s2, cl_a1, domOf, List.flatten, hcast])
  ·intro hc
   try refine v128X13 ?_
   refine ⟨(k + 1, t), ⟨by simp; omega, g2, g3, ?_⟩, by simp; omega, ?_⟩
   ·rw [← g4]
    cases j with
    | zero => rfl
    | succ i =>
      have hb : ¬ cb (textP v) (textP w) < 0 := by simpa [cb, conj] using hc
      have e0 : i + 1 - 1 = i := by omega
      rw [e0] at hw
      simp only
      rw [sinkP, hv, hw, if_neg hb]
   ·exact enA
 intro hge
 have hge' : k = M.length := by have : ¬ k < M.length := by simpa using hge
                                omega
 rw [hge'] at h4
 rw [← h4, ← h2] at hR
 rw [← h2]
 have hkl := keepP_len m
 clear hmt hsn hml hmp hm0 hM h4 h1 hge hge'
 refine nvA ?_
 refine TO_ent (Ent_frzSlot (i := 5) (id := 100) (ys := m.map encPat) rfl rfl (by simp)) ?_
 refine fzA ?_
 refine goA (wr := false) (by simp only [kB, kG, kS, k128, Nat.reduceAdd, Nat.reduceLT, Nat.reduceEqDiff, ↓reduceIte, reduceCtorEq]; first | done | rfl) ?_
 refine nvA ?_
 refine TO_ent (Ent_adoptCell (bid := 12) (j := 2) (id := 101) (sz := 2) rfl rfl rfl (by omega)) ?_
 refine fzA ?_
 try refine v128X13 ?_
 have hm1 : m.length ≤ 100000 := by omega
 refine T_loop (ι := Nat) (I := fun k => ⟨122, [(4, .c (.ptr 4 0)), (5, aPats m), (12, .c (.ptr 12 0)), (79, aPats m), (80, I .i64 m.length), (81, I .i64 k)],
   [(4, .box [nilK, .d (.v (.bool false)), nilK]), (12, .box [.d (.ps 1 (ps.map encS)), .d (.v (.bool rp)), .ms 101 2 0 (keepP m k).length]), (101, dArr 2 ((keepP m k).map encPat))]⟩)
  (Inv := fun k => k ≤ m.length) (μ := fun k => m.length - k) 0 (by omega) ?_ ?_
 ·(refine Ent_sub (fun i => i) rfl ?_ ⟨?_, ?_, ?_, keepI hx (by simp [domOf, Ab.get])⟩ <;> first | (simp only [kE, dArr, ↓reduceIte, Nat.reduceEqDiff, reduceCtorEq, keepP]; done) | simp [renAV_id, renAO_id, flat_up, Ab.get, clAV, clC, clCs, clAO, cl_f1, cl_s1, cl_f2, cl_s2, cl_a1, domOf, List.flatten, keepP])
 intro k hk
 have hklk := hkl k
 try refine v128X13 ?_
 refine ifA ?_ ?_
 ·intro hlt
  have hlt' : k < m.length := by simpa using hlt
  obtain ⟨v, hv, he, _⟩ := round encPat m k zPat hlt'
  have ev := getD_sm (z := zPat) hv
  have hvb := h3 v (List.mem_of_getElem? hv)
  (repeat (first | refine nvB ?_ | refine goA (wr := false) (by simp only [kB, kG, kS, k128, Nat.reduceAdd, Nat.reduceLT, Nat.reduceEqDiff, ↓reduceIte, reduceCtorEq, he]; first | done | rfl) ?_))
  refine T_loop (ι := Nat) (I := fun j => ⟨122, [(4, .c (.ptr 4 0)), (5, aPats m), (12, .c (.ptr 12 0)), (13, I .i64 k), (14, .c (.ptr 14 0)), (15, B (!(List.range j).any (dropB m k))), (79, aPats m), (80, I .i64 m.length), (81, I .i64 k), (86, aPats m), (87, I .i64 m.length), (88, I .i64 j)],
    [(4, .box [nilK, .d (.v (.bool false)), nilK]), (12, .box [.d (.ps 1 (ps.map encS)), .d (.v (.bool rp)), .ms 101 2 0 (keepP m k).length]), (14, .box ((encPat v).map C.d)), (101, dArr 2 ((keepP m k).map encPat))]⟩)
   (Inv := fun j => j ≤ m.length) (μ := fun j => m.length - j) 0 (by omega) ?_ ?_
  ·(refine Ent_sub (fun i => i) rfl ?_ ⟨?_, ?_, ?_, keepI hx (by simp [domOf, Ab.get])⟩ <;> first | (simp only [kE, dArr, ↓reduceIte, Nat.reduceEqDiff, reduceCtorEq, List.range_zero, List.any_nil, Bool.not_false]; done) | simp [renAV_id, renAO_id, flat_up, Ab.get, clAV, clC, clCs, clAO, cl_f1, cl_s1, cl_f2, cl_s2, cl_a1, domOf, List.flatten, List.range_zero, List.any_nil, Bool.not_false])
  intro j hj
  try refine v128X13 ?_
  refine ifA ?_ ?_
  ·intro hlt2
   have hlt2' : j < m.length := by simpa using hlt2
   obtain ⟨u, hu, he2, _⟩ := round encPat m j zPat hlt2'
   have eu := getD_sm (z := zPat) hu
   have hub := h3 u (List.mem_of_getElem? hu)
   have hdc := drop_cond (l := m) (i := k) (j := j)
   rw [ev, eu] at hdc
   have hwi := within_ac3 v u (hvb.mono (by omega)) (hub.mono (by omega))
   have hsa := same3_ac v u (Nat.le_trans hvb.1 (by omega)) (Nat.le_trans hub.1 (by omega))
   generalize hfl : (List.range j).any (dropB m k) = fl
   have hnx : (List.range (j + 1)).any (dropB m k) = (fl || dropB m k j) := by rw [List.range_succ, List.any_append, hfl]; simp
   generalize dropB m k j = dv at hdc hnx
   (repeat (first | refine nvB ?_ | refine goA (wr := false) (by simp only [kB, kG, kS, k128, Nat.reduceAdd, Nat.reduceLT, Nat.reduceEqDiff, ↓reduceIte, reduceCtorEq, he2]; first | done | rfl) ?_))
   refine TO_stepO (wr := false) ([(99, B (withinB v u))] : List (Nat × AV)) rfl (by simp only [kD, kB, kG, kS, k128, Nat.reduceAdd, Nat.reduceLT, Nat.reduceEqDiff, ↓reduceIte, reduceCtorEq]; first | done | rfl) ?_ ?_
   ·simp only [All, List.cons_append, List.nil_append, InR, List.mem_cons, List.not_mem_nil, or_false, forall_eq_or_imp, forall_eq, clAV, clCs, clC, clCaps, clCap, and_true, true_and, implies_true, List.length_map, List.length_cons, List.length_nil, dArr, cl_arr, tyCs]
    repeat' (first | exact trivial | exact hwi | refine And.intro ?_ ?_ | intro _ | assumption | rfl | omega | (simp; done) | (simp_all; done))
   simp only [kP, Nat.reduceEqDiff, ↓reduceIte, reduceCtorEq]
   try refine v128X13 ?_
   refine TO_stepO (wr := false) ([(108, B (decide (v = u)))] : List (Nat × AV)) rfl (by simp only [kD, kB, kG, kS, k128, Nat.reduceAdd, Nat.reduceLT, Nat.reduceEqDiff, ↓reduceIte, reduceCtorEq]; first | done | rfl) ?_ ?_
   ·simp only [All, List.cons_append, List.nil_append, InR, List.mem_cons, List.not_mem_nil, or_false, forall_eq_or_imp, forall_eq, clAV, clCs, clC, clCaps, clCap, and_true, true_and, implies_true, List.length_map, List.length_cons, List.length_nil, dArr, cl_arr, tyCs]
    repeat' (first | exact trivial | exact hsa | refine And.intro ?_ ?_ | intro _ | assumption | rfl | omega | (simp; done) | (simp_all; done))
   simp only [kP, Nat.reduceEqDiff, ↓reduceIte, reduceCtorEq]
   try refine v128X13 ?_
   refine ifA ?_ ?_
   ·intro hc
    rw [hdc] at hc
    try refine v128X13 ?_
    refine ⟨j + 1, by omega, by omega, ?_⟩
    rw [hnx, hc, Bool.or_true, Bool.not_true]
    exact enA
   ·intro hc
    rw [hdc] at hc
    try refine v128X13 ?_
    refine ⟨j + 1, by omega, by omega, ?_⟩
    rw [hnx, hc, Bool.or_false]
    exact enA
  intro hge2
  have hj' : j = m.length := by have : ¬ j < m.length := by simpa using hge2
                                omega
  subst hj'
  have hkn : keepP m (k + 1) = keepP m k ++ (if (List.range m.length).any (dropB m k) then [] else [m.getD k zPat]) := rfl
  rw [ev] at hkn
  generalize (List.range m.length).any (dropB m k) = fl at hkn
  try refine v128X13 ?_
  refine ifA ?_ ?_
  ·intro hc
   have hc' : fl = false := by simpa using hc
   rw [hc', if_neg (by simp)] at hkn
   try refine v128X13 ?_
   refine ⟨k + 1, by omega, by omega, ?_⟩
   rw [hkn]
   exact enR (fun i => if i = 101 then 118 else i)
  ·intro hc
   have hc' : fl = true := by simpa using hc
   rw [hc', if_pos rfl, List.append_nil] at hkn
   try refine v128X13 ?_
   refine ⟨k + 1, by omega, by omega, ?_⟩
   rw [hkn]
   exact enA
 intro hge
 have hk2 : k = m.length := by have : ¬ k < m.length := by simpa using hge
                               omega
 subst hk2
 refine nvA ?_
 refine TO_ent (Ent_frzCell (bid := 12) (id := 101) (sz := 2) (j := 2) (ys := (keepP m m.length).map encPat) (by decide) rfl rfl rfl (by simp)) ?_
 refine fzA ?_
 try refine v128X13 ?_
 refine rtA (by simp only [kR, Tryz.results128, ↓reduceIte, Nat.reduceEqDiff, reduceCtorEq, effLoad, cellsOf, List.map, List.length_cons, List.length_nil, List.getD_cons_zero, List.getD_cons_succ, List.getD_nil, List.drop, List.take, splice, ti151]; first | done | rfl) ([]) ?_
 refine ⟨?_, rfl⟩
 rw [hR]; rfl
end Go.Proofs.YtmhboloicpieeaaGreatDoor

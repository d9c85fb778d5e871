/- A part of the proof. -/
import Derived.Test.YtmhboloicpieeaaGreatDoorRX3
set_option linter.all false
namespace Go.Proofs.YtmhboloicpieeaaGreatDoor
open Go.Ab Tys
variable [DrF]
theorem fillT_len3 (ps cs : List ByteArray) : ∀ k, (fillT ps cs k).length = k
 | 0 => rfl
 | k + 1 => by simp [fillT, fillT_len3 ps cs k]
theorem getD_size {n : Nat} {l : List ByteArray} (h : ∀ s ∈ l, s.size ≤ n) (k : Nat) : (l.getD k noS).size ≤ n := by
 rw [List.getD_eq_getElem?_getD]
 cases e : l[k]? with
 | none => exact Nat.zero_le _
 | some s => exact h s (List.mem_of_getElem? e)
theorem fillT_size {ps cs : List ByteArray} (h1 : ∀ s ∈ ps, s.size ≤ 100000) (h2 : ∀ s ∈ cs, s.size ≤ 400000) : ∀ k, ∀ s ∈ fillT ps cs k, s.size ≤ 500000
 | 0, s, h => by simp [fillT] at h
 | k + 1, s, h => by
   simp only [fillT, List.mem_append, List.mem_singleton] at h
   rcases h with h | rfl
   ·exact fillT_size h1 h2 k s h
   ·have a := getD_size h1 k
    have b := getD_size h2 (stars (ps.take k))
    have c := suf_le (ps.getD k noS)
    split
    ·rw [ByteArray.size_append]; omega
    ·omega
theorem stars_succ {ps : List ByteArray} {k : Nat} {v : ByteArray} (h : ps[k]? = some v) : stars (ps.take (k + 1)) = stars (ps.take k) + (if starB v then 1 else 0) := by
 rw [List.take_add_one, h]
 simp only [stars, Option.toList, List.filter_append, List.length_append, List.filter_cons, List.filter_nil]
 split <;> simp
theorem stars_le (ps : List ByteArray) (k : Nat) : stars (ps.take k) ≤ stars ps := by
 have := List.take_append_drop k ps
 conv => rhs; rw [← this]
 simp only [stars, List.filter_append, List.length_append]; omega
theorem fillOK_succ (ps cs : List ByteArray) (k : Nat) : fillOK ps cs (k + 1) = (fillOK ps cs k && (!starB (ps.getD k noS) || comp (cs.getD (stars (ps.take k)) noS))) := by
 simp [fillOK, List.range_succ, List.all_append]
theorem fillOK_no {ps cs : List ByteArray} {k n : Nat} (hk : k < n) (h : (!starB (ps.getD k noS) || comp (cs.getD (stars (ps.take k)) noS)) = false) : fillOK ps cs n = false := by
 cases e : fillOK ps cs n
 ·rfl
 ·have := range_all n k _ hk e
  rw [h] at this; cases this
def k135 := And.intro @Tryz.ntmps135 <| And.intro @Tryz.underlying77 <| And.intro @bld79 <| And.intro @elt77 <| And.intro @fld79_0 <| And.intro @fld79_1 <| And.intro @ti4 <| And.intro @ti77 <| And.intro @ti79 <| @ti9
theorem v135X4 {G G' : Prop} (g : G') (h : Hid G' → G := by intro h9; (first | refine nvB ?_ | refine goA (wr := false) (by simp only [kB, kS, k135, Nat.reduceAdd, Nat.reduceLT, Nat.reduceEqDiff, ↓reduceIte, reduceCtorEq]; first | done | rfl) ?_); (repeat (first | refine nvB ?_ | refine goA (wr := false) (by simp only [kB, kS, k135, Nat.reduceAdd, Nat.reduceLT, Nat.reduceEqDiff, ↓reduceIte, reduceCtorEq]; first | done | rfl) ?_)); exact h9.out) : G := h ⟨g⟩
set_option maxRecDepth 100000 in
set_option maxHeartbeats 8000000 in
theorem fill_ac (p : Pat) (hp : PB 100000 p) (cs : List ByteArray) (hcl : cs.length ≤ 400000) (hcs : ∀ s ∈ cs, s.size ≤ 400000) : AC Tryz.prog 135 [aPat p, aStrs cs] [] (fun r st => r = .tup [pS (fillP p cs).1, pI (fillP p cs).2] ∧ st = []) := by
 have hck := check3_ac p (hp.mono (by omega))
 have hwl := wilds_ac p (hp.mono (by omega))
 have hF : fillP p cs = fillP p cs := rfl
 have hok : okP p = decide (checkP p = 0) := rfl
 have hwd : wilds p = stars p.parts + (if p.rest then 1 else 0) := rfl
 conv at hF => rhs; unfold fillP
 obtain ⟨ps, rs⟩ := p
 have h1 := hp.1
 simp only at h1 hF
 generalize fillP ⟨ps, rs⟩ cs = R at hF
 refine AC_enter Tryz.func135 rfl rfl (by simp only [Tryz.ntmps135, List.length]; omega) ?_
 intro x hx
 simp only [List.range, List.range.loop, List.length, List.zip, List.zipWith, Nat.reduceAdd, Tryz.ntmps135]
 (repeat (first | refine v135X4 ?_ | (refine caA [] (hck) ?_; rintro r st' ⟨rfl, rfl⟩; refine frA ?_)))
 refine ifA ?_ ?_
 ·intro h
  have h' : okP ⟨ps, rs⟩ = false := by rw [hok]; simpa using h
  rw [h'] at hF
  try refine v135X4 ?_
  refine rtA (by simp only [kR, Tryz.results135, ↓reduceIte, Nat.reduceEqDiff, reduceCtorEq]; first | done | rfl) ([]) ?_
  refine ⟨?_, rfl⟩
  rw [hF]; rfl
 intro h
 have h' : okP ⟨ps, rs⟩ = true := by rw [hok]; simpa using h
 rw [if_pos h'] at hF
 (repeat (first | refine v135X4 ?_ | (refine caA [] (hwl) ?_; rintro r st' ⟨rfl, rfl⟩; refine frA ?_)))
 refine ifA ?_ ?_
 ·intro hw
  have hw' : ¬ cs.length = wilds ⟨ps, rs⟩ := by
   intro e
   rw [e] at hw; simp at hw
  rw [if_neg hw'] at hF
  try refine v135X4 ?_
  refine rtA (by simp only [kR, Tryz.results135, ↓reduceIte, Nat.reduceEqDiff, reduceCtorEq]; first | done | rfl) ([]) ?_
  refine ⟨?_, rfl⟩
  rw [hF]
 intro hw
 have hw' : cs.length = wilds ⟨ps, rs⟩ := by
  have : ((cs.length : Int) = (wilds ⟨ps, rs⟩ : Nat)) := by simpa using hw
  omega
 rw [if_pos hw'] at hF
 rw [hwd] at hw'
 simp only at hw'
 refine nvA ?_
 refine goA (wr := false) (by simp only [kB, kS, k135, Nat.reduceAdd, Nat.reduceLT, Nat.reduceEqDiff, ↓reduceIte, reduceCtorEq]; first | done | rfl) ?_
 refine nvA ?_
 refine TO_ent (Ent_adopt (i := 7) (id := 100) (sz := 1) rfl rfl (by omega)) ?_
 refine fzA ?_
 try refine v135X4 ?_
 refine T_loop (ι := Nat) (I := fun k => ⟨79, [(1, aStrs cs), (2, .c (.ptr 2 0)), (7, .c (.ms 100 1 0 (fillT ps cs k).length)), (8, I .i64 (stars (ps.take k))), (26, aStrs ps), (27, I .i64 ps.length), (28, I .i64 k)],
   [(2, .box ((encPat ⟨ps, rs⟩).map C.d)), (100, dArr 1 ((fillT ps cs k).map encS))]⟩)
  (Inv := fun k => k ≤ ps.length ∧ fillOK ps cs k = true) (μ := fun k => ps.length - k) 0 ⟨by omega, rfl⟩ ?_ ?_
 ·(refine Ent_sub (fun i => i) rfl ?_ ⟨?_, ?_, ?_, keepI hx (by simp [domOf, Ab.get])⟩ <;> first | (simp only [kE, dArr, ↓reduceIte, Nat.reduceEqDiff, reduceCtorEq, fillT, stars_nil]; done) | simp [renAV_id, renAO_id, flat_up, Ab.get, clAV, clC, clCs, clAO, cl_f1, cl_s1, cl_f2, cl_s2, cl_a1, domOf, List.flatten, fillT, stars_nil])
 rintro k ⟨hk, hall⟩
 have hfl := fillT_len3 ps cs k
 have hsl := stars_le ps k
 try refine v135X4 ?_
 refine ifA ?_ ?_
 ·intro hlt
  have hlt' : k < ps.length := by simpa using hlt
  obtain ⟨v, hv, he, _⟩ := round encS ps k noS hlt'
  have ev := getD_some (z := noS) hv
  have hvs : v.size ≤ 100000 := hp.2 v (List.mem_of_getElem? hv)
  have hsv := suf_le v
  have hss := stars_succ hv
  have hsl2 := stars_le ps (k + 1)
  (repeat (first | refine nvB ?_ | refine goA (wr := false) (by simp only [kB, kS, k135, Nat.reduceAdd, Nat.reduceLT, Nat.reduceEqDiff, ↓reduceIte, reduceCtorEq, he]; first | done | rfl) ?_ | (refine caA [] (star_ac v (by omega)) ?_; rintro r st' ⟨rfl, rfl⟩; refine frA ?_)))
  refine ifA ?_ ?_
  ·intro hst
   rw [hst, if_pos rfl] at hss
   obtain ⟨u, hu, he2, _⟩ := round encS cs (stars (ps.take k)) noS (by omega)
   have eu := getD_some (z := noS) hu
   have hus : u.size ≤ 400000 := hcs u (List.mem_of_getElem? hu)
   (repeat (first | refine nvB ?_ | refine goA (wr := false) (by simp only [kB, kS, k135, Nat.reduceAdd, Nat.reduceLT, Nat.reduceEqDiff, ↓reduceIte, reduceCtorEq, he2]; first | done | rfl) ?_ | (refine caA [] (comp_ac u (by omega)) ?_; rintro r st' ⟨rfl, rfl⟩; refine frA ?_)))
   refine ifA ?_ ?_
   ·intro hb
    have hb' : comp u = false := by simpa using hb
    rw [fillOK_no hlt' (by rw [ev, eu, hst, hb']; rfl)] at hF
    try refine v135X4 ?_
    refine rtA (by simp only [kR, Tryz.results135, ↓reduceIte, Nat.reduceEqDiff, reduceCtorEq]; first | done | rfl) ([]) ?_
    refine ⟨?_, rfl⟩
    rw [hF]; rfl
   intro hb
   have hb' : comp u = true := by simpa using hb
   (repeat (first | refine nvB ?_ | refine goA (wr := false) (by simp only [kB, kS, k135, Nat.reduceAdd, Nat.reduceLT, Nat.reduceEqDiff, ↓reduceIte, reduceCtorEq, he2]; first | done | rfl) ?_))
   refine TO_concat (by simp) (by simp only [kV, ↓reduceIte, Nat.reduceEqDiff, reduceCtorEq]; first | done | rfl) (by simp only [kV, ↓reduceIte, Nat.reduceEqDiff, reduceCtorEq]; first | done | rfl) ?_ ?_
   ·omega
   try refine v135X4 ?_
   refine ⟨k + 1, ⟨by omega, by rw [fillOK_succ, hall, ev, eu, hb']; simp⟩, by omega, ?_⟩
   have e : fillT ps cs (k + 1) = fillT ps cs k ++ [u ++ suf v] := by simp only [fillT, ev, eu, hst, if_true]
   rw [e, hss]
   exact enR (fun i => if i = 100 then 55 else i)
  ·intro hst
   rw [hst, if_neg (by simp)] at hss
   try refine v135X4 ?_
   refine ⟨k + 1, ⟨by omega, by rw [fillOK_succ, hall, ev, hst]; rfl⟩, by omega, ?_⟩
   have e : fillT ps cs (k + 1) = fillT ps cs k ++ [v] := by simp only [fillT, ev, hst, if_false, Bool.false_eq_true]
   rw [e, hss]
   exact enR (fun i => if i = 100 then 55 else i)
 intro hge
 have hk' : k = ps.length := by have : ¬ k < ps.length := by simpa using hge
                                omega
 subst hk'
 rw [if_pos hall] at hF
 rw [List.take_length]
 have hfs := fillT_size hp.2 hcs ps.length
 simp only at hfs
 try refine v135X4 ?_
 refine ifA ?_ ?_
 ·intro hr
  subst hr
  rw [if_pos rfl] at hF hw'
  obtain ⟨u, hu, he2, _⟩ := round encS cs (stars ps) noS (by omega)
  have eu := getD_some (z := noS) hu
  have hus : u.size ≤ 400000 := hcs u (List.mem_of_getElem? hu)
  have hul := split_len u
  have husz : ∀ s ∈ split u, s.size ≤ 500000 := fun s hs => by have := splitN_size _ _ s hs; omega
  rw [eu] at hF
  (repeat (first | refine nvB ?_ | refine goA (wr := false) (by simp only [kB, kS, k135, Nat.reduceAdd, Nat.reduceLT, Nat.reduceEqDiff, ↓reduceIte, reduceCtorEq, he2]; first | done | rfl) ?_ | (refine caA [] (split_ac u (by omega)) ?_; rintro r st' ⟨rfl, rfl⟩; refine frA ?_)))
  refine T_loop (ι := Nat) (I := fun j => ⟨79, [(7, .c (.ms 100 1 0 (fillT ps cs ps.length ++ (split u).take j).length)), (63, aStrs (split u)), (64, I .i64 (split u).length), (65, I .i64 j)],
    [(100, dArr 1 ((fillT ps cs ps.length ++ (split u).take j).map encS))]⟩)
   (Inv := fun j => j ≤ (split u).length ∧ ((split u).take j).all comp = true) (μ := fun j => (split u).length - j) 0 ⟨by omega, by simp⟩ ?_ ?_
  ·exact enA
  rintro j ⟨hj, hcl2⟩
  have hln : (fillT ps cs ps.length ++ (split u).take j).length ≤ 600000 := by rw [List.length_append, List.length_take]; omega
  try refine v135X4 ?_
  refine ifA ?_ ?_
  ·intro hlt
   have hlt' : j < (split u).length := by simpa using hlt
   obtain ⟨v, hv, he, htk⟩ := round encS (split u) j noS hlt'
   have hvs := husz v (List.mem_of_getElem? hv)
   (repeat (first | refine nvB ?_ | refine goA (wr := false) (by simp only [kB, kS, k135, Nat.reduceAdd, Nat.reduceLT, Nat.reduceEqDiff, ↓reduceIte, reduceCtorEq, he]; first | done | rfl) ?_ | (refine caA [] (comp_ac v (by omega)) ?_; rintro r st' ⟨rfl, rfl⟩; refine frA ?_)))
   refine ifA ?_ ?_
   ·intro hb
    have hb' : comp v = false := by simpa using hb
    have hn : ¬ (split u).all comp = true := by
     intro e
     rw [List.all_eq_true] at e; rw [e v (List.mem_of_getElem? hv)] at hb'; cases hb'
    rw [if_neg hn] at hF
    try refine v135X4 ?_
    refine rtA (by simp only [kR, Tryz.results135, ↓reduceIte, Nat.reduceEqDiff, reduceCtorEq]; first | done | rfl) ([]) ?_
    refine ⟨?_, rfl⟩
    rw [hF]
   intro hb
   have hb' : comp v = true := by simpa using hb
   try refine v135X4 ?_
   refine ⟨j + 1, ⟨by omega, by rw [htk, List.all_append, hcl2]; simp [hb']⟩, by omega, ?_⟩
   rw [htk, ← List.append_assoc]
   (refine Ent_sub (fun i => if i = 100 then 75 else i) rfl ?_ ⟨?_, ?_, ?_, keepR hx (by simp [domOf, Ab.get])⟩ <;> first | (intro i hi; have h0 := hx i hi; constructor <;> (revert h0; simp only [domOf, Ab.get]; (repeat' split) <;> simp_all); done) | (simp only [kE, dArr, ↓reduceIte, Nat.reduceEqDiff, reduceCtorEq]; done) | (simp only [dArr, ren_arr, ren_map, List.mem_cons, List.not_mem_nil, or_false, forall_eq_or_imp, forall_eq]; simp [renAV, renC, renAO, ren_up, flat_up, Ab.get, clAV, clC, clCs, clAO, cl_f1, cl_s1, cl_f2, cl_s2, cl_a1, domOf, List.flatten, clCs_append, Nat.add_assoc]; done) | simp [renAV, renC, renAO, ren_up, flat_up, Ab.get, clAV, clC, clCs, clAO, cl_f1, cl_s1, cl_f2, cl_s2, cl_a1, domOf, List.flatten, clCs_append, Nat.add_assoc])
  intro hge
  have hj' : j = (split u).length := by have : ¬ j < (split u).length := by simpa using hge
                                        omega
  rw [hj', List.take_length] at hcl2 hln ⊢
  rw [if_pos hcl2] at hF
  have hfz : ∀ s ∈ fillT ps cs ps.length ++ split u, s.size ≤ 1000000 := by
   intro s hs
   rcases List.mem_append.1 hs with h | h
   ·have := hfs s h; omega
   ·have := husz s h; omega
  refine nvA ?_
  refine TO_ent (Ent_frzSlot (i := 7) (id := 100) (ys := (fillT ps cs ps.length ++ split u).map encS) rfl rfl (by simp)) ?_
  refine fzA ?_
  (repeat (first | refine v135X4 ?_ | (refine caA [] (join_ac (fillT ps cs ps.length ++ split u) (by omega) hfz) ?_; rintro r st' ⟨rfl, rfl⟩; refine frA ?_)))
  refine rtA (by simp only [kR, Tryz.results135, ↓reduceIte, Nat.reduceEqDiff, reduceCtorEq]; first | done | rfl) ([]) ?_
  refine ⟨?_, rfl⟩
  rw [hF]
 ·intro hr
  subst hr
  rw [if_neg (by simp)] at hF
  refine nvA ?_
  refine TO_ent (Ent_frzSlot (i := 7) (id := 100) (ys := (fillT ps cs ps.length).map encS) rfl rfl (by simp)) ?_
  refine fzA ?_
  (repeat (first | refine v135X4 ?_ | (refine caA [] (join_ac (fillT ps cs ps.length) (by omega) (fun s hs => by have := hfs s hs; omega)) ?_; rintro r st' ⟨rfl, rfl⟩; refine frA ?_)))
  refine rtA (by simp only [kR, Tryz.results135, ↓reduceIte, Nat.reduceEqDiff, reduceCtorEq]; first | done | rfl) ([]) ?_
  refine ⟨?_, rfl⟩
  rw [hF]
end Go.Proofs.YtmhboloicpieeaaGreatDoor

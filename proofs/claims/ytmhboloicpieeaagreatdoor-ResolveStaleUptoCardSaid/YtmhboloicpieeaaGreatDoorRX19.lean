/- A part of the proof. -/
import Derived.Test.YtmhboloicpieeaaGreatDoorRX18
import Derived.Test.YtmhboloicpieeaaGreatDoorRX15
import Derived.Test.YtmhboloicpieeaaGreatDoorRX16
import Derived.Test.YtmhboloicpieeaaGreatDoorRR3
set_option linter.all false
namespace Go.Proofs.YtmhboloicpieeaaGreatDoor
open Go.Ab Tys
def tgW (tg : Option (Rev × ByteArray)) : Rev := (tg.map (·.1)).getD zRev
def tgQ (tg : Option (Rev × ByteArray)) : ByteArray := (tg.map (·.2)).getD noS
theorem aTgt_eq (tg : Option (Rev × ByteArray)) : aTgt tg = .tup [pRev (tgW tg), pS (tgQ tg), pB tg.isSome] := by
 cases tg with
 | none => rfl
 | some x => rfl
@[reducible] def pTsks (l : List Tsk) : Bool × List C := (false, [.d (.ps 11 (l.map encTsk))])
section
variable {d : Dep} {m : List Etr} {p : ByteArray} {v : Rev} (hv : last? d p = some v)
include hv
theorem tskP_off (h : (byE m p).2 = false ∨ v.act = 5) : tskP d m p = [] := by
 unfold tskP; rw [hv]; simp only [Option.getD_some]; rw [if_pos h]
theorem tskP_on (h : ¬ ((byE m p).2 = false ∨ v.act = 5)) : tskP d m p =
  match tgtF d m (line d (first d v)) with
  | none => if v.act = 3 ∨ live d (byE m p).1 = true then [] else [brT d p (byE m p).1 v]
  | some (w, q) =>
    if w.act = 3 then (if v.act = 3 ∨ live d (byE m p).1 = true ∨ restF d (fileOf v) (tgtF d m (line d (first d v))) = [] then [] else [brT d p (byE m p).1 v])
    else mrgR (first d v) (restF d (fileOf v) (tgtF d m (line d (first d v)))) (line d (first d v)) w (movF d m p (byE m p).1 w q) 0 := by
 unfold tskP; rw [hv]; simp only [Option.getD_some]; rw [if_neg h]
 cases tgtF d m (line d (first d v)) <;> rfl
theorem tskP_br (h : ¬ ((byE m p).2 = false ∨ v.act = 5)) (hb : (tgtF d m (line d (first d v))).isSome = false ∨ (tgW (tgtF d m (line d (first d v)))).act = 3) :
  tskP d m p = if v.act = 3 ∨ live d (byE m p).1 = true ∨ ((tgtF d m (line d (first d v))).isSome = true ∧ restF d (fileOf v) (tgtF d m (line d (first d v))) = []) then [] else [brT d p (byE m p).1 v] := by
 rw [tskP_on hv h]
 cases htg : tgtF d m (line d (first d v)) with
 | none => simp
 | some x =>
   obtain ⟨w, q⟩ := x
   rw [htg] at hb
   have h3 : w.act = 3 := by simpa [tgW] using hb
   simp [h3]
theorem tskP_mrg (h : ¬ ((byE m p).2 = false ∨ v.act = 5)) {w : Rev} {q : ByteArray} (htg : tgtF d m (line d (first d v)) = some (w, q)) (w3 : ¬ w.act = 3) :
  tskP d m p = mrgR (first d v) (restF d (fileOf v) (some (w, q))) (line d (first d v)) w (movF d m p (byE m p).1 w q) 0 := by
 rw [tskP_on hv h, htg]
 simp only
 rw [if_neg w3]
end
theorem mrgF_len (f : Fil) (rest : List Fil) (ln : List Rev) (w : Rev) (mv : ByteArray) : ∀ n i, (mrgF f rest ln w mv n i).length ≤ n
 | 0, _ => by simp [mrgF]
 | n + 1, i => by
   rw [mrgF]
   split
   ·split
    ·have := mrgF_len f rest ln w mv n (endR rest ln (ln.getD i zRev).path i + 1); simp only [List.length_cons]; omega
    ·have := mrgF_len f rest ln w mv n (i + 1); omega
   ·simp
theorem tskP_len {d : Dep} (hN : d.revs.length ≤ 512) (m : List Etr) (p : ByteArray) : (tskP d m p).length ≤ 512 := by
 have hl := fun f => Nat.le_trans (List.length_filter_le (inLine d f) d.revs) hN
 unfold tskP
 simp only
 split
 ·simp
 ·split
  ·split <;> simp
  ·split
   ·split <;> simp
   ·exact Nat.le_trans (mrgF_len ..) (hl _)
theorem flat_len {d : Dep} (hN : d.revs.length ≤ 512) (m : List Etr) : ∀ l : List ByteArray, (l.flatMap (tskP d m)).length ≤ l.length * 512
 | [] => by simp
 | p :: l => by
   have h1 := tskP_len hN m p
   have h2 := flat_len hN m l
   simp only [List.flatMap_cons, List.length_append, List.length_cons]; omega
theorem flat_snoc {d : Dep} (m : List Etr) (l : List ByteArray) (p : ByteArray) : (l ++ [p]).flatMap (tskP d m) = l.flatMap (tskP d m) ++ tskP d m p := by simp [List.flatMap_append]
theorem remS_len {d : Dep} (hN : d.revs.length ≤ 512) (s t : Fil) : ((remS d s t).getD []).length ≤ 512 := by
 unfold remS
 split
 ·simp only [Option.getD_some, remL, List.length_map]
  exact Nat.le_trans (List.length_filter_le ..) hN
 ·simp
@[reducible] def brX (f : Fil) (p : ByteArray) (fs ls : Int) (t : ByteArray) (h : Int) : Tsk := ⟨1, f.path, f.num, p, fs, ls, t, h, noS, 0, noS⟩
theorem emptyS : ByteArray.empty = noS := rfl
theorem num0 (l : List Rev) (i : Nat) : (List.drop 1 ((l.map encRev).getD i [])).getD 0 (D.v (.int .i64 0)) = D.v (.int .i64 (l.getD i zRev).num) := by
 simp only [List.getD_eq_getElem?_getD, List.getElem?_map]
 cases l[i]? <;> rfl
def bsP (ln : List Rev) (i : Nat) : ByteArray := if 0 < i then (ln.getD (i - 1) zRev).path else noS
def bsN (ln : List Rev) (i : Nat) : Int := if 0 < i then (ln.getD (i - 1) zRev).num else 0
variable [DrF]
def k11 := And.intro @Tryz.ntmps11 <| And.intro @Tryz.underlying27 <| And.intro @Tryz.underlying32 <| And.intro @Tryz.underlying70 <| And.intro @Tryz.underlying77 <| And.intro @bld30 <| And.intro @bld37 <| And.intro @bld39 <| And.intro @bld46 <| And.intro @elt27 <| And.intro @elt32 <| And.intro @elt70 <| And.intro @elt77 <| And.intro @fld39_0 <| And.intro @fld39_1 <| And.intro @fld39_2 <| And.intro @fld39_3 <| And.intro @fld39_4 <| And.intro @fld39_5 <| And.intro @fld39_6 <| And.intro @fld39_7 <| And.intro @fld39_8 <| And.intro @fld46_0 <| And.intro @fld46_1 <| And.intro @fld46_3 <| And.intro @ti27 <| And.intro @ti3 <| And.intro @ti30 <| And.intro @ti32 <| And.intro @ti37 <| And.intro @ti39 <| And.intro @ti46 <| And.intro @ti77 <| @ti9
theorem v11X19 {G G' : Prop} (g : G') (h : Hid G' → G := by intro h9; (first | refine nvB ?_ | refine goA (wr := false) (by simp only [kB, kG, kS, k11, Nat.reduceAdd, Nat.reduceLT, Nat.reduceEqDiff, ↓reduceIte, reduceCtorEq]; first | done | rfl) ?_); (repeat (first | refine nvB ?_ | refine goA (wr := false) (by simp only [kB, kG, kS, k11, Nat.reduceAdd, Nat.reduceLT, Nat.reduceEqDiff, ↓reduceIte, reduceCtorEq]; first | done | rfl) ?_)); exact h9.out) : G := h ⟨g⟩
set_option maxRecDepth 100000 in
set_option maxHeartbeats 32000000 in
theorem tasks_ac (d : Dep) (hg : Good d.revs) (hN : d.revs.length ≤ 512) (hrn : d.recs.length ≤ 512) (hrc : RcGood d.recs) (hpt : ∀ v ∈ d.revs, v.path.size ≤ 100000) (m : List Etr) (hm : m.length ≤ 10000) (hb : ∀ e ∈ m, EB1 e) :
  AC Tryz.prog 11 [aDep d, aEtrs m] [] (fun r st => ((MapOK m ∧ r = .tup [pTsks (tskF d m), pI 0]) ∨ (¬ MapOK m ∧ r = .tup [pTsks [], pI 151])) ∧ st = []) := by
 have hP := paths_ac d hN hpt
 have hPm : ∀ p ∈ pathsF d, p.size ≤ 100000 ∧ ∃ v, last? d p = some v := by
  intro p hp
  obtain ⟨v, h1, h2⟩ := pathsF_mem hp
  rw [← h2]
  exact ⟨hpt v h1, last_ex h1⟩
 have hPl := pathsF_len d
 have hF : tskF d m = (pathsF d).flatMap (tskP d m) := rfl
 have hck := check7_ac m hm hb
 have hfl := fun l => flat_len hN m l
 have hsn := fun l p => @flat_snoc d m l p
 generalize pathsF d = P at hP hPm hPl hF
 generalize tskF d m = R at hF
 refine AC_enter Tryz.func11 rfl rfl (by simp only [Tryz.ntmps11, List.length]; omega) ?_
 intro x hx
 simp only [List.range, List.range.loop, List.length, List.zip, List.zipWith, Nat.reduceAdd, Tryz.ntmps11]
 try refine v11X19 ?_
 refine caA [] (hck) ?_
 rintro r st' ⟨⟨ci, ce, rfl, hM⟩, rfl⟩ <;> refine frA ?_
 try refine v11X19 ?_
 refine ifA ?_ ?_
 ·intro hc
  have hc' : ¬ MapOK m := by rw [← hM]; simpa using hc
  refine nvA ?_
  refine goA (wr := false) (by simp only [kB, kG, kS, k11, Nat.reduceAdd, Nat.reduceLT, Nat.reduceEqDiff, ↓reduceIte, reduceCtorEq]; first | done | rfl) ?_
  refine TO_ent (Ent_nilSlot (i := 4) 11 rfl) ?_
  refine fzA ?_
  try refine v11X19 ?_
  refine rtA (by simp only [kR, Tryz.results11, ↓reduceIte, Nat.reduceEqDiff, reduceCtorEq]; first | done | rfl) ([]) ?_
  refine ⟨?_, rfl⟩
  exact .inr ⟨hc', rfl⟩
 intro hc
 have hMO : MapOK m := by rw [← hM]; simpa using hc
 have hbE : ∀ e ∈ m, EB 100000 e := fun e he => ((hb e he).eb (hMO.ent e he).2).mono (by omega)
 try refine v11X19 ?_
 refine caA [] (All_ac d hg hN hrn hrc) ?_
 rintro r st' ⟨⟨A, hA, hD, rfl⟩, rfl⟩ <;> refine frA ?_
 (repeat (first | refine v11X19 ?_ | (refine caA [] (hP) ?_; rintro r st' ⟨rfl, rfl⟩; refine frA ?_)))
 refine T_ent (Ent_adopt (i := 9) (id := 100) (sz := 11) rfl rfl (by omega)) ?_
 refine fzA ?_
 refine T_loop (ι := Nat) (I := fun k => ⟨281, [(1, aEtrs m), (2, .c (.ptr 2 0)), (8, .c (.d (.pm (mEnt kF vSV A)))), (9, .c (.ms 100 11 0 ((P.take k).flatMap (tskP d m)).length)), (43, aStrs P), (44, I .i64 P.length), (45, I .i64 k)],
   [(2, .box ((encDep d).map C.d)), (100, dArr 11 (((P.take k).flatMap (tskP d m)).map encTsk))]⟩)
  (Inv := fun k => k ≤ P.length) (μ := fun k => P.length - k) 0 (by omega) ?_ ?_
 ·exact enA
 intro k hk
 have hfk := hfl (P.take k)
 have hfk2 : (P.take k).length ≤ 512 := by simp; omega
 try refine v11X19 ?_
 refine ifA ?_ ?_
 rotate_left
 ·intro hge
  have hk' : k = P.length := by have : ¬ k < P.length := by simpa using hge
                                omega
  rw [hk', List.take_length, ← hF]
  rw [hk', List.take_length, ← hF] at hfk
  refine nvA ?_
  refine goA (wr := false) (by simp only [kB, kG, kS, k11, Nat.reduceAdd, Nat.reduceLT, Nat.reduceEqDiff, ↓reduceIte, reduceCtorEq]; first | done | rfl) ?_
  refine TO_ent (Ent_frzSlot (i := 4) (id := 100) (ys := R.map encTsk) rfl rfl (by simp)) ?_
  refine fzA ?_
  try refine v11X19 ?_
  refine rtA (by simp only [kR, Tryz.results11, ↓reduceIte, Nat.reduceEqDiff, reduceCtorEq]; first | done | rfl) ([]) ?_
  refine ⟨?_, rfl⟩
  exact .inl ⟨hMO, rfl⟩
 intro hlt
 have hlt' : k < P.length := by simpa using hlt
 obtain ⟨p, hp, he, htk⟩ := round encS P k noS hlt'
 obtain ⟨hps, v, hv⟩ := hPm p (List.mem_of_getElem? hp)
 have hsn := hsn (P.take k) p
 rw [← htk] at hsn
 generalize hO1 : (P.take (k + 1)).flatMap (tskP d m) = O1 at hsn
 generalize (P.take k).flatMap (tskP d m) = O at hsn hfk
 have hla := last_ac d p (by omega)
 rw [hv] at hla
 simp only [Option.getD, Option.isSome] at hla
 have hby := by_ac m (by omega) hbE p (by omega)
 (repeat (first | refine nvB ?_ | refine goA (wr := false) (by simp only [kB, kG, kS, k11, Nat.reduceAdd, Nat.reduceLT, Nat.reduceEqDiff, ↓reduceIte, reduceCtorEq, he]; first | done | rfl) ?_ | (refine caA [] (hla) ?_; rintro r st' ⟨rfl, rfl⟩; refine frA ?_) | (refine caA [] (hby) ?_; rintro r st' ⟨rfl, rfl⟩; refine frA ?_)))
 have hcd : (bif !(byE m p).2 then true else decide (v.act = 5)) = decide ((byE m p).2 = false ∨ v.act = 5) := by
  cases (byE m p).2 <;> simp
 refine ifA ?_ ?_
 ·intro hc
  have hc' : (byE m p).2 = false ∨ v.act = 5 := by
   cases h : (byE m p).2 with
   | false => exact .inl rfl
   | true => rw [h] at hc; exact .inr (by simpa using hc)
  rw [tskP_off hv hc', List.append_nil] at hsn
  try refine v11X19 ?_
  refine ⟨k + 1, by omega, by omega, ?_⟩
  rw [hO1, hsn]
  exact enA
 intro hc
 have hc' : ¬ ((byE m p).2 = false ∨ v.act = 5) := by
  rintro (h | h)
  ·rw [h] at hc; simp at hc
  ·simp [h] at hc
 have v5 : ¬ v.act = 5 := fun h => hc' (.inr h)
 obtain ⟨vm, vp⟩ := last_mem hv
 have hL0 := line_ne vm v5
 have hLl : (line d (first d v)).length ≤ 512 := Nat.le_trans (List.length_filter_le ..) hN
 have hLm : ∀ u ∈ line d (first d v), u ∈ d.revs := fun u hu => (mem_lineF.1 hu).1
 have htgt := target_ac d hg hN m (by omega) hbE (line d (first d v)) hL0 hLl (fun u hu => hpt u (hLm u hu))
 rw [aTgt_eq] at htgt
 have hbr := fun h => tskP_br hv hc' h
 have hmg := fun w q h1 h2 => tskP_mrg (w := w) (q := q) hv hc' h1 h2
 have hfi := first_ac d v (by omega)
 have hli := Line_ac d (first d v) (by omega)
 have hTl := tskP_len hN m p
 have hbrT : brT d p (byE m p).1 v = brX (first d v) p (brF p (line d (first d v)) (line d (first d v)).length v.num) v.num (byE m p).1 (lastNum d (byE m p).1) := rfl
 have htq : ∀ w q, tgtF d m (line d (first d v)) = some (w, q) → q.size ≤ 100000 := by
  intro w q h
  obtain ⟨u, hu, e⟩ := tgtK_path (Nat.le_refl _) h
  rw [← e]; exact hpt u (hLm u hu)
 generalize tgtF d m (line d (first d v)) = tg at htgt hbr hmg htq
 generalize hrest : restF d (fileOf v) tg = rest at hbr
 have hrl : rest.length ≤ 512 := by
  rw [← hrest]
  cases tg with
  | none => simp [restF]
  | some x => exact remS_len hN _ _
 generalize tskP d m p = TP at hsn hbr hmg hTl
 have hLb : ∀ u ∈ line d (first d v), 1 ≤ u.num ∧ u.num ≤ 512 := fun u hu => by
  obtain ⟨j, hj⟩ := List.getElem?_of_mem (hLm u hu)
  have := hg.num j u hj
  have := (List.getElem?_eq_some_iff.1 hj).1
  omega
 have hvb : 1 ≤ v.num ∧ v.num ≤ 512 := hLb v (mem_lineF.2 ⟨vm, v5, rfl⟩)
 generalize hLd : line d (first d v) = L at *
 generalize hfd : first d v = f at *
 generalize (byE m p).1 = t at *
 (repeat (first | refine v11X19 ?_ | (refine caA [] (hfi) ?_; rintro r st' ⟨rfl, rfl⟩; refine frA ?_) | (refine caA [] (hli) ?_; rintro r st' ⟨rfl, rfl⟩; refine frA ?_) | (refine caA [] (htgt) ?_; rintro r st' ⟨rfl, rfl⟩; refine frA ?_)))
 have hrm := fun w => remaining_ac d hg hN A hA hD (fileOf v) (fileOf w)
 refine T_ent (Ent_nilSlot (i := 21) 2 rfl) ?_
 refine fzA ?_
 refine T_join ⟨281, [(1, aEtrs m), (2, .c (.ptr 2 0)), (8, .c (.d (.pm (mEnt kF vSV A)))), (9, .c (.ms 100 11 0 O.length)), (11, Str p), (12, .c (.ptr 12 0)), (14, Str t), (16, .c (.ptr 16 0)), (17, aRevs L), (18, .c (.ptr 18 0)), (19, Str (tgQ tg)), (20, B tg.isSome), (21, aFils rest), (43, aStrs P), (44, I .i64 P.length), (45, I .i64 k)],
   [(2, .box ((encDep d).map C.d)), (12, .box ((encRev v).map C.d)), (16, .box ((encFil f).map C.d)), (18, .box ((encRev (tgW tg)).map C.d)), (100, dArr 11 (O.map encTsk))]⟩ ?_ ?_
 ·cases tg with
  | none =>
    have hr0 : rest = [] := by rw [← hrest]; rfl
    subst hr0
    simp only [Option.isSome, tgW, tgQ, Option.map_none, Option.getD_none]
    refine ifA ?_ ?_
    ·intro h; cases h
    intro _
    refine nvA ?_
    refine ⟨rfl, ?_⟩
    (refine Ent_sub (fun i => i) rfl ?_ ⟨?_, ?_, ?_, keepI hx (by simp [domOf, Ab.get])⟩ <;> first | (simp only [kE, dArr, ↓reduceIte, Nat.reduceEqDiff, reduceCtorEq, zRev]; done) | simp [renAV_id, renAO_id, flat_up, Ab.get, clAV, clC, clCs, clAO, cl_f1, cl_s1, cl_f2, cl_s2, cl_a1, domOf, List.flatten, zRev])
  | some x =>
    obtain ⟨w, q⟩ := x
    have hr0 : rest = (remS d (fileOf v) (fileOf w)).getD [] := by rw [← hrest]; rfl
    simp only [Option.isSome, tgW, tgQ, Option.map_some, Option.getD_some]
    have hrm := hrm w
    unfold remA at hrm
    rw [← hr0] at hrm
    generalize (if (remS d (fileOf v) (fileOf w)).isSome = true then (0 : Int) else 150) = re at hrm
    refine ifA ?_ ?_
    rotate_left
    ·intro h; cases h
    intro _
    refine nvA ?_
    refine drA (wr := false) ([(87, aFil (fileOf v)), (89, aFil (fileOf w)), (90, .tup [pFils rest, pI re])] : List (Nat × AV)) (by simp only [kD, kB, kG, kS, k11, Nat.reduceAdd, Nat.reduceLT, Nat.reduceEqDiff, ↓reduceIte, reduceCtorEq]; first | done | rfl) ?_ ?_
    ·exact obH (file_ac v) (file_ac w) (hrm)
    refine nvA ?_
    refine ⟨rfl, ?_⟩
    exact enA
 have hlv := live_ac d t (by omega)
 try refine v11X19 ?_
 refine ifA ?_ ?_
 ·intro hc
  have hbb : tg.isSome = false ∨ (tgW tg).act = 3 := by
   cases h : tg.isSome with
   | false => exact .inl rfl
   | true => rw [h] at hc; exact .inr (by simpa using hc)
  have hbr := hbr hbb
  rw [hbrT] at hbr
  generalize lastNum d t = hd at hlv hbr
  generalize live d t = lv at hlv hbr
  generalize tg.isSome = fb at hbr
  (repeat (first | refine v11X19 ?_ | (refine caA [] (hlv) ?_; rintro r st' ⟨rfl, rfl⟩; refine frA ?_)))
  refine ifA ?_ ?_
  ·intro hc2
   have hoff : v.act = 3 ∨ lv = true ∨ (fb = true ∧ rest = []) := by
    by_cases a : v.act = 3
    ·exact .inl a
    ·cases lv with
     | true => exact .inr (.inl rfl)
     | false =>
       cases fb with
       | false => simp [a] at hc2
       | true => simp [a] at hc2; exact .inr (.inr ⟨rfl, by simpa using hc2⟩)
   rw [if_pos hoff] at hbr
   rw [hbr, List.append_nil] at hsn
   try refine v11X19 ?_
   refine ⟨k + 1, by omega, by omega, ?_⟩
   rw [hO1, hsn]
   exact enA
  intro hc2
  have hon : ¬ (v.act = 3 ∨ lv = true ∨ (fb = true ∧ rest = [])) := by
   rintro (a | a | ⟨a, b⟩)
   ·simp [a] at hc2
   ·simp [a] at hc2
   ·subst a b; simp at hc2
  rw [if_neg hon] at hbr
  try refine v11X19 ?_
  refine T_loop (ι := Nat × Int) (I := fun i => ⟨281, [(1, aEtrs m), (2, .c (.ptr 2 0)), (8, .c (.d (.pm (mEnt kF vSV A)))), (9, .c (.ms 100 11 0 O.length)), (11, Str p), (17, aRevs L), (24, .c (.ptr 24 0)), (25, I .i64 ((i.1 : Int) - 1)), (43, aStrs P), (44, I .i64 P.length), (45, I .i64 k)],
    [(2, .box ((encDep d).map C.d)), (24, .box ((encTsk (brX f p i.2 v.num t hd)).map C.d)), (100, dArr 11 (O.map encTsk))]⟩)
   (Inv := fun i => i.1 ≤ L.length ∧ 1 ≤ i.2 ∧ i.2 ≤ 512 ∧ brF p L i.1 i.2 = brF p L L.length v.num) (μ := fun i => i.1) (L.length, v.num) ⟨Nat.le_refl _, hvb.1, hvb.2, rfl⟩ ?_ ?_
  ·(refine Ent_sub (fun i => i) rfl ?_ ⟨?_, ?_, ?_, keepI hx (by simp [domOf, Ab.get])⟩ <;> first | (simp only [kE, dArr, ↓reduceIte, Nat.reduceEqDiff, reduceCtorEq, emptyS]; done) | simp [renAV_id, renAO_id, flat_up, Ab.get, clAV, clC, clCs, clAO, cl_f1, cl_s1, cl_f2, cl_s2, cl_a1, domOf, List.flatten, emptyS])
  rintro ⟨j, fs⟩ ⟨g1, g2, g3, g4⟩
  simp only at g1 g2 g3 g4 ⊢
  have hfin : brF p L j fs = fs → brF p L L.length v.num = fs := fun h => by rw [← g4, h]
  have hend : brF p L L.length v.num = fs → TP = [brX f p fs v.num t hd] := fun h => by rw [hbr, h]
  cases j with
  | zero =>
    have hz := hend (hfin rfl)
    subst hz
    refine nvA ?_
    refine drA (wr := false) ([] : List (Nat × AV)) (by simp only [kD, kB, kG, kS, k11, Nat.reduceAdd, Nat.reduceLT, Nat.reduceEqDiff, ↓reduceIte, reduceCtorEq, path0 L, num0 L]; first | done | rfl) ?_ ?_
    ·exact obN
    refine nvA ?_
    refine ifA ?_ ?_
    ·intro h; simp at h
    intro _
    refine nvA ?_
    refine TO_go (wr := false) 400 (by simp only [kB, kG, kS, k11, Nat.reduceAdd, Nat.reduceLT, Nat.reduceEqDiff, ↓reduceIte, reduceCtorEq]; first | done | rfl) ?_ ?_
    ·exact obN
    try refine v11X19 ?_
    refine ⟨k + 1, by omega, by omega, ?_⟩
    rw [hO1, hsn]
    exact enR (fun i => if i = 100 then 165 else i)
  | succ j =>
    have ej : (((j + 1 : Nat)) : Int) - 1 = (j : Int) := by omega
    simp only [ej]
    obtain ⟨u, hu, hue, _⟩ := round encRev L j zRev (by omega)
    have hub := hLb u (List.mem_of_getElem? hu)
    have hst : brF p L (j + 1) fs = if u.path = p ∧ fs - 1 ≤ u.num then brF p L j u.num else fs := by rw [brF, getD_is hu]
    refine nvA ?_
    refine drA (wr := false) ([] : List (Nat × AV)) (by simp only [kD, kB, kG, kS, k11, Nat.reduceAdd, Nat.reduceLT, Nat.reduceEqDiff, ↓reduceIte, reduceCtorEq, hue]; first | done | rfl) ?_ ?_
    ·exact obN
    refine nvA ?_
    refine ifA ?_ ?_
    ·intro h
     have h' : u.path = p ∧ fs - 1 ≤ u.num := by
      by_cases a : u.path = p
      ·exact ⟨a, by simpa [a] using h⟩
      ·simp [a] at h
     rw [if_pos h'] at hst
     (repeat (first | refine nvB ?_ | refine goA (wr := false) (by simp only [kB, kG, kS, k11, Nat.reduceAdd, Nat.reduceLT, Nat.reduceEqDiff, ↓reduceIte, reduceCtorEq, hue]; first | done | rfl) ?_))
     refine ⟨(j, u.num), ⟨by simp; omega, hub.1, hub.2, by rw [← g4, hst]⟩, by simp, ?_⟩
     exact enA
    intro h
    have h' : ¬ (u.path = p ∧ fs - 1 ≤ u.num) := by
     rintro ⟨a, b⟩
     simp [a, b] at h
    rw [if_neg h'] at hst
    have hz := hend (hfin hst)
    subst hz
    refine nvA ?_
    refine TO_go (wr := false) 400 (by simp only [kB, kG, kS, k11, Nat.reduceAdd, Nat.reduceLT, Nat.reduceEqDiff, ↓reduceIte, reduceCtorEq]; first | done | rfl) ?_ ?_
    ·exact obN
    try refine v11X19 ?_
    refine ⟨k + 1, by omega, by omega, ?_⟩
    rw [hO1, hsn]
    exact enR (fun i => if i = 100 then 165 else i)
 intro hc
 obtain ⟨w, q, rfl, w3⟩ : ∃ w q, tg = some (w, q) ∧ ¬ w.act = 3 := by
  cases tg with
  | none => simp at hc
  | some x => exact ⟨x.1, x.2, rfl, of_decide_eq_false hc⟩
 have hmg := hmg w q rfl w3
 rw [hrest] at hmg
 have hq := htq w q rfl
 clear hbr hrm htgt hrest
 simp only [tgW, tgQ, Option.map_some, Option.getD_some]
 have hbyq := by_ac m (by omega) hbE q (by omega)
 have hmd : movF d m p t w q = if ¬ q = p ∧ (byE m q).1 = w.path ∧ ¬ t = w.path ∧ live d t = false then t else noS := rfl
 generalize movF d m p t w q = mv at hmd hmg
 generalize (byE m q).1 = t2 at hbyq hmd
 generalize (byE m q).2 = b2 at hbyq
 generalize lastNum d t = hd at hlv
 generalize live d t = lv at hlv hmd
 (repeat (first | refine v11X19 ?_ | (refine caA [] (hbyq) ?_; rintro r st' ⟨rfl, rfl⟩; refine frA ?_)))
 refine T_join ⟨281, [(1, aEtrs m), (2, .c (.ptr 2 0)), (8, .c (.d (.pm (mEnt kF vSV A)))), (9, .c (.ms 100 11 0 O.length)), (16, .c (.ptr 16 0)), (17, aRevs L), (18, .c (.ptr 18 0)), (21, aFils rest), (26, Str mv), (43, aStrs P), (44, I .i64 P.length), (45, I .i64 k)],
   [(2, .box ((encDep d).map C.d)), (16, .box ((encFil f).map C.d)), (18, .box ((encRev w).map C.d)), (100, dArr 11 (O.map encTsk))]⟩ ?_ ?_
 ·refine ifA ?_ ?_
  ·intro h
   have h' : ¬ q = p ∧ t2 = w.path ∧ ¬ t = w.path := by
    by_cases a : q = p <;> by_cases b : t2 = w.path <;> by_cases c : t = w.path <;> simp_all
   (repeat (first | refine v11X19 ?_ | (refine caA [] (hlv) ?_; rintro r st' ⟨rfl, rfl⟩; refine frA ?_)))
   refine ifA ?_ ?_
   ·intro h2
    have h2' : lv = false := by simpa using h2
    have hmv : mv = t := by rw [hmd, if_pos ⟨h'.1, h'.2.1, h'.2.2, h2'⟩]
    subst hmv
    refine nvA ?_
    refine goA (wr := false) (by simp only [kB, kG, kS, k11, Nat.reduceAdd, Nat.reduceLT, Nat.reduceEqDiff, ↓reduceIte, reduceCtorEq]; first | done | rfl) ?_
    refine nvA ?_
    refine ⟨rfl, ?_⟩
    exact enA
   ·intro h2
    have h2' : lv = true := by simpa using h2
    have hmv : mv = noS := by rw [hmd, if_neg (by rw [h2']; simp)]
    subst hmv
    refine nvA ?_
    refine ⟨rfl, ?_⟩
    exact enA
  ·intro h
   have h' : ¬ (¬ q = p ∧ t2 = w.path ∧ ¬ t = w.path ∧ lv = false) := by
    rintro ⟨a, b, c, _⟩
    simp_all
   have hmv : mv = noS := by rw [hmd, if_neg h']
   subst hmv
   refine nvA ?_
   refine ⟨rfl, ?_⟩
   exact enA
 have hin := fun u => inF_ac rest (by omega) u
 have hskip := fun i => @mrgR_skip f rest L w mv i
 have hrun := fun i => @mrgR_run f rest L w mv i
 have hstop := fun i => @mrgR_end f rest L w mv i
 try refine v11X19 ?_
 refine T_loop (ι := Nat × List Tsk) (I := fun i => ⟨281, [(1, aEtrs m), (2, .c (.ptr 2 0)), (8, .c (.d (.pm (mEnt kF vSV A)))), (9, .c (.ms 100 11 0 i.2.length)), (16, .c (.ptr 16 0)), (17, aRevs L), (18, .c (.ptr 18 0)), (21, aFils rest), (26, Str mv), (31, I .i64 i.1), (43, aStrs P), (44, I .i64 P.length), (45, I .i64 k)],
   [(2, .box ((encDep d).map C.d)), (16, .box ((encFil f).map C.d)), (18, .box ((encRev w).map C.d)), (100, dArr 11 (i.2.map encTsk))]⟩)
  (Inv := fun i => i.1 ≤ L.length ∧ i.2 ++ mrgR f rest L w mv i.1 = O1) (μ := fun i => L.length - i.1) (0, O) ⟨by simp, by rw [hsn, hmg]⟩ ?_ ?_
 ·exact enA
 rintro ⟨i, Q⟩ ⟨q1, q2⟩
 simp only at q1 q2 ⊢
 have hQl : Q.length ≤ 1000000 := by
  have h1 : Q.length ≤ O1.length := by rw [← q2]; simp
  have h2 : O1.length ≤ O.length + 512 := by rw [hsn]; simp; omega
  omega
 try refine v11X19 ?_
 refine ifA ?_ ?_
 rotate_left
 ·intro hge
  have hi : i = L.length := by have : ¬ i < L.length := by simpa using hge
                               omega
  rw [hi, hstop L.length (Nat.le_refl _), List.append_nil] at q2
  try refine v11X19 ?_
  refine ⟨k + 1, by omega, by omega, ?_⟩
  rw [hO1, ← q2]
  exact enA
 intro hlt2
 have hi : i < L.length := by simpa using hlt2
 obtain ⟨u, hu, hue, _⟩ := round encRev L i zRev hi
 have hgu : L.getD i zRev = u := getD_is hu
 have hinu := hin u
 have hskip := hskip i hi
 have hrun := hrun i hi
 rw [hgu] at hskip hrun
 generalize hib : decide (fileOf u ∈ rest) = ib at hinu
 (repeat (first | refine nvB ?_ | refine goA (wr := false) (by simp only [kB, kG, kS, k11, Nat.reduceAdd, Nat.reduceLT, Nat.reduceEqDiff, ↓reduceIte, reduceCtorEq, hue]; first | done | rfl) ?_ | (refine caA [] (hinu) ?_; rintro r st' ⟨rfl, rfl⟩; refine frA ?_)))
 refine ifA ?_ ?_
 ·intro h
  have h' : ib = false := by simpa using h
  rw [hskip (by rw [h'] at hib; simpa using hib)] at q2
  try refine v11X19 ?_
  refine ⟨(i + 1, Q), ⟨by simp; omega, q2⟩, by simp; omega, ?_⟩
  exact enA
 intro h
 have h' : ib = true := by simpa using h
 have hrun := hrun (by rw [h'] at hib; simpa using hib)
 rw [hrun] at q2
 have hbs : ∀ j, runT f L w mv i j = ⟨if (L.getD j zRev).act = 3 then 3 else 2, f.path, f.num, u.path, u.num, (L.getD j zRev).num, w.path, w.num, bsP L i, bsN L i, mv⟩ := fun j => by
  unfold runT bsP bsN; rw [hgu]
 refine nvA ?_
 refine drA (wr := false) ([] : List (Nat × AV)) (by simp only [kD, kB, kG, kS, k11, Nat.reduceAdd, Nat.reduceLT, Nat.reduceEqDiff, ↓reduceIte, reduceCtorEq, hue]; first | done | rfl) ?_ ?_
 ·exact obN
 try refine v11X19 ?_
 refine T_join ⟨281, [(1, aEtrs m), (2, .c (.ptr 2 0)), (8, .c (.d (.pm (mEnt kF vSV A)))), (9, .c (.ms 100 11 0 Q.length)), (16, .c (.ptr 16 0)), (17, aRevs L), (18, .c (.ptr 18 0)), (21, aFils rest), (26, Str mv), (31, I .i64 i), (32, .c (.ptr 32 0)), (43, aStrs P), (44, I .i64 P.length), (45, I .i64 k)],
   [(2, .box ((encDep d).map C.d)), (16, .box ((encFil f).map C.d)), (18, .box ((encRev w).map C.d)), (32, .box ((encTsk ⟨2, f.path, f.num, u.path, u.num, 0, w.path, w.num, bsP L i, bsN L i, mv⟩).map C.d)), (100, dArr 11 (Q.map encTsk))]⟩ ?_ ?_
 ·refine ifA ?_ ?_
  ·intro h0
   have h0' : 0 < i := by simpa using h0
   obtain ⟨y, hy, hye, _⟩ := round encRev L (i - 1) zRev (by omega)
   have hy1 : (((i : Nat) : Int) - 1).toNat = i - 1 := by omega
   have hbp : bsP L i = y.path := by rw [bsP, if_pos h0', getD_is hy]
   have hbn : bsN L i = y.num := by rw [bsN, if_pos h0', getD_is hy]
   (repeat (first | refine nvB ?_ | refine goA (wr := false) (by simp only [kB, kG, kS, k11, Nat.reduceAdd, Nat.reduceLT, Nat.reduceEqDiff, ↓reduceIte, reduceCtorEq, hy1, hye]; first | done | rfl) ?_ | (refine caA [] (file_ac y) ?_; rintro r st' ⟨rfl, rfl⟩; refine frA ?_)))
   refine ⟨rfl, ?_⟩
   (refine Ent_sub (fun i => i) rfl ?_ ⟨?_, ?_, ?_, keepI hx (by simp [domOf, Ab.get])⟩ <;> first | (simp only [kE, dArr, ↓reduceIte, Nat.reduceEqDiff, reduceCtorEq, hbp, hbn, fileOf]; done) | simp [renAV_id, renAO_id, flat_up, Ab.get, clAV, clC, clCs, clAO, cl_f1, cl_s1, cl_f2, cl_s2, cl_a1, domOf, List.flatten, hbp, hbn, fileOf])
  ·intro h0
   have h0' : ¬ 0 < i := by simpa using h0
   have hbp : bsP L i = noS := by rw [bsP, if_neg h0']
   have hbn : bsN L i = 0 := by rw [bsN, if_neg h0']
   refine nvA ?_
   refine ⟨rfl, ?_⟩
   (refine Ent_sub (fun i => i) rfl ?_ ⟨?_, ?_, ?_, keepI hx (by simp [domOf, Ab.get])⟩ <;> first | (simp only [kE, dArr, ↓reduceIte, Nat.reduceEqDiff, reduceCtorEq, hbp, hbn, emptyS]; done) | simp [renAV_id, renAO_id, flat_up, Ab.get, clAV, clC, clCs, clAO, cl_f1, cl_s1, cl_f2, cl_s2, cl_a1, domOf, List.flatten, hbp, hbn, emptyS])
 generalize bsP L i = bp at hbs
 generalize bsN L i = bn at hbs
 refine nvA ?_
 refine T_loop (ι := Nat) (I := fun j => ⟨281, [(1, aEtrs m), (2, .c (.ptr 2 0)), (8, .c (.d (.pm (mEnt kF vSV A)))), (9, .c (.ms 100 11 0 Q.length)), (16, .c (.ptr 16 0)), (17, aRevs L), (18, .c (.ptr 18 0)), (21, aFils rest), (26, Str mv), (31, I .i64 j), (32, .c (.ptr 32 0)), (43, aStrs P), (44, I .i64 P.length), (45, I .i64 k)],
   [(2, .box ((encDep d).map C.d)), (16, .box ((encFil f).map C.d)), (18, .box ((encRev w).map C.d)), (32, .box ((encTsk ⟨2, f.path, f.num, u.path, u.num, 0, w.path, w.num, bp, bn, mv⟩).map C.d)), (100, dArr 11 (Q.map encTsk))]⟩)
  (Inv := fun j => i ≤ j ∧ j < L.length ∧ endR rest L u.path j = endR rest L u.path i) (μ := fun j => L.length - j) i ⟨Nat.le_refl _, hi, rfl⟩ ?_ ?_
 ·exact enA
 rintro j ⟨j1, j2, j3⟩
 have ej1 : (((j : Nat) : Int) + 1).toNat = j + 1 := by omega
 have hdone : endR rest L u.path j = j → endR rest L u.path i = j := fun h => by rw [← j3, h]
 obtain ⟨x, hx, hxe, _⟩ := round encRev L j zRev j2
 have hgx : L.getD j zRev = x := getD_is hx
 have hfinal : endR rest L u.path i = j → Q ++ (⟨if x.act = 3 then 3 else 2, f.path, f.num, u.path, u.num, x.num, w.path, w.num, bp, bn, mv⟩ : Tsk) :: mrgR f rest L w mv (j + 1) = O1 := fun h => by
  rw [h, hbs, hgx] at q2; exact q2
 by_cases hn : j + 1 < L.length
 ·obtain ⟨y, hy, hye, _⟩ := round encRev L (j + 1) zRev hn
  have hnI : decide (((j : Nat) : Int) + 1 < ((L.length : Nat) : Int)) = true := decide_eq_true (by omega)
  have hny := hin y
  generalize hyb : decide (fileOf y ∈ rest) = yb at hny
  refine nvA ?_
  refine drA (wr := false) ([(247, B yb)] : List (Nat × AV)) (by simp only [kD, kB, kG, kS, k11, Nat.reduceAdd, Nat.reduceLT, Nat.reduceEqDiff, ↓reduceIte, reduceCtorEq, ej1, hye, hnI]; first | done | rfl) ?_ ?_
  ·exact obT (hny)
  refine nvA ?_
  refine ifA ?_ ?_
  ·intro hc
   have hc' : yb = true ∧ y.path = u.path := by
    cases yb with
    | false => simp at hc
    | true => exact ⟨rfl, by simpa using hc⟩
   have hc2 : j + 1 < L.length ∧ fileOf (L.getD (j + 1) zRev) ∈ rest ∧ (L.getD (j + 1) zRev).path = u.path := by
    rw [getD_is hy]; exact ⟨hn, by rw [hc'.1] at hyb; simpa using hyb, hc'.2⟩
   try refine v11X19 ?_
   refine ⟨j + 1, ⟨by omega, hn, by rw [← j3]; exact (endR_step hc2).symm⟩, by omega, ?_⟩
   exact enA
  intro hc
  have hc2 : ¬ (j + 1 < L.length ∧ fileOf (L.getD (j + 1) zRev) ∈ rest ∧ (L.getD (j + 1) zRev).path = u.path) := by
   rintro ⟨_, a, b⟩
   rw [getD_is hy] at a b
   have : yb = true := by rw [← hyb]; simpa using a
   subst this
   simp [b] at hc
  have hz := hfinal (hdone (endR_stop hc2))
  (repeat (first | refine nvB ?_ | refine goA (wr := false) (by simp only [kB, kG, kS, k11, Nat.reduceAdd, Nat.reduceLT, Nat.reduceEqDiff, ↓reduceIte, reduceCtorEq, hxe]; first | done | rfl) ?_))
  refine ifA ?_ ?_
  ·intro h3
   have h3' : x.act = 3 := by simpa using h3
   rw [if_pos h3'] at hz
   try refine v11X19 ?_
   refine ⟨(j + 1, Q ++ [⟨3, f.path, f.num, u.path, u.num, x.num, w.path, w.num, bp, bn, mv⟩]), ⟨by simp; omega, by rw [← hz, List.append_assoc]; rfl⟩, by simp; omega, ?_⟩
   exact enR (fun i => if i = 100 then 278 else i)
  ·intro h3
   have h3' : ¬ x.act = 3 := by simpa using h3
   rw [if_neg h3'] at hz
   try refine v11X19 ?_
   refine ⟨(j + 1, Q ++ [⟨2, f.path, f.num, u.path, u.num, x.num, w.path, w.num, bp, bn, mv⟩]), ⟨by simp; omega, by rw [← hz, List.append_assoc]; rfl⟩, by simp; omega, ?_⟩
   exact enR (fun i => if i = 100 then 278 else i)
 ·have hnI : decide (((j : Nat) : Int) + 1 < ((L.length : Nat) : Int)) = false := decide_eq_false (by omega)
  refine nvA ?_
  refine drA (wr := false) ([(247, B false)] : List (Nat × AV)) (by simp only [kD, kB, kG, kS, k11, Nat.reduceAdd, Nat.reduceLT, Nat.reduceEqDiff, ↓reduceIte, reduceCtorEq, path0 L, hnI]; first | done | rfl) ?_ ?_
  ·exact obN
  refine nvA ?_
  refine ifA ?_ ?_
  ·intro h; simp at h
  intro _
  have hz := hfinal (hdone (endR_stop (fun h => hn h.1)))
  (repeat (first | refine nvB ?_ | refine goA (wr := false) (by simp only [kB, kG, kS, k11, Nat.reduceAdd, Nat.reduceLT, Nat.reduceEqDiff, ↓reduceIte, reduceCtorEq, hxe]; first | done | rfl) ?_))
  refine ifA ?_ ?_
  ·intro h3
   have h3' : x.act = 3 := by simpa using h3
   rw [if_pos h3'] at hz
   try refine v11X19 ?_
   refine ⟨(j + 1, Q ++ [⟨3, f.path, f.num, u.path, u.num, x.num, w.path, w.num, bp, bn, mv⟩]), ⟨by simp; omega, by rw [← hz, List.append_assoc]; rfl⟩, by simp; omega, ?_⟩
   exact enR (fun i => if i = 100 then 278 else i)
  ·intro h3
   have h3' : ¬ x.act = 3 := by simpa using h3
   rw [if_neg h3'] at hz
   try refine v11X19 ?_
   refine ⟨(j + 1, Q ++ [⟨2, f.path, f.num, u.path, u.num, x.num, w.path, w.num, bp, bn, mv⟩]), ⟨by simp; omega, by rw [← hz, List.append_assoc]; rfl⟩, by simp; omega, ?_⟩
   exact enR (fun i => if i = 100 then 278 else i)
end Go.Proofs.YtmhboloicpieeaaGreatDoor

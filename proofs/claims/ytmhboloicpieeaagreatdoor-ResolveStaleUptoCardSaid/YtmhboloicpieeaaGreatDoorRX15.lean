/- A part of the proof. -/
import Derived.Test.YtmhboloicpieeaaGreatDoorRX10
import Derived.Test.YtmhboloicpieeaaGreatDoorRX13
set_option maxRecDepth 100000
set_option maxHeartbeats 16000000
set_option linter.all false
namespace Go.Proofs.YtmhboloicpieeaaGreatDoor
open Go.Ab Tys
variable [DrF]
def hF (x : Etr) (h : Pat) : Option Pat := if (narL x.line h).2.1 then some (narL x.line h).1.right else none
def hOK (x : Etr) (h : Pat) : Bool := decide ((narL x.line h).2.2 = 0)
theorem holesR_eq (x : Etr) : ∀ l : List Pat, holesR x l = if l.all (hOK x) then some (l.filterMap (hF x)) else none
 | [] => rfl
 | h :: l => by
   have ih := holesR_eq x l
   by_cases e : (narL x.line h).2.2 = 0
   ·have ha : (h :: l).all (hOK x) = l.all (hOK x) := by simp [hOK, e]
    rw [ha, holesR, if_pos e, ih]
    have hf : (h :: l).filterMap (hF x) = if (narL x.line h).2.1 then (narL x.line h).1.right :: l.filterMap (hF x) else l.filterMap (hF x) := by
     rw [List.filterMap_cons, hF]
     cases (narL x.line h).2.1 <;> rfl
    rw [hf]
    cases (narL x.line h).2.1 <;> cases l.all (hOK x) <;> rfl
   ·have ha : (h :: l).all (hOK x) = false := by simp [hOK, e]
    rw [ha, holesR, if_neg e]; rfl
theorem hF_snoc (x : Etr) (l : List Pat) (v : Pat) : (l ++ [v]).filterMap (hF x) = l.filterMap (hF x) ++ (hF x v).toList := by
 rw [List.filterMap_append, List.filterMap_cons]
 cases hF x v <;> rfl
theorem getD_nil_PB {n : Nat} {p q : Pat} (h1 : 1 ≤ n) (hp : PB n p) (hq : PB n q) : ∀ b ∈ (bindP p q).getD [], PB n b := by
 cases h : bindP p q with
 | none => intro b hb; simp at hb
 | some l => exact (bindP_PB h1 hp hq h).2
theorem narL_PB {n : Nat} {r : Rul} {p : Pat} (hn : 12 ≤ n) (hl : PB n r.left) (hr : PB n r.right) (hp : PB n p) : PB (2 * n) (narL r p).1.right := by
 unfold narL
 split
 ·split
  ·cases hm : meetP r.left p with
   | none => exact zPat_PB _
   | some m =>
     simp only
     split
     ·exact substP_PB hn hr (getD_nil_PB (by omega) hl (meetP_PB hl hp hm))
     ·exact zPat_PB _
  ·exact zPat_PB _
 ·exact zPat_PB _
@[reducible] def zRgnK : List C := [nilK, .d (.v (.bool false)), nilK]
@[reducible] def pRgnO : Option Rgn → Bool × List C
 | none => (true, zRgnK)
 | some g => pRgn g
def k66 := And.intro @Tryz.ntmps66 <| And.intro @Tryz.underlying80 <| And.intro @bld147 <| And.intro @bld151 <| And.intro @bld79 <| And.intro @bld82 <| And.intro @elt80 <| And.intro @fld147_2 <| And.intro @fld82_1 <| And.intro @fld82_2 <| And.intro @ti147 <| And.intro @ti151 <| And.intro @ti79 <| And.intro @ti80 <| @ti82
theorem v66X14 {G G' : Prop} (g : G') (h : Hid G' → G := by intro h9; (first | refine nvB ?_ | refine goA (wr := false) (by simp only [kB, kS, k66, Nat.reduceAdd, Nat.reduceLT, Nat.reduceEqDiff, ↓reduceIte, reduceCtorEq]; first | done | rfl) ?_); (repeat (first | refine nvB ?_ | refine goA (wr := false) (by simp only [kB, kS, k66, Nat.reduceAdd, Nat.reduceLT, Nat.reduceEqDiff, ↓reduceIte, reduceCtorEq]; first | done | rfl) ?_)); exact h9.out) : G := h ⟨g⟩
theorem right7_ac (e : Etr) (hb : EB 10000 e) : AC Tryz.prog 66 [aEtr e] [] (fun r st => r = .tup [pRgnO (rightE e), pB (rightE e).isSome] ∧ st = []) := by
 have hli := line7_ac e
 have hnr := fun h hh => narL_ac e.line h hb.left hb.right (hb.holes h hh)
 have hR : rightE e = (holesR e e.holes).map (simpG e.right) := rfl
 rw [holesR_eq] at hR
 have hFs := hF_snoc e
 have hF0 : ([] : List Pat).filterMap (hF e) = [] := rfl
 have hFd : ∀ h, hF e h = if (narL e.line h).2.1 then some (narL e.line h).1.right else none := fun _ => rfl
 have hOd : ∀ h, hOK e h = decide ((narL e.line h).2.2 = 0) := fun _ => rfl
 have hnp : ∀ h ∈ e.holes, PB 20000 (narL e.line h).1.right := fun h hh => narL_PB (n := 10000) (by omega) hb.left hb.right (hb.holes h hh)
 have hsp := simp5_ac e.right (hb.right.mono (by omega))
 have hml : ∀ l : List Pat, (l.filterMap (hF e)).length ≤ l.length := fun l => List.length_filterMap_le ..
 have hfp : ∀ m ∈ e.holes.filterMap (hF e), PB 100000 m := by
  intro m hm
  obtain ⟨h, h1, h2⟩ := List.mem_filterMap.1 hm
  rw [hFd] at h2
  split at h2
  ·cases h2; exact (hnp h h1).mono (by omega)
  ·cases h2
 have hlen := hb.len
 generalize hme : (fun l : List Pat => l.filterMap (hF e)) = mE at *
 have hmE : ∀ l : List Pat, l.filterMap (hF e) = mE l := fun l => by rw [← hme]
 simp only [hmE] at hR hFs hF0 hml hfp
 generalize hF e = hf at *
 generalize hOK e = ho at *
 generalize rightE e = R at hR
 generalize narL e.line = nl at *
 obtain ⟨lf, rg, hs⟩ := e
 obtain ⟨ps, rp⟩ := lf
 obtain ⟨qs, rq⟩ := rg
 simp only at hR hnr hnp hsp hfp hlen
 refine AC_enter Tryz.func66 rfl rfl (by simp only [Tryz.ntmps66, List.length]; omega) ?_
 intro x hx
 simp only [List.range, List.range.loop, List.length, List.zip, List.zipWith, Nat.reduceAdd, Tryz.ntmps66]
 refine nvA ?_
 refine goA (wr := false) (by simp only [kB, kS, k66, Nat.reduceAdd, Nat.reduceLT, Nat.reduceEqDiff, ↓reduceIte, reduceCtorEq]; first | done | rfl) ?_
 refine nvA ?_
 refine goA (wr := false) (by simp only [kB, kS, k66, Nat.reduceAdd, Nat.reduceLT, Nat.reduceEqDiff, ↓reduceIte, reduceCtorEq]; first | done | rfl) ?_
 refine nvA ?_
 refine TO_ent (Ent_adopt (i := 4) (id := 100) (sz := 2) rfl rfl (by omega)) ?_
 refine fzA ?_
 try refine v66X14 ?_
 refine T_loop (ι := Nat) (I := fun k => ⟨39, [(1, .c (.ptr 1 0)), (2, .c (.ptr 2 0)), (4, .c (.ms 100 2 0 (mE (hs.take k)).length)), (11, aPats hs), (12, I .i64 hs.length), (13, I .i64 k)],
   [(1, .box ((encEtr ⟨⟨ps, rp⟩, ⟨qs, rq⟩, hs⟩).map C.d)), (2, .box zRgnK), (100, dArr 2 ((mE (hs.take k)).map encPat))]⟩)
  (Inv := fun k => k ≤ hs.length ∧ (hs.take k).all ho = true) (μ := fun k => hs.length - k) 0 ⟨by omega, rfl⟩ ?_ ?_
 ·(refine Ent_sub (fun i => i) rfl ?_ ⟨?_, ?_, ?_, keepI hx (by simp [domOf, Ab.get])⟩ <;> first | (simp only [kE, dArr, ↓reduceIte, Nat.reduceEqDiff, reduceCtorEq, hF0]; done) | simp [renAV_id, renAO_id, flat_up, Ab.get, clAV, clC, clCs, clAO, cl_f1, cl_s1, cl_f2, cl_s2, cl_a1, domOf, List.flatten, hF0])
 rintro k ⟨hk, hall⟩
 have hlk := hml (hs.take k)
 have hlk2 : (hs.take k).length ≤ k := by simp; omega
 try refine v66X14 ?_
 refine ifA ?_ ?_
 ·intro hlt
  have hlt' : k < hs.length := by simpa using hlt
  obtain ⟨v, hv, he, htk⟩ := round encPat hs k zPat hlt'
  have hvm := List.mem_of_getElem? hv
  have hnv := hnr v hvm
  have hsk := hFs (hs.take k) v
  have hfv := hFd v
  have hov := hOd v
  rw [← htk] at hsk
  have hno : ho v = false → ¬ hs.all ho = true := by
   intro h0 e
   rw [List.all_eq_true] at e; rw [e v hvm] at h0; cases h0
  generalize nl v = N at hnv hfv hov
  obtain ⟨nr, nb, ne⟩ := N
  simp only at hfv hov
  cases nb with
  | false =>
    rw [if_neg (by simp)] at hfv
    rw [hfv, Option.toList, List.append_nil] at hsk
    have hnv' : AC Tryz.prog 127 [aRul (Etr.line ⟨⟨ps, rp⟩, ⟨qs, rq⟩, hs⟩), aPat v] [] (fun x st => x = .tup [(true, zRulK), pB false, pI ne] ∧ st = []) := hnv
    (repeat (first | refine nvB ?_ | refine goA (wr := false) (by simp only [kB, kS, k66, Nat.reduceAdd, Nat.reduceLT, Nat.reduceEqDiff, ↓reduceIte, reduceCtorEq, he]; first | done | rfl) ?_))
    refine drA (wr := false) ([(19, aRul (Etr.line ⟨⟨ps, rp⟩, ⟨qs, rq⟩, hs⟩)), (21, .tup [(true, zRulK), pB false, pI ne])] : List (Nat × AV)) (by simp only [kD, kB, kS, k66, Nat.reduceAdd, Nat.reduceLT, Nat.reduceEqDiff, ↓reduceIte, reduceCtorEq, he]; first | done | rfl) ?_ ?_
    ·exact obG (hli) (hnv')
    try refine v66X14 ?_
    refine ifA ?_ ?_
    ·intro h
     have h' : ¬ ne = 0 := by simpa using h
     rw [decide_eq_false h'] at hov
     rw [if_neg (hno hov)] at hR
     try refine v66X14 ?_
     refine rtA (by simp only [kR, Tryz.results66, ↓reduceIte, Nat.reduceEqDiff, reduceCtorEq, effLoad, cellsOf, List.map, List.length_cons, List.length_nil, List.getD_cons_zero, List.getD_cons_succ, List.getD_nil, List.drop, List.take, splice, ti151]; first | done | rfl) ([]) ?_
     refine ⟨?_, rfl⟩
     rw [hR]; rfl
    intro h
    have h' : ne = 0 := by simpa using h
    rw [decide_eq_true h'] at hov
    try refine v66X14 ?_
    refine ifA ?_ ?_
    ·intro h; cases h
    intro _
    try refine v66X14 ?_
    refine ⟨k + 1, ⟨by omega, by rw [htk, List.all_append, hall]; simp [hov]⟩, by omega, ?_⟩
    rw [hsk]
    exact enA
  | true =>
    rw [if_pos rfl] at hfv
    rw [hfv, Option.toList] at hsk
    have hnv' : AC Tryz.prog 127 [aRul (Etr.line ⟨⟨ps, rp⟩, ⟨qs, rq⟩, hs⟩), aPat v] [] (fun x st => x = .tup [pRul nr, pB true, pI ne] ∧ st = []) := hnv
    (repeat (first | refine nvB ?_ | refine goA (wr := false) (by simp only [kB, kS, k66, Nat.reduceAdd, Nat.reduceLT, Nat.reduceEqDiff, ↓reduceIte, reduceCtorEq, he]; first | done | rfl) ?_))
    refine drA (wr := false) ([(19, aRul (Etr.line ⟨⟨ps, rp⟩, ⟨qs, rq⟩, hs⟩)), (21, .tup [pRul nr, pB true, pI ne])] : List (Nat × AV)) (by simp only [kD, kB, kS, k66, Nat.reduceAdd, Nat.reduceLT, Nat.reduceEqDiff, ↓reduceIte, reduceCtorEq, he]; first | done | rfl) ?_ ?_
    ·exact obG (hli) (hnv')
    try refine v66X14 ?_
    refine ifA ?_ ?_
    ·intro h
     have h' : ¬ ne = 0 := by simpa using h
     rw [decide_eq_false h'] at hov
     rw [if_neg (hno hov)] at hR
     try refine v66X14 ?_
     refine rtA (by simp only [kR, Tryz.results66, ↓reduceIte, Nat.reduceEqDiff, reduceCtorEq, effLoad, cellsOf, List.map, List.length_cons, List.length_nil, List.getD_cons_zero, List.getD_cons_succ, List.getD_nil, List.drop, List.take, splice, ti151]; first | done | rfl) ([]) ?_
     refine ⟨?_, rfl⟩
     rw [hR]; rfl
    intro h
    have h' : ne = 0 := by simpa using h
    rw [decide_eq_true h'] at hov
    try refine v66X14 ?_
    refine ifA ?_ ?_
    rotate_left
    ·intro h; cases h
    intro _
    try refine v66X14 ?_
    refine ⟨k + 1, ⟨by omega, by rw [htk, List.all_append, hall]; simp [hov]⟩, by omega, ?_⟩
    rw [hsk]
    exact enR (fun i => if i = 100 then 33 else i)
 intro hge
 have hk' : k = hs.length := by have : ¬ k < hs.length := by simpa using hge
                                omega
 subst hk'
 rw [List.take_length] at hall hlk ⊢
 rw [if_pos hall] at hR
 have hsp := hsp (mE hs) (by omega) hfp
 refine nvA ?_
 refine TO_ent (Ent_frzSlot (i := 4) (id := 100) (sz := 2) (ys := (mE hs).map encPat) rfl rfl (by simp)) ?_
 refine fzA ?_
 (repeat (first | refine v66X14 ?_ | (refine caA [] (hsp) ?_; rintro r st' ⟨rfl, rfl⟩; refine frA ?_)))
 refine rtA (by simp only [kR, Tryz.results66, ↓reduceIte, Nat.reduceEqDiff, reduceCtorEq, effLoad, cellsOf, List.map, List.length_cons, List.length_nil, List.getD_cons_zero, List.getD_cons_succ, List.getD_nil, List.drop, List.take, splice, ti151]; first | done | rfl) ([]) ?_
 refine ⟨?_, rfl⟩
 rw [hR]; rfl
def k67 := And.intro @Tryz.ntmps67 <| And.intro @Tryz.underlying80 <| And.intro @bld151 <| And.intro @bld79 <| And.intro @elt80 <| And.intro @fld151_0 <| And.intro @fld151_1 <| And.intro @ti151 <| And.intro @ti79 <| @ti80
theorem v67X14 {G G' : Prop} (g : G') (h : Hid G' → G := by intro h9; (first | refine nvB ?_ | refine goA (wr := false) (by simp only [kB, kS, k67, Nat.reduceAdd, Nat.reduceLT, Nat.reduceEqDiff, ↓reduceIte, reduceCtorEq]; first | done | rfl) ?_); (repeat (first | refine nvB ?_ | refine goA (wr := false) (by simp only [kB, kS, k67, Nat.reduceAdd, Nat.reduceLT, Nat.reduceEqDiff, ↓reduceIte, reduceCtorEq]; first | done | rfl) ?_)); exact h9.out) : G := h ⟨g⟩
theorem common_ac (a b : Rgn) (ha : PB 100000 a.base) (hb : PB 100000 b.base) (hal : a.holes.length ≤ 50000) (hbl : b.holes.length ≤ 50000) (hah : ∀ h ∈ a.holes, PB 100000 h) (hbh : ∀ h ∈ b.holes, PB 100000 h) :
  AC Tryz.prog 67 [aRgn a, aRgn b] [] (fun r st => r = B (commonB a b) ∧ st = []) := by
 have h1 := meet_ac a.base b.base (ha.mono (by omega)) (hb.mono (by omega))
 have hR : commonB a b = match meetP a.base b.base with | none => false | some m => decide (0 < lenN ⟨m, a.holes ++ b.holes⟩) := rfl
 have hmp := fun m => meetP_PB (m := m) ha hb
 have h2 := fun m hm => len5_ac ⟨m, a.holes ++ b.holes⟩ (hmp m hm) (by simp only [List.length_append]; omega) (fun h hh => (List.mem_append.1 hh).elim (hah h) (hbh h))
 generalize commonB a b = R at hR
 generalize hM : meetP a.base b.base = M at h1 hR h2
 obtain ⟨ab, ah⟩ := a
 obtain ⟨bb, bh⟩ := b
 obtain ⟨ps, rp⟩ := ab
 obtain ⟨qs, rq⟩ := bb
 simp only at h1 h2 hR hal hbl
 cases M with
 | none =>
   simp only [pPatO, pB, Option.isSome] at h1
   simp only at hR
   refine AC_enter Tryz.func67 rfl rfl (by simp only [Tryz.ntmps67, List.length]; omega) ?_
   intro x hx
   simp only [List.range, List.range.loop, List.length, List.zip, List.zipWith, Nat.reduceAdd, Tryz.ntmps67]
   (repeat (first | refine v67X14 ?_ | (refine caA [] (h1) ?_; rintro r st' ⟨rfl, rfl⟩; refine frA ?_)))
   refine ifA ?_ ?_
   ·intro _
    try refine v67X14 ?_
    refine rtA (by simp only [kR, Tryz.results67, ↓reduceIte, Nat.reduceEqDiff, reduceCtorEq]; first | done | rfl) ([]) ?_
    refine ⟨?_, rfl⟩
    rw [hR]
   ·intro h; cases h
 | some m =>
   have h2 := h2 m rfl
   obtain ⟨ms, rm⟩ := m
   simp only [pPatO, pB, Option.isSome] at h1
   simp only at hR
   generalize lenN ⟨⟨ms, rm⟩, ah ++ bh⟩ = L at h2 hR
   have o1 : ∀ l ∈ List.map (fun l => List.map C.d l) (List.map encPat ah), l.length = 2 := by
    intro l hl
    obtain ⟨y, hy, rfl⟩ := List.mem_map.1 hl
    obtain ⟨z, _, rfl⟩ := List.mem_map.1 hy
    rfl
   have o2 : ∀ l ∈ List.map (fun l => List.map C.d l) (List.map encPat bh), l.length = 2 := by
    intro l hl
    obtain ⟨y, hy, rfl⟩ := List.mem_map.1 hl
    obtain ⟨z, _, rfl⟩ := List.mem_map.1 hy
    rfl
   refine AC_enter Tryz.func67 rfl rfl (by simp only [Tryz.ntmps67, List.length]; omega) ?_
   intro x hx
   simp only [List.range, List.range.loop, List.length, List.zip, List.zipWith, Nat.reduceAdd, Tryz.ntmps67]
   (repeat (first | refine v67X14 ?_ | (refine caA [] (h1) ?_; rintro r st' ⟨rfl, rfl⟩; refine frA ?_)))
   refine ifA ?_ ?_
   ·intro h; cases h
   intro _
   refine nvA ?_
   refine drA (wr := false) ([] : List (Nat × AV)) (by simp only [kD, kB, kS, k67, Nat.reduceAdd, Nat.reduceLT, Nat.reduceEqDiff, ↓reduceIte, reduceCtorEq]; first | done | rfl) ?_ ?_
   ·exact obG (o1) (o2)
   refine nvA ?_
   refine TO_ent (Ent_frzCell (bid := 7) (id := 24) (sz := 2) (j := 2) (ys := (ah ++ bh).map encPat) (by decide) rfl rfl (by simp [Ab.get]) (by simp)) ?_
   refine fzA ?_
   (repeat (first | refine v67X14 ?_ | (refine caA [] (h2) ?_; rintro r st' ⟨rfl, rfl⟩; refine frA ?_)))
   refine rtA (by simp only [kR, Tryz.results67, ↓reduceIte, Nat.reduceEqDiff, reduceCtorEq]; first | done | rfl) ([]) ?_
   refine ⟨?_, rfl⟩
   rw [hR]
   exact congrArg (fun b => B b) (decide_eq_decide.2 (by omega))
end Go.Proofs.YtmhboloicpieeaaGreatDoor
namespace Go.Proofs.YtmhboloicpieeaaGreatDoor
open Go.Ab Tys
variable [DrF]
theorem sinkP_all {P : Pat → Prop} : ∀ (k : Nat) (l : List Pat), k < l.length → (∀ r ∈ l, P r) → ∀ r ∈ sinkP k l, P r
 | 0, l, _, h => h
 | k + 1, l, hk, h => by
   simp only [sinkP]
   have g : ∀ i, i < l.length → P (l.getD i zPat) := fun i hi => by rw [List.getD_eq_getElem?_getD, List.getElem?_eq_getElem hi]; exact h _ (List.getElem_mem hi)
   split
   ·exact sinkP_all k _ (by simp; omega) (swapP (g (k + 1) hk) (g k (by omega)) h)
   ·exact h
theorem sortP_all {P : Pat → Prop} {l : List Pat} (h : ∀ r ∈ l, P r) : ∀ k, k ≤ l.length → ∀ r ∈ sortP l k, P r
 | 0, _ => h
 | k + 1, hk => sinkP_all k _ (by rw [sortP_len]; omega) (sortP_all h k (by omega))
theorem keepP_all {P : Pat → Prop} {l : List Pat} (h : ∀ r ∈ l, P r) : ∀ k, k ≤ l.length → ∀ r ∈ keepP l k, P r
 | 0, _, r, hr => by simp [keepP] at hr
 | k + 1, hk, r, hr => by
   simp only [keepP, List.mem_append] at hr
   rcases hr with hr | hr
   ·exact keepP_all h k (by omega) r hr
   ·split at hr
    ·cases hr
    ·simp only [List.mem_singleton] at hr
     subst hr
     rw [List.getD_eq_getElem?_getD, List.getElem?_eq_getElem (by omega : k < l.length)]
     exact h _ (List.getElem_mem _)
theorem rightE_PB {e : Etr} (hb : EB 10000 e) {g : Rgn} (h : rightE e = some g) : PB 20000 g.base ∧ g.holes.length ≤ 10000 ∧ ∀ h ∈ g.holes, PB 20000 h := by
 unfold rightE at h
 rw [holesR_eq] at h
 split at h
 ·simp only [Option.map_some, Option.some.injEq] at h
  subst h
  have hm : ∀ m ∈ e.holes.filterMap (hF e), PB 20000 m := by
   intro m hm
   obtain ⟨h, h1, h2⟩ := List.mem_filterMap.1 hm
   unfold hF at h2
   split at h2
   ·cases h2; exact narL_PB (n := 10000) (by omega) hb.left hb.right (hb.holes h h1)
   ·cases h2
  have hl : (e.holes.filterMap (hF e)).length ≤ e.holes.length := List.length_filterMap_le ..
  have hlen := hb.len
  have hm2 := metP_PB (hb.right.mono (by omega : 10000 ≤ 20000)) hm
  have hl2 := metP_len e.right (e.holes.filterMap (hF e))
  refine ⟨hb.right.mono (by omega), ?_, ?_⟩
  ·simp only [simpG]
   exact Nat.le_trans (keepP_len _ _) (by omega)
  ·simp only [simpG]
   refine keepP_all (sortP_all hm2 _ (Nat.le_refl _)) _ ?_
   rw [sortP_len]; exact Nat.le_refl _
 ·cases h
theorem EB.mono {n m : Nat} {e : Etr} (h : EB n e) (hm : n ≤ m) : EB m e := ⟨h.left.mono hm, h.right.mono hm, Nat.le_trans h.len hm, fun x hx => (h.holes x hx).mono hm⟩
def clB (x y : Etr) : Bool := commonB x.lrg y.lrg || commonB ((rightE x).getD zRgn) ((rightE y).getD zRgn)
structure MapOK (m : List Etr) : Prop where
 ent : ∀ e ∈ m, checkR e.line = 0 ∧ checkG e.lrg = 0
 len : m.length ≤ 32
 right : ∀ e ∈ m, (rightE e).isSome = true
 apart : ∀ (i j : Nat) (x y : Etr), j < i → m[i]? = some x → m[j]? = some y → clB x y = false
theorem checkG_len {g : Rgn} (h : checkG g = 0) : g.holes.length ≤ 64 := by
 unfold checkG at h
 split at h
 ·split at h
  ·split at h
   ·omega
   ·omega
  ·omega
 ·omega
structure EB1 (e : Etr) : Prop where
 left : PB 10000 e.left
 right : PB 10000 e.right
 len : e.holes.length ≤ 1000000
 holes : ∀ h ∈ e.holes, PB 10000 h
theorem EB1.eb {e : Etr} (h : EB1 e) (hc : checkG e.lrg = 0) : EB 10000 e := ⟨h.left, h.right, by have := checkG_len hc; simp only [Etr.lrg] at this; omega, h.holes⟩
def k25 := And.intro @Tryz.ntmps25 <| And.intro @Tryz.underlying23 <| And.intro @bld151 <| And.intro @bld82 <| And.intro @elt23 <| And.intro @ti151 <| And.intro @ti23 <| @ti82
theorem v25X15 {G G' : Prop} (g : G') (h : Hid G' → G := by intro h9; (first | refine nvB ?_ | refine goA (wr := false) (by simp only [kB, kG, kS, k25, Nat.reduceAdd, Nat.reduceLT, Nat.reduceEqDiff, ↓reduceIte, reduceCtorEq]; first | done | rfl) ?_); (repeat (first | refine nvB ?_ | refine goA (wr := false) (by simp only [kB, kG, kS, k25, Nat.reduceAdd, Nat.reduceLT, Nat.reduceEqDiff, ↓reduceIte, reduceCtorEq]; first | done | rfl) ?_)); exact h9.out) : G := h ⟨g⟩
theorem check7_ac (m : List Etr) (hm : m.length ≤ 10000) (hb : ∀ e ∈ m, EB1 e) : AC Tryz.prog 25 [aEtrs m] [] (fun r st => (∃ i e : Int, r = .tup [pI i, pI e] ∧ (e = 0 ↔ MapOK m)) ∧ st = []) := by
 have hli := fun e : Etr => line7_ac e
 have hle := fun e : Etr => left7_ac e
 have h4 := fun e he => check4_ac (Etr.line e) ((hb e he).left.mono (by omega)) ((hb e he).right.mono (by omega))
 have h5 := fun e he => check5_ac (Etr.lrg e) ((hb e he).left.mono (by omega)) (hb e he).len (fun h hh => ((hb e he).holes h hh).mono (by omega))
 have hri := fun e he hc => right7_ac e ((hb e he).eb hc)
 refine AC_enter Tryz.func25 rfl rfl (by simp only [Tryz.ntmps25, List.length]; omega) ?_
 intro x hx
 simp only [List.range, List.range.loop, List.length, List.zip, List.zipWith, Nat.reduceAdd, Tryz.ntmps25]
 try refine v25X15 ?_
 refine T_loop (ι := Nat) (I := fun k => ⟨92, [(0, aEtrs m), (18, aEtrs m), (19, I .i64 m.length), (20, I .i64 k)], []⟩)
  (Inv := fun k => k ≤ m.length ∧ ∀ e ∈ m.take k, checkR e.line = 0 ∧ checkG e.lrg = 0) (μ := fun k => m.length - k) 0 ⟨by omega, by simp⟩ ?_ ?_
 ·exact enA
 rintro k ⟨hk, hent⟩
 try refine v25X15 ?_
 refine ifA ?_ ?_
 ·intro hlt
  have hlt' : k < m.length := by simpa using hlt
  obtain ⟨v, hv, he, htk⟩ := round encEtr m k zEtr hlt'
  have hvm := List.mem_of_getElem? hv
  have h4 := h4 v hvm
  have h5 := h5 v hvm
  have hbad : ¬ (checkR v.line = 0 ∧ checkG v.lrg = 0) → ¬ MapOK m := fun hn hM => hn (hM.ent v hvm)
  have hnx : (checkR v.line = 0 ∧ checkG v.lrg = 0) → ∀ e ∈ m.take (k + 1), checkR e.line = 0 ∧ checkG e.lrg = 0 := by
   intro h e he2
   rw [htk, List.mem_append] at he2
   rcases he2 with he2 | he2
   ·exact hent e he2
   ·simp only [List.mem_singleton] at he2; subst he2; exact h
  generalize checkR (Etr.line v) = e4 at h4 hbad hnx
  generalize checkG (Etr.lrg v) = e5 at h5 hbad hnx
  (repeat (first | refine nvB ?_ | refine goA (wr := false) (by simp only [kB, kG, kS, k25, Nat.reduceAdd, Nat.reduceLT, Nat.reduceEqDiff, ↓reduceIte, reduceCtorEq, he]; first | done | rfl) ?_ | (refine caA [] (hli v) ?_; rintro r st' ⟨rfl, rfl⟩; refine frA ?_) | (refine caA [] (h4) ?_; rintro r st' ⟨rfl, rfl⟩; refine frA ?_)))
  refine TO_stepO (wr := false) ([(31, aRgn (Etr.lrg v))] : List (Nat × AV)) rfl (by simp only [kD, kB, kG, kS, k25, Nat.reduceAdd, Nat.reduceLT, Nat.reduceEqDiff, ↓reduceIte, reduceCtorEq]; first | done | rfl) ?_ ?_
  ·simp only [All, List.cons_append, List.nil_append, InR, List.mem_cons, List.not_mem_nil, or_false, forall_eq_or_imp, forall_eq, clAV, clCs, clC, clCaps, clCap, and_true, true_and, implies_true, List.length_map, List.length_cons, List.length_nil, dArr, cl_arr, tyCs]
   repeat' (first | exact trivial | exact hle v | refine And.intro ?_ ?_ | intro _ | assumption | rfl | omega | (simp; done) | (simp_all; done))
  simp only [kP, Nat.reduceEqDiff, ↓reduceIte, reduceCtorEq]
  try refine v25X15 ?_
  refine TO_stepO (wr := false) ([(32, I .i64 e5)] : List (Nat × AV)) rfl (by simp only [kD, kB, kG, kS, k25, Nat.reduceAdd, Nat.reduceLT, Nat.reduceEqDiff, ↓reduceIte, reduceCtorEq]; first | done | rfl) ?_ ?_
  ·simp only [All, List.cons_append, List.nil_append, InR, List.mem_cons, List.not_mem_nil, or_false, forall_eq_or_imp, forall_eq, clAV, clCs, clC, clCaps, clCap, and_true, true_and, implies_true, List.length_map, List.length_cons, List.length_nil, dArr, cl_arr, tyCs]
   repeat' (first | exact trivial | exact h5 | refine And.intro ?_ ?_ | intro _ | assumption | rfl | omega | (simp; done) | (simp_all; done))
  simp only [kP, Nat.reduceEqDiff, ↓reduceIte, reduceCtorEq]
  try refine v25X15 ?_
  refine ifA ?_ ?_
  ·intro hc
   have hc' : ¬ (e4 = 0 ∧ e5 = 0) := by
    rintro ⟨rfl, rfl⟩; simp at hc
   try refine v25X15 ?_
   refine rtA (by simp only [kR, Tryz.results25, ↓reduceIte, Nat.reduceEqDiff, reduceCtorEq]; first | done | rfl) ([]) ?_
   refine ⟨?_, rfl⟩
   exact ⟨_, _, rfl, by simp [hbad hc']⟩
  ·intro hc
   have hc' : e4 = 0 ∧ e5 = 0 := by
    by_cases a : e4 = 0 <;> by_cases b : e5 = 0 <;> simp_all
   try refine v25X15 ?_
   refine ⟨k + 1, ⟨by omega, hnx hc'⟩, by omega, ?_⟩
   exact enA
 intro hge0
 have hk' : k = m.length := by have : ¬ k < m.length := by simpa using hge0
                               omega
 rw [hk', List.take_length] at hent
 try refine v25X15 ?_
 refine ifA ?_ ?_
 ·intro hc
  have hc' : ¬ m.length ≤ 32 := by simp at hc; omega
  try refine v25X15 ?_
  refine rtA (by simp only [kR, Tryz.results25, ↓reduceIte, Nat.reduceEqDiff, reduceCtorEq]; first | done | rfl) ([]) ?_
  refine ⟨?_, rfl⟩
  exact ⟨_, _, rfl, by constructor <;> intro h <;> first | omega | exact absurd h.len hc'⟩
 intro hlen
 have hlen' : m.length ≤ 32 := by simp at hlen; omega
 try refine v25X15 ?_
 refine T_loop (ι := Nat) (I := fun k => ⟨92, [(0, aEtrs m), (40, aEtrs m), (41, I .i64 m.length), (42, I .i64 k)], []⟩)
  (Inv := fun k => k ≤ m.length ∧ ∀ e ∈ m.take k, (rightE e).isSome = true) (μ := fun k => m.length - k) 0 ⟨by omega, by simp⟩ ?_ ?_
 ·exact enA
 rintro k2 ⟨hk2, hall⟩
 try refine v25X15 ?_
 refine ifA ?_ ?_
 ·intro hlt
  have hlt' : k2 < m.length := by simpa using hlt
  obtain ⟨v, hv, he, htk⟩ := round encEtr m k2 zEtr hlt'
  have hvm := List.mem_of_getElem? hv
  have hr := hri v hvm (hent v hvm).2
  cases hrv : rightE v with
  | none =>
    rw [hrv] at hr
    simp only [pRgnO, pB, Option.isSome] at hr
    (repeat (first | refine nvB ?_ | refine goA (wr := false) (by simp only [kB, kG, kS, k25, Nat.reduceAdd, Nat.reduceLT, Nat.reduceEqDiff, ↓reduceIte, reduceCtorEq, he]; first | done | rfl) ?_ | (refine caA [] (hr) ?_; rintro r st' ⟨rfl, rfl⟩; refine frA ?_)))
    refine ifA ?_ ?_
    ·intro _
     try refine v25X15 ?_
     refine rtA (by simp only [kR, Tryz.results25, ↓reduceIte, Nat.reduceEqDiff, reduceCtorEq]; first | done | rfl) ([]) ?_
     refine ⟨?_, rfl⟩
     exact ⟨_, _, rfl, by constructor <;> intro h <;> first | omega | (have := h.right v hvm; rw [hrv] at this; cases this)⟩
    ·intro h; cases h
  | some g =>
    rw [hrv] at hr
    obtain ⟨gb, gh⟩ := g
    obtain ⟨gp, gr⟩ := gb
    simp only [pRgnO, pB, Option.isSome] at hr
    (repeat (first | refine nvB ?_ | refine goA (wr := false) (by simp only [kB, kG, kS, k25, Nat.reduceAdd, Nat.reduceLT, Nat.reduceEqDiff, ↓reduceIte, reduceCtorEq, he]; first | done | rfl) ?_ | (refine caA [] (hr) ?_; rintro r st' ⟨rfl, rfl⟩; refine frA ?_)))
    refine ifA ?_ ?_
    ·intro h; cases h
    intro _
    try refine v25X15 ?_
    refine ⟨k2 + 1, ⟨by omega, ?_⟩, by omega, ?_⟩
    ·intro e he2
     rw [htk, List.mem_append] at he2
     rcases he2 with he2 | he2
     ·exact hall e he2
     ·simp only [List.mem_singleton] at he2; subst he2; rw [hrv]; rfl
    ·exact enA
 intro hge
 have hk2' : k2 = m.length := by have : ¬ k2 < m.length := by simpa using hge
                                 omega
 rw [hk2', List.take_length] at hall
 try refine v25X15 ?_
 refine T_loop (ι := Nat) (I := fun k => ⟨92, [(0, aEtrs m), (54, aEtrs m), (55, I .i64 m.length), (56, I .i64 k)], []⟩)
  (Inv := fun k => k ≤ m.length ∧ ∀ (i j : Nat) (x y : Etr), i < k → j < i → m[i]? = some x → m[j]? = some y → clB x y = false) (μ := fun k => m.length - k) 0 ⟨by omega, fun i j x y h => by omega⟩ ?_ ?_
 ·exact enA
 rintro k3 ⟨hk3, hap⟩
 try refine v25X15 ?_
 refine ifA ?_ ?_
 ·intro hlt
  have hlt' : k3 < m.length := by simpa using hlt
  obtain ⟨v, hv, he, htk⟩ := round encEtr m k3 zEtr hlt'
  have hvm := List.mem_of_getElem? hv
  have hr := hri v hvm (hent v hvm).2
  obtain ⟨g, hg⟩ := Option.isSome_iff_exists.1 (hall v hvm)
  obtain ⟨g1, g2, g3⟩ := rightE_PB ((hb v hvm).eb (hent v hvm).2) hg
  rw [hg] at hr
  simp only [pRgnO, pB, Option.isSome] at hr
  have hbv := (hb v hvm).eb (hent v hvm).2
  obtain ⟨gb, gh⟩ := g
  obtain ⟨gp, gr⟩ := gb
  (repeat (first | refine nvB ?_ | refine goA (wr := false) (by simp only [kB, kG, kS, k25, Nat.reduceAdd, Nat.reduceLT, Nat.reduceEqDiff, ↓reduceIte, reduceCtorEq, he]; first | done | rfl) ?_ | (refine caA [] (hr) ?_; rintro r st' ⟨rfl, rfl⟩; refine frA ?_)))
  refine T_loop (ι := Nat) (I := fun j => ⟨92, [(0, aEtrs m), (10, I .i64 k3), (11, .c (.ptr 11 0)), (12, .c (.ptr 12 0)), (54, aEtrs m), (55, I .i64 m.length), (56, I .i64 k3), (68, .c (.d (.ps 5 ((m.map encEtr).take k3)))), (69, I .i64 k3), (70, I .i64 j)],
    [(11, .box ((encEtr v).map C.d)), (12, .box ((encRgn ⟨⟨gp, gr⟩, gh⟩).map C.d))]⟩)
   (Inv := fun j => j ≤ k3 ∧ ∀ (i : Nat) (y : Etr), i < j → m[i]? = some y → clB v y = false) (μ := fun j => k3 - j) 0 ⟨by omega, fun i y h => by omega⟩ ?_ ?_
  ·(refine Ent_sub (fun i => i) rfl ?_ ⟨?_, ?_, ?_, keepI hx (by simp [domOf, Ab.get])⟩ <;> first | (simp only [kE, dArr, ↓reduceIte, Nat.reduceEqDiff, reduceCtorEq, List.length_take, Nat.min_eq_left hk3]; done) | simp [renAV_id, renAO_id, flat_up, Ab.get, clAV, clC, clCs, clAO, cl_f1, cl_s1, cl_f2, cl_s2, cl_a1, domOf, List.flatten, List.length_take, Nat.min_eq_left hk3])
  rintro j ⟨hj, hcl⟩
  try refine v25X15 ?_
  refine ifA ?_ ?_
  ·intro hlt2
   have hlt2' : j < k3 := by simpa using hlt2
   obtain ⟨u, hu, he2, _⟩ := round encEtr m j zEtr (by omega)
   have hum := List.mem_of_getElem? hu
   have hru := hri u hum (hent u hum).2
   obtain ⟨s, hs⟩ := Option.isSome_iff_exists.1 (hall u hum)
   obtain ⟨s1, s2, s3⟩ := rightE_PB ((hb u hum).eb (hent u hum).2) hs
   rw [hs] at hru
   simp only [pRgnO, pB, Option.isSome] at hru
   have hbu := (hb u hum).eb (hent u hum).2
   obtain ⟨sb, sh⟩ := s
   obtain ⟨sp, sr⟩ := sb
   have he3 : ((m.map encEtr).take k3).getD j [] = encEtr u := by
    rw [List.getD_eq_getElem?_getD, List.getElem?_take, if_pos hlt2', ← List.getD_eq_getElem?_getD, he2]
   have hc1 := common_ac (Etr.lrg v) (Etr.lrg u) (hbv.left.mono (by omega)) (hbu.left.mono (by omega)) (Nat.le_trans hbv.len (by omega)) (Nat.le_trans hbu.len (by omega)) (fun h hh => (hbv.holes h hh).mono (by omega)) (fun h hh => (hbu.holes h hh).mono (by omega))
   have hc2 := common_ac ⟨⟨gp, gr⟩, gh⟩ ⟨⟨sp, sr⟩, sh⟩ (g1.mono (by omega)) (s1.mono (by omega)) (Nat.le_trans g2 (by omega)) (Nat.le_trans s2 (by omega)) (fun h hh => (g3 h hh).mono (by omega)) (fun h hh => (s3 h hh).mono (by omega))
   have hcB : clB v u = (commonB (Etr.lrg v) (Etr.lrg u) || commonB ⟨⟨gp, gr⟩, gh⟩ ⟨⟨sp, sr⟩, sh⟩) := by simp only [clB, hg, hs, Option.getD_some]
   generalize commonB (Etr.lrg v) (Etr.lrg u) = b1 at hc1 hcB
   generalize commonB ⟨⟨gp, gr⟩, gh⟩ ⟨⟨sp, sr⟩, sh⟩ = b2 at hc2 hcB
   (repeat (first | refine nvB ?_ | refine goA (wr := false) (by simp only [kB, kG, kS, k25, Nat.reduceAdd, Nat.reduceLT, Nat.reduceEqDiff, ↓reduceIte, reduceCtorEq, he3]; first | done | rfl) ?_ | (refine caA [] (hru) ?_; rintro r st' ⟨rfl, rfl⟩; refine frA ?_)))
   refine drA (wr := false) ([(80, aRgn (Etr.lrg v)), (82, aRgn (Etr.lrg u)), (83, B b1), (87, B b2)] : List (Nat × AV)) (by simp only [kD, kB, kG, kS, k25, Nat.reduceAdd, Nat.reduceLT, Nat.reduceEqDiff, ↓reduceIte, reduceCtorEq]; first | done | rfl) ?_ ?_
   ·simp only [All, List.cons_append, List.nil_append, InR, List.mem_cons, List.not_mem_nil, or_false, forall_eq_or_imp, forall_eq, clAV, clCs, clC, clCaps, clCap, and_true, true_and, implies_true, List.length_map, List.length_cons, List.length_nil, dArr, cl_arr, tyCs]
    repeat' (first | exact trivial | exact hle v | exact hle u | exact hc1 | exact hc2 | refine And.intro ?_ ?_ | intro _ | assumption | rfl | omega | (rw [Bool.not_eq_true']; assumption) | (simp; done) | (simp only [decide_eq_true_eq] at *; omega) | (simp_all; done))
   refine nvA ?_
   refine ifA ?_ ?_
   ·intro hc
    have hc' : clB v u = true := by rw [hcB]; cases b1 <;> cases b2 <;> simp_all
    try refine v25X15 ?_
    refine rtA (by simp only [kR, Tryz.results25, ↓reduceIte, Nat.reduceEqDiff, reduceCtorEq]; first | done | rfl) ([]) ?_
    refine ⟨?_, rfl⟩
    exact ⟨_, _, rfl, by constructor <;> intro h <;> first | omega | (have := h.apart k3 j v u hlt2' hv hu; rw [hc'] at this; cases this)⟩
   ·intro hc
    have hc' : clB v u = false := by rw [hcB]; cases b1 <;> cases b2 <;> simp_all
    try refine v25X15 ?_
    refine ⟨j + 1, ⟨by omega, ?_⟩, by omega, ?_⟩
    ·intro i y h1 h2
     by_cases e : i = j
     ·subst e; rw [hu] at h2; cases h2; exact hc'
     ·exact hcl i y (by omega) h2
    ·exact enA
  intro hge4
  have hj' : j = k3 := by have : ¬ j < k3 := by simpa using hge4
                          omega
  try refine v25X15 ?_
  refine ⟨k3 + 1, ⟨by omega, ?_⟩, by omega, ?_⟩
  ·intro i j2 x y h1 h2 h3 h4
   by_cases e : i = k3
   ·subst e; rw [hv] at h3; cases h3; exact hcl j2 y (by omega) h4
   ·exact hap i j2 x y (by omega) h2 h3 h4
  ·exact enA
 intro hge5
 have hk3' : k3 = m.length := by have : ¬ k3 < m.length := by simpa using hge5
                                 omega
 try refine v25X15 ?_
 refine rtA (by simp only [kR, Tryz.results25, ↓reduceIte, Nat.reduceEqDiff, reduceCtorEq]; first | done | rfl) ([]) ?_
 refine ⟨?_, rfl⟩
 exact ⟨_, _, rfl, fun _ => ⟨hent, hlen', hall, fun i j x y h1 h2 h3 => hap i j x y (by have := (List.getElem?_eq_some_iff.1 h2).1; omega) h1 h2 h3⟩, fun _ => rfl⟩
end Go.Proofs.YtmhboloicpieeaaGreatDoor

/- A part of the proof. -/
import Derived.Test.YtmhboloicpieeaaGreatDoorRX9
set_option maxRecDepth 100000
set_option maxHeartbeats 8000000
set_option linter.all false
namespace Go.Proofs.YtmhboloicpieeaaGreatDoor
open Go.Ab Tys
variable [DrF]
theorem meetT_PB {n : Nat} {p q : Pat} (hp : PB n p) (hq : PB n q) : ∀ k, ∀ s ∈ meetT p q k, s.size ≤ n
 | 0, s, h => by simp [meetT] at h
 | k + 1, s, h => by
   simp only [meetT, List.mem_append, List.mem_singleton] at h
   rcases h with h | rfl
   ·exact meetT_PB hp hq k s h
   ·split
    ·exact hp.get k
    ·exact hq.get k
theorem meet1_PB {n : Nat} {p q m : Pat} (hp : PB n p) (hq : PB n q) (h : meet1 p q = some m) : PB n m := by
 unfold meet1 at h
 split at h
 ·cases h
 ·split at h
  ·cases h
   exact ⟨by simp only [meetT_len]; exact hp.1, meetT_PB hp hq _⟩
  ·cases h
theorem meetP_PB {n : Nat} {p q m : Pat} (hp : PB n p) (hq : PB n q) (h : meetP p q = some m) : PB n m := by
 unfold meetP at h
 split at h
 ·split at h
  ·exact meet1_PB hq hp h
  ·exact meet1_PB hp hq h
 ·cases h
theorem bindT_PB {n : Nat} {p q : Pat} (h1 : 1 ≤ n) (hq : PB n q) : ∀ k, ∀ b ∈ bindT p q k, PB n b
 | 0, b, h => by simp [bindT] at h
 | k + 1, b, h => by
   simp only [bindT, List.mem_append] at h
   rcases h with h | h
   ·exact bindT_PB h1 hq k b h
   ·split at h
    ·simp only [List.mem_singleton] at h
     subst h
     refine ⟨by simpa using h1, ?_⟩
     intro s hs
     simp only [List.mem_singleton] at hs
     subst hs
     have := hq.get k
     rw [ByteArray.size_extract]; omega
    ·cases h
theorem bindP_PB {n : Nat} {p q : Pat} {l : List Pat} (h1 : 1 ≤ n) (hp : PB n p) (hq : PB n q) (h : bindP p q = some l) : l.length ≤ n + 1 ∧ ∀ b ∈ l, PB n b := by
 unfold bindP at h
 split at h
 ·cases h
  constructor
  ·have := bindT_len p q p.parts.length
   have := hp.1
   rw [List.length_append]; split <;> simp <;> omega
  ·intro b hb
   rcases List.mem_append.1 hb with hb | hb
   ·exact bindT_PB h1 hq _ b hb
   ·split at hb
    ·simp only [List.mem_singleton] at hb
     subst hb
     exact ⟨by simp only [List.length_drop]; have := hq.1; omega, fun s hs => hq.2 s (List.mem_of_mem_drop hs)⟩
    ·cases hb
 ·cases h
theorem subT_PB {n : Nat} {p : Pat} {l : List Pat} (hp : PB n p) (hl : ∀ b ∈ l, PB n b) : ∀ k, ∀ s ∈ subT p.parts l k, s.size ≤ 2 * n
 | 0, s, h => by simp [subT] at h
 | k + 1, s, h => by
   simp only [subT, List.mem_append, List.mem_singleton] at h
   rcases h with h | rfl
   ·exact subT_PB hp hl k s h
   ·have a := hp.get k
    have c := suf_le (p.parts.getD k noS)
    split
    ·have b : ((l.getD (stars (p.parts.take k)) zPat).parts.getD 0 noS).size ≤ n := by
      rw [List.getD_eq_getElem?_getD (l := l)]
      cases e : l[stars (p.parts.take k)]? with
      | none => exact Nat.zero_le _
      | some b => exact (hl b (List.mem_of_getElem? e)).get 0
     rw [ByteArray.size_append]; omega
    ·omega
theorem getD_PB {n : Nat} {l : List Pat} (hl : ∀ b ∈ l, PB n b) (k : Nat) : PB n (l.getD k zPat) := by
 rw [List.getD_eq_getElem?_getD]
 cases e : l[k]? with
 | none => exact ⟨Nat.zero_le _, fun s hs => by simp [zPat] at hs⟩
 | some b => exact hl b (List.mem_of_getElem? e)
theorem subE_PB {n : Nat} {p : Pat} (hs : ∀ s ∈ p.parts, s.size ≤ n) (hn : 12 ≤ n) : PB n (subE p).1 := by
 unfold subE
 split
 ·exact ⟨Nat.zero_le _, fun s hs => by simp [zPat] at hs⟩
 ·rename_i h; exact ⟨by simp only; omega, hs⟩
theorem zPat_PB (n : Nat) : PB n zPat := ⟨Nat.zero_le _, fun s hs => by simp [zPat] at hs⟩
theorem substP_PB {n : Nat} {p : Pat} {l : List Pat} (hn : 12 ≤ n) (hp : PB n p) (hl : ∀ b ∈ l, PB n b) : PB (2 * n) (substP p l).1 := by
 unfold substP
 split
 ·split
  ·split
   ·split
    ·split
     ·refine subE_PB ?_ (by omega)
      intro s hs
      rcases List.mem_append.1 hs with h | h
      ·exact subT_PB hp hl _ s h
      ·have := (getD_PB hl (stars p.parts)).2 s h; omega
     ·exact zPat_PB _
    ·exact subE_PB (subT_PB hp hl _) (by omega)
   ·exact zPat_PB _
  ·exact zPat_PB _
 ·exact zPat_PB _
@[reducible] def zRulK : List C := [.d (.v (.bool false)), nilK, .d (.v (.bool false)), nilK, .d (.v (.bool false))]
@[reducible] def pNar (x : Rul × Bool × Int) : AV := .tup [if x.2.1 then pRul x.1 else (true, zRulK), pB x.2.1, pI x.2.2]
def k127 := And.intro @Tryz.ntmps127 <| And.intro @bld147 <| And.intro @bld79 <| And.intro @fld147_1 <| And.intro @fld147_2 <| And.intro @ti147 <| @ti79
theorem v127X10 {G G' : Prop} (g : G') (h : Hid G' → G := by intro h9; (first | refine nvB ?_ | refine goA (wr := false) (by simp only [kB, kS, k127, Nat.reduceAdd, Nat.reduceLT, Nat.reduceEqDiff, ↓reduceIte, reduceCtorEq]; first | done | rfl) ?_); (repeat (first | refine nvB ?_ | refine goA (wr := false) (by simp only [kB, kS, k127, Nat.reduceAdd, Nat.reduceLT, Nat.reduceEqDiff, ↓reduceIte, reduceCtorEq]; first | done | rfl) ?_)); exact h9.out) : G := h ⟨g⟩
theorem narL_ac (r : Rul) (p : Pat) (hl : PB 10000 r.left) (hr : PB 10000 r.right) (hp : PB 10000 p) : AC Tryz.prog 127 [aRul r, aPat p] [] (fun x st => x = pNar (narL r p) ∧ st = []) := by
 have h1 := check4_ac r (hl.mono (by omega)) (hr.mono (by omega))
 have h2 := check3_ac p (hp.mono (by omega))
 have h3 := meet_ac r.left p (hl.mono (by omega)) (hp.mono (by omega))
 have h4 := fun m => bind_ac r.left m (hl.mono (by omega))
 have h5 := subst_ac r.right (hr.mono (by omega))
 have hmb := fun m => meetP_PB (m := m) hl hp
 have hbb := fun m l hm => bindP_PB (q := m) (l := l) (by omega) hl hm
 have hR : narL r p = if okR r then (if okP p then (match meetP r.left p with | none => (zRul, false, 0) | some m => if (substP r.right ((bindP r.left m).getD [])).2 = 0 then (⟨false, m, (substP r.right ((bindP r.left m).getD [])).1⟩, true, 0) else (zRul, false, 43)) else (zRul, false, checkP p)) else (zRul, false, checkR r) := rfl
 have o1 : okR r = decide (checkR r = 0) := rfl
 have o2 : okP p = decide (checkP p = 0) := rfl
 generalize narL r p = R at hR
 generalize checkR r = er at h1 o1 hR
 generalize checkP p = ep at h2 o2 hR
 obtain ⟨ex, lf, rg⟩ := r
 simp only at h1 h3 h4 h5 hmb hbb hR
 generalize hM : meetP lf p = M at h3 hR
 generalize hsP : (fun l => substP rg l) = sP at *
 have hsP' : ∀ l, substP rg l = sP l := fun l => by rw [← hsP]
 simp only [hsP'] at h5 hR
 obtain ⟨ps, rp⟩ := lf
 obtain ⟨qs, rq⟩ := rg
 obtain ⟨us, ru⟩ := p
 refine AC_enter Tryz.func127 rfl rfl (by simp only [Tryz.ntmps127, List.length]; omega) ?_
 intro x hx
 simp only [List.range, List.range.loop, List.length, List.zip, List.zipWith, Nat.reduceAdd, Tryz.ntmps127]
 (repeat (first | refine v127X10 ?_ | (refine caA [] (h1) ?_; rintro r st' ⟨rfl, rfl⟩; refine frA ?_)))
 refine ifA ?_ ?_
 ·intro h
  have e : ¬ er = 0 := by simpa using h
  rw [o1, decide_eq_false e, if_neg (by simp)] at hR
  try refine v127X10 ?_
  refine rtA (by simp only [kR, Tryz.results127, ↓reduceIte, Nat.reduceEqDiff, reduceCtorEq, effLoad, cellsOf, List.map, List.length_cons, List.length_nil, List.getD_cons_zero, List.getD_cons_succ, List.getD_nil, List.drop, List.take, splice, ti147]; first | done | rfl) ([]) ?_
  refine ⟨?_, rfl⟩
  rw [hR]; rfl
 intro h
 have e : er = 0 := by simpa using h
 rw [o1, decide_eq_true e, if_pos rfl] at hR
 (repeat (first | refine v127X10 ?_ | (refine caA [] (h2) ?_; rintro r st' ⟨rfl, rfl⟩; refine frA ?_)))
 refine ifA ?_ ?_
 ·intro h
  have e : ¬ ep = 0 := by simpa using h
  rw [o2, decide_eq_false e, if_neg (by simp)] at hR
  try refine v127X10 ?_
  refine rtA (by simp only [kR, Tryz.results127, ↓reduceIte, Nat.reduceEqDiff, reduceCtorEq, effLoad, cellsOf, List.map, List.length_cons, List.length_nil, List.getD_cons_zero, List.getD_cons_succ, List.getD_nil, List.drop, List.take, splice, ti147]; first | done | rfl) ([]) ?_
  refine ⟨?_, rfl⟩
  rw [hR]; rfl
 intro h
 have e : ep = 0 := by simpa using h
 rw [o2, decide_eq_true e, if_pos rfl] at hR
 cases M with
 | none =>
   simp only [pPatO, pB, Option.isSome] at h3
   simp only at hR
   (repeat (first | refine v127X10 ?_ | (refine caA [] (h3) ?_; rintro r st' ⟨rfl, rfl⟩; refine frA ?_)))
   refine ifA ?_ ?_
   ·intro _
    try refine v127X10 ?_
    refine rtA (by simp only [kR, Tryz.results127, ↓reduceIte, Nat.reduceEqDiff, reduceCtorEq, effLoad, cellsOf, List.map, List.length_cons, List.length_nil, List.getD_cons_zero, List.getD_cons_succ, List.getD_nil, List.drop, List.take, splice, ti147]; first | done | rfl) ([]) ?_
    refine ⟨?_, rfl⟩
    rw [hR]; rfl
   ·intro h; cases h
 | some m =>
   have hm := hmb m hM
   have h4 := h4 m (hm.mono (by omega))
   have hbb := fun l => hbb m l hm
   simp only at hR
   obtain ⟨ms, rm⟩ := m
   simp only [pPatO, pB, Option.isSome] at h3
   have key : ∀ l, (l.length ≤ 100000 ∧ ∀ b ∈ l, PB 100000 b) → ∃ c e, AC Tryz.prog 180 [aPat ⟨qs, rq⟩, aPats l] [] (fun x st => x = .tup [(true, c), pI e] ∧ st = []) ∧ (sP l).2 = e ∧ ((e = 0 ∧ c = (encPat (sP l).1).map C.d) ∨ (¬ e = 0 ∧ c = [nilK, .d (.v (.bool false))])) := by
    rintro l ⟨l1, l2⟩
    have := h5 l l1 l2
    by_cases h0 : (sP l).2 = 0
    ·simp only [pSub, h0, if_true] at this
     exact ⟨_, _, this, h0, .inl ⟨rfl, rfl⟩⟩
    ·simp only [pSub, h0, if_false] at this
     exact ⟨_, _, this, rfl, .inr ⟨h0, rfl⟩⟩
   cases hb : bindP ⟨ps, rp⟩ ⟨ms, rm⟩ with
   | none =>
     rw [hb] at h4 hR
     simp only [pPats, pB, Option.isSome] at h4
     simp only [Option.getD] at hR
     obtain ⟨c, e, k1, k2, k3⟩ := key [] ⟨by simp, by simp⟩
     rw [k2] at hR
     (repeat (first | refine v127X10 ?_ | (refine caA [] (h3) ?_; rintro r st' ⟨rfl, rfl⟩; refine frA ?_)))
     refine ifA ?_ ?_
     ·intro h; cases h
     intro _
     (repeat (first | refine v127X10 ?_ | (refine caA [] (h4) ?_; rintro r st' ⟨rfl, rfl⟩; refine frA ?_)))
     refine TO_ent (Ent_nilSlot (i := 47) 2 rfl) ?_
     refine fzA ?_
     rcases k3 with ⟨rfl, rfl⟩ | ⟨e0, rfl⟩
     ·rw [if_pos rfl] at hR
      (repeat (first | refine v127X10 ?_ | (refine caA [] (k1) ?_; rintro r st' ⟨rfl, rfl⟩; refine frA ?_)))
      refine ifA ?_ ?_
      ·intro h; cases h
      intro _
      try refine v127X10 ?_
      refine rtA (by simp only [kR, Tryz.results127, ↓reduceIte, Nat.reduceEqDiff, reduceCtorEq, effLoad, cellsOf, List.map, List.length_cons, List.length_nil, List.getD_cons_zero, List.getD_cons_succ, List.getD_nil, List.drop, List.take, splice, ti147]; first | done | rfl) ([]) ?_
      refine ⟨?_, rfl⟩
      rw [hR]; rfl
     ·rw [if_neg e0] at hR
      (repeat (first | refine v127X10 ?_ | (refine caA [] (k1) ?_; rintro r st' ⟨rfl, rfl⟩; refine frA ?_)))
      refine ifA ?_ ?_
      ·intro _
       try refine v127X10 ?_
       refine rtA (by simp only [kR, Tryz.results127, ↓reduceIte, Nat.reduceEqDiff, reduceCtorEq, effLoad, cellsOf, List.map, List.length_cons, List.length_nil, List.getD_cons_zero, List.getD_cons_succ, List.getD_nil, List.drop, List.take, splice, ti147]; first | done | rfl) ([]) ?_
       refine ⟨?_, rfl⟩
       rw [hR]; rfl
      ·intro h; simp [e0] at h
   | some l =>
     rw [hb] at h4 hR
     simp only [pPats, pB, Option.isSome] at h4
     simp only [Option.getD] at hR
     have hl9 := hbb l hb
     obtain ⟨c, e, k1, k2, k3⟩ := key l ⟨by omega, fun b hb => (hl9.2 b hb).mono (by omega)⟩
     rw [k2] at hR
     (repeat (first | refine v127X10 ?_ | (refine caA [] (h3) ?_; rintro r st' ⟨rfl, rfl⟩; refine frA ?_)))
     refine ifA ?_ ?_
     ·intro h; cases h
     intro _
     rcases k3 with ⟨rfl, rfl⟩ | ⟨e0, rfl⟩
     ·rw [if_pos rfl] at hR
      (repeat (first | refine v127X10 ?_ | (refine caA [] (h4) ?_; rintro r st' ⟨rfl, rfl⟩; refine frA ?_) | (refine caA [] (k1) ?_; rintro r st' ⟨rfl, rfl⟩; refine frA ?_)))
      refine ifA ?_ ?_
      ·intro h; cases h
      intro _
      try refine v127X10 ?_
      refine rtA (by simp only [kR, Tryz.results127, ↓reduceIte, Nat.reduceEqDiff, reduceCtorEq, effLoad, cellsOf, List.map, List.length_cons, List.length_nil, List.getD_cons_zero, List.getD_cons_succ, List.getD_nil, List.drop, List.take, splice, ti147]; first | done | rfl) ([]) ?_
      refine ⟨?_, rfl⟩
      rw [hR]; rfl
     ·rw [if_neg e0] at hR
      (repeat (first | refine v127X10 ?_ | (refine caA [] (h4) ?_; rintro r st' ⟨rfl, rfl⟩; refine frA ?_) | (refine caA [] (k1) ?_; rintro r st' ⟨rfl, rfl⟩; refine frA ?_)))
      refine ifA ?_ ?_
      ·intro _
       try refine v127X10 ?_
       refine rtA (by simp only [kR, Tryz.results127, ↓reduceIte, Nat.reduceEqDiff, reduceCtorEq, effLoad, cellsOf, List.map, List.length_cons, List.length_nil, List.getD_cons_zero, List.getD_cons_succ, List.getD_nil, List.drop, List.take, splice, ti147]; first | done | rfl) ([]) ?_
       refine ⟨?_, rfl⟩
       rw [hR]; rfl
      ·intro h; simp [e0] at h
def k63 := And.intro @Tryz.ntmps63 <| And.intro @bld147 <| And.intro @bld79 <| And.intro @bld82 <| And.intro @fld147_1 <| And.intro @fld147_2 <| And.intro @fld82_0 <| And.intro @fld82_1 <| And.intro @ti147 <| And.intro @ti79 <| @ti82
theorem v63X10 {G G' : Prop} (g : G') (h : Hid G' → G := by intro h9; (first | refine nvB ?_ | refine goA (wr := false) (by simp only [kB, kS, k63, Nat.reduceAdd, Nat.reduceLT, Nat.reduceEqDiff, ↓reduceIte, reduceCtorEq]; first | done | rfl) ?_); (repeat (first | refine nvB ?_ | refine goA (wr := false) (by simp only [kB, kS, k63, Nat.reduceAdd, Nat.reduceLT, Nat.reduceEqDiff, ↓reduceIte, reduceCtorEq]; first | done | rfl) ?_)); exact h9.out) : G := h ⟨g⟩
theorem line7_ac (e : Etr) : AC Tryz.prog 63 [aEtr e] [] (fun r st => r = aRul e.line ∧ st = []) := by
 refine AC_enter Tryz.func63 rfl rfl (by simp only [Tryz.ntmps63, List.length]; omega) ?_
 intro x hx
 simp only [List.range, List.range.loop, List.length, List.zip, List.zipWith, Nat.reduceAdd, Tryz.ntmps63]
 try refine v63X10 ?_
 refine rtA (by simp only [kR, Tryz.results63, ↓reduceIte, Nat.reduceEqDiff, reduceCtorEq, effLoad, cellsOf, List.map, List.length_cons, List.length_nil, List.getD_cons_zero, List.getD_cons_succ, List.getD_nil, List.drop, List.take, splice, ti147]; first | done | rfl) ([]) ?_
 refine ⟨?_, rfl⟩
 rfl
def k65 := And.intro @Tryz.ntmps65 <| And.intro @bld151 <| And.intro @bld79 <| And.intro @bld82 <| And.intro @fld151_0 <| And.intro @fld151_1 <| And.intro @fld82_0 <| And.intro @fld82_2 <| And.intro @ti151 <| And.intro @ti79 <| And.intro @ti80 <| @ti82
theorem v65X10 {G G' : Prop} (g : G') (h : Hid G' → G := by intro h9; (first | refine nvB ?_ | refine goA (wr := false) (by simp only [kB, kS, k65, Nat.reduceAdd, Nat.reduceLT, Nat.reduceEqDiff, ↓reduceIte, reduceCtorEq]; first | done | rfl) ?_); (repeat (first | refine nvB ?_ | refine goA (wr := false) (by simp only [kB, kS, k65, Nat.reduceAdd, Nat.reduceLT, Nat.reduceEqDiff, ↓reduceIte, reduceCtorEq]; first | done | rfl) ?_)); exact h9.out) : G := h ⟨g⟩
theorem left7_ac (e : Etr) : AC Tryz.prog 65 [aEtr e] [] (fun r st => r = aRgn e.lrg ∧ st = []) := by
 refine AC_enter Tryz.func65 rfl rfl (by simp only [Tryz.ntmps65, List.length]; omega) ?_
 intro x hx
 simp only [List.range, List.range.loop, List.length, List.zip, List.zipWith, Nat.reduceAdd, Tryz.ntmps65]
 try refine v65X10 ?_
 refine rtA (by simp only [kR, Tryz.results65, ↓reduceIte, Nat.reduceEqDiff, reduceCtorEq, effLoad, cellsOf, List.map, List.length_cons, List.length_nil, List.getD_cons_zero, List.getD_cons_succ, List.getD_nil, List.drop, List.take, splice, ti151]; first | done | rfl) ([]) ?_
 refine ⟨?_, rfl⟩
 rfl
structure EB (n : Nat) (e : Etr) : Prop where
 left : PB n e.left
 right : PB n e.right
 len : e.holes.length ≤ n
 holes : ∀ h ∈ e.holes, PB n h
def k28 := And.intro @Tryz.ntmps28 <| And.intro @Tryz.underlying23 <| And.intro @bld147 <| And.intro @bld151 <| And.intro @bld79 <| And.intro @bld82 <| And.intro @elt23 <| And.intro @fld147_1 <| And.intro @fld147_2 <| And.intro @fld151_0 <| And.intro @fld151_1 <| And.intro @fld82_0 <| And.intro @fld82_1 <| And.intro @fld82_2 <| And.intro @ti147 <| And.intro @ti151 <| And.intro @ti23 <| And.intro @ti79 <| And.intro @ti80 <| @ti82
theorem v28X10 {G G' : Prop} (g : G') (h : Hid G' → G := by intro h9; (first | refine nvB ?_ | refine goA (wr := false) (by simp only [kB, kS, k28, Nat.reduceAdd, Nat.reduceLT, Nat.reduceEqDiff, ↓reduceIte, reduceCtorEq]; first | done | rfl) ?_); (repeat (first | refine nvB ?_ | refine goA (wr := false) (by simp only [kB, kS, k28, Nat.reduceAdd, Nat.reduceLT, Nat.reduceEqDiff, ↓reduceIte, reduceCtorEq]; first | done | rfl) ?_)); exact h9.out) : G := h ⟨g⟩
theorem by_ac (m : List Etr) (hm : m.length ≤ 1000000) (hb : ∀ e ∈ m, EB 100000 e) (s : ByteArray) (hs : s.size ≤ 300000) : AC Tryz.prog 28 [aEtrs m, Str s] [] (fun x st => x = .tup [pS (byE m s).1, pB (byE m s).2] ∧ st = []) := by
 have hR : byE m s = match m.find? (fun x => hasG x.lrg s) with | none => (noS, false) | some x => fwd x.line s := rfl
 generalize byE m s = R at hR
 refine AC_enter Tryz.func28 rfl rfl (by simp only [Tryz.ntmps28, List.length]; omega) ?_
 intro x hx
 simp only [List.range, List.range.loop, List.length, List.zip, List.zipWith, Nat.reduceAdd, Tryz.ntmps28]
 try refine v28X10 ?_
 refine T_loop (ι := Nat) (I := fun k => ⟨31, [(1, Str s), (8, aEtrs m), (9, I .i64 m.length), (10, I .i64 k)], []⟩)
  (Inv := fun k => k ≤ m.length ∧ (m.take k).find? (fun x => hasG x.lrg s) = none) (μ := fun k => m.length - k) 0 ⟨by omega, rfl⟩ ?_ ?_
 ·exact enA
 rintro k ⟨hk, hall⟩
 try refine v28X10 ?_
 refine ifA ?_ ?_
 ·intro hlt
  have hlt' : k < m.length := by simpa using hlt
  obtain ⟨v, hv, he, htk⟩ := round encEtr m k zEtr hlt'
  obtain ⟨b1, b2, b3, b4⟩ := hb v (List.mem_of_getElem? hv)
  have hh := has_ac v.lrg (b1.mono (by omega)) (by show v.holes.length ≤ _; omega) (fun h hh => (b4 h hh).mono (by omega)) s (by omega)
  have hf := fwd_ac v.line b1 b2 s hs
  generalize hvb : hasG v.lrg s = vb at hh
  generalize hF : fwd v.line s = F at hf
  have hfd : ∀ b, vb = b → m.find? (fun x => hasG x.lrg s) = if b then some v else ((m.drop (k + 1)).find? fun x => hasG x.lrg s) := by
   rintro b rfl
   have e : m = m.take k ++ v :: m.drop (k + 1) := by
    have h1 := List.take_append_drop k m
    rw [List.drop_eq_getElem?_toList_append, hv] at h1
    exact h1.symm
   conv => lhs; rw [e]
   rw [List.find?_append, hall, List.find?_cons, hvb]
   cases vb <;> rfl
  have hnx : (m.take (k + 1)).find? (fun x => hasG x.lrg s) = if vb then some v else none := by
   rw [htk, List.find?_append, hall, List.find?_cons, hvb]
   cases vb <;> rfl
  (repeat (first | refine nvB ?_ | refine goA (wr := false) (by simp only [kB, kS, k28, Nat.reduceAdd, Nat.reduceLT, Nat.reduceEqDiff, ↓reduceIte, reduceCtorEq, he]; first | done | rfl) ?_ | (refine caA [] (hh) ?_; rintro r st' ⟨rfl, rfl⟩; refine frA ?_)))
  refine ifA ?_ ?_
  ·intro hc
   rw [hfd true hc, if_pos rfl] at hR
   simp only at hR
   rw [hF] at hR
   (repeat (first | refine nvB ?_ | refine goA (wr := false) (by simp only [kB, kS, k28, Nat.reduceAdd, Nat.reduceLT, Nat.reduceEqDiff, ↓reduceIte, reduceCtorEq, he]; first | done | rfl) ?_ | (refine caA [] (hf) ?_; rintro r st' ⟨rfl, rfl⟩; refine frA ?_)))
   refine rtA (by simp only [kR, Tryz.results28, ↓reduceIte, Nat.reduceEqDiff, reduceCtorEq]; first | done | rfl) ([]) ?_
   refine ⟨?_, rfl⟩
   rw [hR]
  ·intro hc
   rw [hc, if_neg (by simp)] at hnx
   try refine v28X10 ?_
   refine ⟨k + 1, ⟨by omega, hnx⟩, by omega, ?_⟩
   exact enA
 intro hge
 have hk' : k = m.length := by have : ¬ k < m.length := by simpa using hge
                               omega
 rw [hk', List.take_length] at hall
 rw [hall] at hR
 try refine v28X10 ?_
 refine rtA (by simp only [kR, Tryz.results28, ↓reduceIte, Nat.reduceEqDiff, reduceCtorEq]; first | done | rfl) ([]) ?_
 refine ⟨?_, rfl⟩
 rw [hR]
end Go.Proofs.YtmhboloicpieeaaGreatDoor

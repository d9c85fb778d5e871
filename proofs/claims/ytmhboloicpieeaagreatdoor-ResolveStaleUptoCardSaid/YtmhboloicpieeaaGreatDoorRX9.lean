/- A part of the proof. -/
import Derived.Test.YtmhboloicpieeaaGreatDoorRX12
import Derived.Test.YtmhboloicpieeaaGreatDoorRX8
set_option maxRecDepth 100000
set_option maxHeartbeats 8000000
set_option linter.all false
namespace Go.Proofs.YtmhboloicpieeaaGreatDoor
open Go.Ab Tys
variable [DrF]
theorem path_sz {s : ByteArray} {l : List ByteArray} (h : path? s = some l) : ∀ k, (l.getD k noS).size ≤ s.size := by
 intro k
 unfold path? at h
 split at h
 ·rename_i l' hpp
  split at h
  ·cases h
  ·cases h
   unfold parts? at hpp
   split at hpp
   ·split at hpp
    ·cases hpp
     rw [List.getD_eq_getElem?_getD]
     cases e : (split (s.extract 2 s.size))[k]? with
     | none => exact Nat.zero_le _
     | some v =>
       have h1 := splitN_size _ _ v (List.mem_of_getElem? e)
       rw [ByteArray.size_extract] at h1
       simp only [Option.getD_some]; omega
    ·cases hpp
   ·cases hpp
 ·cases h
theorem capt_size (a c : ByteArray) : (capt a c).1.size ≤ c.size := by
 unfold capt
 split
 ·split
  ·simp only [ByteArray.size_extract]; omega
  ·exact Nat.zero_le _
 ·exact Nat.zero_le _
theorem capsT_size {ps ls : List ByteArray} {n : Nat} (h : ∀ k, (ls.getD k noS).size ≤ n) : ∀ k, ∀ s ∈ capsT ps ls k, s.size ≤ n
 | 0, s, hs => by simp [capsT] at hs
 | k + 1, s, hs => by
   simp only [capsT, List.mem_append] at hs
   rcases hs with hs | hs
   ·exact capsT_size h k s hs
   ·split at hs
    ·simp only [List.mem_singleton] at hs
     subst hs
     exact Nat.le_trans (capt_size _ _) (h k)
    ·cases hs
theorem path_split {s : ByteArray} {l : List ByteArray} (h : path? s = some l) : l = split (s.extract 2 s.size) ∧ 2 ≤ s.size := by
 unfold path? at h
 split at h
 ·rename_i l' hpp
  split at h
  ·cases h
  ·cases h
   unfold parts? at hpp
   split at hpp
   ·rename_i hd
    split at hpp
    ·cases hpp
     exact ⟨rfl, of_decide_eq_true (Bool.and_eq_true_iff.1 hd).1⟩
    ·cases hpp
   ·cases hpp
 ·cases h
theorem splitL_sum : ∀ t : List UInt8, ((splitL t).map fun x => x.length + 1).sum = t.length + 1
 | [] => rfl
 | a :: l => by
   have ih := splitL_sum l
   simp only [splitL]
   split
   ·simp only [List.map_cons, List.sum_cons, List.length_nil, List.length_cons, ih]; omega
   ·obtain ⟨h, t, e⟩ := splitL_cons l
    rw [e] at ih ⊢
    simp only [List.map_cons, List.sum_cons, List.length_cons] at ih ⊢
    omega
theorem sum_drop (L : List Nat) (n : Nat) : (L.drop n).sum ≤ L.sum := by
 have := congrArg List.sum (List.take_append_drop n L)
 rw [List.sum_append] at this
 omega
theorem join_sum : ∀ L : List (List UInt8), (Lib.join L [47]).length ≤ (L.map fun x => x.length + 1).sum
 | [] => by simp [Lib.join_nil]
 | [a] => by simp [Lib.join_one]
 | a :: b :: L => by
   have ih := join_sum (b :: L)
   have e : Lib.join (a :: b :: L) [47] = a ++ 47 :: Lib.join (b :: L) [47] := by
    rw [Lib.join_cons, Lib.join_cons]
    simp [Lib.joinTail]
   rw [e, List.map_cons, List.sum_cons, List.length_append, List.length_cons]
   omega
theorem joinB_sub {s : ByteArray} {l : List ByteArray} (h : path? s = some l) (n : Nat) : (joinB (l.drop n) slash).size ≤ s.size := by
 obtain ⟨rfl, h2⟩ := path_split h
 have e : (joinB ((split (s.extract 2 s.size)).drop n) slash).size = (Lib.join (((split (s.extract 2 s.size)).drop n).map (·.data.toList)) [47]).length := rfl
 have hL : ((split (s.extract 2 s.size)).drop n).map (fun b : ByteArray => b.data.toList) = (splitL (s.extract 2 s.size).data.toList).drop n := by
  rw [split_L, ← List.map_drop, List.map_map]
  conv => rhs; rw [← List.map_id ((splitL (s.extract 2 s.size).data.toList).drop n)]
  exact List.map_congr_left fun _ _ => rfl
 rw [e, hL]
 have h3 := join_sum ((splitL (s.extract 2 s.size).data.toList).drop n)
 have h4 := sum_drop ((splitL (s.extract 2 s.size).data.toList).map fun x => x.length + 1) n
 rw [splitL_sum, ← List.map_drop] at h4
 have h5 : (s.extract 2 s.size).data.toList.length = s.size - 2 := by
  have : (s.extract 2 s.size).size = s.size - 2 := by rw [ByteArray.size_extract]; omega
  rw [← this]; rfl
 omega
theorem match_caps (p : Pat) (s : ByteArray) : ∀ l, matchP p s = some l → p.parts.length ≤ 100000 → s.size ≤ 300000 → l.length ≤ 400000 ∧ ∀ c ∈ l, c.size ≤ 400000 := by
 intro l h hp hs
 unfold matchP at h
 cases hm : path? s with
 | none => rw [hm] at h; cases h
 | some m =>
   rw [hm] at h
   simp only at h
   split at h
   ·cases h
    have h1 := capsT_len p.parts m p.parts.length
    constructor
    ·rw [List.length_append]; split <;> simp <;> omega
    ·intro c hc
     rcases List.mem_append.1 hc with hc | hc
     ·exact Nat.le_trans (capsT_size (path_sz hm) _ c hc) (by omega)
     ·split at hc
      ·simp only [List.mem_singleton] at hc
       subst hc
       exact Nat.le_trans (joinB_sub hm _) (by omega)
      ·cases hc
   ·cases h
def k62 := And.intro @Tryz.ntmps62 <| And.intro @Tryz.underlying4 <| And.intro @bld147 <| And.intro @bld79 <| And.intro @fld147_1 <| And.intro @fld147_2 <| And.intro @ti147 <| @ti79
theorem v62X9 {G G' : Prop} (g : G') (h : Hid G' → G := by intro h9; (first | refine nvB ?_ | refine goA (wr := false) (by simp only [kB, kG, k62, Nat.reduceAdd, Nat.reduceLT, Nat.reduceEqDiff, ↓reduceIte, reduceCtorEq]; first | done | rfl) ?_); (repeat (first | refine nvB ?_ | refine goA (wr := false) (by simp only [kB, kG, k62, Nat.reduceAdd, Nat.reduceLT, Nat.reduceEqDiff, ↓reduceIte, reduceCtorEq]; first | done | rfl) ?_)); exact h9.out) : G := h ⟨g⟩
theorem check4_ac (r : Rul) (hl : PB 1000000 r.left) (hr : PB 1000000 r.right) : AC Tryz.prog 62 [aRul r] [] (fun x st => x = I .i64 (checkR r) ∧ st = []) := by
 have h1 := check3_ac r.left hl
 have h2 := check3_ac r.right hr
 have h3 := kinds_ac r.left hl
 have h4 := kinds_ac r.right hr
 have hR : checkR r = if okP r.left then (if okP r.right then (if stars r.left.parts = stars r.right.parts ∧ r.left.rest = r.right.rest then 0 else 42) else 41) else 40 := rfl
 have o1 : okP r.left = decide (checkP r.left = 0) := rfl
 have o2 : okP r.right = decide (checkP r.right = 0) := rfl
 obtain ⟨ex, lf, rg⟩ := r
 simp only at h1 h2 h3 h4 o1 o2 hR
 generalize checkR ⟨ex, lf, rg⟩ = R at hR
 generalize checkP lf = el at h1 o1
 generalize checkP rg = er at h2 o2
 obtain ⟨ps, rp⟩ := lf
 obtain ⟨qs, rq⟩ := rg
 simp only at h3 h4 hR
 refine AC_enter Tryz.func62 rfl rfl (by simp only [Tryz.ntmps62, List.length]; omega) ?_
 intro x hx
 simp only [List.range, List.range.loop, List.length, List.zip, List.zipWith, Nat.reduceAdd, Tryz.ntmps62]
 (repeat (first | refine v62X9 ?_ | (refine caA [] (h1) ?_; rintro r st' ⟨rfl, rfl⟩; refine frA ?_)))
 refine ifA ?_ ?_
 ·intro h
  have e : ¬ el = 0 := by simpa using h
  rw [o1, decide_eq_false e, if_neg (by simp)] at hR
  try refine v62X9 ?_
  refine rtA (by simp only [kR, Tryz.results62, ↓reduceIte, Nat.reduceEqDiff, reduceCtorEq]; first | done | rfl) ([]) ?_
  refine ⟨?_, rfl⟩
  rw [hR]
 intro h
 have e : el = 0 := by simpa using h
 rw [o1, decide_eq_true e, if_pos rfl] at hR
 (repeat (first | refine v62X9 ?_ | (refine caA [] (h2) ?_; rintro r st' ⟨rfl, rfl⟩; refine frA ?_)))
 refine ifA ?_ ?_
 ·intro h
  have e : ¬ er = 0 := by simpa using h
  rw [o2, decide_eq_false e, if_neg (by simp)] at hR
  try refine v62X9 ?_
  refine rtA (by simp only [kR, Tryz.results62, ↓reduceIte, Nat.reduceEqDiff, reduceCtorEq]; first | done | rfl) ([]) ?_
  refine ⟨?_, rfl⟩
  rw [hR]
 intro h
 have e : er = 0 := by simpa using h
 rw [o2, decide_eq_true e, if_pos rfl] at hR
 (repeat (first | refine v62X9 ?_ | (refine caA [] (h3) ?_; rintro r st' ⟨rfl, rfl⟩; refine frA ?_) | (refine caA [] (h4) ?_; rintro r st' ⟨rfl, rfl⟩; refine frA ?_)))
 have hc : (bif !decide ((stars ps : Int) = stars qs) then true else !(rp == rq)) = !decide (stars ps = stars qs ∧ rp = rq) := by
  rw [show decide ((stars ps : Int) = stars qs) = decide (stars ps = stars qs) from decide_eq_decide.2 (by omega)]
  by_cases a : stars ps = stars qs <;> cases rp <;> cases rq <;> simp [a]
 refine ifA ?_ ?_
 ·intro h
  rw [hc] at h
  rw [if_neg (by intro e; rw [decide_eq_true e] at h; cases h)] at hR
  try refine v62X9 ?_
  refine rtA (by simp only [kR, Tryz.results62, ↓reduceIte, Nat.reduceEqDiff, reduceCtorEq]; first | done | rfl) ([]) ?_
  refine ⟨?_, rfl⟩
  rw [hR]
 ·intro h
  rw [hc] at h
  have h9 : decide (stars ps = stars qs ∧ rp = rq) = true := by simpa only [Bool.not_eq_false'] using h
  rw [if_pos (of_decide_eq_true h9)] at hR
  try refine v62X9 ?_
  refine rtA (by simp only [kR, Tryz.results62, ↓reduceIte, Nat.reduceEqDiff, reduceCtorEq]; first | done | rfl) ([]) ?_
  refine ⟨?_, rfl⟩
  rw [hR]
def k64 := And.intro @Tryz.ntmps64 <| And.intro @Tryz.underlying80 <| And.intro @bld151 <| And.intro @bld79 <| And.intro @elt80 <| And.intro @fld151_0 <| And.intro @fld151_1 <| And.intro @ti151 <| And.intro @ti79 <| @ti80
theorem v64X9 {G G' : Prop} (g : G') (h : Hid G' → G := by intro h9; (first | refine nvB ?_ | refine goA (wr := false) (by simp only [kB, k64, Nat.reduceAdd, Nat.reduceLT, Nat.reduceEqDiff, ↓reduceIte, reduceCtorEq]; first | done | rfl) ?_); (repeat (first | refine nvB ?_ | refine goA (wr := false) (by simp only [kB, k64, Nat.reduceAdd, Nat.reduceLT, Nat.reduceEqDiff, ↓reduceIte, reduceCtorEq]; first | done | rfl) ?_)); exact h9.out) : G := h ⟨g⟩
theorem check5_ac (g : Rgn) (hb : PB 1000000 g.base) (hh : g.holes.length ≤ 1000000) (hs : ∀ h ∈ g.holes, PB 1000000 h) : AC Tryz.prog 64 [aRgn g] [] (fun x st => x = I .i64 (checkG g) ∧ st = []) := by
 have h1 := check3_ac g.base hb
 have hR : checkG g = if okP g.base then (if g.holes.all okP then (if 64 < g.holes.length then 52 else 0) else 51) else 50 := rfl
 have o1 : okP g.base = decide (checkP g.base = 0) := rfl
 obtain ⟨b, hs'⟩ := g
 simp only at h1 o1 hR hh hs
 generalize checkG ⟨b, hs'⟩ = R at hR
 generalize checkP b = el at h1 o1
 obtain ⟨ps, rp⟩ := b
 refine AC_enter Tryz.func64 rfl rfl (by simp only [Tryz.ntmps64, List.length]; omega) ?_
 intro x hx
 simp only [List.range, List.range.loop, List.length, List.zip, List.zipWith, Nat.reduceAdd, Tryz.ntmps64]
 (repeat (first | refine v64X9 ?_ | (refine caA [] (h1) ?_; rintro r st' ⟨rfl, rfl⟩; refine frA ?_)))
 refine ifA ?_ ?_
 ·intro h
  have e : ¬ el = 0 := by simpa using h
  rw [o1, decide_eq_false e, if_neg (by simp)] at hR
  try refine v64X9 ?_
  refine rtA (by simp only [kR, Tryz.results64, ↓reduceIte, Nat.reduceEqDiff, reduceCtorEq]; first | done | rfl) ([]) ?_
  refine ⟨?_, rfl⟩
  rw [hR]
 intro h
 have e : el = 0 := by simpa using h
 rw [o1, decide_eq_true e, if_pos rfl] at hR
 try refine v64X9 ?_
 refine T_loop (ι := Nat) (I := fun k => ⟨24, [(1, .c (.ptr 1 0)), (10, aPats hs'), (11, I .i64 hs'.length), (12, I .i64 k)], [(1, .box ((encRgn ⟨⟨ps, rp⟩, hs'⟩).map C.d))]⟩)
  (Inv := fun k => k ≤ hs'.length ∧ (hs'.take k).all okP = true) (μ := fun k => hs'.length - k) 0 ⟨by omega, rfl⟩ ?_ ?_
 ·exact enA
 rintro k ⟨hk, hall⟩
 try refine v64X9 ?_
 refine ifA ?_ ?_
 ·intro hlt
  have hlt' : k < hs'.length := by simpa using hlt
  obtain ⟨v, hv, he, htk⟩ := round encPat hs' k zPat hlt'
  have hck := check3_ac v (hs v (List.mem_of_getElem? hv))
  have o3 : okP v = decide (checkP v = 0) := rfl
  generalize checkP v = ev at hck o3
  (repeat (first | refine nvB ?_ | refine goA (wr := false) (by simp only [kB, k64, Nat.reduceAdd, Nat.reduceLT, Nat.reduceEqDiff, ↓reduceIte, reduceCtorEq, he]; first | done | rfl) ?_ | (refine caA [] (hck) ?_; rintro r st' ⟨rfl, rfl⟩; refine frA ?_)))
  refine ifA ?_ ?_
  ·intro hb
   have e : ¬ ev = 0 := by simpa using hb
   have hn : ¬ hs'.all okP = true := by
    intro e2
    rw [List.all_eq_true] at e2
    have := e2 v (List.mem_of_getElem? hv)
    rw [o3, decide_eq_false e] at this; cases this
   rw [if_neg hn] at hR
   try refine v64X9 ?_
   refine rtA (by simp only [kR, Tryz.results64, ↓reduceIte, Nat.reduceEqDiff, reduceCtorEq]; first | done | rfl) ([]) ?_
   refine ⟨?_, rfl⟩
   rw [hR]
  ·intro hb
   have e : ev = 0 := by simpa using hb
   try refine v64X9 ?_
   refine ⟨k + 1, ⟨by omega, by rw [htk, List.all_append, hall]; simp [o3, e]⟩, by omega, ?_⟩
   exact enA
 intro hge
 have hk' : k = hs'.length := by have : ¬ k < hs'.length := by simpa using hge
                                 omega
 rw [hk', List.take_length] at hall
 rw [if_pos hall] at hR
 try refine v64X9 ?_
 have hLI : decide ((64 : Int) < (hs'.length : Nat)) = decide (64 < hs'.length) := decide_eq_decide.2 (by omega)
 refine ifA ?_ ?_
 ·intro h
  rw [hLI] at h
  rw [if_pos (of_decide_eq_true h)] at hR
  try refine v64X9 ?_
  refine rtA (by simp only [kR, Tryz.results64, ↓reduceIte, Nat.reduceEqDiff, reduceCtorEq]; first | done | rfl) ([]) ?_
  refine ⟨?_, rfl⟩
  rw [hR]
 ·intro h
  rw [hLI] at h
  rw [if_neg (of_decide_eq_false h)] at hR
  try refine v64X9 ?_
  refine rtA (by simp only [kR, Tryz.results64, ↓reduceIte, Nat.reduceEqDiff, reduceCtorEq]; first | done | rfl) ([]) ?_
  refine ⟨?_, rfl⟩
  rw [hR]
theorem pStrs_d (M : Option (List ByteArray)) : ∃ c : D, pStrs M = (false, [.d c]) := by cases M <;> exact ⟨_, rfl⟩
def k71 := And.intro @Tryz.ntmps71 <| And.intro @Tryz.underlying80 <| And.intro @bld151 <| And.intro @bld79 <| And.intro @elt80 <| And.intro @fld151_0 <| And.intro @fld151_1 <| And.intro @ti151 <| And.intro @ti79 <| @ti80
theorem v71X9 {G G' : Prop} (g : G') (h : Hid G' → G := by intro h9; (first | refine nvB ?_ | refine goA (wr := false) (by simp only [kB, k71, Nat.reduceAdd, Nat.reduceLT, Nat.reduceEqDiff, ↓reduceIte, reduceCtorEq]; first | done | rfl) ?_); (repeat (first | refine nvB ?_ | refine goA (wr := false) (by simp only [kB, k71, Nat.reduceAdd, Nat.reduceLT, Nat.reduceEqDiff, ↓reduceIte, reduceCtorEq]; first | done | rfl) ?_)); exact h9.out) : G := h ⟨g⟩
theorem has_ac (g : Rgn) (hb : PB 1000000 g.base) (hh : g.holes.length ≤ 1000000) (hs : ∀ h ∈ g.holes, PB 1000000 h) (s : ByteArray) (hsz : s.size ≤ 1000000) : AC Tryz.prog 71 [aRgn g, Str s] [] (fun x st => x = B (hasG g s) ∧ st = []) := by
 have h1 := match_ac g.base hb s hsz
 have hR : hasG g s = ((matchP g.base s).isSome && !g.holes.any fun h => (matchP h s).isSome) := rfl
 obtain ⟨b, hs'⟩ := g
 simp only at h1 hR hh hs
 generalize hasG ⟨b, hs'⟩ s = R at hR
 generalize matchP b s = M at h1 hR
 generalize M.isSome = mb at h1 hR
 obtain ⟨pm, hpm⟩ := pStrs_d M
 rw [hpm] at h1
 clear hpm
 obtain ⟨ps, rp⟩ := b
 refine AC_enter Tryz.func71 rfl rfl (by simp only [Tryz.ntmps71, List.length]; omega) ?_
 intro x hx
 simp only [List.range, List.range.loop, List.length, List.zip, List.zipWith, Nat.reduceAdd, Tryz.ntmps71]
 (repeat (first | refine v71X9 ?_ | (refine caA [] (h1) ?_; rintro r st' ⟨rfl, rfl⟩; refine frA ?_)))
 refine ifA ?_ ?_
 ·intro h
  have e : mb = false := by simpa using h
  rw [e, Bool.false_and] at hR
  try refine v71X9 ?_
  refine rtA (by simp only [kR, Tryz.results71, ↓reduceIte, Nat.reduceEqDiff, reduceCtorEq]; first | done | rfl) ([]) ?_
  refine ⟨?_, rfl⟩
  rw [hR]
 intro h
 have e : mb = true := by simpa using h
 rw [e, Bool.true_and] at hR
 try refine v71X9 ?_
 refine T_loop (ι := Nat) (I := fun k => ⟨35, [(1, Str s), (21, aPats hs'), (22, I .i64 hs'.length), (23, I .i64 k)], []⟩)
  (Inv := fun k => k ≤ hs'.length ∧ ((hs'.take k).any fun h => (matchP h s).isSome) = false) (μ := fun k => hs'.length - k) 0 ⟨by omega, rfl⟩ ?_ ?_
 ·exact enA
 rintro k ⟨hk, hall⟩
 try refine v71X9 ?_
 refine ifA ?_ ?_
 ·intro hlt
  have hlt' : k < hs'.length := by simpa using hlt
  obtain ⟨v, hv, he, htk⟩ := round encPat hs' k zPat hlt'
  have hm := match_ac v (hs v (List.mem_of_getElem? hv)) s hsz
  generalize hvb : (matchP v s).isSome = vb at hm
  obtain ⟨pv, hpv⟩ := pStrs_d (matchP v s)
  rw [hpv] at hm
  (repeat (first | refine nvB ?_ | refine goA (wr := false) (by simp only [kB, k71, Nat.reduceAdd, Nat.reduceLT, Nat.reduceEqDiff, ↓reduceIte, reduceCtorEq, he]; first | done | rfl) ?_ | (refine caA [] (hm) ?_; rintro r st' ⟨rfl, rfl⟩; refine frA ?_)))
  refine ifA ?_ ?_
  ·intro hb
   have hn : (hs'.any fun h => (matchP h s).isSome) = true := List.any_eq_true.2 ⟨v, List.mem_of_getElem? hv, by rw [hvb]; exact hb⟩
   rw [hn] at hR
   try refine v71X9 ?_
   refine rtA (by simp only [kR, Tryz.results71, ↓reduceIte, Nat.reduceEqDiff, reduceCtorEq]; first | done | rfl) ([]) ?_
   refine ⟨?_, rfl⟩
   rw [hR]; rfl
  ·intro hb
   try refine v71X9 ?_
   refine ⟨k + 1, ⟨by omega, by rw [htk, List.any_append, hall]; simp [hvb, hb]⟩, by omega, ?_⟩
   exact enA
 intro hge
 have hk' : k = hs'.length := by have : ¬ k < hs'.length := by simpa using hge
                                 omega
 rw [hk', List.take_length] at hall
 rw [hall] at hR
 try refine v71X9 ?_
 refine rtA (by simp only [kR, Tryz.results71, ↓reduceIte, Nat.reduceEqDiff, reduceCtorEq]; first | done | rfl) ([]) ?_
 refine ⟨?_, rfl⟩
 rw [hR]; rfl
def k72 := And.intro @Tryz.ntmps72 <| And.intro @bld147 <| And.intro @bld79 <| And.intro @fld147_1 <| And.intro @fld147_2 <| And.intro @ti147 <| @ti79
theorem v72X9 {G G' : Prop} (g : G') (h : Hid G' → G := by intro h9; (first | refine nvB ?_ | refine goA (wr := false) (by simp only [kB, k72, Nat.reduceAdd, Nat.reduceLT, Nat.reduceEqDiff, ↓reduceIte, reduceCtorEq]; first | done | rfl) ?_); (repeat (first | refine nvB ?_ | refine goA (wr := false) (by simp only [kB, k72, Nat.reduceAdd, Nat.reduceLT, Nat.reduceEqDiff, ↓reduceIte, reduceCtorEq]; first | done | rfl) ?_)); exact h9.out) : G := h ⟨g⟩
theorem fwd_ac (r : Rul) (hl : PB 100000 r.left) (hr : PB 100000 r.right) (s : ByteArray) (hs : s.size ≤ 300000) : AC Tryz.prog 72 [aRul r, Str s] [] (fun x st => x = .tup [pS (fwd r s).1, pB (fwd r s).2] ∧ st = []) := by
 have h1 := check4_ac r (hl.mono (by omega)) (hr.mono (by omega))
 have h2 := match_ac r.left (hl.mono (by omega)) s (by omega)
 have h3 := fill_ac r.right hr
 have hcb := match_caps r.left s
 have hR : fwd r s = if okR r then (match matchP r.left s with | none => (noS, false) | some l => ((fillP r.right l).1, decide ((fillP r.right l).2 = 0))) else (noS, false) := rfl
 have o1 : okR r = decide (checkR r = 0) := rfl
 generalize fwd r s = R at hR
 generalize checkR r = er at h1 o1
 obtain ⟨ex, lf, rg⟩ := r
 simp only at h1 h2 h3 hcb hR
 obtain ⟨ps, rp⟩ := lf
 obtain ⟨qs, rq⟩ := rg
 simp only at h2 h3 hcb hR
 refine AC_enter Tryz.func72 rfl rfl (by simp only [Tryz.ntmps72, List.length]; omega) ?_
 intro x hx
 simp only [List.range, List.range.loop, List.length, List.zip, List.zipWith, Nat.reduceAdd, Tryz.ntmps72]
 (repeat (first | refine v72X9 ?_ | (refine caA [] (h1) ?_; rintro r st' ⟨rfl, rfl⟩; refine frA ?_)))
 refine ifA ?_ ?_
 ·intro h
  have e : ¬ er = 0 := by simpa using h
  rw [o1, decide_eq_false e, if_neg (by simp)] at hR
  try refine v72X9 ?_
  refine rtA (by simp only [kR, Tryz.results72, ↓reduceIte, Nat.reduceEqDiff, reduceCtorEq]; first | done | rfl) ([]) ?_
  refine ⟨?_, rfl⟩
  rw [hR]
 intro h
 have e : er = 0 := by simpa using h
 rw [o1, decide_eq_true e, if_pos rfl] at hR
 cases hm : matchP ⟨ps, rp⟩ s with
 | none =>
   rw [hm] at hR h2
   simp only [pStrs, pB, Option.isSome] at h2
   simp only at hR
   (repeat (first | refine v72X9 ?_ | (refine caA [] (h2) ?_; rintro r st' ⟨rfl, rfl⟩; refine frA ?_)))
   refine ifA ?_ ?_
   ·intro _
    try refine v72X9 ?_
    refine rtA (by simp only [kR, Tryz.results72, ↓reduceIte, Nat.reduceEqDiff, reduceCtorEq]; first | done | rfl) ([]) ?_
    refine ⟨?_, rfl⟩
    rw [hR]
   ·intro h; cases h
 | some l =>
   rw [hm] at hR h2
   simp only [pStrs, pB, Option.isSome] at h2
   simp only at hR
   obtain ⟨c1, c2⟩ := hcb l hm hl.1 hs
   have h4 := h3 l c1 c2
   generalize fillP ⟨qs, rq⟩ l = F at h4 hR
   (repeat (first | refine v72X9 ?_ | (refine caA [] (h2) ?_; rintro r st' ⟨rfl, rfl⟩; refine frA ?_)))
   refine ifA ?_ ?_
   ·intro h; cases h
   intro _
   (repeat (first | refine v72X9 ?_ | (refine caA [] (h4) ?_; rintro r st' ⟨rfl, rfl⟩; refine frA ?_)))
   refine rtA (by simp only [kR, Tryz.results72, ↓reduceIte, Nat.reduceEqDiff, reduceCtorEq]; first | done | rfl) ([]) ?_
   refine ⟨?_, rfl⟩
   rw [hR]
end Go.Proofs.YtmhboloicpieeaaGreatDoor

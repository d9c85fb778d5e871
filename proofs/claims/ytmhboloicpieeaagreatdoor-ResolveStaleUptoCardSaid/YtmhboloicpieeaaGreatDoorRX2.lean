/- A part of the proof. -/
import Derived.Test.YtmhboloicpieeaaGreatDoorRU7
set_option maxRecDepth 100000
set_option maxHeartbeats 4000000
set_option linter.all false
namespace Go.Proofs.YtmhboloicpieeaaGreatDoor
open Go.Ab Tys
variable [Dr]
theorem starB_false {x : ByteArray} {k : Nat} (h1 : 1 ≤ k) (hk : k < x.size) (h : okB (byteAt x k) = false) : starB x = false := by
 cases e : starB x
 ·rfl
 ·simp only [starB, Bool.and_eq_true] at e
  have := range_all _ k (fun k => decide (k = 0) || okB (byteAt x k)) hk e.2
  simp [show ¬ k = 0 by omega, h] at this
theorem starB_true {x : ByteArray} (h2 : (decide (x = noS) || !decide (byteAt x 0 = 42)) = false) (h : ∀ j, 1 ≤ j → j < x.size → okB (byteAt x j) = true) : starB x = true := by
 simp only [starB, h2, Bool.not_false, Bool.true_and, List.all_eq_true]
 intro j hj
 have hj := List.mem_range.1 hj
 by_cases e : j = 0
 ·simp [e]
 ·simp [h j (by omega) hj]
def k178 := And.intro @Tryz.ntmps178 <| And.intro @Tryz.underlying9 <| @ti9
theorem v178X1 {G G' : Prop} (g : G') (h : Hid G' → G := by intro h9; (first | refine nvB ?_ | refine goA (wr := false) (by simp only [kB, kG, kS, k178, Nat.reduceAdd, Nat.reduceLT, Nat.reduceEqDiff, ↓reduceIte, reduceCtorEq]; first | done | rfl) ?_); (repeat (first | refine nvB ?_ | refine goA (wr := false) (by simp only [kB, kG, kS, k178, Nat.reduceAdd, Nat.reduceLT, Nat.reduceEqDiff, ↓reduceIte, reduceCtorEq]; first | done | rfl) ?_)); exact h9.out) : G := h ⟨g⟩
theorem star_ac (a : ByteArray) (hs : a.size ≤ 1000000) : AC Tryz.prog 178 [Str a] [] (fun r st => r = .tup [pS (suf a), pB (starB a)] ∧ st = []) := by
 refine AC_enter Tryz.func178 rfl rfl (by simp only [Tryz.ntmps178, List.length]; omega) ?_
 intro x hx
 simp only [List.range, List.range.loop, List.length, List.zip, List.zipWith, Nat.reduceAdd, Tryz.ntmps178]
 refine nvA ?_
 refine goA (wr := false) (by simp only [kB, kG, kS, k178, Nat.reduceAdd, Nat.reduceLT, Nat.reduceEqDiff, ↓reduceIte, reduceCtorEq]; first | done | rfl) ?_
 refine nvA ?_
 refine TO_go (wr := false) 400 (by simp only [kB, kG, kS, k178, Nat.reduceAdd, Nat.reduceLT, Nat.reduceEqDiff, ↓reduceIte, reduceCtorEq]; first | done | rfl) ?_ ?_
 ·simp only [All, List.cons_append, List.nil_append, and_true, true_and, implies_true, forall_const, Bool.not_eq_true', decide_eq_false_iff_not, cond_eq_ite]
  repeat' (first | exact trivial | refine And.intro ?_ ?_ | intro _ | omega | (rename_i h; exact_mod_cast empty_size (by simpa using h)) | (simp_all; done))
 refine nvA ?_
 refine ifA ?_ ?_
 ·intro h
  have h2 : (decide (a = noS) || !decide (byteAt a 0 = 42)) = true := by rw [← h]; cases decide (a = noS) <;> rfl
  have h3 : starB a = false := by simp only [starB, h2, Bool.not_true, Bool.false_and]
  try refine v178X1 ?_
  refine rtA (by simp only [kR, Tryz.results178, ↓reduceIte, Nat.reduceEqDiff, reduceCtorEq]; first | done | rfl) ([]) ?_
  refine ⟨?_, rfl⟩
  simp only [suf, h3, if_false, Bool.false_eq_true]
 ·intro h
  have h2 : (decide (a = noS) || !decide (byteAt a 0 = 42)) = false := by rw [← h]; cases decide (a = noS) <;> rfl
  have ha : 1 ≤ a.size := empty_size (by intro e; simp [e] at h2)
  try refine v178X1 ?_
  refine T_loop (ι := Nat) (I := fun k => ⟨25, [(0, Str a), (4, I .i64 k)], []⟩) (Inv := fun k => 1 ≤ k ∧ k ≤ a.size ∧ ∀ j, 1 ≤ j → j < k → okB (byteAt a j) = true) (μ := fun k => a.size - k) 1 ⟨by omega, by omega, by omega⟩ ?_ ?_
  ·exact enA
  ·rintro k ⟨h1, hk, hall⟩
   try refine v178X1 ?_
   refine ifA ?_ ?_
   ·intro hlt
    have hlt' : k < a.size := by simpa using hlt
    (repeat (first | refine v178X1 ?_ | (refine caA [] (indexByte_ac _ _) ?_; rintro r st' ⟨rfl, rfl⟩; refine frA ?_)))
    refine ifA ?_ ?_
    ·intro hb
     have hb' : okB (byteAt a k) = false := by simpa [okB, byteAt] using hb
     have h3 := starB_false h1 hlt' hb'
     try refine v178X1 ?_
     refine rtA (by simp only [kR, Tryz.results178, ↓reduceIte, Nat.reduceEqDiff, reduceCtorEq]; first | done | rfl) ([]) ?_
     refine ⟨?_, rfl⟩
     simp only [suf, h3, if_false, Bool.false_eq_true]
    ·intro hb
     try refine v178X1 ?_
     refine ⟨k + 1, ⟨by omega, by omega, ?_⟩, by omega, ?_⟩
     ·intro j j1 hj
      rcases Nat.lt_succ_iff_lt_or_eq.1 hj with hj | rfl
      ·exact hall j j1 hj
      ·simpa [okB, byteAt] using hb
     ·exact enA
   ·intro hge
    have hk' : k = a.size := by have : ¬ k < a.size := by simpa using hge
                                omega
    have h3 := starB_true h2 (fun j u v => hall j u (by omega))
    try refine v178X1 ?_
    refine rtA (by simp only [kR, Tryz.results178, ↓reduceIte, Nat.reduceEqDiff, reduceCtorEq]; first | done | rfl) ([]) ?_
    refine ⟨?_, rfl⟩
    simp only [suf, h3, if_true]
    rfl
def k177 := And.intro @Tryz.ntmps177 <| trivial
theorem v177X1 {G G' : Prop} (g : G') (h : Hid G' → G := by intro h9; (first | refine nvB ?_ | refine goA (wr := false) (by simp only [kB, kG, k177, Nat.reduceAdd, Nat.reduceLT, Nat.reduceEqDiff, ↓reduceIte, reduceCtorEq]; first | done | rfl) ?_); (repeat (first | refine nvB ?_ | refine goA (wr := false) (by simp only [kB, kG, k177, Nat.reduceAdd, Nat.reduceLT, Nat.reduceEqDiff, ↓reduceIte, reduceCtorEq]; first | done | rfl) ?_)); exact h9.out) : G := h ⟨g⟩
theorem part_ac (a : ByteArray) (hs : a.size ≤ 1000000) : AC Tryz.prog 177 [Str a] [] (fun r st => r = B (partB a) ∧ st = []) := by
 have hc := comp_ac a hs
 refine AC_enter Tryz.func177 rfl rfl (by simp only [Tryz.ntmps177, List.length]; omega) ?_
 intro x hx
 simp only [List.range, List.range.loop, List.length, List.zip, List.zipWith, Nat.reduceAdd, Tryz.ntmps177]
 (repeat (first | refine v177X1 ?_ | (refine caA [] (star_ac a hs) ?_; rintro r st' ⟨rfl, rfl⟩; refine frA ?_)))
 refine TO_stepO (wr := false) ([(13, B (comp a))] : List (Nat × AV)) rfl (by simp only [kD, kB, kG, k177, Nat.reduceAdd, Nat.reduceLT, Nat.reduceEqDiff, ↓reduceIte, reduceCtorEq]; first | done | rfl) ?_ ?_
 ·simp only [All, List.cons_append, List.nil_append, InR, List.mem_cons, List.not_mem_nil, or_false, forall_eq_or_imp, forall_eq, clAV, clCs, clC, clCaps, clCap, and_true, true_and, implies_true, List.length_map, List.length_cons, List.length_nil, dArr, cl_arr, tyCs]
  repeat' (first | exact trivial | exact hc | refine And.intro ?_ ?_ | intro _ | assumption | rfl | omega | (simp; done) | (simp_all; done))
 simp only [kP, Nat.reduceEqDiff, ↓reduceIte, reduceCtorEq]
 try refine v177X1 ?_
 refine rtA (by simp only [kR, Tryz.results177, ↓reduceIte, Nat.reduceEqDiff, reduceCtorEq]; first | done | rfl) ([]) ?_
 refine ⟨?_, rfl⟩
 simp only [partB]; cases starB a <;> rfl
def k254 := And.intro @Tryz.ntmps254 <| And.intro @Tryz.underlying9 <| @ti9
theorem slHasSuf_ac (s t : ByteArray) (hs : s.size ≤ 1000000) (ht : t.size ≤ 1000000) : AC Tryz.prog 254 [Str s, Str t] [] (fun r st => r = B (hasSuf s t) ∧ st = []) := by
 refine AC_enter Tryz.func254 rfl rfl (by simp only [Tryz.ntmps254, List.length]; omega) ?_
 intro x hx
 simp only [List.range, List.range.loop, List.length, List.zip, List.zipWith, Nat.reduceAdd, Tryz.ntmps254]
 refine nvA ?_
 refine goA (wr := false) (by simp only [kB, kG, kS, k254, Nat.reduceAdd, Nat.reduceLT, Nat.reduceEqDiff, ↓reduceIte, reduceCtorEq]; first | done | rfl) ?_
 refine nvA ?_
 refine TO_go (wr := false) 400 (by simp only [kB, kG, kS, k254, Nat.reduceAdd, Nat.reduceLT, Nat.reduceEqDiff, ↓reduceIte, reduceCtorEq]; first | done | rfl) ?_ ?_
 ·simp only [All, List.cons_append, List.nil_append, and_true, true_and, implies_true, forall_const, decide_eq_true_eq, InR]
  repeat' (first | exact trivial | refine And.intro ?_ ?_ | intro _ | omega | (simp_all; done))
 refine nvA ?_
 refine rtA (by simp only [kR, Tryz.results254, ↓reduceIte, Nat.reduceEqDiff, reduceCtorEq]; first | done | rfl) ([]) ?_
 refine ⟨?_, rfl⟩
 have e : ((s.size : Int) - t.size).toNat = s.size - t.size := by omega
 cases h : decide (t.size ≤ s.size) <;> simp_all [hasSuf]
def k230 := And.intro @Tryz.ntmps230 <| trivial
theorem v230X1 {G G' : Prop} (g : G') (h : Hid G' → G := by intro h9; (first | refine nvB ?_ | refine goA (wr := false) (by simp only [kB, k230, Nat.reduceAdd, Nat.reduceLT, Nat.reduceEqDiff, ↓reduceIte, reduceCtorEq]; first | done | rfl) ?_); (repeat (first | refine nvB ?_ | refine goA (wr := false) (by simp only [kB, k230, Nat.reduceAdd, Nat.reduceLT, Nat.reduceEqDiff, ↓reduceIte, reduceCtorEq]; first | done | rfl) ?_)); exact h9.out) : G := h ⟨g⟩
theorem hasSuf_ac (s t : ByteArray) (hs : s.size ≤ 1000000) (ht : t.size ≤ 1000000) : AC Tryz.prog 230 [Str s, Str t] [] (fun r st => r = B (hasSuf s t) ∧ st = []) := by
 refine AC_enter Tryz.func230 rfl rfl (by simp only [Tryz.ntmps230, List.length]; omega) ?_
 intro x hx
 simp only [List.range, List.range.loop, List.length, List.zip, List.zipWith, Nat.reduceAdd, Tryz.ntmps230]
 (repeat (first | refine v230X1 ?_ | (refine caA [] (slHasSuf_ac s t hs ht) ?_; rintro r st' ⟨rfl, rfl⟩; refine frA ?_)))
 refine rtA (by simp only [kR, Tryz.results230, ↓reduceIte, Nat.reduceEqDiff, reduceCtorEq]; first | done | rfl) ([]) ?_
 refine ⟨?_, rfl⟩
 rfl
theorem suf_le (a : ByteArray) : (suf a).size ≤ a.size := by
 unfold suf
 split
 ·rw [ByteArray.size_extract]; omega
 ·show 0 ≤ _; omega
theorem hasSuf_le {s t : ByteArray} (h : hasSuf s t = true) : t.size ≤ s.size := by
 simp only [hasSuf, Bool.and_eq_true, decide_eq_true_eq] at h; exact h.1
def k188 := And.intro @Tryz.ntmps188 <| And.intro @Tryz.underlying9 <| @ti9
theorem v188X1 {G G' : Prop} (g : G') (h : Hid G' → G := by intro h9; (first | refine nvB ?_ | refine goA (wr := false) (by simp only [kB, kS, k188, Nat.reduceAdd, Nat.reduceLT, Nat.reduceEqDiff, ↓reduceIte, reduceCtorEq]; first | done | rfl) ?_); (repeat (first | refine nvB ?_ | refine goA (wr := false) (by simp only [kB, kS, k188, Nat.reduceAdd, Nat.reduceLT, Nat.reduceEqDiff, ↓reduceIte, reduceCtorEq]; first | done | rfl) ?_)); exact h9.out) : G := h ⟨g⟩
theorem capt_ac (a c : ByteArray) (hs : a.size ≤ 1000000) (hc : c.size ≤ 1000000) : AC Tryz.prog 188 [Str a, Str c] [] (fun r st => r = .tup [pS (capt a c).1, pB (capt a c).2] ∧ st = []) := by
 have hl := suf_le a
 refine AC_enter Tryz.func188 rfl rfl (by simp only [Tryz.ntmps188, List.length]; omega) ?_
 intro x hx
 simp only [List.range, List.range.loop, List.length, List.zip, List.zipWith, Nat.reduceAdd, Tryz.ntmps188]
 (repeat (first | refine v188X1 ?_ | (refine caA [] (star_ac a hs) ?_; rintro r st' ⟨rfl, rfl⟩; refine frA ?_)))
 refine ifA ?_ ?_
 ·intro h
  have h' : starB a = false := by simpa using h
  try refine v188X1 ?_
  refine rtA (by simp only [kR, Tryz.results188, ↓reduceIte, Nat.reduceEqDiff, reduceCtorEq]; first | done | rfl) ([]) ?_
  refine ⟨?_, rfl⟩
  simp only [capt, h', if_false, Bool.false_eq_true]
 intro h
 have h' : starB a = true := by simpa using h
 (repeat (first | refine v188X1 ?_ | (refine caA [] (hasSuf_ac c (suf a) hc (by omega)) ?_; rintro r st' ⟨rfl, rfl⟩; refine frA ?_)))
 refine ifA ?_ ?_
 ·intro h3
  have h4 : hasSuf c (suf a) = false := by simpa using h3
  try refine v188X1 ?_
  refine rtA (by simp only [kR, Tryz.results188, ↓reduceIte, Nat.reduceEqDiff, reduceCtorEq]; first | done | rfl) ([]) ?_
  refine ⟨?_, rfl⟩
  simp only [capt, h', h4, if_true, if_false, Bool.false_eq_true]
 intro h3
 have h4 : hasSuf c (suf a) = true := by simpa using h3
 have h5 := hasSuf_le h4
 have e : ((c.size : Int) - (suf a).size).toNat = c.size - (suf a).size := by omega
 (repeat (first | refine nvB ?_ | refine goA (wr := false) (by simp only [kB, kS, k188, Nat.reduceAdd, Nat.reduceLT, Nat.reduceEqDiff, ↓reduceIte, reduceCtorEq, e]; first | done | rfl) ?_ | (refine caA [] (comp_ac (c.extract 0 (c.size - (suf a).size)) (by rw [ByteArray.size_extract]; omega)) ?_; rintro r st' ⟨rfl, rfl⟩; refine frA ?_)))
 refine rtA (by simp only [kR, Tryz.results188, ↓reduceIte, Nat.reduceEqDiff, reduceCtorEq]; first | done | rfl) ([]) ?_
 refine ⟨?_, rfl⟩
 simp only [capt, h', h4, if_true]
def k184 := And.intro @Tryz.ntmps184 <| trivial
theorem v184X1 {G G' : Prop} (g : G') (h : Hid G' → G := by intro h9; (first | refine nvB ?_ | refine goA (wr := false) (by simp only [kB, k184, Nat.reduceAdd, Nat.reduceLT, Nat.reduceEqDiff, ↓reduceIte, reduceCtorEq]; first | done | rfl) ?_); (repeat (first | refine nvB ?_ | refine goA (wr := false) (by simp only [kB, k184, Nat.reduceAdd, Nat.reduceLT, Nat.reduceEqDiff, ↓reduceIte, reduceCtorEq]; first | done | rfl) ?_)); exact h9.out) : G := h ⟨g⟩
theorem inside_ac (a b : ByteArray) (ha : a.size ≤ 1000000) (hb0 : b.size ≤ 1000000) : AC Tryz.prog 184 [Str a, Str b] [] (fun r st => r = B (insideB a b) ∧ st = []) := by
 have hl := suf_le a
 have hl2 := suf_le b
 refine AC_enter Tryz.func184 rfl rfl (by simp only [Tryz.ntmps184, List.length]; omega) ?_
 intro x hx
 simp only [List.range, List.range.loop, List.length, List.zip, List.zipWith, Nat.reduceAdd, Tryz.ntmps184]
 (repeat (first | refine v184X1 ?_ | (refine caA [] (star_ac a ha) ?_; rintro r st' ⟨rfl, rfl⟩; refine frA ?_) | (refine caA [] (star_ac b hb0) ?_; rintro r st' ⟨rfl, rfl⟩; refine frA ?_)))
 refine ifA ?_ ?_
 ·intro h
  have h' : starB b = false := by simpa using h
  try refine v184X1 ?_
  refine rtA (by simp only [kR, Tryz.results184, ↓reduceIte, Nat.reduceEqDiff, reduceCtorEq]; first | done | rfl) ([]) ?_
  refine ⟨?_, rfl⟩
  simp only [insideB, h', if_false, Bool.false_eq_true]
 intro h
 have h' : starB b = true := by simpa using h
 try refine v184X1 ?_
 refine ifA ?_ ?_
 ·intro h2
  (repeat (first | refine v184X1 ?_ | (refine caA [] (hasSuf_ac (suf a) (suf b) (by omega) (by omega)) ?_; rintro r st' ⟨rfl, rfl⟩; refine frA ?_)))
  refine rtA (by simp only [kR, Tryz.results184, ↓reduceIte, Nat.reduceEqDiff, reduceCtorEq]; first | done | rfl) ([]) ?_
  refine ⟨?_, rfl⟩
  simp only [insideB, h', h2, if_true]
 intro h2
 have h2' : starB a = false := by simpa using h2
 (repeat (first | refine v184X1 ?_ | (refine caA [] (capt_ac b a hb0 ha) ?_; rintro r st' ⟨rfl, rfl⟩; refine frA ?_)))
 refine rtA (by simp only [kR, Tryz.results184, ↓reduceIte, Nat.reduceEqDiff, reduceCtorEq]; first | done | rfl) ([]) ?_
 refine ⟨?_, rfl⟩
 simp only [insideB, h', h2', if_true, if_false, Bool.false_eq_true]
def PB (n : Nat) (p : Pat) : Prop := p.parts.length ≤ n ∧ ∀ s ∈ p.parts, s.size ≤ n
theorem PB.get {n : Nat} {p : Pat} (h : PB n p) (i : Nat) : (p.parts.getD i noS).size ≤ n := by
 rw [List.getD_eq_getElem?_getD]
 cases e : p.parts[i]? with
 | none => exact Nat.zero_le _
 | some s => exact h.2 s (List.mem_of_getElem? e)
theorem PB.mono {n m : Nat} {p : Pat} (h : PB n p) (hm : n ≤ m) : PB m p := ⟨Nat.le_trans h.1 hm, fun s hs => Nat.le_trans (h.2 s hs) hm⟩
def k125 := And.intro @Tryz.ntmps125 <| And.intro @Tryz.underlying77 <| And.intro @bld79 <| And.intro @elt77 <| And.intro @fld79_0 <| And.intro @fld79_1 <| And.intro @ti4 <| And.intro @ti77 <| And.intro @ti79 <| @ti9
theorem v125X2 {G G' : Prop} (g : G') (h : Hid G' → G := by intro h9; (first | refine nvB ?_ | refine goA (wr := false) (by simp only [kB, kG, kS, k125, Nat.reduceAdd, Nat.reduceLT, Nat.reduceEqDiff, ↓reduceIte, reduceCtorEq]; first | done | rfl) ?_); (repeat (first | refine nvB ?_ | refine goA (wr := false) (by simp only [kB, kG, kS, k125, Nat.reduceAdd, Nat.reduceLT, Nat.reduceEqDiff, ↓reduceIte, reduceCtorEq]; first | done | rfl) ?_)); exact h9.out) : G := h ⟨g⟩
theorem check3_ac (p : Pat) (hp : PB 1000000 p) : AC Tryz.prog 125 [aPat p] [] (fun r st => r = I .i64 (checkP p) ∧ st = []) := by
 obtain ⟨ps, rs⟩ := p
 have h1 := hp.1
 have hb0 := hp.get 0
 simp only at h1 hb0
 have e0 : ((ps.map encS).getD (Int.toNat 0) []).getD 0 (D.v (.string .empty)) = D.v (.string (ps.getD 0 noS)) := by cases ps <;> rfl
 have hc : AC Tryz.prog 176 [.c (.d (((ps.map encS).getD (Int.toNat 0) []).getD 0 (D.v (.string .empty))))] [] (fun r st => r = B (comp (ps.getD 0 noS)) ∧ st = []) := by rw [e0]; exact comp_ac _ hb0
 refine AC_enter Tryz.func125 rfl rfl (by simp only [Tryz.ntmps125, List.length]; omega) ?_
 intro x hx
 simp only [List.range, List.range.loop, List.length, List.zip, List.zipWith, Nat.reduceAdd, Tryz.ntmps125]
 try refine v125X2 ?_
 refine TO_stepO (wr := false) ([(25, B (comp (ps.getD 0 noS)))] : List (Nat × AV)) rfl (by simp only [kD, kB, kG, kS, k125, Nat.reduceAdd, Nat.reduceLT, Nat.reduceEqDiff, ↓reduceIte, reduceCtorEq]; first | done | rfl) ?_ ?_
 ·simp only [All, List.cons_append, List.nil_append, InR, List.mem_cons, List.not_mem_nil, or_false, forall_eq_or_imp, forall_eq, clAV, clCs, clC, clCaps, clCap, and_true, true_and, implies_true, List.length_map, List.length_cons, List.length_nil, dArr, cl_arr, tyCs]
  repeat' (first | exact trivial | exact hc | refine And.intro ?_ ?_ | intro _ | assumption | rfl | omega | (simp; done) | (simp_all; done))
 simp only [kP, Nat.reduceEqDiff, ↓reduceIte, reduceCtorEq]
 try refine v125X2 ?_
 generalize hq : comp (ps.getD 0 noS) = q
 refine ifA ?_ ?_
 ·intro h
  have h' : ps.length = 0 ∨ (ps.length = 1 ∧ rs = false) ∨ q = false := by
   by_cases e : ps.length = 0
   ·exact .inl e
   have e' : decide ((ps.length : Int) = 0) = false := decide_eq_false (by omega)
   simp only [e', cond_false] at h
   by_cases e1 : ps.length = 1
   ·cases rs
    ·exact .inr (.inl ⟨e1, rfl⟩)
    ·simp only [Bool.not_true, cond_false, Bool.cond_false_right, Bool.and_false] at h
     exact .inr (.inr (by simpa using h))
   ·have e2 : decide ((ps.length : Int) = 1) = false := decide_eq_false (by omega)
    simp only [e2, cond_false] at h
    exact .inr (.inr (by simpa using h))
  try refine v125X2 ?_
  refine rtA (by simp only [kR, Tryz.results125, ↓reduceIte, Nat.reduceEqDiff, reduceCtorEq]; first | done | rfl) ([]) ?_
  refine ⟨?_, rfl⟩
  simp only [checkP, hq]
  rw [if_pos h']
 intro h
 have h' : ¬ (ps.length = 0 ∨ (ps.length = 1 ∧ rs = false) ∨ q = false) := by
  by_cases e : ps.length = 0
  ·have e' : decide ((ps.length : Int) = 0) = true := decide_eq_true (by omega)
   simp only [e', cond_true] at h; cases h
  have e' : decide ((ps.length : Int) = 0) = false := decide_eq_false (by omega)
  simp only [e', cond_false] at h
  by_cases e1 : ps.length = 1
  ·have e2 : decide ((ps.length : Int) = 1) = true := decide_eq_true (by omega)
   simp only [e2, cond_true] at h
   rintro (h9 | ⟨_, h9⟩ | h9)
   ·exact e h9
   ·rw [h9] at h; cases h
   ·rw [h9] at h; cases rs <;> cases h
  ·have e2 : decide ((ps.length : Int) = 1) = false := decide_eq_false (by omega)
   simp only [e2, cond_false] at h
   rintro (h9 | ⟨h9, _⟩ | h9)
   ·exact e h9
   ·exact e1 h9
   ·rw [h9] at h; cases h
 have hpos : 1 ≤ ps.length := by rcases Nat.eq_zero_or_pos ps.length with e | e; · exact absurd (.inl e) h'
                                 exact e
 try refine v125X2 ?_
 have hl : (ps.drop 1).length = ps.length - 1 := by simp
 refine T_loop (ι := Nat) (I := fun k => ⟨44, [(1, .c (.ptr 1 0)), (30, .c (.d (.ps 1 ((ps.drop 1).map encS)))), (31, I .i64 (ps.drop 1).length), (32, I .i64 k)], [(1, .box ((encPat ⟨ps, rs⟩).map C.d))]⟩)
  (Inv := fun k => k ≤ (ps.drop 1).length ∧ ((ps.drop 1).take k).all partB = true) (μ := fun k => (ps.drop 1).length - k) 0 ⟨by omega, by simp⟩ ?_ ?_
 ·exact enA
 rintro k ⟨hk, hall⟩
 try refine v125X2 ?_
 refine ifA ?_ ?_
 ·intro hlt
  have hlt' : k < (ps.drop 1).length := by simpa using hlt
  obtain ⟨v, hv, he, htk⟩ := round encS (ps.drop 1) k noS hlt'
  have hvs : v.size ≤ 1000000 := hp.2 v (List.mem_of_mem_drop (List.mem_of_getElem? hv))
  (repeat (first | refine nvB ?_ | refine goA (wr := false) (by simp only [kB, kG, kS, k125, Nat.reduceAdd, Nat.reduceLT, Nat.reduceEqDiff, ↓reduceIte, reduceCtorEq, he]; first | done | rfl) ?_ | (refine caA [] (part_ac v hvs) ?_; rintro r st' ⟨rfl, rfl⟩; refine frA ?_)))
  refine ifA ?_ ?_
  ·intro hb
   have hb' : partB v = false := by simpa using hb
   have hn : ¬ (ps.drop 1).all partB = true := by
    intro e
    rw [List.all_eq_true] at e; rw [e v (List.mem_of_getElem? hv)] at hb'; cases hb'
   try refine v125X2 ?_
   refine rtA (by simp only [kR, Tryz.results125, ↓reduceIte, Nat.reduceEqDiff, reduceCtorEq]; first | done | rfl) ([]) ?_
   refine ⟨?_, rfl⟩
   simp only [checkP, hq]
   rw [if_neg h', if_neg hn]
  ·intro hb
   have hb' : partB v = true := by simpa using hb
   try refine v125X2 ?_
   refine ⟨k + 1, ⟨by omega, ?_⟩, by omega, ?_⟩
   ·rw [htk, List.all_append, hall]; simp [hb']
   ·exact enA
 intro hge
 have hk' : k = (ps.drop 1).length := by have : ¬ k < (ps.drop 1).length := by simpa using hge
                                         omega
 rw [hk', List.take_length] at hall
 try refine v125X2 ?_
 refine ifA ?_ ?_
 ·intro hm
  have hm' : 12 < ps.length := by have := of_decide_eq_true hm
                                  omega
  try refine v125X2 ?_
  refine rtA (by simp only [kR, Tryz.results125, ↓reduceIte, Nat.reduceEqDiff, reduceCtorEq]; first | done | rfl) ([]) ?_
  refine ⟨?_, rfl⟩
  simp only [checkP, hq]
  rw [if_neg h', if_pos hall, if_pos hm']
 ·intro hm
  have hm' : ¬ 12 < ps.length := by have := of_decide_eq_false hm
                                    omega
  try refine v125X2 ?_
  refine rtA (by simp only [kR, Tryz.results125, ↓reduceIte, Nat.reduceEqDiff, reduceCtorEq]; first | done | rfl) ([]) ?_
  refine ⟨?_, rfl⟩
  simp only [checkP, hq]
  rw [if_neg h', if_pos hall, if_neg hm']
theorem stars_nil : stars [] = 0 := rfl
def k126 := And.intro @Tryz.ntmps126 <| And.intro @Tryz.underlying77 <| And.intro @bld79 <| And.intro @elt77 <| And.intro @fld79_0 <| And.intro @fld79_1 <| And.intro @ti4 <| And.intro @ti77 <| And.intro @ti79 <| @ti9
theorem v126X2 {G G' : Prop} (g : G') (h : Hid G' → G := by intro h9; (first | refine nvB ?_ | refine goA (wr := false) (by simp only [kB, k126, Nat.reduceAdd, Nat.reduceLT, Nat.reduceEqDiff, ↓reduceIte, reduceCtorEq]; first | done | rfl) ?_); (repeat (first | refine nvB ?_ | refine goA (wr := false) (by simp only [kB, k126, Nat.reduceAdd, Nat.reduceLT, Nat.reduceEqDiff, ↓reduceIte, reduceCtorEq]; first | done | rfl) ?_)); exact h9.out) : G := h ⟨g⟩
theorem kinds_ac (p : Pat) (hp : PB 1000000 p) : AC Tryz.prog 126 [aPat p] [] (fun r st => r = .tup [pI (stars p.parts), pB p.rest] ∧ st = []) := by
 obtain ⟨ps, rs⟩ := p
 have h1 := hp.1
 simp only at h1
 refine AC_enter Tryz.func126 rfl rfl (by simp only [Tryz.ntmps126, List.length]; omega) ?_
 intro x hx
 simp only [List.range, List.range.loop, List.length, List.zip, List.zipWith, Nat.reduceAdd, Tryz.ntmps126]
 try refine v126X2 ?_
 refine T_loop (ι := Nat) (I := fun k => ⟨28, [(1, .c (.ptr 1 0)), (4, I .i64 (stars (ps.take k))), (10, aStrs ps), (11, I .i64 ps.length), (12, I .i64 k)], [(1, .box ((encPat ⟨ps, rs⟩).map C.d))]⟩)
  (Inv := fun k => k ≤ ps.length) (μ := fun k => ps.length - k) 0 (by omega) ?_ ?_
 ·(refine Ent_sub (fun i => i) rfl ?_ ⟨?_, ?_, ?_, keepI hx (by simp [domOf, Ab.get])⟩ <;> first | (simp only [kE, dArr, ↓reduceIte, Nat.reduceEqDiff, reduceCtorEq, stars_nil]; done) | simp [renAV_id, renAO_id, flat_up, Ab.get, clAV, clC, clCs, clAO, cl_f1, cl_s1, cl_f2, cl_s2, cl_a1, domOf, List.flatten, stars_nil])
 intro k hk
 try refine v126X2 ?_
 refine ifA ?_ ?_
 ·intro hlt
  have hlt' : k < ps.length := by simpa using hlt
  obtain ⟨v, hv, he, htk⟩ := round encS ps k noS hlt'
  have hvs : v.size ≤ 1000000 := hp.2 v (List.mem_of_getElem? hv)
  have hst : stars (ps.take k) ≤ 1000000 := Nat.le_trans (filter_take_le _ ps k) h1
  (repeat (first | refine nvB ?_ | refine goA (wr := false) (by simp only [kB, k126, Nat.reduceAdd, Nat.reduceLT, Nat.reduceEqDiff, ↓reduceIte, reduceCtorEq, he]; first | done | rfl) ?_ | (refine caA [] (star_ac v hvs) ?_; rintro r st' ⟨rfl, rfl⟩; refine frA ?_)))
  refine ifA ?_ ?_
  ·intro hb
   try refine v126X2 ?_
   refine ⟨k + 1, by omega, by omega, ?_⟩
   have e : stars (ps.take (k + 1)) = stars (ps.take k) + 1 := by rw [htk]; simp [stars, hb]
   rw [e]
   exact enA
  ·intro hb
   try refine v126X2 ?_
   refine ⟨k + 1, by omega, by omega, ?_⟩
   have e : stars (ps.take (k + 1)) = stars (ps.take k) := by rw [htk]; simp [stars, hb]
   rw [e]
   exact enA
 intro hge
 have hk' : k = ps.length := by have : ¬ k < ps.length := by simpa using hge
                                omega
 rw [hk', List.take_length]
 refine nvA ?_
 refine drA (wr := false) ([] : List (Nat × AV)) (by simp only [kD, kB, k126, Nat.reduceAdd, Nat.reduceLT, Nat.reduceEqDiff, ↓reduceIte, reduceCtorEq]; first | done | rfl) ?_ ?_
 ·exact obN
 try refine v126X2 ?_
 refine rtA (by simp only [kR, Tryz.results126, ↓reduceIte, Nat.reduceEqDiff, reduceCtorEq]; first | done | rfl) ([]) ?_
 refine ⟨?_, rfl⟩
 rfl
def k189 := And.intro @Tryz.ntmps189 <| And.intro @bld79 <| @ti79
theorem v189X2 {G G' : Prop} (g : G') (h : Hid G' → G := by intro h9; (first | refine nvB ?_ | refine goA (wr := false) (by simp only [kB, k189, Nat.reduceAdd, Nat.reduceLT, Nat.reduceEqDiff, ↓reduceIte, reduceCtorEq]; first | done | rfl) ?_); (repeat (first | refine nvB ?_ | refine goA (wr := false) (by simp only [kB, k189, Nat.reduceAdd, Nat.reduceLT, Nat.reduceEqDiff, ↓reduceIte, reduceCtorEq]; first | done | rfl) ?_)); exact h9.out) : G := h ⟨g⟩
theorem wilds_ac (p : Pat) (hp : PB 1000000 p) : AC Tryz.prog 189 [aPat p] [] (fun r st => r = I .i64 (wilds p) ∧ st = []) := by
 have hst : stars p.parts ≤ 1000000 := Nat.le_trans (List.length_filter_le ..) hp.1
 refine AC_enter Tryz.func189 rfl rfl (by simp only [Tryz.ntmps189, List.length]; omega) ?_
 intro x hx
 simp only [List.range, List.range.loop, List.length, List.zip, List.zipWith, Nat.reduceAdd, Tryz.ntmps189]
 (repeat (first | refine v189X2 ?_ | (refine caA [] (kinds_ac p hp) ?_; rintro r st' ⟨rfl, rfl⟩; refine frA ?_)))
 refine ifA ?_ ?_
 ·intro h
  try refine v189X2 ?_
  refine rtA (by simp only [kR, Tryz.results189, ↓reduceIte, Nat.reduceEqDiff, reduceCtorEq]; first | done | rfl) ([]) ?_
  refine ⟨?_, rfl⟩
  simp [wilds, h]
 ·intro h
  try refine v189X2 ?_
  refine rtA (by simp only [kR, Tryz.results189, ↓reduceIte, Nat.reduceEqDiff, reduceCtorEq]; first | done | rfl) ([]) ?_
  refine ⟨?_, rfl⟩
  simp [wilds, h]
end Go.Proofs.YtmhboloicpieeaaGreatDoor

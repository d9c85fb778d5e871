/- A part of the proof. -/
import Derived.Ground.NamesProg
import Derived.Shelf.Lay
import Derived.Test.YtmhboloicpieeaaGreatDoorRX2
set_option maxRecDepth 100000
set_option maxHeartbeats 8000000
set_option linter.all false
namespace Go.Proofs
open Go.Shelf
shelf_lay Lays.n156 Nm 156 at Tryz as Tryz.lays156
theorem Tryz.bex156 : Builder.Extra Tryz.prog Tryz.lays156_ren where
 sizeBuilder := by kernel_rfl
 liesBuilder := by kernel_rfl
 t5 := Tryz.underlying5
 a5 := Tryz.isAgg5
 z5 := Tryz.sizeOf5
 v5 := Tryz.zeroValue5
 infoByte := by kernel_rfl
 cellsByte := by kernel_rfl
 sizeByte := by kernel_rfl
 neB5 := by decide
end Go.Proofs
namespace Go.Proofs.YtmhboloicpieeaaGreatDoor
open Go.Ab Tys
variable [DrF]
theorem joinS_ac (l : List ByteArray) (sep : ByteArray) (hl : l.length ≤ 1000000) (hs : (joinB l sep).size ≤ 140737488355328) :
  AC Tryz.prog 173 [aStrs l, Str sep] [] (fun r st => r = Str (joinB l sep) ∧ st = []) :=
 AC_join (P := Tryz.prog) ⟨_, Tryz.func173, by kernel_rfl, by kernel_rfl⟩ (by kernel_rfl) Tryz.lays156 Tryz.bex156 l sep hl hs
end Go.Proofs.YtmhboloicpieeaaGreatDoor
namespace Go.Proofs.YtmhboloicpieeaaGreatDoor
open Go.Ab Tys
variable [DrF]
theorem lens_le {n : Nat} : ∀ l : List ByteArray, (∀ s ∈ l, s.size ≤ n) → Lib.lens (l.map (·.data.toList)) ≤ l.length * n
 | [], _ => by simp [Lib.lens]
 | a :: l, h => by
   have ih := lens_le l fun s hs => h s (by simp [hs])
   have ha : a.data.size ≤ n := h a (by simp)
   simp only [Lib.lens, List.map_cons, List.sum_cons, List.length_cons, Nat.add_mul, Nat.one_mul, Array.length_toList] at ih ⊢
   omega
theorem joinB_le {n : Nat} (l : List ByteArray) (h : ∀ s ∈ l, s.size ≤ n) : (joinB l slash).size ≤ l.length * (n + 1) := by
 have e : (joinB l slash).size = (Lib.join (l.map (·.data.toList)) [47]).length := by simp [joinB, ByteArray.size, slash]
 rw [e]
 cases l with
 | nil => simp [Lib.join_nil]
 | cons a l =>
   have := lens_le (a :: l) h
   rw [List.map_cons, Lib.join_length, ← List.map_cons (f := fun s : ByteArray => s.data.toList)]
   simp only [List.length_cons, List.length_nil, List.length_map, Nat.mul_add, Nat.mul_one] at this ⊢
   omega
theorem joinB_big (l : List ByteArray) (hl : l.length ≤ 1000000) (h : ∀ s ∈ l, s.size ≤ 1000000) : (joinB l slash).size ≤ 140737488355328 := by
 have h1 := joinB_le l h
 have h2 : l.length * (1000000 + 1) ≤ 1000000 * (1000000 + 1) := Nat.mul_le_mul_right _ hl
 omega
def k183 := And.intro @Tryz.ntmps183 <| And.intro @Tryz.underlying4 <| And.intro @Tryz.underlying77 <| And.intro @bld79 <| And.intro @elt77 <| And.intro @fld79_0 <| And.intro @fld79_1 <| And.intro @ti4 <| And.intro @ti77 <| And.intro @ti79 <| @ti9
theorem v183X3 {G G' : Prop} (g : G') (h : Hid G' → G := by intro h9; (first | refine nvB ?_ | refine goA (wr := false) (by simp only [kB, kG, k183, Nat.reduceAdd, Nat.reduceLT, Nat.reduceEqDiff, ↓reduceIte, reduceCtorEq]; first | done | rfl) ?_); (repeat (first | refine nvB ?_ | refine goA (wr := false) (by simp only [kB, kG, k183, Nat.reduceAdd, Nat.reduceLT, Nat.reduceEqDiff, ↓reduceIte, reduceCtorEq]; first | done | rfl) ?_)); exact h9.out) : G := h ⟨g⟩
theorem same3_ac (p q : Pat) (hp : p.parts.length ≤ 1000000) (hq : q.parts.length ≤ 1000000) : AC Tryz.prog 183 [aPat p, aPat q] [] (fun r st => r = B (decide (p = q)) ∧ st = []) := by
 obtain ⟨ps, rp⟩ := p
 obtain ⟨qs, rq⟩ := q
 simp only at hp hq
 refine AC_enter Tryz.func183 rfl rfl (by simp only [Tryz.ntmps183, List.length]; omega) ?_
 intro x hx
 simp only [List.range, List.range.loop, List.length, List.zip, List.zipWith, Nat.reduceAdd, Tryz.ntmps183]
 try refine v183X3 ?_
 refine ifA ?_ ?_
 ·intro h
  have hne : ¬ ((⟨ps, rp⟩ : Pat) = ⟨qs, rq⟩) := by
   intro e
   simp only [Pat.mk.injEq] at e
   obtain ⟨rfl, rfl⟩ := e
   simp at h
  try refine v183X3 ?_
  refine rtA (by simp only [kR, Tryz.results183, ↓reduceIte, Nat.reduceEqDiff, reduceCtorEq]; first | done | rfl) ([]) ?_
  refine ⟨?_, rfl⟩
  simp [hne]
 intro h
 have h1 : rp = rq ∧ ps.length = qs.length := by
  by_cases e : rp = rq
  ·refine ⟨e, ?_⟩
   subst e
   have h : (ps.length : Int) = qs.length := by simpa using h
   omega
  ·simp [e] at h
 obtain ⟨rfl, hlen⟩ := h1
 try refine v183X3 ?_
 refine T_loop (ι := Nat) (I := fun k => ⟨37, [(3, .c (.ptr 3 0)), (22, aStrs ps), (23, I .i64 ps.length), (24, I .i64 k)], [(3, .box ((encPat ⟨qs, rp⟩).map C.d))]⟩)
  (Inv := fun k => k ≤ ps.length ∧ ps.take k = qs.take k) (μ := fun k => ps.length - k) 0 ⟨by omega, by simp⟩ ?_ ?_
 ·exact enA
 rintro k ⟨hk, hall⟩
 try refine v183X3 ?_
 refine ifA ?_ ?_
 ·intro hlt
  have hlt' : k < ps.length := by simpa using hlt
  obtain ⟨v, hv, he, htk⟩ := round encS ps k noS hlt'
  obtain ⟨u, hu, he2, htk2⟩ := round encS qs k noS (by omega)
  (repeat (first | refine nvB ?_ | refine goA (wr := false) (by simp only [kB, kG, k183, Nat.reduceAdd, Nat.reduceLT, Nat.reduceEqDiff, ↓reduceIte, reduceCtorEq, he, he2]; first | done | rfl) ?_))
  refine ifA ?_ ?_
  ·intro hb
   have hb' : ¬ v = u := by simpa using hb
   have hne : ¬ ((⟨ps, rp⟩ : Pat) = ⟨qs, rp⟩) := by
    intro e
    simp only [Pat.mk.injEq, and_true] at e
    subst e
    rw [hv] at hu; cases hu; exact hb' rfl
   try refine v183X3 ?_
   refine rtA (by simp only [kR, Tryz.results183, ↓reduceIte, Nat.reduceEqDiff, reduceCtorEq]; first | done | rfl) ([]) ?_
   refine ⟨?_, rfl⟩
   simp [hne]
  ·intro hb
   have hb' : v = u := by simpa using hb
   try refine v183X3 ?_
   refine ⟨k + 1, ⟨by omega, ?_⟩, by omega, ?_⟩
   ·rw [htk, htk2, hall, hb']
   ·exact enA
 intro hge
 have hk' : k = ps.length := by have : ¬ k < ps.length := by simpa using hge
                                omega
 subst hk'
 rw [List.take_length, hlen, List.take_length] at hall
 subst hall
 try refine v183X3 ?_
 refine rtA (by simp only [kR, Tryz.results183, ↓reduceIte, Nat.reduceEqDiff, reduceCtorEq]; first | done | rfl) ([]) ?_
 refine ⟨?_, rfl⟩
 simp
def k191 := And.intro @Tryz.ntmps191 <| trivial
theorem v191X3 {G G' : Prop} (g : G') (h : Hid G' → G := by intro h9; (first | refine nvB ?_ | refine goA (wr := false) (by simp only [kB, k191, Nat.reduceAdd, Nat.reduceLT, Nat.reduceEqDiff, ↓reduceIte, reduceCtorEq]; first | done | rfl) ?_); (repeat (first | refine nvB ?_ | refine goA (wr := false) (by simp only [kB, k191, Nat.reduceAdd, Nat.reduceLT, Nat.reduceEqDiff, ↓reduceIte, reduceCtorEq]; first | done | rfl) ?_)); exact h9.out) : G := h ⟨g⟩
theorem join_ac (l : List ByteArray) (hl : l.length ≤ 1000000) (hs : ∀ s ∈ l, s.size ≤ 1000000) : AC Tryz.prog 191 [aStrs l] [] (fun r st => r = Str (dslash ++ joinB l slash) ∧ st = []) := by
 refine AC_enter Tryz.func191 rfl rfl (by simp only [Tryz.ntmps191, List.length]; omega) ?_
 intro x hx
 simp only [List.range, List.range.loop, List.length, List.zip, List.zipWith, Nat.reduceAdd, Tryz.ntmps191]
 have hbig := joinB_le l hs
 have hbig2 : l.length * (1000000 + 1) ≤ 1000000 * (1000000 + 1) := Nat.mul_le_mul_right _ hl
 have hds : ByteArray.size { data := #[47, 47] } = 2 := rfl
 (repeat (first | refine v191X3 ?_ | (refine caA [] (joinS_ac l slash hl (joinB_big l hl hs)) ?_; rintro r st' ⟨rfl, rfl⟩; refine frA ?_)))
 refine TO_concat (by simp) (by simp only [kV, ↓reduceIte, Nat.reduceEqDiff, reduceCtorEq]; first | done | rfl) (by simp only [kV, ↓reduceIte, Nat.reduceEqDiff, reduceCtorEq]; first | done | rfl) ?_ ?_
 ·omega
 try refine v191X3 ?_
 refine rtA (by simp only [kR, Tryz.results191, ↓reduceIte, Nat.reduceEqDiff, reduceCtorEq]; first | done | rfl) ([]) ?_
 refine ⟨?_, rfl⟩
 rfl
def k181 := And.intro @Tryz.ntmps181 <| And.intro @bld79 <| And.intro @fld79_0 <| And.intro @fld79_1 <| And.intro @ti4 <| And.intro @ti77 <| @ti79
theorem v181X3 {G G' : Prop} (g : G') (h : Hid G' → G := by intro h9; (first | refine nvB ?_ | refine goA (wr := false) (by simp only [kB, k181, Nat.reduceAdd, Nat.reduceLT, Nat.reduceEqDiff, ↓reduceIte, reduceCtorEq]; first | done | rfl) ?_); (repeat (first | refine nvB ?_ | refine goA (wr := false) (by simp only [kB, k181, Nat.reduceAdd, Nat.reduceLT, Nat.reduceEqDiff, ↓reduceIte, reduceCtorEq]; first | done | rfl) ?_)); exact h9.out) : G := h ⟨g⟩
theorem text_ac (p : Pat) (hp : PB 1000000 p) : AC Tryz.prog 181 [aPat p] [] (fun r st => r = Str (textP p) ∧ st = []) := by
 obtain ⟨ps, rs⟩ := p
 refine AC_enter Tryz.func181 rfl rfl (by simp only [Tryz.ntmps181, List.length]; omega) ?_
 intro x hx
 simp only [List.range, List.range.loop, List.length, List.zip, List.zipWith, Nat.reduceAdd, Tryz.ntmps181]
 have hbig := joinB_le ps hp.2
 have hbig2 : ps.length * (1000000 + 1) ≤ 1000000 * (1000000 + 1) := Nat.mul_le_mul_right _ hp.1
 have hds : ByteArray.size { data := #[47, 47] } = 2 := rfl
 have hds2 : ByteArray.size { data := #[47, 46, 46, 46] } = 4 := rfl
 (repeat (first | refine v181X3 ?_ | (refine caA [] (joinS_ac ps slash hp.1 (joinB_big ps hp.1 hp.2)) ?_; rintro r st' ⟨rfl, rfl⟩; refine frA ?_)))
 refine TO_concat (by simp) (by simp only [kV, ↓reduceIte, Nat.reduceEqDiff, reduceCtorEq]; first | done | rfl) (by simp only [kV, ↓reduceIte, Nat.reduceEqDiff, reduceCtorEq]; first | done | rfl) ?_ ?_
 ·omega
 try refine v181X3 ?_
 refine ifA ?_ ?_
 ·intro h
  try refine v181X3 ?_
  refine TO_concat (by simp) (by simp only [kV, ↓reduceIte, Nat.reduceEqDiff, reduceCtorEq]; first | done | rfl) (by simp only [kV, ↓reduceIte, Nat.reduceEqDiff, reduceCtorEq]; first | done | rfl) ?_ ?_
  ·rw [ByteArray.size_append]; omega
  try refine v181X3 ?_
  refine rtA (by simp only [kR, Tryz.results181, ↓reduceIte, Nat.reduceEqDiff, reduceCtorEq]; first | done | rfl) ([]) ?_
  refine ⟨?_, rfl⟩
  simp only [textP, h, if_true]
 ·intro h
  try refine v181X3 ?_
  refine rtA (by simp only [kR, Tryz.results181, ↓reduceIte, Nat.reduceEqDiff, reduceCtorEq]; first | done | rfl) ([]) ?_
  refine ⟨?_, rfl⟩
  simp only [textP, h, if_false, Bool.false_eq_true]
theorem fits_cond {p : Pat} {l : List ByteArray} : (bif bif bif bif !decide (checkP p = 0) then true else false then true else decide ((l.length : Int) < p.parts.length) then true else bif !p.rest then decide ((p.parts.length : Int) < l.length) else false then true else
  bif p.rest then decide ((l.length : Int) = p.parts.length) else false) = !fitsP p l := by
 unfold fitsP okP
 rw [show decide ((l.length : Int) < p.parts.length) = decide (l.length < p.parts.length) by simp, show decide ((p.parts.length : Int) < l.length) = decide (p.parts.length < l.length) by simp,
  show decide ((l.length : Int) = p.parts.length) = decide (l.length = p.parts.length) from decide_eq_decide.2 (by omega)]
 generalize decide (l.length < p.parts.length) = a
 generalize decide (p.parts.length < l.length) = b
 generalize decide (l.length = p.parts.length) = c
 generalize decide (checkP p = 0) = e
 generalize p.rest = r
 cases a <;> cases b <;> cases c <;> cases e <;> cases r <;> rfl
theorem okP_pos {p : Pat} (h : okP p = true) : 1 ≤ p.parts.length := by
 unfold okP checkP at h
 rw [decide_eq_true_eq] at h
 split at h
 ·omega
 ·rename_i h1
  simp only [not_or] at h1
  omega
theorem capsT_len (ps ls : List ByteArray) : ∀ k, (capsT ps ls k).length ≤ k
 | 0 => Nat.le_refl _
 | k + 1 => by
   have := capsT_len ps ls k
   simp only [capsT, List.length_append]
   split <;> simp <;> omega
theorem capsOK_succ (ps ls : List ByteArray) (k : Nat) : capsOK ps ls (k + 1) = (capsOK ps ls k && (capt (ps.getD k noS) (ls.getD k noS)).2) := by
 simp [capsOK, List.range_succ, List.all_append]
theorem capsOK_no {ps ls : List ByteArray} {k n : Nat} (hk : k < n) (h : (capt (ps.getD k noS) (ls.getD k noS)).2 = false) : capsOK ps ls n = false := by
 cases e : capsOK ps ls n
 ·rfl
 ·have := range_all n k _ hk e
  rw [h] at this; cases this
theorem path_len {s : ByteArray} {l : List ByteArray} (h : path? s = some l) : l.length ≤ s.size + 1 := by
 unfold path? at h
 split at h
 ·rename_i l' hpp
  split at h
  ·cases h
  ·cases h
   unfold parts? at hpp
   split at hpp
   ·split at hpp
    ·cases hpp
     have h1 := split_len (s.extract 2 s.size)
     rw [ByteArray.size_extract] at h1
     omega
    ·cases hpp
   ·cases hpp
 ·cases h
theorem getD_some {α : Type} {l : List α} {k : Nat} {v z : α} (h : l[k]? = some v) : l.getD k z = v := by simp [List.getD_eq_getElem?_getD, h]
def k134 := And.intro @Tryz.ntmps134 <| And.intro @Tryz.underlying77 <| And.intro @bld79 <| And.intro @elt77 <| And.intro @fld79_0 <| And.intro @fld79_1 <| And.intro @ti4 <| And.intro @ti77 <| And.intro @ti79 <| @ti9
theorem v134X3 {G G' : Prop} (g : G') (h : Hid G' → G := by intro h9; (first | refine nvB ?_ | refine goA (wr := false) (by simp only [kB, kG, kS, k134, Nat.reduceAdd, Nat.reduceLT, Nat.reduceEqDiff, ↓reduceIte, reduceCtorEq]; first | done | rfl) ?_); (repeat (first | refine nvB ?_ | refine goA (wr := false) (by simp only [kB, kG, kS, k134, Nat.reduceAdd, Nat.reduceLT, Nat.reduceEqDiff, ↓reduceIte, reduceCtorEq]; first | done | rfl) ?_)); exact h9.out) : G := h ⟨g⟩
theorem match_ac (p : Pat) (hp : PB 1000000 p) (s : ByteArray) (hs : s.size ≤ 1000000) : AC Tryz.prog 134 [aPat p, Str s] [] (fun r st => r = .tup [pStrs (matchP p s), pB (matchP p s).isSome] ∧ st = []) := by
 have hv := path_ac s hs
 have hck := check3_ac p hp
 have hmp : matchP p s = match path? s with | none => none | some l => if fitsP p l && capsOK p.parts l p.parts.length then some (capsT p.parts l p.parts.length ++ (if p.rest then [joinB (l.drop p.parts.length) slash] else [])) else none := rfl
 have hfit : ∀ l, fitsP p l = (okP p && !(decide (l.length < p.parts.length) || (!p.rest && decide (p.parts.length < l.length)) || (p.rest && decide (l.length = p.parts.length)))) := fun _ => rfl
 obtain ⟨ps, rs⟩ := p
 generalize hM : matchP ⟨ps, rs⟩ s = M at hmp
 cases hl : path? s with
 | none =>
   rw [hl] at hv hmp
   simp only [pStrs, pB, Option.isSome] at hv
   simp only at hmp
   subst hmp
   refine AC_enter Tryz.func134 rfl rfl (by simp only [Tryz.ntmps134, List.length]; omega) ?_
   intro x hx
   simp only [List.range, List.range.loop, List.length, List.zip, List.zipWith, Nat.reduceAdd, Tryz.ntmps134]
   (repeat (first | refine v134X3 ?_ | (refine caA [] (hv) ?_; rintro r st' ⟨rfl, rfl⟩; refine frA ?_) | (refine caA [] (hck) ?_; rintro r st' ⟨rfl, rfl⟩; refine frA ?_)))
   refine ifA ?_ ?_
   ·intro _
    try refine v134X3 ?_
    refine rtA (by simp only [kR, Tryz.results134, ↓reduceIte, Nat.reduceEqDiff, reduceCtorEq]; first | done | rfl) ([]) ?_
    refine ⟨?_, rfl⟩
    rfl
   ·intro h; simp at h
 | some l =>
   rw [hl] at hv hmp
   simp only [pStrs, pB, Option.isSome] at hv
   simp only at hmp
   refine AC_enter Tryz.func134 rfl rfl (by simp only [Tryz.ntmps134, List.length]; omega) ?_
   intro x hx
   simp only [List.range, List.range.loop, List.length, List.zip, List.zipWith, Nat.reduceAdd, Tryz.ntmps134]
   (repeat (first | refine v134X3 ?_ | (refine caA [] (hv) ?_; rintro r st' ⟨rfl, rfl⟩; refine frA ?_) | (refine caA [] (hck) ?_; rintro r st' ⟨rfl, rfl⟩; refine frA ?_)))
   have hls : ∀ k, (l.getD k noS).size ≤ 1000000 := by
    intro k
    unfold path? at hl
    split at hl
    ·rename_i l' hpp
     split at hl
     ·cases hl
     ·cases hl
      unfold parts? at hpp
      split at hpp
      ·split at hpp
       ·cases hpp
        rw [List.getD_eq_getElem?_getD]
        cases e : (split (s.extract 2 s.size))[k]? with
        | none => exact Nat.zero_le _
        | some v =>
          have h1 := splitN_size _ _ v (List.mem_of_getElem? e)
          rw [ByteArray.size_extract] at h1
          simp only [Option.getD_some]; omega
       ·cases hpp
      ·cases hpp
    ·cases hl
   refine ifA ?_ ?_
   ·intro h
    have hf : fitsP ⟨ps, rs⟩ l = false := by
     have := fits_cond (p := ⟨ps, rs⟩) (l := l)
     simp only at this
     rw [this] at h; simpa using h
    rw [hf] at hmp
    try refine v134X3 ?_
    refine rtA (by simp only [kR, Tryz.results134, ↓reduceIte, Nat.reduceEqDiff, reduceCtorEq]; first | done | rfl) ([]) ?_
    refine ⟨?_, rfl⟩
    rw [hmp]; rfl
   intro h
   have hf : fitsP ⟨ps, rs⟩ l = true := by
    have := fits_cond (p := ⟨ps, rs⟩) (l := l)
    simp only at this
    rw [this] at h; simpa using h
   rw [hf, Bool.true_and] at hmp
   have hlen : ps.length ≤ l.length := by
    rw [hfit] at hf
    simp only [Bool.and_eq_true, Bool.not_eq_true', Bool.or_eq_false_iff, decide_eq_false_iff_not] at hf
    omega
   refine nvA ?_
   refine goA (wr := false) (by simp only [kB, kG, kS, k134, Nat.reduceAdd, Nat.reduceLT, Nat.reduceEqDiff, ↓reduceIte, reduceCtorEq]; first | done | rfl) ?_
   refine nvA ?_
   refine TO_ent (Ent_adopt (i := 9) (id := 100) (sz := 1) rfl rfl (by omega)) ?_
   refine fzA ?_
   try refine v134X3 ?_
   have h1 := hp.1
   simp only at h1
   refine T_loop (ι := Nat) (I := fun k => ⟨98, [(2, .c (.ptr 2 0)), (6, aStrs l), (8, I .i64 ps.length), (9, .c (.ms 100 1 0 (capsT ps l k).length)), (59, aStrs ps), (60, I .i64 ps.length), (61, I .i64 k)],
     [(2, .box ((encPat ⟨ps, rs⟩).map C.d)), (100, dArr 1 ((capsT ps l k).map encS))]⟩)
    (Inv := fun k => k ≤ ps.length ∧ capsOK ps l k = true) (μ := fun k => ps.length - k) 0 ⟨by omega, rfl⟩ ?_ ?_
   ·(refine Ent_sub (fun i => i) rfl ?_ ⟨?_, ?_, ?_, keepI hx (by simp [domOf, Ab.get])⟩ <;> first | (simp only [kE, dArr, ↓reduceIte, Nat.reduceEqDiff, reduceCtorEq, capsT]; done) | simp [renAV_id, renAO_id, flat_up, Ab.get, clAV, clC, clCs, clAO, cl_f1, cl_s1, cl_f2, cl_s2, cl_a1, domOf, List.flatten, capsT])
   rintro k ⟨hk, hall⟩
   have hcl := capsT_len ps l k
   try refine v134X3 ?_
   refine ifA ?_ ?_
   ·intro hlt
    have hlt' : k < ps.length := by simpa using hlt
    obtain ⟨v, hv, he, _⟩ := round encS ps k noS hlt'
    obtain ⟨u, hu, he2, _⟩ := round encS l k noS (by omega)
    have ev := getD_some (z := noS) hv
    have eu := getD_some (z := noS) hu
    have hvs : v.size ≤ 1000000 := hp.2 v (List.mem_of_getElem? hv)
    have hus : u.size ≤ 1000000 := by rw [← eu]; exact hls k
    (repeat (first | refine nvB ?_ | refine goA (wr := false) (by simp only [kB, kG, kS, k134, Nat.reduceAdd, Nat.reduceLT, Nat.reduceEqDiff, ↓reduceIte, reduceCtorEq, he, he2]; first | done | rfl) ?_ | (refine caA [] (capt_ac v u hvs hus) ?_; rintro r st' ⟨rfl, rfl⟩; refine frA ?_)))
    refine ifA ?_ ?_
    ·intro hb
     have hb' : (capt v u).2 = false := by simpa using hb
     rw [capsOK_no hlt' (by rw [ev, eu]; exact hb')] at hmp
     try refine v134X3 ?_
     refine rtA (by simp only [kR, Tryz.results134, ↓reduceIte, Nat.reduceEqDiff, reduceCtorEq]; first | done | rfl) ([]) ?_
     refine ⟨?_, rfl⟩
     rw [hmp]; rfl
    intro hb
    have hb' : (capt v u).2 = true := by simpa using hb
    (repeat (first | refine v134X3 ?_ | (refine caA [] (star_ac v hvs) ?_; rintro r st' ⟨rfl, rfl⟩; refine frA ?_)))
    refine ifA ?_ ?_
    ·intro hst
     try refine v134X3 ?_
     refine ⟨k + 1, ⟨by omega, by rw [capsOK_succ, hall, ev, eu, hb']; rfl⟩, by omega, ?_⟩
     have e : capsT ps l (k + 1) = capsT ps l k ++ [(capt v u).1] := by simp only [capsT, ev, eu, hst, if_true]
     rw [e]
     exact enR (fun i => if i = 100 then 86 else i)
    ·intro hst
     try refine v134X3 ?_
     refine ⟨k + 1, ⟨by omega, by rw [capsOK_succ, hall, ev, eu, hb']; rfl⟩, by omega, ?_⟩
     have e : capsT ps l (k + 1) = capsT ps l k := by simp only [capsT, ev, hst, if_false, Bool.false_eq_true, List.append_nil]
     rw [e]
     exact enA
   intro hge
   have hk' : k = ps.length := by have : ¬ k < ps.length := by simpa using hge
                                  omega
   subst hk'
   rw [if_pos hall] at hmp
   try refine v134X3 ?_
   refine ifA ?_ ?_
   ·intro hr
    subst hr
    have hdl : (l.drop ps.length).length ≤ 1000000 := by
     rw [List.length_drop]
     have := path_len hl
     have hn : 1 ≤ ps.length := (okP_pos (p := ⟨ps, true⟩) (by rw [hfit] at hf; exact (Bool.and_eq_true_iff.1 hf).1))
     have hn' : 1 ≤ ps.length := hn
     omega
    have hds : ∀ v ∈ l.drop ps.length, v.size ≤ 1000000 := by
     intro v hv
     obtain ⟨i, hi⟩ := List.getElem?_of_mem (List.mem_of_mem_drop hv)
     have := hls i
     rw [getD_some hi] at this; exact this
    have hj : AC Tryz.prog 173 [.c (.d (.ps 1 ((l.map encS).drop ps.length))), Str slash] [] (fun r st => r = Str (joinB (l.drop ps.length) slash) ∧ st = []) := by
     rw [← List.map_drop]
     exact joinS_ac (l.drop ps.length) slash hdl (joinB_big _ hdl hds)
    refine nvA ?_
    refine goA (wr := false) (by simp only [kB, kG, kS, k134, Nat.reduceAdd, Nat.reduceLT, Nat.reduceEqDiff, ↓reduceIte, reduceCtorEq]; first | done | rfl) ?_
    refine caA [] (hj) ?_
    rintro r st' ⟨rfl, rfl⟩ <;> refine frA ?_
    refine goA (wr := false) (by simp only [kB, kG, kS, k134, Nat.reduceAdd, Nat.reduceLT, Nat.reduceEqDiff, ↓reduceIte, reduceCtorEq]; first | done | rfl) ?_
    refine nvA ?_
    refine TO_ent (Ent_frzSlot (i := 9) (id := 96) (ys := (capsT ps l ps.length ++ [joinB (l.drop ps.length) slash]).map encS) rfl (by simp [Ab.get]) (by simp)) ?_
    refine fzA ?_
    try refine v134X3 ?_
    refine rtA (by simp only [kR, Tryz.results134, ↓reduceIte, Nat.reduceEqDiff, reduceCtorEq]; first | done | rfl) ([]) ?_
    refine ⟨?_, rfl⟩
    rw [hmp]; simp [pStrs, pB]
   ·intro hr
    subst hr
    refine nvA ?_
    refine TO_ent (Ent_frzSlot (i := 9) (id := 100) (ys := (capsT ps l ps.length).map encS) rfl rfl (by simp)) ?_
    refine fzA ?_
    try refine v134X3 ?_
    refine rtA (by simp only [kR, Tryz.results134, ↓reduceIte, Nat.reduceEqDiff, reduceCtorEq]; first | done | rfl) ([]) ?_
    refine ⟨?_, rfl⟩
    rw [hmp]; simp [pStrs, pB]
end Go.Proofs.YtmhboloicpieeaaGreatDoor

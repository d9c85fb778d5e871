/- A part of the proof. -/
import Derived.Test.YtmhboloicpieeaaGreatDoorRPD
import Derived.Sort.Statements
set_option linter.all false
namespace Go.Proofs.YtmhboloicpieeaaGreatDoor
open Go.Ab
theorem cbl_refl : ∀ l : List UInt8, Lib.compareBytes l l = 0
 | [] => rfl
 | a :: l => by
   have : ¬ a < a := by simp
   rw [Lib.compareBytes, if_neg this, if_neg this]; exact cbl_refl l
theorem cbl_eq : ∀ l m : List UInt8, Lib.compareBytes l m = 0 → l = m
 | [], [], _ => rfl
 | [], _ :: _, h => by simp [Lib.compareBytes] at h
 | _ :: _, [], h => by simp [Lib.compareBytes] at h
 | a :: l, b :: m, h => by
   rw [Lib.compareBytes] at h
   split at h
   ·cases h
   ·split at h
    ·cases h
    ·rename_i h1 h2
     have : a = b := by
      apply UInt8.toNat_inj.1
      simp only [UInt8.lt_iff_toNat_lt] at h1 h2; omega
     rw [this, cbl_eq l m h]
theorem cbl_trans : ∀ l m k : List UInt8, Lib.compareBytes l m < 0 → Lib.compareBytes m k < 0 → Lib.compareBytes l k < 0
 | [], [], _, h, _ => by simp [Lib.compareBytes] at h
 | [], _ :: _, [], _, h => by simp [Lib.compareBytes] at h
 | [], _ :: _, _ :: _, _, _ => by simp [Lib.compareBytes]
 | _ :: _, [], _, h, _ => by simp [Lib.compareBytes] at h
 | _ :: _, _ :: _, [], _, h => by simp [Lib.compareBytes] at h
 | a :: l, b :: m, c :: k, h1, h2 => by
   rw [Lib.compareBytes] at h1 h2 ⊢
   simp only [UInt8.lt_iff_toNat_lt] at h1 h2 ⊢
   split at h1
   ·split at h2
    ·rw [if_pos (by omega)]; omega
    ·split at h2
     ·omega
     ·rw [if_pos (by omega)]; omega
   ·split at h1
    ·omega
    ·split at h2
     ·rw [if_pos (by omega)]; omega
     ·split at h2
      ·omega
      ·rw [if_neg (by omega), if_neg (by omega)]; exact cbl_trans l m k h1 h2
theorem cb_refl (a : ByteArray) : cb a a = 0 := cbl_refl _
theorem cb_eq {a b : ByteArray} (h : cb a b = 0) : a = b := ByteArray.ext (by simpa using congrArg List.toArray (cbl_eq _ _ h))
theorem cb_trans {a b c : ByteArray} (h1 : cb a b < 0) (h2 : cb b c < 0) : cb a c < 0 := cbl_trans _ _ _ h1 h2
theorem cmpL_refl : ∀ l : List ByteArray, cmpL l l = 0
 | [] => rfl
 | a :: l => by rw [cmpL, if_pos (cb_refl a)]; exact cmpL_refl l
theorem cmpL_trans : ∀ l m k : List ByteArray, cmpL l m < 0 → cmpL m k < 0 → cmpL l k < 0
 | [], [], _, h, _ => by simp [cmpL] at h
 | [], _ :: _, [], _, h => by simp [cmpL] at h
 | [], _ :: _, _ :: _, _, _ => by simp [cmpL]
 | _ :: _, [], _, h, _ => by simp [cmpL] at h
 | _ :: _, _ :: _, [], _, h => by simp [cmpL] at h
 | a :: l, b :: m, c :: k, h1, h2 => by
   rw [cmpL] at h1 h2 ⊢
   by_cases e1 : cb a b = 0
   ·have := cb_eq e1; subst this
    rw [if_pos e1] at h1
    by_cases e2 : cb a c = 0
    ·rw [if_pos e2] at h2 ⊢; exact cmpL_trans l m k h1 h2
    ·rw [if_neg e2] at h2 ⊢; exact h2
   ·rw [if_neg e1] at h1
    by_cases e2 : cb b c = 0
    ·have := cb_eq e2; subst this
     rw [if_neg e1]; exact h1
    ·rw [if_neg e2] at h2
     have := cb_trans h1 h2
     rw [if_neg (by omega)]; exact this
theorem ord_path {p q : ByteArray} (hp : (path? p).isSome = true) (hq : (path? q).isSome = true) : ∃ a b, path? p = some a ∧ path? q = some b ∧ ord p q = cmpL a b := by
 cases h1 : path? p with
 | none => rw [h1] at hp; cases hp
 | some a =>
   cases h2 : path? q with
   | none => rw [h2] at hq; cases hq
   | some b => exact ⟨a, b, rfl, rfl, by simp [ord, h1, h2]⟩
theorem ord_trans {p q r : ByteArray} (hp : (path? p).isSome = true) (hq : (path? q).isSome = true) (hr : (path? r).isSome = true) (h1 : ord p q < 0) (h2 : ord q r < 0) : ord p r < 0 := by
 obtain ⟨a, b, ea, eb, e1⟩ := ord_path hp hq
 obtain ⟨b', c, eb', ec, e2⟩ := ord_path hq hr
 rw [eb] at eb'; cases eb'
 obtain ⟨a', c', ea', ec', e3⟩ := ord_path hp hr
 rw [ea] at ea'; cases ea'
 rw [ec] at ec'; cases ec'
 rw [e3]; rw [e1] at h1; rw [e2] at h2
 exact cmpL_trans _ _ _ h1 h2
theorem ord_irr {p : ByteArray} (hp : (path? p).isSome = true) : ord p p = 0 := by
 obtain ⟨a, b, ea, eb, e1⟩ := ord_path hp hp
 rw [ea] at eb; cases eb
 rw [e1]; exact cmpL_refl _
def cmpI (a b : Int) : Int := if a < b then -1 else if b < a then 1 else 0
theorem edits_lt {d : Dep} {c : Chg} (h : ∀ i, i < c.edits.length → EditOK d c i (c.edits.getD i zEdt)) : ∀ {j i : Nat}, i < j → j < c.edits.length → ord (c.edits.getD i zEdt).path (c.edits.getD j zEdt).path < 0
 | 0, i, hij, _ => by omega
 | j + 1, i, hij, hj => by
   have h0 := (h (j + 1) hj).okOrder (by omega)
   simp only [Nat.add_sub_cancel] at h0
   by_cases e : i = j
   ·subst e; exact h0
   ·exact ord_trans (h i (by omega)).okPath (h j (by omega)).okPath (h (j + 1) hj).okPath (edits_lt h (by omega) (by omega)) h0
theorem edits_ne {d : Dep} {c : Chg} (h : ∀ i, i < c.edits.length → EditOK d c i (c.edits.getD i zEdt)) {i j : Nat} (hij : i < j) (hj : j < c.edits.length) : (c.edits.getD i zEdt).path ≠ (c.edits.getD j zEdt).path := by
 intro e
 have := edits_lt h hij hj
 rw [e, ord_irr (h j hj).okPath] at this
 omega
theorem wr_id {n : Int} (h1 : -1000000 ≤ n) (h2 : n ≤ 1000000) : wr n = n := InR.wrap (by simp only [InR]; omega)
structure Good (l : List Rev) : Prop where
 num : ∀ (i : Nat) (v : Rev), l[i]? = some v → 1 ≤ v.num ∧ v.num ≤ (i : Int) + 1
 act : ∀ (i : Nat) (v : Rev), l[i]? = some v → 1 ≤ v.act ∧ v.act ≤ 5
 chg : ∀ (i j : Nat) (u v : Rev), i < j → l[i]? = some u → l[j]? = some v → u.chg ≤ v.chg
 path : ∀ (i j : Nat) (u v : Rev), i < j → l[i]? = some u → l[j]? = some v → u.path = v.path → u.chg < v.chg ∧ u.num < v.num
 prv : ∀ (i : Nat) (v : Rev), l[i]? = some v → v.act ≠ 1 → v.act ≠ 4 → ∃ (j : Nat) (u : Rev), j < i ∧ l[j]? = some u ∧ u.path = v.path ∧ u.num = v.num - 1 ∧ u.act ≠ 3 ∧ u.act ≠ 5 ∧ u.chg < v.chg
 mov : ∀ (i : Nat) (v : Rev), l[i]? = some v → v.act = 4 → ∃ (j : Nat) (u : Rev), j < i ∧ l[j]? = some u ∧ u.path = v.frm ∧ u.num = v.fnum ∧ u.act ≠ 3 ∧ u.act ≠ 5 ∧ u.chg < v.chg
 away : ∀ (i : Nat) (v : Rev), l[i]? = some v → v.act = 4 → ∃ (j : Nat) (u : Rev), l[j]? = some u ∧ u.path = v.frm ∧ u.num = v.fnum + 1 ∧ u.act = 5
 mov2 : ∀ (i j : Nat) (u v : Rev), i < j → l[i]? = some u → l[j]? = some v → u.act = 4 → v.act = 4 → u.frm = v.frm → u.fnum = v.fnum → False
theorem lastF {α : Type} (p : α → Bool) : ∀ l : List α, (∀ v, (l.filter p).getLast? = some v → ∃ j : Nat, l[j]? = some v ∧ p v = true ∧ ∀ (k : Nat) (u : α), l[k]? = some u → p u = true → k ≤ j) ∧ ((l.filter p).getLast? = none → ∀ u ∈ l, p u = false)
 | [] => by simp
 | a :: l => by
   obtain ⟨h1, h2⟩ := lastF p l
   simp only [List.filter_cons]
   cases hg : (l.filter p).getLast? with
   | none =>
     have hn := h2 hg
     have h0 : l.filter p = [] := List.getLast?_eq_none_iff.1 hg
     rw [h0]
     by_cases ha : p a = true
     ·rw [if_pos ha]
      refine ⟨fun v hv => ?_, fun h => by simp at h⟩
      simp at hv; subst hv
      refine ⟨0, rfl, ha, fun k u hu hp => ?_⟩
      cases k with
      | zero => omega
      | succ k => rw [hn u (List.mem_of_getElem? (by simpa using hu))] at hp; cases hp
     ·rw [if_neg ha]
      refine ⟨fun v hv => by simp at hv, fun _ u hu => ?_⟩
      rcases List.mem_cons.1 hu with rfl | hu
      ·simpa using ha
      ·exact hn u hu
   | some w =>
     obtain ⟨j, hj, hw, hmax⟩ := h1 w hg
     have h0 : (if p a = true then a :: l.filter p else l.filter p).getLast? = some w := by
      split
      ·rw [List.getLast?_cons, hg]; rfl
      ·exact hg
     rw [h0]
     refine ⟨fun v hv => ?_, fun h => by cases h⟩
     cases hv
     refine ⟨j + 1, by simpa using hj, hw, fun k u hu hp => ?_⟩
     cases k with
     | zero => omega
     | succ k => have := hmax k u (by simpa using hu) hp; omega
theorem last_some {d : Dep} {p : ByteArray} {v : Rev} (h : last? d p = some v) : ∃ j : Nat, d.revs[j]? = some v ∧ v.path = p ∧ ∀ (k : Nat) (u : Rev), d.revs[k]? = some u → u.path = p → k ≤ j := by
 obtain ⟨j, h1, h2, h3⟩ := (lastF (fun v : Rev => decide (v.path = p)) d.revs).1 v h
 exact ⟨j, h1, by simpa using h2, fun k u hu hp => h3 k u hu (by simpa using hp)⟩
theorem last_none {d : Dep} {p : ByteArray} (h : last? d p = none) : ∀ u ∈ d.revs, u.path ≠ p := by
 intro u hu e
 have := (lastF (fun v : Rev => decide (v.path = p)) d.revs).2 h u hu
 simp [e] at this
theorem live_some {d : Dep} {p : ByteArray} (h : live d p = true) : ∃ (v : Rev) (j : Nat), last? d p = some v ∧ d.revs[j]? = some v ∧ v.path = p ∧ v.act ≠ 3 ∧ v.act ≠ 5 ∧ lastNum d p = v.num := by
 unfold live at h
 split at h
 ·rename_i v hv
  obtain ⟨j, h1, h2, h3⟩ := last_some hv
  simp [gone] at h
  exact ⟨v, j, hv, h1, h2, h.1, h.2, by simp [lastNum, hv]⟩
 ·cases h
theorem lastNum_ge {d : Dep} (hg : Good d.revs) {p : ByteArray} {k : Nat} {u : Rev} (hu : d.revs[k]? = some u) (hp : u.path = p) : u.num ≤ lastNum d p := by
 cases h : last? d p with
 | none => exact absurd hp (last_none h u (List.mem_of_getElem? hu))
 | some v =>
   obtain ⟨j, h1, h2, h3⟩ := last_some h
   have := h3 k u hu hp
   simp only [lastNum, h, Option.getD]
   rcases Nat.lt_or_ge k j with hkj | hkj
   ·have := (hg.path k j u v hkj hu h1 (by rw [hp, h2])).2; omega
   ·have e : k = j := by omega
    subst e; rw [h1] at hu; cases hu; omega
theorem lastNum_le {d : Dep} (hg : Good d.revs) (p : ByteArray) : 0 ≤ lastNum d p ∧ lastNum d p ≤ d.revs.length := by
 cases h : last? d p with
 | none => simp [lastNum, h, zRev]
 | some v =>
   obtain ⟨j, h1, h2, h3⟩ := last_some h
   have := hg.num j v h1
   have hj : j < d.revs.length := (List.getElem?_eq_some_iff.1 h1).1
   simp only [lastNum, h, Option.getD]; omega
theorem two_filter {α : Type} (p : α → Bool) {l : List α} {a b : Nat} {x y : α} (hab : a < b) (ha : l[a]? = some x) (hb : l[b]? = some y) (hx : p x = true) (hy : p y = true) : 2 ≤ (l.filter p).length := by
 have e : l.filter p = (l.take b).filter p ++ (l.drop b).filter p := by rw [← List.filter_append, List.take_append_drop]
 rw [e, List.length_append]
 have h1 : x ∈ (l.take b).filter p := List.mem_filter.2 ⟨List.mem_of_getElem? (i := a) (by rw [List.getElem?_take, if_pos hab]; exact ha), hx⟩
 have h2 : y ∈ (l.drop b).filter p := List.mem_filter.2 ⟨List.mem_of_getElem? (i := 0) (by rw [List.getElem?_drop]; simpa using hb), hy⟩
 have := List.length_pos_of_mem h1
 have := List.length_pos_of_mem h2
 omega
theorem good_app {d : Dep} {c : Chg} (hg : Good d.revs) (hn : d.revs.length ≤ 512) (hk : ChkOK d c) : Good (appD d c).revs := by
 have hE := hk.edit
 have sp : ∀ (i : Nat) (v : Rev), (appD d c).revs[i]? = some v → (i < d.revs.length ∧ d.revs[i]? = some v) ∨ ∃ a, i = d.revs.length + a ∧ a < c.edits.length ∧ v = made c (c.edits.getD a zEdt) := by
  intro i v h
  simp only [appD] at h
  rcases Nat.lt_or_ge i d.revs.length with hi | hi
  ·rw [List.getElem?_append_left hi] at h; exact .inl ⟨hi, h⟩
  ·rw [List.getElem?_append_right hi] at h
   have ha : i - d.revs.length < c.edits.length := by
    have := (List.getElem?_eq_some_iff.1 h).1; simpa using this
   refine .inr ⟨i - d.revs.length, by omega, ha, ?_⟩
   rw [List.getElem?_map, List.getElem?_eq_getElem ha] at h
   simp at h; rw [← h]; simp [List.getD, ha]
 have nw : ∀ a : Nat, a < c.edits.length → (appD d c).revs[d.revs.length + a]? = some (made c (c.edits.getD a zEdt)) := by
  intro a ha
  simp only [appD]
  rw [List.getElem?_append_right (by omega), Nat.add_sub_cancel_left, List.getElem?_map, List.getElem?_eq_getElem ha]
  simp [List.getD, ha]
 have od : ∀ (i : Nat) (v : Rev), d.revs[i]? = some v → (appD d c).revs[i]? = some v := by
  intro i v h
  simp only [appD]
  rw [List.getElem?_append_left (List.getElem?_eq_some_iff.1 h).1]; exact h
 have lb : ∀ p, -1000000 ≤ lastNum d p + 1 ∧ lastNum d p + 1 ≤ 1000000 := fun p => by have := lastNum_le hg p; omega
 have mn : ∀ a, a < c.edits.length → (made c (c.edits.getD a zEdt)).num = lastNum d (c.edits.getD a zEdt).path + 1 := by
  intro a ha
  simp only [made]
  rw [(hE a ha).okPrev, wr_id (lb _).1 (lb _).2]
 have mt : ∀ a, a < c.edits.length → (c.edits.getD a zEdt).act = 4 → ∃ b, b < c.edits.length ∧ (c.edits.getD b zEdt).act = 5 ∧ (c.edits.getD b zEdt).path = (c.edits.getD a zEdt).frm := by
  intro a ha h4
  have hm := hk.move (c.edits.getD a zEdt) (by rw [List.getD_eq_getElem?_getD, List.getElem?_eq_getElem ha]; simp)
  generalize c.edits.getD a zEdt = e at *
  have hl : (c.edits.filter (mate e)).length = 1 := by
   simp only [movedB, h4, mates] at hm
   simp at hm; have hm := of_decide_eq_true hm; omega
  obtain ⟨y, hy⟩ : ∃ y, y ∈ c.edits.filter (mate e) := by
   cases hf : c.edits.filter (mate e) with
   | nil => rw [hf] at hl; simp at hl
   | cons y l => exact ⟨y, by simp⟩
  obtain ⟨hy1, hy2⟩ := List.mem_filter.1 hy
  obtain ⟨b, hb, e⟩ := List.mem_iff_getElem.1 hy1
  have e' : c.edits.getD b zEdt = y := by simp [List.getD, hb, e]
  simp [mate, h4] at hy2
  exact ⟨b, hb, by rw [e']; exact hy2.1, by rw [e']; exact hy2.2⟩
 constructor
 ·intro i v h
  rcases sp i v h with ⟨_, h⟩ | ⟨a, rfl, ha, rfl⟩
  ·exact hg.num i v h
  ·rw [mn a ha]
   have := lastNum_le hg (c.edits.getD a zEdt).path
   omega
 ·intro i v h
  rcases sp i v h with ⟨_, h⟩ | ⟨a, rfl, ha, rfl⟩
  ·exact hg.act i v h
  ·exact ⟨(hE a ha).okLo, (hE a ha).okHi⟩
 ·intro i j u v hij hu hv
  rcases sp i u hu with ⟨h1, hu⟩ | ⟨a, rfl, ha, rfl⟩
  ·rcases sp j v hv with ⟨h2, hv⟩ | ⟨b, rfl, hb, rfl⟩
   ·exact hg.chg i j u v hij hu hv
   ·have := hk.old u (List.mem_of_getElem? hu)
    show u.chg ≤ c.num
    omega
  ·rcases sp j v hv with ⟨h2, hv⟩ | ⟨b, rfl, hb, rfl⟩
   ·omega
   ·exact Int.le_refl _
 ·intro i j u v hij hu hv hp
  rcases sp i u hu with ⟨h1, hu⟩ | ⟨a, rfl, ha, rfl⟩
  ·rcases sp j v hv with ⟨h2, hv⟩ | ⟨b, rfl, hb, rfl⟩
   ·exact hg.path i j u v hij hu hv hp
   ·refine ⟨hk.old u (List.mem_of_getElem? hu), ?_⟩
    rw [mn b hb]
    have := lastNum_ge hg hu (p := (c.edits.getD b zEdt).path) hp
    omega
  ·rcases sp j v hv with ⟨h2, hv⟩ | ⟨b, rfl, hb, rfl⟩
   ·omega
   ·exact absurd hp (edits_ne hE (by omega) hb)
 ·intro i v h n1 n4
  rcases sp i v h with ⟨_, h⟩ | ⟨a, rfl, ha, rfl⟩
  ·obtain ⟨j, u, h1, h2, h3⟩ := hg.prv i v h n1 n4
   exact ⟨j, u, h1, od j u h2, h3⟩
  ·have hl : live d (c.edits.getD a zEdt).path = true := by
    cases hl : live d (c.edits.getD a zEdt).path with
    | true => rfl
    | false => rcases (hE a ha).okLive.2 hl with h | h
               ·exact absurd h n1
               ·exact absurd h n4
   obtain ⟨v, j, g1, g2, g3, g4, g5, g6⟩ := live_some hl
   have hj := (List.getElem?_eq_some_iff.1 g2).1
   exact ⟨j, v, by omega, od j v g2, g3, by rw [mn a ha, g6]; omega, g4, g5, hk.old v (List.mem_of_getElem? g2)⟩
 ·intro i v h h4
  rcases sp i v h with ⟨_, h⟩ | ⟨a, rfl, ha, rfl⟩
  ·obtain ⟨j, u, h1, h2, h3⟩ := hg.mov i v h h4
   exact ⟨j, u, h1, od j u h2, h3⟩
  ·obtain ⟨f1, f2, f3⟩ := (hE a ha).okFrm h4
   obtain ⟨v, j, g1, g2, g3, g4, g5, g6⟩ := live_some f1
   have hj := (List.getElem?_eq_some_iff.1 g2).1
   exact ⟨j, v, by omega, od j v g2, g3, by rw [← g6]; exact f2, g4, g5, hk.old v (List.mem_of_getElem? g2)⟩
 ·intro i v h h4
  rcases sp i v h with ⟨_, h⟩ | ⟨a, rfl, ha, rfl⟩
  ·obtain ⟨j, u, h2, h3⟩ := hg.away i v h h4
   exact ⟨j, u, od j u h2, h3⟩
  ·obtain ⟨b, hb, b1, b2⟩ := mt a ha h4
   obtain ⟨f1, f2, f3⟩ := (hE a ha).okFrm h4
   refine ⟨_, _, nw b hb, b2, ?_, b1⟩
   rw [mn b hb, b2, f2]; rfl
 ·intro i j u v hij hu hv u4 v4 hf hn'
  rcases sp i u hu with ⟨h1, hu⟩ | ⟨a, rfl, ha, rfl⟩
  ·rcases sp j v hv with ⟨h2, hv⟩ | ⟨b, rfl, hb, rfl⟩
   ·exact hg.mov2 i j u v hij hu hv u4 v4 hf hn'
   ·obtain ⟨k, w, w1, w2, w3, w4⟩ := hg.away i u hu u4
    obtain ⟨f1, f2, f3⟩ := (hE b hb).okFrm v4
    have := lastNum_ge hg w1 (p := (c.edits.getD b zEdt).frm) (by rw [w2, hf]; rfl)
    rw [f2, w3, hn'] at this
    have : (made c (c.edits.getD b zEdt)).fnum = (c.edits.getD b zEdt).fnum := rfl
    omega
  ·rcases sp j v hv with ⟨h2, hv⟩ | ⟨b, rfl, hb, rfl⟩
   ·omega
   ·obtain ⟨x, hx, x1, x2⟩ := mt a ha u4
    have hm := hk.move (c.edits.getD x zEdt) (by rw [List.getD_eq_getElem?_getD, List.getElem?_eq_getElem hx]; simp)
    have h2 := two_filter (mate (c.edits.getD x zEdt)) (l := c.edits) (a := a) (b := b) (x := c.edits.getD a zEdt) (y := c.edits.getD b zEdt) (by omega) (by simp [List.getD, ha]) (by simp [List.getD, hb])
     (by simp only [mate, x1, x2, show (c.edits.getD a zEdt).act = 4 from u4]; simp) (by simp only [mate, x1, x2, show (c.edits.getD b zEdt).act = 4 from v4, show (c.edits.getD a zEdt).frm = (c.edits.getD b zEdt).frm from hf]; simp)
    generalize c.edits.getD x zEdt = e at *
    simp only [movedB, x1, mates] at hm
    simp at hm; have hm := of_decide_eq_true hm; omega
theorem good_nil : Good [] := by constructor <;> simp
theorem Built.good {l : List Chg} {d : Dep} (h : Built l d) : Good d.revs := by
 induction h with
 | nil => exact good_nil
 | skip c h ih => exact ih
 | app h hc hk ih => exact good_app ih h.ok.1 hk
def alook {κ ν : Type} [DecidableEq κ] : List (κ × ν) → κ → Option ν
 | [], _ => none
 | (a, b) :: m, k => if k = a then some b else alook m k
def aput {κ ν : Type} [DecidableEq κ] : List (κ × ν) → κ → ν → List (κ × ν)
 | [], k, v => [(k, v)]
 | (a, b) :: m, k, v => if k = a then (k, v) :: m else (a, b) :: aput m k v
theorem alook_aput {κ ν : Type} [DecidableEq κ] (m : List (κ × ν)) (k : κ) (v : ν) (j : κ) : alook (aput m k v) j = if j = k then some v else alook m j := by
 induction m with
 | nil => simp [aput, alook]
 | cons p m ih =>
   obtain ⟨a, b⟩ := p
   simp only [aput]
   split
   ·rename_i e; subst e
    simp only [alook]
    split <;> simp_all
   ·rename_i e
    simp only [alook]
    rw [ih]
    split
    ·rename_i e2; subst e2
     rw [if_neg (fun h => e h.symm)]
    ·rfl
@[reducible] def mEnt {κ ν : Type} (ke : κ → Bool × List D) (ve : ν → Bool × List D) (m : List (κ × ν)) : List EntD := m.map fun p => (ke p.1, ve p.2)
section
variable {κ ν : Type} [DecidableEq κ] {ke : κ → Bool × List D} {ve : ν → Bool × List D} (hk : ∀ a b, keyB ((ke a).2.map C.d) ((ke b).2.map C.d) = decide (a = b))
include hk
theorem findE_ent (m : List (κ × ν)) (k : κ) : findE ((ke k).2.map C.d) ((mEnt ke ve m).map upE) = (alook m k).map fun v => upD (ve v) := by
 induction m with
 | nil => rfl
 | cons p m ih =>
   simp only [mEnt, List.map_cons, findE, upE, upD] at ih ⊢
   rw [hk]
   simp only [alook]
   by_cases e : k = p.1
   ·simp [e, upD]
   ·simp only [e, decide_false, Bool.false_eq_true, if_false]; exact ih
theorem insE_ent (m : List (κ × ν)) (k : κ) (v : ν) : insE (upD (ke k)) (upD (ve v)) ((mEnt ke ve m).map upE) = (mEnt ke ve (aput m k v)).map upE := by
 induction m with
 | nil => rfl
 | cons p m ih =>
   simp only [mEnt, List.map_cons, insE, upE, aput]
   have : keyB (upD (ke k)).2 (upD (ke p.1)).2 = decide (k = p.1) := hk _ _
   rw [this]
   by_cases e : k = p.1
   ·simp [e, upE]
   ·simp only [e, decide_false, Bool.false_eq_true, if_false, List.map_cons, upE]
    rw [← ih]
end
@[reducible] def kF (f : Fil) : Bool × List D := (true, encFil f)
@[reducible] def kN (i : Int) : Bool × List D := (false, [.v (.int .i64 i)])
@[reducible] def kS' (s : ByteArray) : Bool × List D := (false, [.v (.string s)])
theorem kF_eq (a b : Fil) : keyB ((kF a).2.map C.d) ((kF b).2.map C.d) = decide (a = b) := by
 cases a; cases b; simp [kF, keyB, eqC, Bool.decide_and]
theorem kN_eq (a b : Int) : keyB ((kN a).2.map C.d) ((kN b).2.map C.d) = decide (a = b) := by
 simp [kN, keyB, eqC]
theorem kS_eq (a b : ByteArray) : keyB ((kS' a).2.map C.d) ((kS' b).2.map C.d) = decide (a = b) := by
 simp [kS', keyB, eqC]
@[reducible] def sEnt {κ : Type} (ke : κ → Bool × List D) (l : List κ) : List EntD := l.map fun k => (ke k, (false, [.v (.bool true)]))
def addS {κ : Type} [DecidableEq κ] (l : List κ) (k : κ) : List κ := if k ∈ l then l else l ++ [k]
theorem mem_addS {κ : Type} [DecidableEq κ] (l : List κ) (k j : κ) : j ∈ addS l k ↔ j ∈ l ∨ j = k := by
 unfold addS
 split
 ·constructor
  ·exact .inl
  ·rintro (h | rfl) <;> assumption
 ·simp
section
variable {κ : Type} [DecidableEq κ] {ke : κ → Bool × List D} (hk : ∀ a b, keyB ((ke a).2.map C.d) ((ke b).2.map C.d) = decide (a = b))
include hk
theorem findE_set (l : List κ) (k : κ) : findE ((ke k).2.map C.d) ((sEnt ke l).map upE) = if k ∈ l then some (false, [.d (.v (.bool true))]) else none := by
 induction l with
 | nil => simp [findE]
 | cons a l ih =>
   simp only [sEnt, List.map_cons, findE, upE, upD, List.mem_cons] at ih ⊢
   rw [hk]
   by_cases e : k = a
   ·simp [e]
   ·simp only [e, decide_false, Bool.false_eq_true, if_false, false_or]; exact ih
theorem insE_set (l : List κ) (k : κ) : insE (upD (ke k)) (false, [.d (.v (.bool true))]) ((sEnt ke l).map upE) = (sEnt ke (addS l k)).map upE := by
 induction l with
 | nil => simp [addS, insE, upE, upD]
 | cons a l ih =>
   simp only [sEnt, List.map_cons, insE, upE] at ih ⊢
   have : keyB (upD (ke k)).2 (upD (ke a)).2 = decide (k = a) := hk _ _
   rw [this]
   by_cases e : k = a
   ·subst e; simp [addS, upE, upD]
   ·simp only [e, decide_false, Bool.false_eq_true, if_false]
    rw [ih]
    unfold addS
    simp only [List.mem_cons, e, false_or]
    split <;> simp [upE]
end
theorem look_F (l : List Fil) (p : ByteArray) (n : Int) : (findE [C.d (.v (.string p)), C.d (.v (.int .i64 n))] ((sEnt kF l).map upE)).getD (false, [C.d (.v (.bool false))]) = (false, [C.d (.v (.bool (decide ((⟨p, n⟩ : Fil) ∈ l))))]) := by
 have := findE_set kF_eq l ⟨p, n⟩
 rw [show ((kF ⟨p, n⟩).2.map C.d) = [C.d (.v (.string p)), C.d (.v (.int .i64 n))] from rfl] at this
 rw [this]
 by_cases h : (⟨p, n⟩ : Fil) ∈ l <;> simp [h]
theorem ins_F (l : List Fil) (p : ByteArray) (n : Int) : insE (true, [C.d (.v (.string p)), C.d (.v (.int .i64 n))]) (false, [C.d (.v (.bool true))]) ((sEnt kF l).map upE) = (sEnt kF (addS l ⟨p, n⟩)).map upE := insE_set kF_eq l ⟨p, n⟩
theorem sEnt_split {κ : Type} {ke : κ → Bool × List D} {l : List κ} {a : List EntD} {e : EntD} {b : List EntD} (h : sEnt ke l = a ++ e :: b) : ∃ x k y, l = x ++ k :: y ∧ a = sEnt ke x ∧ e = (ke k, (false, [.v (.bool true)])) ∧ b = sEnt ke y := by
 obtain ⟨x, r, rfl, rfl, h2⟩ := List.map_eq_append_iff.1 h
 obtain ⟨k, y, rfl, rfl, rfl⟩ := List.map_eq_cons_iff.1 h2
 exact ⟨x, k, y, rfl, rfl, rfl, rfl⟩
@[reducible] def dSet {κ : Type} (ke : κ → Bool × List D) : Option (List κ) → D
 | none => .v (.map none)
 | some l => .pm (sEnt ke l)
theorem ty_F (l : List Fil) : ∀ e ∈ (sEnt kF l).map upE, e.1.1 = true ∧ tyCs [.str, .int .i64] e.1.2 := by
 intro e he
 simp only [sEnt, List.mem_map] at he
 obtain ⟨_, ⟨f, _, rfl⟩, rfl⟩ := he
 exact ⟨rfl, by simp [upE, upD, tyCs]⟩
@[reducible] def uMap {κ : Type} (ke : κ → Bool × List D) (l : List κ) : AO := .map ((sEnt ke l).map upE)
def subB {κ : Type} [DecidableEq κ] (s t : List κ) : Bool := s.all fun k => decide (k ∈ t)
structure Led where
 revs : List Rev
 index : List (Fil × Int)
 prev : List Int
 fst : List Int
 car : List (Option (List Int))
 con : List (Option (List Int))
 cre : List (Option (List Int))
def contsF (L : Led) (f : ByteArray) (n : Int) : Nat → List (Option (List Int))
 | 0 => []
 | k + 1 => (match alook L.index ⟨f, n⟩ with | some i => [L.con.getD i.toNat none] | none => []) ++ contsF L f (n + 1) k
def conts (L : Led) (r : Rcd) : List (Option (List Int)) := contsF L r.frm (max r.first 1) (min r.last 512 - max r.first 1 + 1).toNat
theorem uG {α : Type} (e : α → List D) (l : List α) (k : Nat) (z : α) (h : k < l.length) : ((l.map e).map fun l => l.map C.d).getD k [] = (e (l.getD k z)).map C.d := by
 simp [List.getD, h]
def memB (L : Led) (f : Fil) : Option Int := match alook L.index f with | some i => if 0 ≤ L.fst.getD i.toNat 0 then some i else none | none => none
def upto (l : List Int) (s : Int) : List Int := match l with | [] => [] | a :: l => if a = s then [a] else a :: upto l s
def befF (v : Rev) : Fil := if v.act = 1 then zFil else if v.act = 4 then ⟨v.frm, v.fnum⟩ else ⟨v.path, v.num - 1⟩
def lineOf (L : Led) (i : Nat) (v : Rev) : Int := match memB L (befF v) with | some u => L.fst.getD u.toNat 0 | none => i
def prevOf (L : Led) (v : Rev) : Int := match memB L (befF v) with | some u => u | none => -1
def enterL (L : Led) (i : Nat) (v : Rev) : Led := { L with prev := L.prev.set i (if v.act = 5 then -1 else prevOf L v), fst := L.fst.set i (if v.act = 5 then -1 else lineOf L i v) }
structure Acc where
 car : List (Option (List Int))
 ign : List (Option (List Int))
 orig : Bool
def accStep (L : Led) (a : Acc) (r : Rcd) : Acc :=
 if r.how = 1 then (match alook L.index ⟨r.frm, r.last⟩ with | some k => ⟨a.car ++ [L.car.getD k.toNat none], a.ign, a.orig⟩ | none => a)
 else if r.how = 3 then ⟨a.car, a.ign ++ conts L r, a.orig⟩
 else ⟨a.car ++ conts L r, a.ign, a.orig || decide (r.how = 4)⟩
def befS (L : Led) (i : Nat) : Option (List Int) := if 0 ≤ L.prev.getD i 0 then L.car.getD (L.prev.getD i 0).toNat none else none
def knoS (L : Led) (i : Nat) : Option (List Int) := if 0 ≤ L.prev.getD i 0 then L.cre.getD (L.prev.getD i 0).toNat none else none
def acc0 (L : Led) (i : Nat) (b : Bool) : Acc := ⟨[befS L i], [knoS L i], b⟩
def accAll (L : Led) (i : Nat) (rs : List Rcd) : Acc := rs.foldl (accStep L) (acc0 L i (decide ((rs.length : Int) = 0)))
def accCar (L : Led) (i : Nat) (rs : List Rcd) : List (Option (List Int)) := (accAll L i rs).car ++ (if (accAll L i rs).orig then [some [(i : Int)]] else [])
def Uni (l : List Int) (s : List (Option (List Int))) : Prop := ∀ k, k ∈ l ↔ ∃ o ∈ s, k ∈ o.getD []
structure AccR (L : Led) (i : Nat) (rs : List Rcd) (c k cr : List Int) : Prop where
 car : Uni c (accCar L i rs)
 con : ∀ x, x ∈ k ↔ x ∈ c ∧ ¬ x ∈ (befS L i).getD []
 cre : Uni cr ((accAll L i rs).ign ++ [some c])
def setL (L : Led) (i : Nat) (c k cr : List Int) : Led := { L with car := L.car.set i (some c), con := L.con.set i (some k), cre := L.cre.set i (some cr) }
def intoR (d : Dep) (f : Fil) : List Rcd := d.recs.filter fun r => decide ((⟨r.to, r.num⟩ : Fil) = f)
def led0 (d : Dep) : Led := ⟨d.revs, [], List.replicate d.revs.length 0, List.replicate d.revs.length 0, List.replicate d.revs.length none, List.replicate d.revs.length none, List.replicate d.revs.length none⟩
def ixL (L : Led) (f : Fil) (k : Nat) : Led := { L with index := aput L.index f k }
def pushM (me : List (Int × List Int)) (l : Int) (k : Nat) : List (Int × List Int) := aput me l ((alook me l).getD [] ++ [(k : Int)])
inductive LedRun (d : Dep) : Nat → Led → List (Int × List Int) → Prop
 | zero : LedRun d 0 (led0 d) []
 | away {k : Nat} {L : Led} {me : List (Int × List Int)} {v : Rev} (h : LedRun d k L me) (hv : d.revs[k]? = some v) (h5 : v.act = 5) : LedRun d (k + 1) (ixL (enterL L k v) (fileOf v) k) me
 | memb {k : Nat} {L : Led} {me : List (Int × List Int)} {v : Rev} (h : LedRun d k L me) (hv : d.revs[k]? = some v) (h5 : ¬ v.act = 5) {c m cr : List Int} (hA : AccR (enterL L k v) k (intoR d (fileOf v)) c m cr) :
   LedRun d (k + 1) (ixL (setL (enterL L k v) k c m cr) (fileOf v) k) (pushM me (lineOf L k v) k)
structure LedInv (d : Dep) (k : Nat) (L : Led) (me : List (Int × List Int)) : Prop where
 kn : k ≤ d.revs.length
 revs : L.revs = d.revs
 lp : L.prev.length = d.revs.length
 lf : L.fst.length = d.revs.length
 lc : L.car.length = d.revs.length
 lo : L.con.length = d.revs.length
 lr : L.cre.length = d.revs.length
 ix : ∀ f i, alook L.index f = some i ↔ ∃ (j : Nat) (v : Rev), i = (j : Int) ∧ j < k ∧ d.revs[j]? = some v ∧ fileOf v = f
 f5 : ∀ (j : Nat) (v : Rev), j < k → d.revs[j]? = some v → v.act = 5 → L.fst.getD j 0 = -1 ∧ L.con.getD j none = none ∧ L.car.getD j none = none
 fm : ∀ (j : Nat) (v : Rev), j < k → d.revs[j]? = some v → ¬ v.act = 5 → 0 ≤ L.fst.getD j 0 ∧ L.fst.getD j 0 ≤ j
 pm : ∀ (j : Nat) (v : Rev), j < k → d.revs[j]? = some v → ¬ v.act = 5 →
  (∃ (u : Nat) (w : Rev), L.prev.getD j 0 = (u : Int) ∧ u < j ∧ d.revs[u]? = some w ∧ ¬ w.act = 5 ∧ fileOf w = befF v ∧ ¬ v.act = 1 ∧ w.chg < v.chg ∧ L.fst.getD j 0 = L.fst.getD u 0) ∨ (v.act = 1 ∧ L.prev.getD j 0 = -1 ∧ L.fst.getD j 0 = j)
 mem : ∀ key : Int, 0 ≤ key → (alook me key).getD [] = ((List.range k).filter fun j => decide (L.fst.getD j 0 = key)).map fun j : Nat => (j : Int)
 mne : ∀ key : Int, alook me key ≠ some []
 sets : ∀ (j : Nat) (v : Rev), j < k → d.revs[j]? = some v → ¬ v.act = 5 → ∃ c m cr, L.car.getD j none = some c ∧ L.con.getD j none = some m ∧ L.cre.getD j none = some cr
 un : ∀ j : Nat, k ≤ j → L.car.getD j none = none ∧ L.con.getD j none = none ∧ L.cre.getD j none = none
 bd : ∀ (j : Nat) (x : Int), x ∈ (L.car.getD j none).getD [] ∨ x ∈ (L.con.getD j none).getD [] ∨ x ∈ (L.cre.getD j none).getD [] → 0 ≤ x ∧ x < k
theorem getD_set {α : Type} (l : List α) (i j : Nat) (a z : α) (h : i < l.length) : (l.set i a).getD j z = if i = j then a else l.getD j z := by
 simp only [List.getD, List.getElem?_set]
 split
 ·rename_i e; subst e; simp [h]
 ·rfl
theorem good_file {l : List Rev} (hg : Good l) {i j : Nat} {u v : Rev} (hu : l[i]? = some u) (hv : l[j]? = some v) (h : fileOf u = fileOf v) : i = j := by
 simp only [fileOf, Fil.mk.injEq] at h
 rcases Nat.lt_trichotomy i j with hlt | rfl | hlt
 ·have := (hg.path i j u v hlt hu hv h.1).2; omega
 ·rfl
 ·have := (hg.path j i v u hlt hv hu h.1.symm).2; omega
theorem bef_cases {l : List Rev} (hg : Good l) {k : Nat} {v : Rev} (hv : l[k]? = some v) (h5 : ¬ v.act = 5) :
  (v.act = 1 ∧ befF v = zFil) ∨ (¬ v.act = 1 ∧ ∃ (u : Nat) (w : Rev), u < k ∧ l[u]? = some w ∧ ¬ w.act = 5 ∧ fileOf w = befF v ∧ w.chg < v.chg) := by
 by_cases h1 : v.act = 1
 ·exact .inl ⟨h1, by simp [befF, h1]⟩
 ·refine .inr ⟨h1, ?_⟩
  by_cases h4 : v.act = 4
  ·obtain ⟨j, u, a1, a2, a3, a4, a5, a6, a7⟩ := hg.mov k v hv h4
   exact ⟨j, u, a1, a2, a6, by simp [befF, h4, fileOf, a3, a4], a7⟩
  ·obtain ⟨j, u, a1, a2, a3, a4, a5, a6, a7⟩ := hg.prv k v hv h1 h4
   exact ⟨j, u, a1, a2, a6, by simp [befF, h1, h4, fileOf, a3, a4], a7⟩
theorem zFil_no {l : List Rev} (hg : Good l) {j : Nat} {v : Rev} (hv : l[j]? = some v) : fileOf v ≠ zFil := by
 intro h
 have := (hg.num j v hv).1
 simp only [fileOf, zFil, Fil.mk.injEq] at h
 omega
theorem LedInv.look {d : Dep} {k : Nat} {L : Led} {me : List (Int × List Int)} (h : LedInv d k L me) (hg : Good d.revs) {v : Rev} (hv : d.revs[k]? = some v) (h5 : ¬ v.act = 5) :
  (v.act = 1 ∧ alook L.index (befF v) = none ∧ memB L (befF v) = none) ∨
  (¬ v.act = 1 ∧ ∃ (u : Nat) (w : Rev), u < k ∧ d.revs[u]? = some w ∧ ¬ w.act = 5 ∧ fileOf w = befF v ∧ w.chg < v.chg ∧ alook L.index (befF v) = some (u : Int) ∧ memB L (befF v) = some (u : Int) ∧ 0 ≤ L.fst.getD u 0 ∧ L.fst.getD u 0 ≤ u) := by
 rcases bef_cases hg hv h5 with ⟨h1, hb⟩ | ⟨h1, u, w, a1, a2, a3, a4, a5⟩
 ·have hn : alook L.index (befF v) = none := by
   cases hk : alook L.index (befF v) with
   | none => rfl
   | some i =>
     obtain ⟨j, w, _, _, b3, b4⟩ := (h.ix _ _).1 hk
     exact absurd (b4.trans hb) (zFil_no hg b3)
  exact .inl ⟨h1, hn, by simp [memB, hn]⟩
 ·have hs : alook L.index (befF v) = some (u : Int) := (h.ix _ _).2 ⟨u, w, rfl, a1, a2, a4⟩
  obtain ⟨f1, f2⟩ := h.fm u w a1 a2 a3
  exact .inr ⟨h1, u, w, a1, a2, a3, a4, a5, hs, by simp only [memB, hs, Int.toNat_natCast, f1, if_true], f1, f2⟩
theorem mem_contsF (L : Led) (f : ByteArray) (o : Option (List Int)) : ∀ (k : Nat) (n : Int), o ∈ contsF L f n k ↔ ∃ (j i : Int), n ≤ j ∧ j < n + k ∧ alook L.index ⟨f, j⟩ = some i ∧ o = L.con.getD i.toNat none
 | 0, n => by
   simp only [contsF, List.not_mem_nil, false_iff, not_exists]
   rintro j i ⟨h1, h2, _⟩
   simp at h2; omega
 | k + 1, n => by
   simp only [contsF, List.mem_append, mem_contsF L f o k (n + 1)]
   constructor
   ·rintro (h | ⟨j, i, h1, h2, h3, h4⟩)
    ·cases hk : alook L.index ⟨f, n⟩ with
     | none => rw [hk] at h; simp at h
     | some i => rw [hk] at h; simp at h; exact ⟨n, i, by omega, by omega, hk, by simpa using h⟩
    ·exact ⟨j, i, by omega, by omega, h3, h4⟩
   ·rintro ⟨j, i, h1, h2, h3, h4⟩
    by_cases e : j = n
    ·subst e; left; rw [h3]; simp [h4]
    ·exact .inr ⟨j, i, by omega, by omega, h3, h4⟩
theorem mem_conts (L : Led) (r : Rcd) (o : Option (List Int)) : o ∈ conts L r ↔ ∃ (j i : Int), r.first ≤ j ∧ 1 ≤ j ∧ j ≤ r.last ∧ j ≤ 512 ∧ alook L.index ⟨r.frm, j⟩ = some i ∧ o = L.con.getD i.toNat none := by
 rw [conts, mem_contsF]
 constructor
 ·rintro ⟨j, i, h1, h2, h3⟩; exact ⟨j, i, by omega, by omega, by omega, by omega, h3⟩
 ·rintro ⟨j, i, h1, h2, h3, h4, h5⟩; exact ⟨j, i, by omega, by omega, h5⟩
theorem mem_accStep (L : Led) (a : Acc) (r : Rcd) (o : Option (List Int)) :
  (o ∈ (accStep L a r).car ↔ o ∈ a.car ∨ (r.how = 1 ∧ ∃ i, alook L.index ⟨r.frm, r.last⟩ = some i ∧ o = L.car.getD i.toNat none) ∨ (¬ r.how = 1 ∧ ¬ r.how = 3 ∧ o ∈ conts L r)) ∧
  (o ∈ (accStep L a r).ign ↔ o ∈ a.ign ∨ (r.how = 3 ∧ o ∈ conts L r)) ∧ ((accStep L a r).orig = true ↔ a.orig = true ∨ r.how = 4) := by
 unfold accStep
 by_cases h1 : r.how = 1
 ·rw [if_pos h1]
  have h3 : ¬ r.how = 3 := by omega
  have h4 : ¬ r.how = 4 := by omega
  cases hk : alook L.index ⟨r.frm, r.last⟩ with
  | none => simp [h1]
  | some i => simp [h1]
 ·rw [if_neg h1]
  by_cases h3 : r.how = 3
  ·rw [if_pos h3]; simp [h3]
  ·rw [if_neg h3]; simp [h1, h3]
theorem mem_accF (L : Led) (o : Option (List Int)) : ∀ (rs : List Rcd) (a : Acc),
  (o ∈ (rs.foldl (accStep L) a).car ↔ o ∈ a.car ∨ ∃ r ∈ rs, (r.how = 1 ∧ ∃ i, alook L.index ⟨r.frm, r.last⟩ = some i ∧ o = L.car.getD i.toNat none) ∨ (¬ r.how = 1 ∧ ¬ r.how = 3 ∧ o ∈ conts L r)) ∧
  (o ∈ (rs.foldl (accStep L) a).ign ↔ o ∈ a.ign ∨ ∃ r ∈ rs, r.how = 3 ∧ o ∈ conts L r) ∧ ((rs.foldl (accStep L) a).orig = true ↔ a.orig = true ∨ ∃ r ∈ rs, r.how = 4)
 | [], a => by simp
 | r :: rs, a => by
   obtain ⟨h1, h2, h3⟩ := mem_accF L o rs (accStep L a r)
   obtain ⟨g1, g2, g3⟩ := mem_accStep L a r o
   simp only [List.foldl_cons, h1, h2, h3, g1, g2, g3, List.mem_cons, exists_eq_or_imp, or_assoc]
   exact ⟨trivial, trivial, trivial⟩
theorem mem_accCar (L : Led) (i : Nat) (rs : List Rcd) (o : Option (List Int)) : o ∈ accCar L i rs ↔ o = befS L i ∨ (∃ r ∈ rs, (r.how = 1 ∧ ∃ i, alook L.index ⟨r.frm, r.last⟩ = some i ∧ o = L.car.getD i.toNat none) ∨ (¬ r.how = 1 ∧ ¬ r.how = 3 ∧ o ∈ conts L r)) ∨
  ((rs = [] ∨ ∃ r ∈ rs, r.how = 4) ∧ o = some [(i : Int)]) := by
 obtain ⟨h1, h2, h3⟩ := mem_accF L o rs (acc0 L i (decide ((rs.length : Int) = 0)))
 have ho : ((accAll L i rs).orig = true ↔ rs = [] ∨ ∃ r ∈ rs, r.how = 4) := by
  rw [accAll, h3]; simp [acc0, Int.natCast_eq_zero, List.length_eq_zero_iff]
 rw [accCar, List.mem_append, accAll, h1]
 simp only [acc0, List.mem_singleton, or_assoc]
 have : (o ∈ if (accAll L i rs).orig = true then [some [(i : Int)]] else []) ↔ ((rs = [] ∨ ∃ r ∈ rs, r.how = 4) ∧ o = some [(i : Int)]) := by
  rw [← ho]; split <;> simp_all
 rw [← this]; rfl
theorem mem_accIgn (L : Led) (i : Nat) (rs : List Rcd) (o : Option (List Int)) : o ∈ (accAll L i rs).ign ↔ o = knoS L i ∨ ∃ r ∈ rs, r.how = 3 ∧ o ∈ conts L r := by
 obtain ⟨h1, h2, h3⟩ := mem_accF L o rs (acc0 L i (decide ((rs.length : Int) = 0)))
 rw [accAll, h2]; simp [acc0]
theorem ix_step {d : Dep} {k : Nat} {L : Led} {me : List (Int × List Int)} (h : LedInv d k L me) (hg : Good d.revs) {v : Rev} (hv : d.revs[k]? = some v) :
  ∀ f i, alook (aput L.index (fileOf v) (k : Int)) f = some i ↔ ∃ (j : Nat) (w : Rev), i = (j : Int) ∧ j < k + 1 ∧ d.revs[j]? = some w ∧ fileOf w = f := by
 intro f i
 rw [alook_aput]
 by_cases e : f = fileOf v
 ·subst e
  rw [if_pos rfl]
  constructor
  ·intro h; cases h; exact ⟨k, v, rfl, by omega, hv, rfl⟩
  ·rintro ⟨j, w, rfl, _, h2, h3⟩
   rw [good_file hg h2 hv h3]
 ·rw [if_neg e, h.ix]
  constructor
  ·rintro ⟨j, w, h1, h2, h3⟩; exact ⟨j, w, h1, by omega, h3⟩
  ·rintro ⟨j, w, h1, h2, h3, h4⟩
   refine ⟨j, w, h1, ?_, h3, h4⟩
   by_cases ej : j = k
   ·subst ej; rw [hv] at h3; cases h3; exact absurd h4.symm e
   ·omega
theorem range_filter_old {k : Nat} {l m : List Int} (key : Int) (h : ∀ j, j < k → m.getD j 0 = l.getD j 0) : (List.range k).filter (fun j => decide (m.getD j 0 = key)) = (List.range k).filter (fun j => decide (l.getD j 0 = key)) :=
 List.filter_congr fun j hj => by rw [h j (by simpa using hj)]
theorem acc_bd {L : Led} {i : Nat} {rs : List Rcd} {c m cr : List Int} (hA : AccR L i rs c m cr) (P : Int → Prop) (hi : P i)
  (hb : ∀ (j : Nat) (x : Int), x ∈ (L.car.getD j none).getD [] ∨ x ∈ (L.con.getD j none).getD [] ∨ x ∈ (L.cre.getD j none).getD [] → P x) : ∀ x, x ∈ c ∨ x ∈ m ∨ x ∈ cr → P x := by
 have h1 : ∀ x, x ∈ c → P x := by
  intro x hx
  obtain ⟨o, ho, hxo⟩ := (hA.car x).1 hx
  rcases (mem_accCar L i rs o).1 ho with rfl | ⟨r, _, ⟨_, k, _, rfl⟩ | ⟨_, _, ho⟩⟩ | ⟨_, rfl⟩
  ·unfold befS at hxo
   split at hxo
   ·exact hb _ x (.inl hxo)
   ·simp at hxo
  ·exact hb _ x (.inl hxo)
  ·obtain ⟨_, k, _, _, _, _, _, rfl⟩ := (mem_conts L r o).1 ho
   exact hb _ x (.inr (.inl hxo))
  ·simp at hxo; rw [hxo]; exact hi
 rintro x (hx | hx | hx)
 ·exact h1 x hx
 ·exact h1 x ((hA.con x).1 hx).1
 ·obtain ⟨o, ho, hxo⟩ := (hA.cre x).1 hx
  rcases List.mem_append.1 ho with ho | ho
  ·rcases (mem_accIgn L i rs o).1 ho with rfl | ⟨r, _, _, ho⟩
   ·unfold knoS at hxo
    split at hxo
    ·exact hb _ x (.inr (.inr hxo))
    ·simp at hxo
   ·obtain ⟨_, k, _, _, _, _, _, rfl⟩ := (mem_conts L r o).1 ho
    exact hb _ x (.inr (.inl hxo))
  ·simp at ho; subst ho; exact h1 x (by simpa using hxo)
theorem rep_getD {α : Type} (n j : Nat) (a : α) : (List.replicate n a).getD j a = a := by
 simp only [List.getD, List.getElem?_replicate]; split <;> rfl
theorem LedRun.inv {d : Dep} (hg : Good d.revs) {k : Nat} {L : Led} {me : List (Int × List Int)} (h : LedRun d k L me) : LedInv d k L me := by
 induction h with
 | zero =>
   have hz : ∀ j : Nat, (led0 d).car.getD j none = none ∧ (led0 d).con.getD j none = none ∧ (led0 d).cre.getD j none = none := fun j => ⟨rep_getD _ _ _, rep_getD _ _ _, rep_getD _ _ _⟩
   refine ⟨by simp, rfl, by simp [led0], by simp [led0], by simp [led0], by simp [led0], by simp [led0], ?_, ?_, ?_, ?_, ?_, ?_, ?_, fun j _ => hz j, ?_⟩
   ·intro f i; simp [led0, alook]
   ·intro j v hj; omega
   ·intro j v hj; omega
   ·intro j v hj; omega
   ·intro key _; simp [alook]
   ·intro key; simp [alook]
   ·intro j v hj; omega
   ·intro j x h
    obtain ⟨h1, h2, h3⟩ := hz j
    rw [h1, h2, h3] at h
    rcases h with h | h | h <;> simp at h
 | @away k L me v h hv h5 ih =>
   have hk : k < d.revs.length := (List.getElem?_eq_some_iff.1 hv).1
   have hF : ∀ j, (ixL (enterL L k v) (fileOf v) k).fst.getD j 0 = if k = j then -1 else L.fst.getD j 0 := fun j => by
    show (L.fst.set k _).getD j 0 = _
    rw [getD_set _ _ _ _ _ (by rw [ih.lf]; exact hk), if_pos h5]
   have hP : ∀ j, (ixL (enterL L k v) (fileOf v) k).prev.getD j 0 = if k = j then -1 else L.prev.getD j 0 := fun j => by
    show (L.prev.set k _).getD j 0 = _
    rw [getD_set _ _ _ _ _ (by rw [ih.lp]; exact hk), if_pos h5]
   have old : ∀ (j : Nat) (w : Rev), j < k + 1 → d.revs[j]? = some w → ¬ w.act = 5 → j < k := by
    intro j w hj hw h
    by_cases e : j = k
    ·subst e; rw [hv] at hw; cases hw; exact absurd h5 h
    ·omega
   refine ⟨hk, ih.revs, ?_, ?_, ih.lc, ih.lo, ih.lr, ix_step ih hg hv, ?_, ?_, ?_, ?_, ih.mne, ?_, fun j hj => ih.un j (by omega), ?_⟩
   ·simp [ixL, enterL, ih.lp]
   ·simp [ixL, enterL, ih.lf]
   ·intro j w hj hw w5
    rw [hF]
    by_cases e : k = j
    ·subst e
     exact ⟨if_pos rfl, (ih.un k (Nat.le_refl _)).2.1, (ih.un k (Nat.le_refl _)).1⟩
    ·rw [if_neg e]; exact ih.f5 j w (by omega) hw w5
   ·intro j w hj hw w5
    have := old j w hj hw w5
    rw [hF, if_neg (by omega)]; exact ih.fm j w this hw w5
   ·intro j w hj hw w5
    have hj' := old j w hj hw w5
    rw [hP, hF, if_neg (by omega), if_neg (by omega)]
    rcases ih.pm j w hj' hw w5 with ⟨u, w', a1, a2, a3⟩ | h
    ·exact .inl ⟨u, w', a1, a2, by rw [hF, if_neg (by omega)]; exact a3⟩
    ·exact .inr h
   ·intro key hkey
    rw [ih.mem key hkey, List.range_succ, List.filter_append, range_filter_old (l := L.fst) (m := (ixL (enterL L k v) (fileOf v) k).fst) key (fun j hj => by rw [hF, if_neg (by omega)])]
    have : (List.filter (fun j => decide ((ixL (enterL L k v) (fileOf v) k).fst.getD j 0 = key)) [k]) = [] := by
     rw [List.filter_cons, hF, if_pos rfl, if_neg (by simp; omega)]; rfl
    rw [this, List.append_nil]
   ·intro j w hj hw w5; exact ih.sets j w (old j w hj hw w5) hw w5
   ·intro j x hx; have := ih.bd j x hx; omega
 | @memb k L me v h hv h5 c m cr hA ih =>
   have hk : k < d.revs.length := (List.getElem?_eq_some_iff.1 hv).1
   generalize hL' : ixL (setL (enterL L k v) k c m cr) (fileOf v) k = L'
   have hF : ∀ j, L'.fst.getD j 0 = if k = j then lineOf L k v else L.fst.getD j 0 := fun j => by
    rw [← hL']; show (L.fst.set k _).getD j 0 = _
    rw [getD_set _ _ _ _ _ (by rw [ih.lf]; exact hk), if_neg h5]
   have hP : ∀ j, L'.prev.getD j 0 = if k = j then prevOf L v else L.prev.getD j 0 := fun j => by
    rw [← hL']; show (L.prev.set k _).getD j 0 = _
    rw [getD_set _ _ _ _ _ (by rw [ih.lp]; exact hk), if_neg h5]
   have hC : ∀ j, L'.car.getD j none = if k = j then some c else L.car.getD j none := fun j => by
    rw [← hL']; show (L.car.set k _).getD j none = _
    rw [getD_set _ _ _ _ _ (by rw [ih.lc]; exact hk)]
   have hO : ∀ j, L'.con.getD j none = if k = j then some m else L.con.getD j none := fun j => by
    rw [← hL']; show (L.con.set k _).getD j none = _
    rw [getD_set _ _ _ _ _ (by rw [ih.lo]; exact hk)]
   have hR : ∀ j, L'.cre.getD j none = if k = j then some cr else L.cre.getD j none := fun j => by
    rw [← hL']; show (L.cre.set k _).getD j none = _
    rw [getD_set _ _ _ _ _ (by rw [ih.lr]; exact hk)]
   have hlk := ih.look hg hv h5
   have hln : 0 ≤ lineOf L k v ∧ lineOf L k v ≤ k := by
    rcases hlk with ⟨_, _, h⟩ | ⟨_, u, w, a1, a2, a3, a4, a5, a6, a7, a8, a9⟩
    ·simp only [lineOf, h]; omega
    ·simp only [lineOf, a7, Int.toNat_natCast]; omega
   refine ⟨hk, ?_, ?_, ?_, ?_, ?_, ?_, ?_, ?_, ?_, ?_, ?_, ?_, ?_, ?_, ?_⟩
   ·rw [← hL']; exact ih.revs
   ·rw [← hL']; simp [ixL, setL, enterL, ih.lp]
   ·rw [← hL']; simp [ixL, setL, enterL, ih.lf]
   ·rw [← hL']; simp [ixL, setL, enterL, ih.lc]
   ·rw [← hL']; simp [ixL, setL, enterL, ih.lo]
   ·rw [← hL']; simp [ixL, setL, enterL, ih.lr]
   ·rw [← hL']; exact ix_step ih hg hv
   ·intro j w hj hw w5
    have e : ¬ k = j := by rintro rfl; rw [hv] at hw; cases hw; exact h5 w5
    rw [hF, hO, hC, if_neg e, if_neg e, if_neg e]; exact ih.f5 j w (by omega) hw w5
   ·intro j w hj hw w5
    rw [hF]
    by_cases e : k = j
    ·subst e; rw [if_pos rfl]; exact hln
    ·rw [if_neg e]; exact ih.fm j w (by omega) hw w5
   ·intro j w hj hw w5
    rw [hF, hP]
    by_cases e : k = j
    ·subst e
     rw [hv] at hw; cases hw
     rw [if_pos rfl, if_pos rfl]
     rcases hlk with ⟨h1, _, h⟩ | ⟨h1, u, w, a1, a2, a3, a4, a5, a6, a7, a8, a9⟩
     ·exact .inr ⟨h1, by simp only [prevOf, h], by simp only [lineOf, h]⟩
     ·refine .inl ⟨u, w, by simp only [prevOf, a7], a1, a2, a3, a4, h1, a5, ?_⟩
      rw [hF, if_neg (by omega)]; simp only [lineOf, a7, Int.toNat_natCast]
    ·rw [if_neg e, if_neg e]
     rcases ih.pm j w (by omega) hw w5 with ⟨u, w', a1, a2, a3⟩ | h
     ·exact .inl ⟨u, w', a1, a2, by rw [hF, if_neg (by omega)]; exact a3⟩
     ·exact .inr h
   ·intro key hkey
    rw [List.range_succ, List.filter_append, range_filter_old (l := L.fst) (m := L'.fst) key (fun j hj => by rw [hF, if_neg (by omega)]), List.map_append, ← ih.mem key hkey, pushM, alook_aput]
    by_cases e : key = lineOf L k v
    ·subst e
     have : (List.filter (fun j => decide (L'.fst.getD j 0 = lineOf L k v)) [k]) = [k] := by
      rw [List.filter_cons, hF, if_pos rfl, if_pos (by simp)]; rfl
     rw [if_pos rfl, this]; rfl
    ·have : (List.filter (fun j => decide (L'.fst.getD j 0 = key)) [k]) = [] := by
      rw [List.filter_cons, hF, if_pos rfl, if_neg (by simp; exact fun h => e h.symm)]; rfl
     rw [if_neg e, this]; simp
   ·intro key
    rw [pushM, alook_aput]
    split
    ·simp
    ·exact ih.mne key
   ·intro j w hj hw w5
    rw [hC, hO, hR]
    by_cases e : k = j
    ·subst e; exact ⟨c, m, cr, if_pos rfl, if_pos rfl, if_pos rfl⟩
    ·rw [if_neg e, if_neg e, if_neg e]; exact ih.sets j w (by omega) hw w5
   ·intro j hj
    rw [hC, hO, hR, if_neg (by omega), if_neg (by omega), if_neg (by omega)]; exact ih.un j (by omega)
   ·intro j x hx
    rw [hC, hO, hR] at hx
    by_cases e : k = j
    ·rw [if_pos e, if_pos e, if_pos e] at hx
     refine acc_bd hA (fun x => 0 ≤ x ∧ x < ((k + 1 : Nat) : Int)) (by omega) ?_ x hx
     intro j x hx
     have := ih.bd j x hx
     omega
    ·rw [if_neg e, if_neg e, if_neg e] at hx
     have := ih.bd j x hx
     omega
end Go.Proofs.YtmhboloicpieeaaGreatDoor
namespace Go.Proofs.YtmhboloicpieeaaGreatDoor
open Go.Ab Tys
variable [Dr]
def k36 := And.intro @Tryz.ntmps36 <| And.intro @Tryz.underlying27 <| And.intro @bld30 <| And.intro @bld46 <| And.intro @elt27 <| And.intro @fld30_0 <| And.intro @fld46_0 <| And.intro @ti27 <| And.intro @ti30 <| And.intro @ti46 <| @ti9
theorem v36F2 {G G' : Prop} (g : G') (h : Hid G' → G := by intro h9; (first | refine nvB ?_ | refine goA (wr := false) (by simp only [kB, kS, k36, Nat.reduceAdd, Nat.reduceLT, Nat.reduceEqDiff, ↓reduceIte, reduceCtorEq]; first | done | rfl) ?_); (repeat (first | refine nvB ?_ | refine goA (wr := false) (by simp only [kB, kS, k36, Nat.reduceAdd, Nat.reduceLT, Nat.reduceEqDiff, ↓reduceIte, reduceCtorEq]; first | done | rfl) ?_)); exact h9.out) : G := h ⟨g⟩
set_option maxRecDepth 100000 in
set_option maxHeartbeats 4000000 in
theorem log_ac (d : Dep) (p : ByteArray) (hd : d.revs.length ≤ 1000000) : AC Tryz.prog 36 [aDep d, Str p] [] (fun r st => r = aRevs (log d p) ∧ st = []) := by
 refine AC_enter Tryz.func36 rfl rfl (by simp only [Tryz.ntmps36, List.length]; omega) ?_
 intro x hx
 simp only [List.range, List.range.loop, List.length, List.zip, List.zipWith, Nat.reduceAdd, Tryz.ntmps36]
 try refine v36F2 ?_
 refine T_ent (Ent_adopt (i := 5) (id := 100) (sz := 12) rfl rfl (by omega)) ?_
 refine fzA ?_
 refine T_loop (ι := Nat) (I := fun k => ⟨25, [(1, Str p), (5, .c (.ms 100 12 0 ((d.revs.take k).filter fun v => decide (v.path = p)).length)), (9, aRevs d.revs), (10, I .i64 d.revs.length), (11, I .i64 k)],
   [(100, dArr 12 (((d.revs.take k).filter fun v => decide (v.path = p)).map encRev))]⟩)
  (Inv := fun k => k ≤ d.revs.length) (μ := fun k => d.revs.length - k) 0 (by omega) ?_ ?_
 ·exact enA
 ·intro k hk
  have hF := filter_take_le (fun v => decide (v.path = p)) d.revs k
  try refine v36F2 ?_
  refine ifA ?_ ?_
  ·intro hlt
   have hlt' : k < d.revs.length := by simpa using hlt
   obtain ⟨v, hv, he, htk⟩ := round encRev d.revs k zRev hlt'
   refine nvA ?_
   refine goA (wr := false) (by simp only [kB, kS, k36, Nat.reduceAdd, Nat.reduceLT, Nat.reduceEqDiff, ↓reduceIte, reduceCtorEq, he]; first | done | rfl) ?_
   try refine v36F2 ?_
   refine ifA ?_ ?_
   ·intro heq
    have heq' : v.path = p := by simpa using heq
    try refine v36F2 ?_
    refine ⟨k + 1, by omega, by omega, ?_⟩
    (refine Ent_sub (fun i => if i = 100 then 22 else i) rfl ?_ ⟨?_, ?_, ?_, keepR hx (by simp [domOf, Ab.get])⟩ <;> first | (intro i hi; have h0 := hx i hi; constructor <;> (revert h0; simp only [domOf, Ab.get]; (repeat' split) <;> simp_all); done) | (simp only [kE, dArr, ↓reduceIte, Nat.reduceEqDiff, reduceCtorEq]; done) | (simp only [dArr, ren_arr, ren_map, List.mem_cons, List.not_mem_nil, or_false, forall_eq_or_imp, forall_eq]; simp [renAV, renC, renAO, ren_up, flat_up, Ab.get, clAV, clC, clCs, clAO, cl_f1, cl_s1, cl_f2, cl_s2, cl_a1, domOf, List.flatten, htk, heq', List.filter_append]; done) | simp [renAV, renC, renAO, ren_up, flat_up, Ab.get, clAV, clC, clCs, clAO, cl_f1, cl_s1, cl_f2, cl_s2, cl_a1, domOf, List.flatten, htk, heq', List.filter_append])
   ·intro hne
    have hne' : ¬ v.path = p := by simpa using hne
    try refine v36F2 ?_
    refine ⟨k + 1, by omega, by omega, ?_⟩
    (refine Ent_sub (fun i => i) rfl ?_ ⟨?_, ?_, ?_, keepI hx (by simp [domOf, Ab.get])⟩ <;> first | (simp only [kE, dArr, ↓reduceIte, Nat.reduceEqDiff, reduceCtorEq, htk, hne', List.filter_append]; done) | simp [renAV_id, renAO_id, flat_up, Ab.get, clAV, clC, clCs, clAO, cl_f1, cl_s1, cl_f2, cl_s2, cl_a1, domOf, List.flatten, htk, hne', List.filter_append])
  ·intro hge
   have hge' : k = d.revs.length := by have : ¬ k < d.revs.length := by simpa using hge
                                       omega
   refine nvA ?_
   refine TO_ent (Ent_frzSlot (i := 5) (id := 100) (ys := ((d.revs.take k).filter fun v => decide (v.path = p)).map encRev) rfl rfl (by simp)) ?_
   refine fzA ?_
   try refine v36F2 ?_
   refine rtA (by simp only [kR, Tryz.results36, ↓reduceIte, Nat.reduceEqDiff, reduceCtorEq]; first | done | rfl) ([]) ?_
   refine ⟨?_, rfl⟩
   simp [log, hge']
end Go.Proofs.YtmhboloicpieeaaGreatDoor
namespace Go.Proofs.YtmhboloicpieeaaGreatDoor
open Go.Ab
def splitL : List UInt8 → List (List UInt8)
 | [] => [[]]
 | a :: l => if a = 47 then [] :: splitL l else match splitL l with | [] => [[a]] | h :: t => (a :: h) :: t
theorem splitL_cons : ∀ l, ∃ h t, splitL l = h :: t
 | [] => ⟨[], [], rfl⟩
 | a :: l => by
   obtain ⟨h, t, e⟩ := splitL_cons l
   simp only [splitL]
   split
   ·exact ⟨_, _, rfl⟩
   ·rw [e]; exact ⟨_, _, rfl⟩
def cmpP : List UInt8 → List UInt8 → Int
 | [], [] => 0
 | [], _ :: _ => -1
 | _ :: _, [] => 1
 | a :: l, b :: m => if a = b then cmpP l m else if a = 47 then -1 else if b = 47 then 1 else if a < b then -1 else 1
def cmpLL : List (List UInt8) → List (List UInt8) → Int
 | [], [] => 0
 | [], _ :: _ => -1
 | _ :: _, [] => 1
 | a :: l, b :: m => if Lib.compareBytes a b = 0 then cmpLL l m else Lib.compareBytes a b
theorem cmpP_split : ∀ l m : List UInt8, cmpP l m = cmpLL (splitL l) (splitL m)
 | [], [] => by simp [cmpP, splitL, cmpLL, Lib.compareBytes]
 | [], b :: m => by
   obtain ⟨h, t, e⟩ := splitL_cons m
   simp only [cmpP, splitL]
   split
   ·rw [e]; simp [cmpLL, Lib.compareBytes]
   ·rw [e]; simp [cmpLL, Lib.compareBytes]
 | a :: l, [] => by
   obtain ⟨h, t, e⟩ := splitL_cons l
   simp only [cmpP, splitL]
   split
   ·rw [e]; simp [cmpLL, Lib.compareBytes]
   ·rw [e]; simp [cmpLL, Lib.compareBytes]
 | a :: l, b :: m => by
   obtain ⟨h1, t1, e1⟩ := splitL_cons l
   obtain ⟨h2, t2, e2⟩ := splitL_cons m
   have ih := cmpP_split l m
   simp only [cmpP, splitL]
   by_cases hab : a = b
   ·subst hab
    rw [if_pos rfl, ih]
    by_cases ha : a = 47
    ·rw [if_pos ha, if_pos ha]; simp [cmpLL, Lib.compareBytes]
    ·have : ¬ a < a := by simp
     rw [if_neg ha, if_neg ha, e1, e2]
     simp only [cmpLL]
     rw [show Lib.compareBytes (a :: h1) (a :: h2) = Lib.compareBytes h1 h2 by rw [Lib.compareBytes, if_neg this, if_neg this]]
   ·rw [if_neg hab]
    by_cases ha : a = 47
    ·have hb : ¬ b = 47 := by rintro rfl; exact hab ha
     rw [if_pos ha, if_pos ha, if_neg hb, e2]; simp [cmpLL, Lib.compareBytes]
    ·rw [if_neg ha, if_neg ha]
     by_cases hb : b = 47
     ·rw [if_pos hb, if_pos hb, e1]; simp [cmpLL, Lib.compareBytes]
     ·rw [if_neg hb, if_neg hb, e1, e2]
      simp only [cmpLL]
      by_cases hl : a < b
      ·rw [if_pos hl, Lib.compareBytes, if_pos hl]; simp
      ·have hg : b < a := by
        simp only [UInt8.lt_iff_toNat_lt] at hl ⊢
        have : a.toNat ≠ b.toNat := fun h => hab (UInt8.toNat_inj.1 h)
        omega
       rw [if_neg hl, Lib.compareBytes, if_neg hl, if_pos hg]; simp
def mkB (l : List UInt8) : ByteArray := ⟨l.toArray⟩
theorem mkB_list (l : List UInt8) : (mkB l).data.toList = l := rfl
theorem splitL_no : ∀ {pre : List UInt8}, (∀ x ∈ pre, x ≠ 47) → splitL pre = [pre]
 | [], _ => rfl
 | a :: l, h => by
   rw [splitL, if_neg (h a (by simp)), splitL_no fun x hx => h x (by simp [hx])]
theorem splitL_pre : ∀ {pre post : List UInt8}, (∀ x ∈ pre, x ≠ 47) → splitL (pre ++ 47 :: post) = pre :: splitL post
 | [], _, _ => by simp [splitL]
 | a :: l, post, h => by
   rw [List.cons_append, splitL, if_neg (h a (by simp)), splitL_pre fun x hx => h x (by simp [hx])]
theorem idx_spec : ∀ l : List UInt8, (Lib.indexByte l 47 < 0 ∧ ∀ x ∈ l, x ≠ 47) ∨ ∃ pre post, l = pre ++ 47 :: post ∧ Lib.indexByte l 47 = pre.length ∧ ∀ x ∈ pre, x ≠ 47
 | [] => .inl ⟨by simp [Lib.indexByte], by simp⟩
 | a :: l => by
   by_cases ha : a = 47
   ·subst ha; exact .inr ⟨[], l, rfl, by simp [Lib.indexByte], by simp⟩
   ·rcases idx_spec l with ⟨h1, h2⟩ | ⟨pre, post, h1, h2, h3⟩
    ·refine .inl ⟨?_, ?_⟩
     ·have := Lib.indexByte_ge l 47
      have e : Lib.indexByte l 47 = -1 := by omega
      simp [Lib.indexByte, ha, e]
     ·intro x hx
      rcases List.mem_cons.1 hx with rfl | hx
      ·exact ha
      ·exact h2 x hx
    ·refine .inr ⟨a :: pre, post, by rw [h1]; rfl, ?_, ?_⟩
     ·have : ¬ (pre.length : Int) = -1 := by omega
      simp [Lib.indexByte, ha, h2, this]
     ·intro x hx
      rcases List.mem_cons.1 hx with rfl | hx
      ·exact ha
      ·exact h3 x hx
theorem splitN_L : ∀ (n : Nat) (l : List UInt8), Lib.countByte l 47 ≤ n → splitN n (mkB l) = (splitL l).map mkB
 | 0, l, h => by
   have : ∀ x ∈ l, x ≠ 47 := by
    intro x hx e
    subst e
    have := List.count_pos_iff.2 hx
    simp only [Lib.countByte] at h; omega
   rw [splitL_no this]; rfl
 | n + 1, l, h => by
   rcases idx_spec l with ⟨h1, h2⟩ | ⟨pre, post, h1, h2, h3⟩
   ·rw [splitL_no h2, splitN_neg (by simpa [idxS, mkB_list] using h1)]; rfl
   ·have hi : idxS (mkB l) = pre.length := h2
    have hnn : ¬ idxS (mkB l) < 0 := by omega
    subst h1
    rw [splitL_pre h3, splitN, if_neg hnn, hi, List.map_cons]
    have hc : Lib.countByte post 47 ≤ n := by
     simp only [Lib.countByte] at h ⊢
     rw [List.count_append, List.count_cons_self] at h; omega
    rw [← splitN_L n post hc]
    congr 1
    ·apply ByteArray.ext; rw [ByteArray.data_extract]; simp [mkB]
    ·congr 1
     apply ByteArray.ext; rw [ByteArray.data_extract]; simp [mkB, ByteArray.size]; exact List.take_of_length_le (by omega)
theorem split_L (s : ByteArray) : split s = (splitL s.data.toList).map mkB := splitN_L _ _ (Nat.le_refl _)
theorem cmpL_L : ∀ a b : List (List UInt8), cmpL (a.map mkB) (b.map mkB) = cmpLL a b
 | [], [] => rfl
 | [], _ :: _ => rfl
 | _ :: _, [] => rfl
 | a :: l, b :: m => by
   simp only [List.map_cons, cmpL, cmpLL, cb, mkB_list, cmpL_L l m]
theorem byteAt_get {p : ByteArray} {k : Nat} (hk : k < p.size) : ∃ x, p.data.toList[k]? = some x ∧ byteAt p k = (x.toNat : Int) := by
 have h : k < p.data.size := hk
 exact ⟨p.data[k], by simp [h], by simp [byteAt, Array.getD, h, hk]⟩
theorem byteAt_47 {p : ByteArray} {k : Nat} {x : UInt8} (hx : p.data.toList[k]? = some x) : byteAt p k = 47 ↔ x = 47 := by
 have hk : k < p.size := by have := (List.getElem?_eq_some_iff.1 hx).1; simpa using this
 obtain ⟨y, h1, h2⟩ := byteAt_get hk
 rw [hx] at h1; cases h1
 rw [h2]
 constructor
 ·intro h; exact UInt8.toNat_inj.1 (by simpa using (by omega : x.toNat = 47))
 ·rintro rfl; rfl
theorem mkB_seg (p : ByteArray) (b i : Nat) : mkB ((p.data.toList.drop b).take (i - b)) = p.extract b i := by
 apply ByteArray.ext
 rw [ByteArray.data_extract]
 simp only [mkB]
 apply Array.ext'
 simp [List.extract, List.drop_take]
def vB (p : ByteArray) (c b : Nat) : Bool := if b ≤ p.size then (splitL (p.data.toList.drop b)).all (fun x => comp (mkB x)) && decide (2 ≤ c + (splitL (p.data.toList.drop b)).length) else decide (2 ≤ c)
theorem vB_next {p : ByteArray} {c b i : Nat} (hb : b ≤ i) (hi : i ≤ p.size) (hno : ∀ k, b ≤ k → k < i → byteAt p k ≠ 47) (hst : i = p.size ∨ (i < p.size ∧ byteAt p i = 47)) :
  vB p c b = (comp (p.extract b i) && vB p (c + 1) (i + 1)) := by
 have hn : ∀ x ∈ (p.data.toList.drop b).take (i - b), x ≠ 47 := by
  intro x hx e
  obtain ⟨k, hk⟩ := List.getElem?_of_mem hx
  have hkl := (List.getElem?_eq_some_iff.1 hk).1
  simp at hkl
  rw [List.getElem?_take, if_pos (by omega), List.getElem?_drop] at hk
  exact hno (b + k) (by omega) (by omega) ((byteAt_47 hk).2 e)
 rw [← mkB_seg]
 unfold vB
 rw [if_pos (by omega)]
 rcases hst with h | ⟨h, h47⟩
 ·have hall : (p.data.toList.drop b).take (i - b) = p.data.toList.drop b := List.take_of_length_le (by have : p.data.size = p.size := rfl; simp; omega)
  rw [hall] at hn ⊢
  rw [splitL_no hn, if_neg (by omega)]
  simp
 ·obtain ⟨x, hx, _⟩ := byteAt_get h
  have hx47 := (byteAt_47 hx).1 h47
  subst hx47
  have e : p.data.toList.drop b = (p.data.toList.drop b).take (i - b) ++ 47 :: p.data.toList.drop (i + 1) := by
   have h1 : (p.data.toList.drop b).drop (i - b) = 47 :: p.data.toList.drop (i + 1) := by
    rw [List.drop_drop, show b + (i - b) = i by omega, List.drop_eq_getElem?_toList_append, hx]; rfl
   conv => lhs; rw [← List.take_append_drop (i - b) (p.data.toList.drop b), h1]
  have e2 : splitL (p.data.toList.drop b) = (p.data.toList.drop b).take (i - b) :: splitL (p.data.toList.drop (i + 1)) := by
   conv => lhs; rw [e]
   exact splitL_pre hn
  rw [e2, if_pos (by omega), List.all_cons, List.length_cons, Bool.and_assoc, show c + 1 + (splitL (p.data.toList.drop (i + 1))).length = c + ((splitL (p.data.toList.drop (i + 1))).length + 1) by omega]
theorem vB_start {p : ByteArray} (h : hasPrefix p dslash = true) : (path? p).isSome = vB p 0 2 := by
 have h2 : 2 ≤ p.size := by
  exact of_decide_eq_true (Bool.and_eq_true_iff.1 h).1
 have hb : (p.extract 2 p.size).data.toList = p.data.toList.drop 2 := by
  rw [← mkB_seg, mkB_list]
  exact List.take_of_length_le (by simp)
 have hs : split (p.extract 2 p.size) = (splitL (p.data.toList.drop 2)).map mkB := by rw [split_L, hb]
 unfold path? parts? vB
 rw [if_pos h, if_pos h2, hs, List.all_map]
 cases ha : (splitL (p.data.toList.drop 2)).all fun x => comp (mkB x) with
 | true =>
   rw [if_pos (by simpa [Function.comp] using ha)]
   simp only [List.length_map, Bool.true_and, Nat.zero_add]
   by_cases hl : (splitL (p.data.toList.drop 2)).length < 2
   ·rw [if_pos hl]; symm; simp; omega
   ·rw [if_neg hl]; symm; simp; omega
 | false =>
   rw [if_neg (by simpa [Function.comp] using ha)]
   simp
theorem path_noprefix {p : ByteArray} (h : hasPrefix p dslash = false) : (path? p).isSome = false := by
 simp [path?, parts?, h]
theorem cmpP_ord {p q : ByteArray} (hp : (path? p).isSome = true) (hq : (path? q).isSome = true) : cmpP p.data.toList q.data.toList = ord p q := by
 have key : ∀ {p : ByteArray}, (path? p).isSome = true → ∃ l, p.data.toList = 47 :: 47 :: l ∧ path? p = some ((splitL l).map mkB) := by
  intro p hp
  have hpre : hasPrefix p dslash = true := by
   cases h : hasPrefix p dslash with
   | true => rfl
   | false => rw [path_noprefix h] at hp; cases hp
  have h2 : 2 ≤ p.size := by
   exact of_decide_eq_true (Bool.and_eq_true_iff.1 hpre).1
  have hext : p.extract 0 2 = dslash := by
   have := (Bool.and_eq_true_iff.1 hpre).2
   exact of_decide_eq_true this
  have hb : (p.extract 2 p.size).data.toList = p.data.toList.drop 2 := by
   rw [← mkB_seg, mkB_list]
   exact List.take_of_length_le (by simp)
  refine ⟨p.data.toList.drop 2, ?_, ?_⟩
  ·have : (p.data.toList.drop 0).take (2 - 0) = [47, 47] := by
    have := mkB_seg p 0 2
    rw [hext] at this
    have := congrArg (fun b : ByteArray => b.data.toList) this
    simpa [mkB] using this
   conv => lhs; rw [← List.take_append_drop 2 p.data.toList]
   rw [show p.data.toList.take 2 = [47, 47] by simpa using this]; rfl
  ·have hs : split (p.extract 2 p.size) = (splitL (p.data.toList.drop 2)).map mkB := by rw [split_L, hb]
   unfold path? parts? at hp ⊢
   rw [if_pos hpre, hs] at hp ⊢
   by_cases ha : ((splitL (p.data.toList.drop 2)).map mkB).all comp = true
   ·rw [if_pos ha] at hp ⊢
    simp only at hp ⊢
    split
    ·rename_i hl; rw [if_pos hl] at hp; cases hp
    ·rfl
   ·rw [if_neg ha] at hp; cases hp
 obtain ⟨l, e1, p1⟩ := key hp
 obtain ⟨m, e2, p2⟩ := key hq
 rw [e1, e2]
 have : cmpP (47 :: 47 :: l) (47 :: 47 :: m) = cmpP l m := by simp [cmpP]
 rw [this, cmpP_split]
 unfold ord
 rw [p1, p2]
 exact (cmpL_L _ _).symm
end Go.Proofs.YtmhboloicpieeaaGreatDoor
namespace Go.Ab
variable [Dr]
section
variable {P : Program} {x : X}
theorem TO_nilNe {Q : Exit → S → Prop} {s : S} {ops l : List Oper} {d : Tmp} {T T' e : TypeId} {y : Operand} {ty : TypeId} {pos : String} {after : Array Edge} {sz : Nat} {xs : List (List D)} (hd : d < s.n)
  (hT : P.underlying T = some (.slice e)) (hy : ev s y = some (.c (.d (.ps sz xs)))) (hx : xs ≠ [])
  (hk : TO P x ops l ⟨s.n, put s.env d (B false), s.st⟩ Q) : TO P x ops (⟨some d, .binOp .eql T y (.const (.slice none 0 0)) T', ty, pos, after, none⟩ :: l) s Q := by
 rintro a w ⟨bl, cap, hs, henv, hdf, hsz⟩
 have h1 : RepD _ _ (.ps sz xs) (a.eval y) := ev_rep henv hy
 refine wpList_plain rfl fun K hK => ?_
 unfold Oper.wp
 have h2 : a.eval (.const (.slice none 0 0)) = .slice none 0 0 := rfl
 have hrun : (execOp a.eval ⟨some d, .binOp .eql T y (.const (.slice none 0 0)) T', ty, pos, after, none⟩).run P w = .ok (.value (.bool false)) w := by
  have h3 : ∃ u, u = a.eval y := ⟨_, rfl⟩
  obtain ⟨u, hu⟩ := h3
  rw [← hu] at h1
  cases h1 with
  | nil => exact absurd rfl hx
  | ps _ _ b o cp f hM hl2 hc hrr hcap hb =>
    have e1 : (Op.equal T (.slice (some ⟨b, o, none⟩) xs.length cp) (.slice none 0 0)).run P w = .ok false w := by
     show (Op.equalIn (9999 + 1) T _ _).run P w = _
     rw [Op.equalIn]
     simp [run_underlying hT]
    have e2 : (binOp .eql T (.slice (some ⟨b, o, none⟩) xs.length cp) (.slice none 0 0)).run P w = .ok (.bool false) w := by
     show (Value.bool <$> Op.equal T _ _ : Sem Value).run P w = _
     simp [e1]
    simp [execOp, h2, eqGuard, ← hu, e2]
 rw [hrun]
 exact hK _ _ (hk _ _ ⟨bl, cap, hs, henv.put (by rw [hsz]; exact hd) (.v _ rfl), by rw [Act.put_defers]; exact hdf, by rw [Act.put_size]; exact hsz⟩)
end
end Go.Ab
namespace Go.Proofs.YtmhboloicpieeaaGreatDoor
open Go.Ab
structure Cmp {α : Type} (c : α → α → Int) : Prop where
 refl : ∀ x, c x x = 0
 neg : ∀ x y, c x y < 0 → 0 < c y x
 pos : ∀ x y, 0 < c x y → c y x < 0
 eql : ∀ x y z, c x y = 0 → c x z = c y z
 eqr : ∀ x y z, c x y = 0 → c z x = c z y
 trans : ∀ x y z, c x y < 0 → c y z < 0 → c x z < 0
theorem Cmp.on {α β : Type} {c : β → β → Int} (h : Cmp c) (f : α → β) : Cmp fun x y => c (f x) (f y) :=
 ⟨fun x => h.refl _, fun x y => h.neg _ _, fun x y => h.pos _ _, fun x y z => h.eql _ _ _, fun x y z => h.eqr _ _ _, fun x y z => h.trans _ _ _⟩
theorem Cmp.of {α : Type} {c : α → α → Int} (refl : ∀ x, c x x = 0) (neg : ∀ x y, c x y < 0 → 0 < c y x) (pos : ∀ x y, 0 < c x y → c y x < 0) (eq : ∀ x y, c x y = 0 → x = y) (trans : ∀ x y z, c x y < 0 → c y z < 0 → c x z < 0) : Cmp c :=
 ⟨refl, neg, pos, fun x y z h => by rw [eq x y h], fun x y z h => by rw [eq x y h], trans⟩
end Go.Proofs.YtmhboloicpieeaaGreatDoor
namespace Go.Ab
variable [Dr]
section
variable {P : Program} {x : X}
theorem TO_half {Q : Exit → S → Prop} {s : S} {ops l : List Oper} {d : Tmp} {T T' : TypeId} {y : Operand} {ty : TypeId} {pos : String} {after : Array Edge} {k : IntKind} {n : Nat} (hd : d < s.n)
  (hy : ev s y = some (I k n)) (hn : InR k (((n / 2 : Nat) : Int)))
  (hk : TO P x ops l ⟨s.n, put s.env d (I k ((n / 2 : Nat) : Int)), s.st⟩ Q) : TO P x ops (⟨some d, .binOp .shr T y (.const (.int .u64 1)) T', ty, pos, after, none⟩ :: l) s Q := by
 rintro a w ⟨bl, cap, hs, henv, hdf, hsz⟩
 have h1 : a.eval y = .int k n := rep_v (ev_rep henv hy)
 refine wpList_plain rfl fun K hK => ?_
 unfold Oper.wp
 have hrun : (execOp a.eval ⟨some d, .binOp .shr T y (.const (.int .u64 1)) T', ty, pos, after, none⟩).run P w = .ok (.value (.int k ((n / 2 : Nat) : Int))) w := by
  have e : Int.fdiv (n : Int) 2 = ((n / 2 : Nat) : Int) := by rw [Int.fdiv_eq_ediv_of_nonneg _ (by omega)]; simp
  have h2 : a.eval (.const (.int .u64 1)) = .int .u64 1 := rfl
  have h3 : min (1 : Int).toNat k.bits = 1 := by cases k <;> rfl
  have h4 : binOp .shr T (.int k n) (.int .u64 1) = pure (.int k ((n / 2 : Nat) : Int)) := by
   rw [← e]
   simp [binOp, Op.shift, h3]
   cases k <;> rfl
  simp [execOp, h1, h2, eqGuard, h4]
 rw [hrun]
 exact hK _ _ (hk _ _ ⟨bl, cap, hs, henv.put (by rw [hsz]; exact hd) (.v _ rfl), by rw [Act.put_defers]; exact hdf, by rw [Act.put_size]; exact hsz⟩)
end
end Go.Ab
namespace Go.Proofs.YtmhboloicpieeaaGreatDoor
open Go.Ab Tys
variable [Dr]
theorem look0 (k : List C) : findE k [] = none := rfl
theorem all_take {κ : Type} (p : κ → Bool) (x : List κ) (k : κ) (y : List κ) : (x ++ k :: y).all p = (p k && (x ++ y).all p) := by
 simp only [List.all_append, List.all_cons]
 cases x.all p <;> cases p k <;> cases y.all p <;> rfl
def k74 := And.intro @Tryz.ntmps74 <| And.intro @bld37 <| And.intro @kyt37 <| And.intro @mpt157 <| And.intro @ti157 <| And.intro @ti37 <| @ti4
theorem v74S2 {G G' : Prop} (g : G') (h : Hid G' → G := by intro h9; (first | refine nvB ?_ | refine goA (wr := false) (by simp only [kB, kM, k74, Nat.reduceAdd, Nat.reduceLT, Nat.reduceEqDiff, ↓reduceIte, reduceCtorEq]; first | done | rfl) ?_); (repeat (first | refine nvB ?_ | refine goA (wr := false) (by simp only [kB, kM, k74, Nat.reduceAdd, Nat.reduceLT, Nat.reduceEqDiff, ↓reduceIte, reduceCtorEq]; first | done | rfl) ?_)); exact h9.out) : G := h ⟨g⟩
set_option maxRecDepth 100000 in
set_option maxHeartbeats 4000000 in
theorem Within_ac (l m : List Fil) : AC Tryz.prog 74 [.c (.d (.pm (sEnt kF l))), .c (.d (.pm (sEnt kF m)))] [] (fun r st => r = B (subB l m) ∧ st = []) := by
 refine AC_enter Tryz.func74 rfl rfl (by simp only [Tryz.ntmps74, List.length]; omega) ?_
 intro x hx
 simp only [List.range, List.range.loop, List.length, List.zip, List.zipWith, Nat.reduceAdd, Tryz.ntmps74]
 try refine v74S2 ?_
 refine T_loop (ι := Option EntD × List Fil) (I := fun i => ⟨16, [(1, .c (.d (.pm (sEnt kF m)))), (7, .c (.ptr 7 0))], [(7, .iter i.1 (sEnt kF i.2))]⟩) (Inv := fun i => subB l m = i.2.all (fun k => decide (k ∈ m))) (μ := fun i => i.2.length) (none, l) rfl ?_ ?_
 ·exact enA
 rintro ⟨cur, rest⟩ h
 simp only at h ⊢
 refine nvA ?_
 refine TO_next (id := 7) (by simp) (by simp only [kV, ↓reduceIte, Nat.reduceEqDiff, reduceCtorEq]; first | done | rfl) rfl ?_ ?_
 ·intro h0
  refine fzA ?_
  try refine v74S2 ?_
  refine ifA ?_ ?_
  ·intro hh; cases hh
  intro _
  try refine v74S2 ?_
  refine rtA (by simp only [kR, Tryz.results74, ↓reduceIte, Nat.reduceEqDiff, reduceCtorEq]; first | done | rfl) ([]) ?_
  refine ⟨?_, rfl⟩
  have : rest = [] := by simpa [sEnt] using h0
  rw [h, this]; rfl
 intro l1 e l2 hsp
 obtain ⟨xs, k, y, rfl, rfl, rfl, rfl⟩ := sEnt_split hsp
 refine fzA ?_
 (repeat (first | refine nvB ?_ | refine goA (wr := false) (by simp only [kB, kM, k74, Nat.reduceAdd, Nat.reduceLT, Nat.reduceEqDiff, ↓reduceIte, reduceCtorEq, upD]; first | done | rfl) ?_))
 refine ifA ?_ ?_
 rotate_left
 ·intro hh; cases hh
 intro _
 (repeat (first | refine nvB ?_ | refine goA (wr := false) (by simp only [kB, kM, k74, Nat.reduceAdd, Nat.reduceLT, Nat.reduceEqDiff, ↓reduceIte, reduceCtorEq, upD]; first | done | rfl) ?_))
 refine TO_go (wr := false) 400 (by simp only [kB, kM, k74, Nat.reduceAdd, Nat.reduceLT, Nat.reduceEqDiff, ↓reduceIte, reduceCtorEq, look_F]; first | done | rfl) ?_ ?_
 ·exact obT (ty_F m)
 try refine v74S2 ?_
 refine ifA ?_ ?_
 ·intro hk
  try refine v74S2 ?_
  refine rtA (by simp only [kR, Tryz.results74, ↓reduceIte, Nat.reduceEqDiff, reduceCtorEq]; first | done | rfl) ([]) ?_
  refine ⟨?_, rfl⟩
  rw [h, all_take]
  simp at hk
  simp [hk]
 ·intro hk
  try refine v74S2 ?_
  refine ⟨(some (kF k, (false, [.v (.bool true)])), xs ++ y), ?_, by simp, ?_⟩
  ·rw [h, all_take]
   simp at hk
   simp [hk]
  ·exact enA
end Go.Proofs.YtmhboloicpieeaaGreatDoor
namespace Go.Proofs.YtmhboloicpieeaaGreatDoor
open Go.Ab
def grStep (q : Rev → Bool) (acc : Option Rev) (r : Rev) : Option Rev := if q r && (match acc with | none => true | some f => decide (f.num < r.num)) then some r else acc
def grt (q : Rev → Bool) (l : List Rev) : Option Rev := l.foldl (grStep q) none
theorem grt_path {l : List Rev} (p : ByteArray) (h : ∀ (i j : Nat) (u v : Rev), i < j → l[i]? = some u → l[j]? = some v → u.path = v.path → u.num < v.num) :
  grt (fun r => decide (r.path = p)) l = (l.filter fun r => decide (r.path = p)).getLast? := by
 have : ∀ k, k ≤ l.length → (l.take k).foldl (grStep fun r => decide (r.path = p)) none = ((l.take k).filter fun r => decide (r.path = p)).getLast? := by
  intro k
  induction k with
  | zero => simp
  | succ k ih =>
    intro hk
    have hr : l[k]? = some l[k] := List.getElem?_eq_getElem (by omega)
    have ht : l.take (k + 1) = l.take k ++ [l[k]] := by rw [List.take_add_one, hr]; rfl
    rw [ht, List.foldl_append, ih (by omega), List.foldl_cons, List.foldl_nil]
    have hA := (lastF (fun r : Rev => decide (r.path = p)) (l.take k)).1
    by_cases hp : l[k].path = p
    ·have e : ((l.take k ++ [l[k]]).filter fun r => decide (r.path = p)).getLast? = some l[k] := by
      rw [List.filter_append, show [l[k]].filter (fun r => decide (r.path = p)) = [l[k]] by simp [hp], List.getLast?_append]; rfl
     rw [e]
     cases hf : ((l.take k).filter fun r => decide (r.path = p)).getLast? with
     | none => simp [grStep, hp]
     | some f =>
       obtain ⟨j, g1, g2, _⟩ := hA f hf
       have hjk : j < k := by have := (List.getElem?_eq_some_iff.1 g1).1; simp at this; omega
       rw [List.getElem?_take, if_pos hjk] at g1
       have := h j k f l[k] hjk g1 hr (by rw [hp]; simpa using g2)
       simp [grStep, hp, this]
    ·have e : (l.take k ++ [l[k]]).filter (fun r => decide (r.path = p)) = (l.take k).filter fun r => decide (r.path = p) := by
      rw [List.filter_append, show [l[k]].filter (fun r => decide (r.path = p)) = [] by simp [hp], List.append_nil]
     rw [e]
     simp [grStep, hp]
 have := this l.length (Nat.le_refl _)
 rw [List.take_length] at this
 exact this
theorem grt_last {d : Dep} (hg : Good d.revs) (p : ByteArray) : grt (fun r => decide (r.path = p)) d.revs = last? d p :=
 grt_path p fun i j u v hij hu hv e => (hg.path i j u v hij hu hv e).2
theorem grt_num (q : Rev → Bool) (n : Int) : ∀ (l : List Rev), grt (fun r => q r && decide (r.num = n)) l = (l.filter q).find? fun r => decide (r.num = n) := by
 have stay : ∀ (l : List Rev) (f : Rev), f.num = n → l.foldl (grStep fun r => q r && decide (r.num = n)) (some f) = some f := by
  intro l f hf
  induction l with
  | nil => rfl
  | cons r l ih =>
    rw [List.foldl_cons, show grStep (fun r => q r && decide (r.num = n)) (some f) r = some f from ?_, ih]
    unfold grStep
    rw [if_neg]
    simp only [Bool.and_eq_true, decide_eq_true_eq]
    rintro ⟨⟨_, h1⟩, h2⟩; omega
 intro l
 unfold grt
 induction l with
 | nil => rfl
 | cons r l ih =>
   rw [List.foldl_cons, List.filter_cons]
   conv => lhs; arg 2; unfold grStep
   by_cases hq : q r = true
   ·rw [if_pos hq, List.find?_cons]
    by_cases hn : r.num = n
    ·simp only [hq, hn, decide_true, Bool.and_true, if_true]; exact stay l r hn
    ·simp only [hq, hn, decide_false, Bool.and_false, Bool.false_and, Bool.false_eq_true, if_false]; exact ih
   ·rw [if_neg hq]
    have : q r = false := by simpa using hq
    simp only [this, Bool.false_and, Bool.false_eq_true, if_false]; exact ih
theorem grt_get (d : Dep) (p : ByteArray) (n : Int) : grt (fun r => decide (r.path = p) && decide (r.num = n)) d.revs = get? d p n := grt_num _ n d.revs
end Go.Proofs.YtmhboloicpieeaaGreatDoor

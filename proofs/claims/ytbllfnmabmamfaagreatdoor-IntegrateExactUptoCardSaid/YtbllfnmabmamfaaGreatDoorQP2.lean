/- The edits of an accepted change have distinct paths. -/
import Derived.Test.YtbllfnmabmamfaaGreatDoorQP12
set_option linter.all false

namespace Go.Proofs.YtbllfnmabmamfaaGreatDoor
open Go.Ab
theorem edits_lt {d : Dep} {c : Chg} (h : ∀ i, i < c.edits.length → EditOK d c i (c.edits.getD i zEdt)) : ∀ {j i : Nat}, i < j → j < c.edits.length → ord (c.edits.getD i zEdt).path (c.edits.getD j zEdt).path < 0
  | 0, i, hij, _ => by omega
  | j + 1, i, hij, hj => by
    have h0 := (h (j + 1) hj).okOrder (by omega)
    simp only [Nat.add_sub_cancel] at h0
    by_cases e : i = j
    · subst e; exact h0
    · exact ord_trans (h i (by omega)).okPath (h j (by omega)).okPath (h (j + 1) hj).okPath (edits_lt h (by omega) (by omega)) h0
theorem edits_ne {d : Dep} {c : Chg} (h : ∀ i, i < c.edits.length → EditOK d c i (c.edits.getD i zEdt)) {i j : Nat} (hij : i < j) (hj : j < c.edits.length) : (c.edits.getD i zEdt).path ≠ (c.edits.getD j zEdt).path := by
  intro e
  have := edits_lt h hij hj
  rw [e, ord_irr (h j hj).okPath] at this
  omega
end Go.Proofs.YtbllfnmabmamfaaGreatDoor

/- What holds of the revisions of every depot that changes make. -/
namespace Go.Proofs.YtbllfnmabmamfaaGreatDoor
open Go.Ab
theorem wr_id {n : Int} (h1 : -1000000 ≤ n) (h2 : n ≤ 1000000) : wr n = n := InR.wrap (by simp only [InR]; omega)
structure Good (l : List Rev) : Prop where
  num : ∀ (i : Nat) (v : Rev), l[i]? = some v → 1 ≤ v.num ∧ v.num ≤ (i : Int) + 1
  act : ∀ (i : Nat) (v : Rev), l[i]? = some v → 1 ≤ v.act ∧ v.act ≤ 5
  chg : ∀ (i j : Nat) (u v : Rev), i < j → l[i]? = some u → l[j]? = some v → u.chg ≤ v.chg
  path : ∀ (i j : Nat) (u v : Rev), i < j → l[i]? = some u → l[j]? = some v → u.path = v.path → u.chg < v.chg ∧ u.num < v.num
  prv : ∀ (i : Nat) (v : Rev), l[i]? = some v → v.act ≠ 1 → v.act ≠ 4 → ∃ (j : Nat) (u : Rev), j < i ∧ l[j]? = some u ∧ u.path = v.path ∧ u.num = v.num - 1 ∧ u.act ≠ 3 ∧ u.act ≠ 5 ∧ u.chg < v.chg
  mov : ∀ (i : Nat) (v : Rev), l[i]? = some v → v.act = 4 → ∃ (j : Nat) (u : Rev), j < i ∧ l[j]? = some u ∧ u.path = v.frm ∧ u.num = v.fnum ∧ u.act ≠ 3 ∧ u.act ≠ 5 ∧ u.chg < v.chg
  away : ∀ (i : Nat) (v : Rev), l[i]? = some v → v.act = 4 → ∃ (j : Nat) (u : Rev), l[j]? = some u ∧ u.path = v.frm ∧ u.num = v.fnum + 1 ∧ u.act = 5
  mov2 : ∀ (i j : Nat) (u v : Rev), i < j → l[i]? = some u → l[j]? = some v → u.act = 4 → v.act = 4 → u.frm = v.frm → u.fnum = v.fnum → False
theorem lastF {α : Type} (p : α → Bool) : ∀ l : List α, (∀ v, (l.filter p).getLast? = some v → ∃ j : Nat, l[j]? = some v ∧ p v = true ∧ ∀ (k : Nat) (u : α), l[k]? = some u → p u = true → k ≤ j) ∧ ((l.filter p).getLast? = none → ∀ u ∈ l, p u = false)
  | [] => by simp
  | a :: l => by
    obtain ⟨h1, h2⟩ := lastF p l
    simp only [List.filter_cons]
    cases hg : (l.filter p).getLast? with
    | none =>
      have hn := h2 hg
      have h0 : l.filter p = [] := List.getLast?_eq_none_iff.1 hg
      rw [h0]
      by_cases ha : p a = true
      · rw [if_pos ha]
        refine ⟨fun v hv => ?_, fun h => by simp at h⟩
        simp at hv; subst hv
        refine ⟨0, rfl, ha, fun k u hu hp => ?_⟩
        cases k with
        | zero => omega
        | succ k => rw [hn u (List.mem_of_getElem? (by simpa using hu))] at hp; cases hp
      · rw [if_neg ha]
        refine ⟨fun v hv => by simp at hv, fun _ u hu => ?_⟩
        rcases List.mem_cons.1 hu with rfl | hu
        · simpa using ha
        · exact hn u hu
    | some w =>
      obtain ⟨j, hj, hw, hmax⟩ := h1 w hg
      have h0 : (if p a = true then a :: l.filter p else l.filter p).getLast? = some w := by
        split
        · rw [List.getLast?_cons, hg]; rfl
        · exact hg
      rw [h0]
      refine ⟨fun v hv => ?_, fun h => by cases h⟩
      cases hv
      refine ⟨j + 1, by simpa using hj, hw, fun k u hu hp => ?_⟩
      cases k with
      | zero => omega
      | succ k => have := hmax k u (by simpa using hu) hp; omega
theorem last_some {d : Dep} {p : ByteArray} {v : Rev} (h : last? d p = some v) : ∃ j : Nat, d.revs[j]? = some v ∧ v.path = p ∧ ∀ (k : Nat) (u : Rev), d.revs[k]? = some u → u.path = p → k ≤ j := by
  obtain ⟨j, h1, h2, h3⟩ := (lastF (fun v : Rev => decide (v.path = p)) d.revs).1 v h
  exact ⟨j, h1, by simpa using h2, fun k u hu hp => h3 k u hu (by simpa using hp)⟩
theorem last_none {d : Dep} {p : ByteArray} (h : last? d p = none) : ∀ u ∈ d.revs, u.path ≠ p := by
  intro u hu e
  have := (lastF (fun v : Rev => decide (v.path = p)) d.revs).2 h u hu
  simp [e] at this
theorem live_some {d : Dep} {p : ByteArray} (h : live d p = true) : ∃ (v : Rev) (j : Nat), last? d p = some v ∧ d.revs[j]? = some v ∧ v.path = p ∧ v.act ≠ 3 ∧ v.act ≠ 5 ∧ lastNum d p = v.num := by
  unfold live at h
  split at h
  · rename_i v hv
    obtain ⟨j, h1, h2, h3⟩ := last_some hv
    simp [gone] at h
    exact ⟨v, j, hv, h1, h2, h.1, h.2, by simp [lastNum, hv]⟩
  · cases h
theorem lastNum_ge {d : Dep} (hg : Good d.revs) {p : ByteArray} {k : Nat} {u : Rev} (hu : d.revs[k]? = some u) (hp : u.path = p) : u.num ≤ lastNum d p := by
  cases h : last? d p with
  | none => exact absurd hp (last_none h u (List.mem_of_getElem? hu))
  | some v =>
    obtain ⟨j, h1, h2, h3⟩ := last_some h
    have := h3 k u hu hp
    simp only [lastNum, h, Option.getD]
    rcases Nat.lt_or_ge k j with hkj | hkj
    · have := (hg.path k j u v hkj hu h1 (by rw [hp, h2])).2; omega
    · have e : k = j := by omega
      subst e; rw [h1] at hu; cases hu; omega
theorem lastNum_le {d : Dep} (hg : Good d.revs) (p : ByteArray) : 0 ≤ lastNum d p ∧ lastNum d p ≤ d.revs.length := by
  cases h : last? d p with
  | none => simp [lastNum, h, zRev]
  | some v =>
    obtain ⟨j, h1, h2, h3⟩ := last_some h
    have := hg.num j v h1
    have hj : j < d.revs.length := (List.getElem?_eq_some_iff.1 h1).1
    simp only [lastNum, h, Option.getD]; omega
theorem two_filter {α : Type} (p : α → Bool) {l : List α} {a b : Nat} {x y : α} (hab : a < b) (ha : l[a]? = some x) (hb : l[b]? = some y) (hx : p x = true) (hy : p y = true) : 2 ≤ (l.filter p).length := by
  have e : l.filter p = (l.take b).filter p ++ (l.drop b).filter p := by rw [← List.filter_append, List.take_append_drop]
  rw [e, List.length_append]
  have h1 : x ∈ (l.take b).filter p := List.mem_filter.2 ⟨List.mem_of_getElem? (i := a) (by rw [List.getElem?_take, if_pos hab]; exact ha), hx⟩
  have h2 : y ∈ (l.drop b).filter p := List.mem_filter.2 ⟨List.mem_of_getElem? (i := 0) (by rw [List.getElem?_drop]; simpa using hb), hy⟩
  have := List.length_pos_of_mem h1
  have := List.length_pos_of_mem h2
  omega
theorem good_app {d : Dep} {c : Chg} (hg : Good d.revs) (hn : d.revs.length ≤ 512) (hk : ChkOK d c) : Good (appD d c).revs := by
  have hE := hk.edit
  have sp : ∀ (i : Nat) (v : Rev), (appD d c).revs[i]? = some v → (i < d.revs.length ∧ d.revs[i]? = some v) ∨ ∃ a, i = d.revs.length + a ∧ a < c.edits.length ∧ v = made c (c.edits.getD a zEdt) := by
    intro i v h
    simp only [appD] at h
    rcases Nat.lt_or_ge i d.revs.length with hi | hi
    · rw [List.getElem?_append_left hi] at h; exact .inl ⟨hi, h⟩
    · rw [List.getElem?_append_right hi] at h
      have ha : i - d.revs.length < c.edits.length := by
        have := (List.getElem?_eq_some_iff.1 h).1; simpa using this
      refine .inr ⟨i - d.revs.length, by omega, ha, ?_⟩
      rw [List.getElem?_map, List.getElem?_eq_getElem ha] at h
      simp at h; rw [← h]; simp [List.getD, ha]
  have nw : ∀ a : Nat, a < c.edits.length → (appD d c).revs[d.revs.length + a]? = some (made c (c.edits.getD a zEdt)) := by
    intro a ha
    simp only [appD]
    rw [List.getElem?_append_right (by omega), Nat.add_sub_cancel_left, List.getElem?_map, List.getElem?_eq_getElem ha]
    simp [List.getD, ha]
  have od : ∀ (i : Nat) (v : Rev), d.revs[i]? = some v → (appD d c).revs[i]? = some v := by
    intro i v h
    simp only [appD]
    rw [List.getElem?_append_left (List.getElem?_eq_some_iff.1 h).1]; exact h
  have lb : ∀ p, -1000000 ≤ lastNum d p + 1 ∧ lastNum d p + 1 ≤ 1000000 := fun p => by have := lastNum_le hg p; omega
  have mn : ∀ a, a < c.edits.length → (made c (c.edits.getD a zEdt)).num = lastNum d (c.edits.getD a zEdt).path + 1 := by
    intro a ha
    simp only [made]
    rw [(hE a ha).okPrev, wr_id (lb _).1 (lb _).2]
  have mt : ∀ a, a < c.edits.length → (c.edits.getD a zEdt).act = 4 → ∃ b, b < c.edits.length ∧ (c.edits.getD b zEdt).act = 5 ∧ (c.edits.getD b zEdt).path = (c.edits.getD a zEdt).frm := by
    intro a ha h4
    have hm := hk.move (c.edits.getD a zEdt) (by rw [List.getD_eq_getElem?_getD, List.getElem?_eq_getElem ha]; simp)
    generalize c.edits.getD a zEdt = e at *
    have hl : (c.edits.filter (mate e)).length = 1 := by
      simp only [movedB, h4, mates] at hm
      simp at hm; have hm := of_decide_eq_true hm; omega
    obtain ⟨y, hy⟩ : ∃ y, y ∈ c.edits.filter (mate e) := by
      cases hf : c.edits.filter (mate e) with
      | nil => rw [hf] at hl; simp at hl
      | cons y l => exact ⟨y, by simp⟩
    obtain ⟨hy1, hy2⟩ := List.mem_filter.1 hy
    obtain ⟨b, hb, e⟩ := List.mem_iff_getElem.1 hy1
    have e' : c.edits.getD b zEdt = y := by simp [List.getD, hb, e]
    simp [mate, h4] at hy2
    exact ⟨b, hb, by rw [e']; exact hy2.1, by rw [e']; exact hy2.2⟩
  constructor
  · intro i v h
    rcases sp i v h with ⟨_, h⟩ | ⟨a, rfl, ha, rfl⟩
    · exact hg.num i v h
    · rw [mn a ha]
      have := lastNum_le hg (c.edits.getD a zEdt).path
      omega
  · intro i v h
    rcases sp i v h with ⟨_, h⟩ | ⟨a, rfl, ha, rfl⟩
    · exact hg.act i v h
    · exact ⟨(hE a ha).okLo, (hE a ha).okHi⟩
  · intro i j u v hij hu hv
    rcases sp i u hu with ⟨h1, hu⟩ | ⟨a, rfl, ha, rfl⟩
    · rcases sp j v hv with ⟨h2, hv⟩ | ⟨b, rfl, hb, rfl⟩
      · exact hg.chg i j u v hij hu hv
      · have := hk.old u (List.mem_of_getElem? hu)
        show u.chg ≤ c.num
        omega
    · rcases sp j v hv with ⟨h2, hv⟩ | ⟨b, rfl, hb, rfl⟩
      · omega
      · exact Int.le_refl _
  · intro i j u v hij hu hv hp
    rcases sp i u hu with ⟨h1, hu⟩ | ⟨a, rfl, ha, rfl⟩
    · rcases sp j v hv with ⟨h2, hv⟩ | ⟨b, rfl, hb, rfl⟩
      · exact hg.path i j u v hij hu hv hp
      · refine ⟨hk.old u (List.mem_of_getElem? hu), ?_⟩
        rw [mn b hb]
        have := lastNum_ge hg hu (p := (c.edits.getD b zEdt).path) hp
        omega
    · rcases sp j v hv with ⟨h2, hv⟩ | ⟨b, rfl, hb, rfl⟩
      · omega
      · exact absurd hp (edits_ne hE (by omega) hb)
  · intro i v h n1 n4
    rcases sp i v h with ⟨_, h⟩ | ⟨a, rfl, ha, rfl⟩
    · obtain ⟨j, u, h1, h2, h3⟩ := hg.prv i v h n1 n4
      exact ⟨j, u, h1, od j u h2, h3⟩
    · have hl : live d (c.edits.getD a zEdt).path = true := by
        cases hl : live d (c.edits.getD a zEdt).path with
        | true => rfl
        | false => rcases (hE a ha).okLive.2 hl with h | h
                   · exact absurd h n1
                   · exact absurd h n4
      obtain ⟨v, j, g1, g2, g3, g4, g5, g6⟩ := live_some hl
      have hj := (List.getElem?_eq_some_iff.1 g2).1
      exact ⟨j, v, by omega, od j v g2, g3, by rw [mn a ha, g6]; omega, g4, g5, hk.old v (List.mem_of_getElem? g2)⟩
  · intro i v h h4
    rcases sp i v h with ⟨_, h⟩ | ⟨a, rfl, ha, rfl⟩
    · obtain ⟨j, u, h1, h2, h3⟩ := hg.mov i v h h4
      exact ⟨j, u, h1, od j u h2, h3⟩
    · obtain ⟨f1, f2, f3⟩ := (hE a ha).okFrm h4
      obtain ⟨v, j, g1, g2, g3, g4, g5, g6⟩ := live_some f1
      have hj := (List.getElem?_eq_some_iff.1 g2).1
      exact ⟨j, v, by omega, od j v g2, g3, by rw [← g6]; exact f2, g4, g5, hk.old v (List.mem_of_getElem? g2)⟩
  · intro i v h h4
    rcases sp i v h with ⟨_, h⟩ | ⟨a, rfl, ha, rfl⟩
    · obtain ⟨j, u, h2, h3⟩ := hg.away i v h h4
      exact ⟨j, u, od j u h2, h3⟩
    · obtain ⟨b, hb, b1, b2⟩ := mt a ha h4
      obtain ⟨f1, f2, f3⟩ := (hE a ha).okFrm h4
      refine ⟨_, _, nw b hb, b2, ?_, b1⟩
      rw [mn b hb, b2, f2]; rfl
  · intro i j u v hij hu hv u4 v4 hf hn'
    rcases sp i u hu with ⟨h1, hu⟩ | ⟨a, rfl, ha, rfl⟩
    · rcases sp j v hv with ⟨h2, hv⟩ | ⟨b, rfl, hb, rfl⟩
      · exact hg.mov2 i j u v hij hu hv u4 v4 hf hn'
      · obtain ⟨k, w, w1, w2, w3, w4⟩ := hg.away i u hu u4
        obtain ⟨f1, f2, f3⟩ := (hE b hb).okFrm v4
        have := lastNum_ge hg w1 (p := (c.edits.getD b zEdt).frm) (by rw [w2, hf]; rfl)
        rw [f2, w3, hn'] at this
        have : (made c (c.edits.getD b zEdt)).fnum = (c.edits.getD b zEdt).fnum := rfl
        omega
    · rcases sp j v hv with ⟨h2, hv⟩ | ⟨b, rfl, hb, rfl⟩
      · omega
      · obtain ⟨x, hx, x1, x2⟩ := mt a ha u4
        have hm := hk.move (c.edits.getD x zEdt) (by rw [List.getD_eq_getElem?_getD, List.getElem?_eq_getElem hx]; simp)
        have h2 := two_filter (mate (c.edits.getD x zEdt)) (l := c.edits) (a := a) (b := b) (x := c.edits.getD a zEdt) (y := c.edits.getD b zEdt) (by omega) (by simp [List.getD, ha]) (by simp [List.getD, hb])
          (by simp only [mate, x1, x2, show (c.edits.getD a zEdt).act = 4 from u4]; simp) (by simp only [mate, x1, x2, show (c.edits.getD b zEdt).act = 4 from v4, show (c.edits.getD a zEdt).frm = (c.edits.getD b zEdt).frm from hf]; simp)
        generalize c.edits.getD x zEdt = e at *
        simp only [movedB, x1, mates] at hm
        simp at hm; have hm := of_decide_eq_true hm; omega
theorem good_nil : Good [] := by constructor <;> simp
theorem Built.good {l : List Chg} {d : Dep} (h : Built l d) : Good d.revs := by
  induction h with
  | nil => exact good_nil
  | skip c h ih => exact ih
  | app h hc hk ih => exact good_app ih h.ok.1 hk
end Go.Proofs.YtbllfnmabmamfaaGreatDoor

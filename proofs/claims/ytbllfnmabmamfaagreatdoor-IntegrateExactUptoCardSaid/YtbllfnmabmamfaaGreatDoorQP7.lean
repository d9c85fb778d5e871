/- What remains of a line: as the document has it; the ledger answers the same. -/
import Derived.Test.YtbllfnmabmamfaaGreatDoorQP4
set_option linter.all false

namespace Go.Proofs.YtbllfnmabmamfaaGreatDoor
open Go.Ab
theorem get?_iff {d : Dep} (hg : Good d.revs) {p : ByteArray} {n : Int} {w : Rev} : get? d p n = some w ↔ ∃ j : Nat, d.revs[j]? = some w ∧ fileOf w = ⟨p, n⟩ := by
  constructor
  · intro h
    obtain ⟨h1, h2, h3⟩ := get?_mem h
    obtain ⟨j, hj⟩ := List.getElem?_of_mem h1
    exact ⟨j, hj, by simp [fileOf, h2, h3]⟩
  · rintro ⟨j, hj, he⟩
    simp only [fileOf, Fil.mk.injEq] at he
    cases h : get? d p n with
    | none =>
      exfalso
      have := List.find?_eq_none.1 h w (by simp only [log, List.mem_filter]; exact ⟨List.mem_of_getElem? hj, by simp [he.1]⟩)
      simp [he.2] at this
    | some u =>
      obtain ⟨h1, h2, h3⟩ := get?_mem h
      obtain ⟨i, hi⟩ := List.getElem?_of_mem h1
      have := good_file hg hi hj (by simp [fileOf, h2, h3, he.1, he.2])
      subst this; rw [hi] at hj; exact hj
theorem prev?_one {d : Dep} {v : Rev} (h1 : v.act = 1) : prev? d v = none := by simp [prev?, h1]
theorem prev?_bef {d : Dep} (hg : Good d.revs) (hN : d.revs.length ≤ 512) {k : Nat} {v : Rev} (hv : d.revs[k]? = some v) (h1 : ¬ v.act = 1) : prev? d v = get? d (befF v).path (befF v).num := by
  have hn := hg.num k v hv
  have hk := (List.getElem?_eq_some_iff.1 hv).1
  unfold prev? befF
  rw [if_neg h1, if_neg h1]
  split
  · rfl
  · rw [wr_id (by omega) (by omega)]
section
variable {d : Dep} (hg : Good d.revs) (hN : d.revs.length ≤ 512) {L : Led} {me : List (Int × List Int)} (hI : LedInv d d.revs.length L me)
include hg hN hI
theorem first_fst : ∀ (n j : Nat) (v : Rev), j < n → d.revs[j]? = some v → ¬ v.act = 5 → ∃ (r : Nat) (w : Rev), L.fst.getD j 0 = (r : Int) ∧ d.revs[r]? = some w ∧ first d v = fileOf w
  | 0, j, v, h, _, _ => by omega
  | n + 1, j, v, h, hv, h5 => by
    have hj := (List.getElem?_eq_some_iff.1 hv).1
    rcases hI.pm j v hj hv h5 with ⟨u, w, a1, a2, a3, a4, a5, a6, a7, a8⟩ | ⟨h1, h2, h3⟩
    · have hp : prev? d v = some w := by rw [prev?_bef hg hN hv a6]; exact (get?_iff hg).2 ⟨u, a3, a5⟩
      rw [first_step hp a7, a8]
      exact first_fst n u w (by omega) a3 a4
    · exact ⟨j, v, h3, hv, first_none (prev?_one h1)⟩
theorem fst_iff {i j : Nat} {u v : Rev} (hu : d.revs[i]? = some u) (hv : d.revs[j]? = some v) (u5 : ¬ u.act = 5) (v5 : ¬ v.act = 5) : L.fst.getD i 0 = L.fst.getD j 0 ↔ first d u = first d v := by
  obtain ⟨r, w, a1, a2, a3⟩ := first_fst hg hN hI (i + 1) i u (by omega) hu u5
  obtain ⟨r', w', b1, b2, b3⟩ := first_fst hg hN hI (j + 1) j v (by omega) hv v5
  rw [a1, b1, a3, b3]
  constructor
  · intro h
    have : r = r' := by omega
    subst this; rw [a2] at b2; cases b2; rfl
  · intro h; rw [good_file hg a2 b2 h]
omit hN hI in
theorem bef_inj {i j : Nat} {u v : Rev} (hu : d.revs[i]? = some u) (hv : d.revs[j]? = some v) (u5 : ¬ u.act = 5) (v5 : ¬ v.act = 5) (u1 : ¬ u.act = 1) (v1 : ¬ v.act = 1) (h : befF u = befF v) : i = j := by
  have aux : ∀ {i j : Nat} {u v : Rev}, d.revs[i]? = some u → d.revs[j]? = some v → ¬ v.act = 5 → ¬ u.act = 1 → ¬ v.act = 1 → u.act = 4 → ¬ v.act = 4 → befF u = befF v → False := by
    intro i j u v hu hv v5 u1 v1 u4 v4 h
    obtain ⟨a, w, w1, w2, w3, w4⟩ := hg.away i u hu u4
    simp only [befF, u4, v1, v4, if_false, if_true, Fil.mk.injEq] at h
    simp at h
    have := good_file hg w1 hv (by simp only [fileOf, w2, w3, h.1, h.2]; congr 1; omega)
    subst this; rw [w1] at hv; cases hv; exact v5 w4
  by_cases u4 : u.act = 4
  · by_cases v4 : v.act = 4
    · simp only [befF, u4, v4, if_true, Fil.mk.injEq] at h
      simp at h
      rcases Nat.lt_trichotomy i j with hlt | e | hlt
      · exact (hg.mov2 i j u v hlt hu hv u4 v4 h.1 h.2).elim
      · exact e
      · exact (hg.mov2 j i v u hlt hv hu v4 u4 h.1.symm h.2.symm).elim
    · exact (aux hu hv v5 u1 v1 u4 v4 h).elim
  · by_cases v4 : v.act = 4
    · exact (aux hv hu u5 v1 u1 v4 u4 h.symm).elim
    · simp only [befF, u1, v1, u4, v4, if_false, Fil.mk.injEq] at h
      exact good_file hg hu hv (by simp only [fileOf, h.1]; congr 1; omega)
theorem line_lt : ∀ (n i j : Nat) (u v : Rev), j < n → i < j → d.revs[i]? = some u → d.revs[j]? = some v → ¬ u.act = 5 → ¬ v.act = 5 → L.fst.getD i 0 = L.fst.getD j 0 →
    u.chg < v.chg ∧ ∃ (s : Nat) (w : Rev), s ≤ j ∧ d.revs[s]? = some w ∧ ¬ w.act = 5 ∧ ¬ w.act = 1 ∧ befF w = fileOf u
  | 0, i, j, u, v, h, _, _, _, _, _, _ => by omega
  | n + 1, i, j, u, v, hn, hij, hu, hv, u5, v5, hf => by
    have hj := (List.getElem?_eq_some_iff.1 hv).1
    have hi := (List.getElem?_eq_some_iff.1 hu).1
    rcases hI.pm j v hj hv v5 with ⟨k, w, a1, a2, a3, a4, a5, a6, a7, a8⟩ | ⟨h1, h2, h3⟩
    · rcases Nat.lt_trichotomy i k with hlt | e | hlt
      · obtain ⟨g1, s, x, g2, g3⟩ := line_lt n i k u w (by omega) hlt hu a3 u5 a4 (by rw [hf, a8])
        exact ⟨by omega, s, x, by omega, g3⟩
      · subst e; rw [hu] at a3; cases a3
        exact ⟨a7, j, v, by omega, hv, v5, a6, a5.symm⟩
      · exfalso
        obtain ⟨g1, s, x, g2, g3, g4, g5, g6⟩ := line_lt n k i w u (by omega) hlt a3 hu a4 u5 (by rw [← a8, hf])
        have := bef_inj hg g3 hv g4 v5 g5 a6 (g6.trans a5)
        omega
    · have := hI.fm i u hi hu u5
      omega
theorem chg_le {i j : Nat} {u v : Rev} (hu : d.revs[i]? = some u) (hv : d.revs[j]? = some v) (u5 : ¬ u.act = 5) (v5 : ¬ v.act = 5) (h : L.fst.getD i 0 = L.fst.getD j 0) : u.chg ≤ v.chg ↔ i ≤ j := by
  rcases Nat.lt_trichotomy i j with hlt | e | hlt
  · have := (line_lt hg hN hI (j + 1) i j u v (by omega) hlt hu hv u5 v5 h).1
    exact ⟨fun _ => by omega, fun _ => by omega⟩
  · subst e; rw [hu] at hv; cases hv; simp
  · have := (line_lt hg hN hI (i + 1) j i v u (by omega) hlt hv hu v5 u5 h.symm).1
    exact ⟨fun _ => by omega, fun _ => by omega⟩
end
end Go.Proofs.YtbllfnmabmamfaaGreatDoor

/- What remains: the ledger's answer is the document's. -/
namespace Go.Proofs.YtbllfnmabmamfaaGreatDoor
open Go.Ab
def SA (d : Dep) : Fil → SS := specA d d.revs.length
def Open (d : Dep) (t : Fil) (u : Rev) : Prop := ¬ ∀ g, (SA d (fileOf u)).con g → (SA d t).cre g
open Classical in
noncomputable def remL (d : Dep) (v : Rev) (t : Fil) : List Fil := (d.revs.filter fun u => decide (¬ u.act = 5 ∧ first d u = first d v ∧ u.chg ≤ v.chg ∧ Open d t u)).map fileOf
noncomputable def remS (d : Dep) (s t : Fil) : Option (List Fil) :=
  match member? d s.path s.num, member? d t.path t.num with
  | some v, some _ => some (remL d v t)
  | _, _ => none
theorem member?_iff {d : Dep} (hg : Good d.revs) {f : Fil} {w : Rev} : member? d f.path f.num = some w ↔ ∃ j : Nat, d.revs[j]? = some w ∧ fileOf w = f ∧ ¬ w.act = 5 := by
  unfold member?
  cases h : get? d f.path f.num with
  | none =>
    simp only [reduceCtorEq, false_iff, not_exists]
    rintro j ⟨h1, h2, _⟩
    rw [(get?_iff hg).2 ⟨j, h1, h2⟩] at h; cases h
  | some v =>
    obtain ⟨i, h1, h2⟩ := (get?_iff hg).1 h
    simp only
    constructor
    · intro hw
      split at hw
      · cases hw
      · cases hw; exact ⟨i, h1, h2, by assumption⟩
    · rintro ⟨j, g1, g2, g3⟩
      have := good_file hg h1 g1 (by rw [h2, g2])
      subst this; rw [h1] at g1; cases g1; rw [if_neg g3]
theorem memB_iff {d : Dep} {k : Nat} {L : Led} {me : List (Int × List Int)} (hI : LedInv d k L me) {f : Fil} {i : Int} : memB L f = some i ↔ ∃ (j : Nat) (w : Rev), i = (j : Int) ∧ j < k ∧ d.revs[j]? = some w ∧ fileOf w = f ∧ ¬ w.act = 5 := by
  unfold memB
  cases h : alook L.index f with
  | none =>
    simp only [reduceCtorEq, false_iff, not_exists]
    rintro j w ⟨_, h1, h2, h3, _⟩
    rw [(hI.ix f j).2 ⟨j, w, rfl, h1, h2, h3⟩] at h; cases h
  | some x =>
    obtain ⟨j, w, rfl, h1, h2, h3⟩ := (hI.ix f x).1 h
    simp only [Int.toNat_natCast]
    by_cases w5 : w.act = 5
    · rw [if_neg (by rw [(hI.f5 j w h1 h2 w5).1]; omega)]
      simp only [reduceCtorEq, false_iff, not_exists]
      rintro j' w' ⟨e, g1, g2, g3, g4⟩
      rw [(hI.ix f j').2 ⟨j', w', rfl, g1, g2, g3⟩] at h
      have : j' = j := by have := Option.some.inj h; omega
      subst this; rw [h2] at g2; cases g2; exact g4 w5
    · rw [if_pos (hI.fm j w h1 h2 w5).1]
      constructor
      · intro e; cases e; exact ⟨j, w, rfl, h1, h2, h3, w5⟩
      · rintro ⟨j', w', rfl, g1, g2, g3, g4⟩
        rw [(hI.ix f j').2 ⟨j', w', rfl, g1, g2, g3⟩] at h
        exact h.symm
theorem upto_sorted {i : Nat} : ∀ {l : List Nat}, l.Pairwise (· < ·) → i ∈ l → upto (l.map fun x : Nat => (x : Int)) (i : Int) = (l.filter fun x => decide (x ≤ i)).map fun x : Nat => (x : Int)
  | [], _, h => by cases h
  | a :: l, hp, h => by
    obtain ⟨h1, h2⟩ := List.pairwise_cons.1 hp
    simp only [List.map_cons, upto]
    by_cases e : a = i
    · subst e
      rw [if_pos rfl, List.filter_cons, if_pos (by simp)]
      have : l.filter (fun x => decide (x ≤ a)) = [] := List.filter_eq_nil_iff.2 fun x hx => by have := h1 x hx; simp; omega
      rw [this]; rfl
    · rcases List.mem_cons.1 h with rfl | h
      · exact absurd rfl e
      · have := h1 i h
        rw [if_neg (by omega), List.filter_cons, if_pos (by simp; omega), upto_sorted h2 h]; rfl
theorem range_get {α : Type} (l : List α) (z : α) : l = (List.range l.length).map fun i => l.getD i z := by
  apply List.ext_getElem?
  intro i
  rw [List.getElem?_map]
  rcases Nat.lt_or_ge i l.length with h | h
  · rw [List.getElem?_range h, List.getElem?_eq_getElem h]; simp [List.getD, h]
  · rw [List.getElem?_eq_none h, List.getElem?_eq_none (by simpa using h)]; rfl
theorem open_iff {d : Dep} (hg : Good d.revs) {L : Led} {me : List (Int × List Int)} (hI : LedInv d d.revs.length L me) (hR : SetRel d (SA d) L) {i j : Nat} {u w : Rev} (hu : d.revs[i]? = some u) (hw : d.revs[j]? = some w) (u5 : ¬ u.act = 5) (w5 : ¬ w.act = 5) :
    openB L (j : Int) (i : Int) = true ↔ Open d (fileOf w) u := by
  have hi := (List.getElem?_eq_some_iff.1 hu).1
  have hj := (List.getElem?_eq_some_iff.1 hw).1
  have ei := (hI.ix (fileOf u) (i : Int)).2 ⟨i, u, rfl, hi, hu, rfl⟩
  have ej := (hI.ix (fileOf w) (j : Int)).2 ⟨j, w, rfl, hj, hw, rfl⟩
  simp only [openB, Int.toNat_natCast, Open, Bool.not_eq_true', subB]
  have : (((L.con.getD i none).getD []).all fun k => decide (k ∈ (L.cre.getD j none).getD [])) = true ↔ ∀ g, (SA d (fileOf u)).con g → (SA d (fileOf w)).cre g := by
    rw [List.all_eq_true]
    constructor
    · intro h g hc
      obtain ⟨i', x, h1, h2, h3⟩ := (hR.con _ _).1 hc
      rw [ei] at h1; cases h1
      rw [Int.toNat_natCast] at h2
      have := of_decide_eq_true (h x h2)
      exact (hR.cre _ _).2 ⟨j, x, ej, by rw [Int.toNat_natCast]; exact this, h3⟩
    · intro h x hx
      have bx := hI.bd i x (.inr (.inl hx))
      have hxl : x.toNat < d.revs.length := by omega
      have hf : fileX d x (fileOf (d.revs[x.toNat])) := ⟨_, List.getElem?_eq_getElem hxl, rfl⟩
      have := h _ ((hR.con _ _).2 ⟨i, x, ei, by rw [Int.toNat_natCast]; exact hx, hf⟩)
      obtain ⟨j', y, h1, h2, h3⟩ := (hR.cre _ _).1 this
      rw [ej] at h1; cases h1
      rw [Int.toNat_natCast] at h2
      have by' := hI.bd j y (.inr (.inr h2))
      have e := fileX_inj hg bx.1 by'.1 hf h3
      subst e; exact decide_eq_true h2
  rw [← this]
  simp
def ledRem (L : Led) (me : List (Int × List Int)) (s t : Int) : List Fil := (((upto ((alook me (L.fst.getD s.toNat 0)).getD []) s).filter (openB L t)).map fun x => fileOf (L.revs.getD x.toNat zRev))
theorem rem_eq {d : Dep} (hg : Good d.revs) (hN : d.revs.length ≤ 512) {L : Led} {me : List (Int × List Int)} (hr : LedRun d d.revs.length L me) {i j : Nat} {v w : Rev} (hv : d.revs[i]? = some v) (hw : d.revs[j]? = some w) (v5 : ¬ v.act = 5) (w5 : ¬ w.act = 5) :
    ledRem L me i j = remL d v (fileOf w) := by
  have hI := hr.inv hg
  have hR := setRel_run hg hN hr
  have hi := (List.getElem?_eq_some_iff.1 hv).1
  rw [ledRem, Int.toNat_natCast, hI.mem _ (hI.fm i v hi hv v5).1, upto_sorted (List.Pairwise.filter _ List.pairwise_lt_range) (by simp [hi]), hI.revs]
  rw [remL]
  conv => rhs; rw [range_get d.revs zRev]
  rw [List.filter_map, List.filter_map, List.map_map, List.map_map, List.filter_filter, List.filter_filter]
  have : ∀ (p q : Nat → Bool), (∀ x ∈ List.range d.revs.length, p x = q x) → ∀ (f g : Nat → Fil), (∀ x, f x = g x) → ((List.range d.revs.length).filter p).map f = ((List.range d.revs.length).filter q).map g := by
    intro p q h f g hfg
    rw [List.filter_congr h, show f = g from funext hfg]
  apply this
  · intro x hx
    have hx : x < d.revs.length := by simpa using hx
    have hu : d.revs[x]? = some d.revs[x] := List.getElem?_eq_getElem hx
    have hgx : d.revs.getD x zRev = d.revs[x] := by simp [List.getD, hx]
    generalize d.revs[x] = u at *
    rw [Bool.eq_iff_iff]
    simp only [Function.comp, Bool.and_eq_true, decide_eq_true_eq, hgx]
    by_cases u5 : u.act = 5
    · constructor
      · rintro ⟨_, h⟩
        rw [(hI.f5 x u hx hu u5).1] at h
        have := (hI.fm i v hi hv v5).1
        omega
      · rintro ⟨h, _⟩; exact absurd u5 h
    · rw [open_iff hg hI hR hu hw u5 w5]
      constructor
      · rintro ⟨⟨h1, h2⟩, hf⟩
        exact ⟨u5, (fst_iff hg hN hI hu hv u5 v5).1 hf, (chg_le hg hN hI hu hv u5 v5 hf).2 h2, h1⟩
      · rintro ⟨_, h2, h3, h4⟩
        have hf := (fst_iff hg hN hI hu hv u5 v5).2 h2
        exact ⟨⟨h4, (chg_le hg hN hI hu hv u5 v5 hf).1 h3⟩, hf⟩
  · intro x; simp [Function.comp]
end Go.Proofs.YtbllfnmabmamfaaGreatDoor

/- Depots that one more change makes: the sets and the lines of the old members are the same. -/
namespace Go.Proofs.YtbllfnmabmamfaaGreatDoor
open Go.Ab
def SSeq (A B : SS) : Prop := (∀ g, A.car g ↔ B.car g) ∧ (∀ g, A.con g ↔ B.con g) ∧ (∀ g, A.cre g ↔ B.cre g)
theorem SSeq.refl (A : SS) : SSeq A A := ⟨fun _ => Iff.rfl, fun _ => Iff.rfl, fun _ => Iff.rfl⟩
theorem SSeq.trans {A B C : SS} (h : SSeq A B) (k : SSeq B C) : SSeq A C := ⟨fun g => (h.1 g).trans (k.1 g), fun g => (h.2.1 g).trans (k.2.1 g), fun g => (h.2.2 g).trans (k.2.2 g)⟩
theorem SSeq.symm {A B : SS} (h : SSeq A B) : SSeq B A := ⟨fun g => (h.1 g).symm, fun g => (h.2.1 g).symm, fun g => (h.2.2 g).symm⟩
theorem nil_iff {α : Type} {l m : List α} (h : ∀ x, x ∈ l ↔ x ∈ m) : l = [] ↔ m = [] := by
  constructor
  · rintro rfl; exact List.eq_nil_iff_forall_not_mem.2 fun x hx => by have := (h x).2 hx; cases this
  · rintro rfl; exact List.eq_nil_iff_forall_not_mem.2 fun x hx => by have := (h x).1 hx; cases this
theorem carS_congr {rs rs' : List Rcd} {A A' : Fil → SS} (hr : ∀ r, r ∈ rs ↔ r ∈ rs') (hA : ∀ f, SSeq (A f) (A' f)) (b f g : Fil) : carS rs A b f g ↔ carS rs' A' b f g := by
  unfold carS
  have h1 := nil_iff hr
  simp only [hr, h1, (hA _).1, (hA _).2.1]
theorem stepS_congr {rs rs' : List Rcd} {A A' : Fil → SS} (hr : ∀ r, r ∈ rs ↔ r ∈ rs') (hA : ∀ f, SSeq (A f) (A' f)) (v : Rev) : SSeq (stepS rs A v) (stepS rs' A' v) := by
  have hc := fun g => carS_congr hr hA (befF v) (fileOf v) g
  refine ⟨hc, fun g => ?_, fun g => ?_⟩
  · simp only [stepS, hc g, (hA _).1]
  · simp only [stepS, hc g, hr, (hA _).2.1, (hA _).2.2]
theorem specA_ext {d n : Dep} : ∀ {k : Nat}, (∀ i, i < k → n.revs[i]? = d.revs[i]?) → (∀ (i : Nat) (v : Rev), i < k → d.revs[i]? = some v → ∀ r, r ∈ intoR n (fileOf v) ↔ r ∈ intoR d (fileOf v)) → ∀ f, SSeq (specA n k f) (specA d k f)
  | 0, _, _, f => SSeq.refl _
  | k + 1, h1, h2, f => by
    have ih := specA_ext (k := k) (fun i hi => h1 i (by omega)) (fun i v hi => h2 i v (by omega))
    simp only [specA, h1 k (by omega)]
    cases hv : d.revs[k]? with
    | none => exact ih f
    | some v =>
      simp only
      split
      · exact ih f
      · show SSeq (if f = fileOf v then _ else _) (if f = fileOf v then _ else _)
        split
        · exact stepS_congr (h2 k v (by omega) hv) ih v
        · exact ih f
theorem specA_skip {d : Dep} {f : Fil} {k : Nat} : ∀ {m : Nat}, k ≤ m → (∀ (i : Nat) (v : Rev), k ≤ i → i < m → d.revs[i]? = some v → f ≠ fileOf v) → specA d m f = specA d k f
  | 0, h, _ => by have : k = 0 := by omega
                  rw [this]
  | m + 1, h, hf => by
    by_cases e : k = m + 1
    · rw [e]
    · rw [← specA_skip (m := m) (by omega) (fun i v h1 h2 => hf i v h1 (by omega))]
      simp only [specA]
      cases hv : d.revs[m]? with
      | none => rfl
      | some v =>
        simp only
        split
        · rfl
        · show (if f = fileOf v then _ else _) = _
          rw [if_neg (hf m v (by omega) (by omega) hv)]
theorem SA_step {d : Dep} (hg : Good d.revs) {k : Nat} {v : Rev} (hv : d.revs[k]? = some v) (h5 : ¬ v.act = 5) : SA d (fileOf v) = stepS (intoR d (fileOf v)) (specA d k) v := by
  have hk := (List.getElem?_eq_some_iff.1 hv).1
  rw [SA, specA_skip (k := k + 1) hk (fun i w h1 h2 hw e => by have := good_file hg hv hw e; omega)]
  simp only [specA, hv, h5, if_false, if_true]
theorem SA_bef {d : Dep} (hg : Good d.revs) {k : Nat} {v : Rev} (hv : d.revs[k]? = some v) (h5 : ¬ v.act = 5) : specA d k (befF v) = SA d (befF v) := by
  have hk := (List.getElem?_eq_some_iff.1 hv).1
  rw [SA]
  symm
  apply specA_skip (by omega)
  intro i w h1 h2 hw e
  rcases bef_cases hg hv h5 with ⟨_, hb⟩ | ⟨_, u, x, a1, a2, a3, a4, a5⟩
  · exact zFil_no hg hw (by rw [← e, hb])
  · have := good_file hg a2 hw (by rw [a4, e]); omega
theorem SA_con {d : Dep} (hg : Good d.revs) {k : Nat} {v : Rev} (hv : d.revs[k]? = some v) (h5 : ¬ v.act = 5) (g : Fil) : (SA d (fileOf v)).con g ↔ (SA d (fileOf v)).car g ∧ ¬ (SA d (befF v)).car g := by
  rw [SA_step hg hv h5, ← SA_bef hg hv h5]; rfl
theorem SA_up {d : Dep} (hg : Good d.revs) {k : Nat} {v : Rev} (hv : d.revs[k]? = some v) (h5 : ¬ v.act = 5) (g : Fil) (h : (SA d (befF v)).car g) : (SA d (fileOf v)).car g := by
  rw [← SA_bef hg hv h5] at h
  rw [SA_step hg hv h5]; exact .inl h
theorem SA_cre {d : Dep} (hg : Good d.revs) {k : Nat} {v : Rev} (hv : d.revs[k]? = some v) (h5 : ¬ v.act = 5) (g : Fil) (h : (SA d (fileOf v)).car g) : (SA d (fileOf v)).cre g := by
  rw [SA_step hg hv h5] at h ⊢; exact .inr (.inr h)
theorem exLed {d : Dep} : ∀ {k : Nat}, k ≤ d.revs.length → ∃ L me, LedRun d k L me
  | 0, _ => ⟨_, _, .zero⟩
  | k + 1, h => by
    obtain ⟨L, me, hr⟩ := exLed (d := d) (k := k) (by omega)
    have hv := List.getElem?_eq_getElem (show k < d.revs.length by omega)
    by_cases h5 : (d.revs[k]).act = 5
    · exact ⟨_, _, .away hr hv h5⟩
    · refine ⟨_, _, .memb hr hv h5 (c := (accCar (enterL L k d.revs[k]) k (intoR d (fileOf d.revs[k]))).flatMap fun o => o.getD [])
        (m := ((accCar (enterL L k d.revs[k]) k (intoR d (fileOf d.revs[k]))).flatMap fun o => o.getD []).filter fun x => !decide (x ∈ (befS (enterL L k d.revs[k]) k).getD []))
        (cr := ((accAll (enterL L k d.revs[k]) k (intoR d (fileOf d.revs[k]))).ign ++ [some ((accCar (enterL L k d.revs[k]) k (intoR d (fileOf d.revs[k]))).flatMap fun o => o.getD [])]).flatMap fun o => o.getD [])
        ⟨fun x => by simp only [List.mem_flatMap], fun x => by simp, fun x => by simp only [List.mem_flatMap]⟩⟩
theorem line_prev {d : Dep} (hg : Good d.revs) (hN : d.revs.length ≤ 512) {i j : Nat} {u v : Rev} (hij : i < j) (hu : d.revs[i]? = some u) (hv : d.revs[j]? = some v) (u5 : ¬ u.act = 5) (v5 : ¬ v.act = 5) (hf : first d u = first d v) :
    ∃ (k : Nat) (w : Rev), i ≤ k ∧ k < j ∧ d.revs[k]? = some w ∧ ¬ w.act = 5 ∧ fileOf w = befF v ∧ first d w = first d v := by
  obtain ⟨L, me, hr⟩ := exLed (d := d) (Nat.le_refl _)
  have hI := hr.inv hg
  have hL := (fst_iff hg hN hI hu hv u5 v5).2 hf
  have hj := (List.getElem?_eq_some_iff.1 hv).1
  have hi := (List.getElem?_eq_some_iff.1 hu).1
  rcases hI.pm j v hj hv v5 with ⟨k, w, a1, a2, a3, a4, a5, a6, a7, a8⟩ | ⟨h1, h2, h3⟩
  · refine ⟨k, w, ?_, a2, a3, a4, a5, (fst_iff hg hN hI a3 hv a4 v5).1 a8.symm⟩
    rcases Nat.lt_or_ge k i with hlt | hge
    · exfalso
      obtain ⟨_, s, x, g2, g3, g4, g5, g6⟩ := line_lt hg hN hI (i + 1) k i w u (by omega) hlt a3 hu a4 u5 (by rw [← a8, hL])
      have := bef_inj hg g3 hv g4 v5 g5 a6 (g6.trans a5)
      omega
    · exact hge
  · have := hI.fm i u hi hu u5
    omega
theorem line_car {d : Dep} (hg : Good d.revs) (hN : d.revs.length ≤ 512) : ∀ (n : Nat) {i j : Nat} {u v : Rev}, j < n → i ≤ j → d.revs[i]? = some u → d.revs[j]? = some v → ¬ u.act = 5 → ¬ v.act = 5 → first d u = first d v → ∀ g, (SA d (fileOf u)).car g → (SA d (fileOf v)).car g
  | 0, _, _, _, _, h, _, _, _, _, _, _ => by omega
  | n + 1, i, j, u, v, hn, hij, hu, hv, u5, v5, hf => by
    intro g hc
    by_cases e : i = j
    · subst e; rw [hu] at hv; cases hv; exact hc
    · obtain ⟨k, w, k1, k2, k3, k4, k5, k6⟩ := line_prev hg hN (by omega) hu hv u5 v5 hf
      have := line_car hg hN n (by omega) k1 hu k3 u5 k4 (hf.trans k6.symm) g hc
      rw [k5] at this
      exact SA_up hg hv v5 g this
theorem line_con {d : Dep} (hg : Good d.revs) (hN : d.revs.length ≤ 512) {i j : Nat} {u v : Rev} (hij : i < j) (hu : d.revs[i]? = some u) (hv : d.revs[j]? = some v) (u5 : ¬ u.act = 5) (v5 : ¬ v.act = 5) (hf : first d u = first d v) (g : Fil) : ¬ ((SA d (fileOf u)).con g ∧ (SA d (fileOf v)).con g) := by
  rintro ⟨h1, h2⟩
  obtain ⟨k, w, k1, k2, k3, k4, k5, k6⟩ := line_prev hg hN hij hu hv u5 v5 hf
  have := line_car hg hN (k + 1) (by omega) k1 hu k3 u5 k4 (hf.trans k6.symm) g ((SA_con hg hu u5 g).1 h1).1
  rw [k5] at this
  exact ((SA_con hg hv v5 g).1 h2).2 this
theorem set_swap {α : Type} (l : List α) (i j : Nat) (z : α) (hi : i < l.length) (hj : j < l.length) : ((l.set i (l.getD j z)).set j (l.getD i z)).Perm l := by
  have := List.set_set_perm hi hj
  simpa [List.getD, hi, hj] using this
theorem sinkF_perm : ∀ (k : Nat) (l : List Rcd), k < l.length → (sinkF k l).Perm l
  | 0, l, _ => List.Perm.refl _
  | k + 1, l, h => by
    rw [sinkF]
    split
    · exact (sinkF_perm k _ (by simp; omega)).trans (set_swap l (k + 1) k zRcd h (by omega))
    · exact List.Perm.refl _
theorem sortN_perm (l : List Rcd) : ∀ k, k ≤ l.length → (sortN l k).Perm l
  | 0, _ => List.Perm.refl _
  | k + 1, h => (sinkF_perm k _ (by rw [sortN_len]; omega)).trans (sortN_perm l k (by omega))
theorem mem_sortR (l : List Rcd) (r : Rcd) : r ∈ sortR l ↔ r ∈ l := (sortN_perm l l.length (Nat.le_refl _)).mem_iff
section
variable {d : Dep} {c : Chg} (hg : Good d.revs) (hN : d.revs.length ≤ 512) (hk : ChkOK d c)
include hg hN hk
theorem app_old {i : Nat} (hi : i < d.revs.length) : (appD d c).revs[i]? = d.revs[i]? := by
  simp only [appD]; rw [List.getElem?_append_left hi]
theorem app_new {a : Nat} (ha : a < c.edits.length) : (appD d c).revs[d.revs.length + a]? = some (made c (c.edits.getD a zEdt)) := by
  simp only [appD]
  rw [List.getElem?_append_right (by omega), Nat.add_sub_cancel_left, List.getElem?_map, List.getElem?_eq_getElem ha]
  simp [List.getD, ha]
theorem app_N : (appD d c).revs.length ≤ 512 := by
  have := hk.tot1; simp [appD]; omega
theorem app_ne {i a : Nat} {v : Rev} (hv : d.revs[i]? = some v) (ha : a < c.edits.length) : fileOf v ≠ fileOf (made c (c.edits.getD a zEdt)) := by
  intro e
  have hi := (List.getElem?_eq_some_iff.1 hv).1
  have := good_file (good_app hg hN hk) (by rw [app_old hg hN hk hi]; exact hv) (app_new hg hN hk ha) e
  omega
theorem app_into {i : Nat} {v : Rev} (hv : d.revs[i]? = some v) (r : Rcd) : r ∈ intoR (appD d c) (fileOf v) ↔ r ∈ intoR d (fileOf v) := by
  simp only [intoR, List.mem_filter, appD, mem_sortR, List.mem_append, decide_eq_true_eq]
  constructor
  · rintro ⟨h | h, e⟩
    · exact ⟨h, e⟩
    · exfalso
      obtain ⟨j, hj, er⟩ := List.mem_iff_getElem.1 h
      have h0 := hk.recd j hj
      rw [show c.recs.getD j zRcd = r by simp [List.getD, hj, er]] at h0
      obtain ⟨x, hx, ⟨t1, t2, t3⟩, _⟩ := h0.okTgt
      obtain ⟨a, ha, ea⟩ := List.mem_iff_getElem.1 hx
      have hx' : c.edits.getD a zEdt = x := by simp [List.getD, ha, ea]
      refine app_ne hg hN hk hv ha ?_
      rw [hx', ← e]
      simp only [fileOf, made, t1, t2]
  · rintro ⟨h, e⟩; exact ⟨.inl h, e⟩
theorem app_spec (f : Fil) : SSeq (specA (appD d c) d.revs.length f) (SA d f) :=
  specA_ext (fun i hi => app_old hg hN hk hi) (fun i v _ hv => app_into hg hN hk hv) f
theorem app_SA {f : Fil} (hf : ∀ a, a < c.edits.length → f ≠ fileOf (made c (c.edits.getD a zEdt))) : SSeq (SA (appD d c) f) (SA d f) := by
  have e : SA (appD d c) f = specA (appD d c) d.revs.length f := by
    rw [SA]
    apply specA_skip (by simp [appD])
    intro i v h1 h2 hv
    have hl : i - d.revs.length < c.edits.length := by simp [appD] at h2; omega
    have := app_new hg hN hk hl
    rw [show d.revs.length + (i - d.revs.length) = i by omega, hv] at this
    cases this
    exact hf _ hl
  rw [e]; exact app_spec hg hN hk f
theorem app_SA_old {i : Nat} {v : Rev} (hv : d.revs[i]? = some v) : SSeq (SA (appD d c) (fileOf v)) (SA d (fileOf v)) := app_SA hg hN hk fun a ha => app_ne hg hN hk hv ha
theorem app_get {p : ByteArray} {n : Int} {w : Rev} (h : get? d p n = some w) : get? (appD d c) p n = some w := by
  obtain ⟨j, h1, h2⟩ := (get?_iff hg).1 h
  have hj := (List.getElem?_eq_some_iff.1 h1).1
  exact (get?_iff (good_app hg hN hk)).2 ⟨j, by rw [app_old hg hN hk hj]; exact h1, h2⟩
theorem app_member {f : Fil} {w : Rev} (h : member? d f.path f.num = some w) : member? (appD d c) f.path f.num = some w := by
  obtain ⟨j, h1, h2, h3⟩ := (member?_iff hg).1 h
  have hj := (List.getElem?_eq_some_iff.1 h1).1
  exact (member?_iff (good_app hg hN hk)).2 ⟨j, by rw [app_old hg hN hk hj]; exact h1, h2, h3⟩
theorem app_first : ∀ (n i : Nat) (v : Rev), i < n → d.revs[i]? = some v → ¬ v.act = 5 → first (appD d c) v = first d v
  | 0, i, v, h, _, _ => by omega
  | n + 1, i, v, h, hv, h5 => by
    have hi := (List.getElem?_eq_some_iff.1 hv).1
    have hg' := good_app hg hN hk
    have hN' := app_N hg hN hk
    have hv' : (appD d c).revs[i]? = some v := by rw [app_old hg hN hk hi]; exact hv
    rcases bef_cases hg hv h5 with ⟨h1, _⟩ | ⟨h1, u, w, a1, a2, a3, a4, a5⟩
    · rw [first_none (prev?_one h1), first_none (prev?_one h1)]
    · have e1 : prev? d v = some w := by rw [prev?_bef hg hN hv h1]; exact (get?_iff hg).2 ⟨u, a2, a4⟩
      have e2 : prev? (appD d c) v = some w := by rw [prev?_bef hg' hN' hv' h1]; exact (get?_iff hg').2 ⟨u, by rw [app_old hg hN hk (by omega)]; exact a2, a4⟩
      rw [first_step e1 a5, first_step e2 a5]
      exact app_first n u w (by omega) a2 a3
end
end Go.Proofs.YtbllfnmabmamfaaGreatDoor

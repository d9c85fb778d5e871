/- A part of the proof. -/
import Derived.Test.YtmhboloicpieeaaGreatDoorRP14
set_option maxRecDepth 100000
set_option maxHeartbeats 4000000
set_option linter.all false
namespace Go.Proofs.YtmhboloicpieeaaGreatDoor
open Go.Ab
structure SS where
 car : Fil → Prop
 con : Fil → Prop
 cre : Fil → Prop
def SS0 : SS := ⟨fun _ => False, fun _ => False, fun _ => False⟩
def carS (rs : List Rcd) (A : Fil → SS) (b f g : Fil) : Prop :=
 (A b).car g ∨ (∃ r ∈ rs, (r.how = 1 ∧ (A ⟨r.frm, r.last⟩).car g) ∨ (¬ r.how = 1 ∧ ¬ r.how = 3 ∧ ∃ n, r.first ≤ n ∧ n ≤ r.last ∧ (A ⟨r.frm, n⟩).con g)) ∨ ((rs = [] ∨ ∃ r ∈ rs, r.how = 4) ∧ g = f)
def stepS (rs : List Rcd) (A : Fil → SS) (v : Rev) : SS :=
 ⟨carS rs A (befF v) (fileOf v), fun g => carS rs A (befF v) (fileOf v) g ∧ ¬ (A (befF v)).car g,
  fun g => (A (befF v)).cre g ∨ (∃ r ∈ rs, r.how = 3 ∧ ∃ n, r.first ≤ n ∧ n ≤ r.last ∧ (A ⟨r.frm, n⟩).con g) ∨ carS rs A (befF v) (fileOf v) g⟩
def specA (d : Dep) : Nat → Fil → SS
 | 0 => fun _ => SS0
 | k + 1 =>
   match d.revs[k]? with
   | none => specA d k
   | some v => if v.act = 5 then specA d k else fun f => if f = fileOf v then stepS (intoR d (fileOf v)) (specA d k) v else specA d k f
theorem get?_iff {d : Dep} (hg : Good d.revs) {p : ByteArray} {n : Int} {w : Rev} : get? d p n = some w ↔ ∃ j : Nat, d.revs[j]? = some w ∧ fileOf w = ⟨p, n⟩ := by
 constructor
 ·intro h
  obtain ⟨h1, h2, h3⟩ := get?_mem h
  obtain ⟨j, hj⟩ := List.getElem?_of_mem h1
  exact ⟨j, hj, by simp [fileOf, h2, h3]⟩
 ·rintro ⟨j, hj, he⟩
  simp only [fileOf, Fil.mk.injEq] at he
  cases h : get? d p n with
  | none =>
    exfalso
    have := List.find?_eq_none.1 h w (by simp only [log, List.mem_filter]; exact ⟨List.mem_of_getElem? hj, by simp [he.1]⟩)
    simp [he.2] at this
  | some u =>
    obtain ⟨h1, h2, h3⟩ := get?_mem h
    obtain ⟨i, hi⟩ := List.getElem?_of_mem h1
    have := good_file hg hi hj (by simp [fileOf, h2, h3, he.1, he.2])
    subst this; rw [hi] at hj; exact hj
theorem prev?_one {d : Dep} {v : Rev} (h1 : v.act = 1) : prev? d v = none := by simp [prev?, h1]
theorem prev?_bef {d : Dep} (hg : Good d.revs) (hN : d.revs.length ≤ 512) {k : Nat} {v : Rev} (hv : d.revs[k]? = some v) (h1 : ¬ v.act = 1) : prev? d v = get? d (befF v).path (befF v).num := by
 have hn := hg.num k v hv
 have hk := (List.getElem?_eq_some_iff.1 hv).1
 unfold prev? befF
 rw [if_neg h1, if_neg h1]
 split
 ·rfl
 ·rw [wr_id (by omega) (by omega)]
section
variable {d : Dep} (hg : Good d.revs) (hN : d.revs.length ≤ 512) {L : Led} {me : List (Int × List Int)} (hI : LedInv d d.revs.length L me)
include hg hN hI
theorem first_fst : ∀ (n j : Nat) (v : Rev), j < n → d.revs[j]? = some v → ¬ v.act = 5 → ∃ (r : Nat) (w : Rev), L.fst.getD j 0 = (r : Int) ∧ d.revs[r]? = some w ∧ first d v = fileOf w
 | 0, j, v, h, _, _ => by omega
 | n + 1, j, v, h, hv, h5 => by
   have hj := (List.getElem?_eq_some_iff.1 hv).1
   rcases hI.pm j v hj hv h5 with ⟨u, w, a1, a2, a3, a4, a5, a6, a7, a8⟩ | ⟨h1, h2, h3⟩
   ·have hp : prev? d v = some w := by rw [prev?_bef hg hN hv a6]; exact (get?_iff hg).2 ⟨u, a3, a5⟩
    rw [first_step hp a7, a8]
    exact first_fst n u w (by omega) a3 a4
   ·exact ⟨j, v, h3, hv, first_none (prev?_one h1)⟩
theorem fst_iff {i j : Nat} {u v : Rev} (hu : d.revs[i]? = some u) (hv : d.revs[j]? = some v) (u5 : ¬ u.act = 5) (v5 : ¬ v.act = 5) : L.fst.getD i 0 = L.fst.getD j 0 ↔ first d u = first d v := by
 obtain ⟨r, w, a1, a2, a3⟩ := first_fst hg hN hI (i + 1) i u (by omega) hu u5
 obtain ⟨r', w', b1, b2, b3⟩ := first_fst hg hN hI (j + 1) j v (by omega) hv v5
 rw [a1, b1, a3, b3]
 constructor
 ·intro h
  have : r = r' := by omega
  subst this; rw [a2] at b2; cases b2; rfl
 ·intro h; rw [good_file hg a2 b2 h]
omit hN hI in
theorem bef_inj {i j : Nat} {u v : Rev} (hu : d.revs[i]? = some u) (hv : d.revs[j]? = some v) (u5 : ¬ u.act = 5) (v5 : ¬ v.act = 5) (u1 : ¬ u.act = 1) (v1 : ¬ v.act = 1) (h : befF u = befF v) : i = j := by
 have aux : ∀ {i j : Nat} {u v : Rev}, d.revs[i]? = some u → d.revs[j]? = some v → ¬ v.act = 5 → ¬ u.act = 1 → ¬ v.act = 1 → u.act = 4 → ¬ v.act = 4 → befF u = befF v → False := by
  intro i j u v hu hv v5 u1 v1 u4 v4 h
  obtain ⟨a, w, w1, w2, w3, w4⟩ := hg.away i u hu u4
  simp only [befF, u4, v1, v4, if_false, if_true, Fil.mk.injEq] at h
  simp at h
  have := good_file hg w1 hv (by simp only [fileOf, w2, w3, h.1, h.2]; congr 1; omega)
  subst this; rw [w1] at hv; cases hv; exact v5 w4
 by_cases u4 : u.act = 4
 ·by_cases v4 : v.act = 4
  ·simp only [befF, u4, v4, if_true, Fil.mk.injEq] at h
   simp at h
   rcases Nat.lt_trichotomy i j with hlt | e | hlt
   ·exact (hg.mov2 i j u v hlt hu hv u4 v4 h.1 h.2).elim
   ·exact e
   ·exact (hg.mov2 j i v u hlt hv hu v4 u4 h.1.symm h.2.symm).elim
  ·exact (aux hu hv v5 u1 v1 u4 v4 h).elim
 ·by_cases v4 : v.act = 4
  ·exact (aux hv hu u5 v1 u1 v4 u4 h.symm).elim
  ·simp only [befF, u1, v1, u4, v4, if_false, Fil.mk.injEq] at h
   exact good_file hg hu hv (by simp only [fileOf, h.1]; congr 1; omega)
theorem line_lt : ∀ (n i j : Nat) (u v : Rev), j < n → i < j → d.revs[i]? = some u → d.revs[j]? = some v → ¬ u.act = 5 → ¬ v.act = 5 → L.fst.getD i 0 = L.fst.getD j 0 →
  u.chg < v.chg ∧ ∃ (s : Nat) (w : Rev), s ≤ j ∧ d.revs[s]? = some w ∧ ¬ w.act = 5 ∧ ¬ w.act = 1 ∧ befF w = fileOf u
 | 0, i, j, u, v, h, _, _, _, _, _, _ => by omega
 | n + 1, i, j, u, v, hn, hij, hu, hv, u5, v5, hf => by
   have hj := (List.getElem?_eq_some_iff.1 hv).1
   have hi := (List.getElem?_eq_some_iff.1 hu).1
   rcases hI.pm j v hj hv v5 with ⟨k, w, a1, a2, a3, a4, a5, a6, a7, a8⟩ | ⟨h1, h2, h3⟩
   ·rcases Nat.lt_trichotomy i k with hlt | e | hlt
    ·obtain ⟨g1, s, x, g2, g3⟩ := line_lt n i k u w (by omega) hlt hu a3 u5 a4 (by rw [hf, a8])
     exact ⟨by omega, s, x, by omega, g3⟩
    ·subst e; rw [hu] at a3; cases a3
     exact ⟨a7, j, v, by omega, hv, v5, a6, a5.symm⟩
    ·exfalso
     obtain ⟨g1, s, x, g2, g3, g4, g5, g6⟩ := line_lt n k i w u (by omega) hlt a3 hu a4 u5 (by rw [← a8, hf])
     have := bef_inj hg g3 hv g4 v5 g5 a6 (g6.trans a5)
     omega
   ·have := hI.fm i u hi hu u5
    omega
end
def SA (d : Dep) : Fil → SS := specA d d.revs.length
def Open (d : Dep) (t : Fil) (u : Rev) : Prop := ¬ ∀ g, (SA d (fileOf u)).con g → (SA d t).cre g
open Classical in
noncomputable def remL (d : Dep) (v : Rev) (t : Fil) : List Fil := (d.revs.filter fun u => decide (¬ u.act = 5 ∧ first d u = first d v ∧ u.chg ≤ v.chg ∧ Open d t u)).map fileOf
noncomputable def remS (d : Dep) (s t : Fil) : Option (List Fil) :=
 match member? d s.path s.num, member? d t.path t.num with
 | some v, some _ => some (remL d v t)
 | _, _ => none
theorem member?_iff {d : Dep} (hg : Good d.revs) {f : Fil} {w : Rev} : member? d f.path f.num = some w ↔ ∃ j : Nat, d.revs[j]? = some w ∧ fileOf w = f ∧ ¬ w.act = 5 := by
 unfold member?
 cases h : get? d f.path f.num with
 | none =>
   simp only [reduceCtorEq, false_iff, not_exists]
   rintro j ⟨h1, h2, _⟩
   rw [(get?_iff hg).2 ⟨j, h1, h2⟩] at h; cases h
 | some v =>
   obtain ⟨i, h1, h2⟩ := (get?_iff hg).1 h
   simp only
   constructor
   ·intro hw
    split at hw
    ·cases hw
    ·cases hw; exact ⟨i, h1, h2, by assumption⟩
   ·rintro ⟨j, g1, g2, g3⟩
    have := good_file hg h1 g1 (by rw [h2, g2])
    subst this; rw [h1] at g1; cases g1; rw [if_neg g3]
def SSeq (A B : SS) : Prop := (∀ g, A.car g ↔ B.car g) ∧ (∀ g, A.con g ↔ B.con g) ∧ (∀ g, A.cre g ↔ B.cre g)
theorem SSeq.refl (A : SS) : SSeq A A := ⟨fun _ => Iff.rfl, fun _ => Iff.rfl, fun _ => Iff.rfl⟩
theorem SSeq.trans {A B C : SS} (h : SSeq A B) (k : SSeq B C) : SSeq A C := ⟨fun g => (h.1 g).trans (k.1 g), fun g => (h.2.1 g).trans (k.2.1 g), fun g => (h.2.2 g).trans (k.2.2 g)⟩
theorem SSeq.symm {A B : SS} (h : SSeq A B) : SSeq B A := ⟨fun g => (h.1 g).symm, fun g => (h.2.1 g).symm, fun g => (h.2.2 g).symm⟩
theorem exLed {d : Dep} : ∀ {k : Nat}, k ≤ d.revs.length → ∃ L me, LedRun d k L me
 | 0, _ => ⟨_, _, .zero⟩
 | k + 1, h => by
   obtain ⟨L, me, hr⟩ := exLed (d := d) (k := k) (by omega)
   have hv := List.getElem?_eq_getElem (show k < d.revs.length by omega)
   by_cases h5 : (d.revs[k]).act = 5
   ·exact ⟨_, _, .away hr hv h5⟩
   ·refine ⟨_, _, .memb hr hv h5 (c := (accCar (enterL L k d.revs[k]) k (intoR d (fileOf d.revs[k]))).flatMap fun o => o.getD [])
     (m := ((accCar (enterL L k d.revs[k]) k (intoR d (fileOf d.revs[k]))).flatMap fun o => o.getD []).filter fun x => !decide (x ∈ (befS (enterL L k d.revs[k]) k).getD []))
     (cr := ((accAll (enterL L k d.revs[k]) k (intoR d (fileOf d.revs[k]))).ign ++ [some ((accCar (enterL L k d.revs[k]) k (intoR d (fileOf d.revs[k]))).flatMap fun o => o.getD [])]).flatMap fun o => o.getD [])
     ⟨fun x => by simp only [List.mem_flatMap], fun x => by simp, fun x => by simp only [List.mem_flatMap]⟩⟩
theorem line_prev {d : Dep} (hg : Good d.revs) (hN : d.revs.length ≤ 512) {i j : Nat} {u v : Rev} (hij : i < j) (hu : d.revs[i]? = some u) (hv : d.revs[j]? = some v) (u5 : ¬ u.act = 5) (v5 : ¬ v.act = 5) (hf : first d u = first d v) :
  ∃ (k : Nat) (w : Rev), i ≤ k ∧ k < j ∧ d.revs[k]? = some w ∧ ¬ w.act = 5 ∧ fileOf w = befF v ∧ first d w = first d v := by
 obtain ⟨L, me, hr⟩ := exLed (d := d) (Nat.le_refl _)
 have hI := hr.inv hg
 have hL := (fst_iff hg hN hI hu hv u5 v5).2 hf
 have hj := (List.getElem?_eq_some_iff.1 hv).1
 have hi := (List.getElem?_eq_some_iff.1 hu).1
 rcases hI.pm j v hj hv v5 with ⟨k, w, a1, a2, a3, a4, a5, a6, a7, a8⟩ | ⟨h1, h2, h3⟩
 ·refine ⟨k, w, ?_, a2, a3, a4, a5, (fst_iff hg hN hI a3 hv a4 v5).1 a8.symm⟩
  rcases Nat.lt_or_ge k i with hlt | hge
  ·exfalso
   obtain ⟨_, s, x, g2, g3, g4, g5, g6⟩ := line_lt hg hN hI (i + 1) k i w u (by omega) hlt a3 hu a4 u5 (by rw [← a8, hL])
   have := bef_inj hg g3 hv g4 v5 g5 a6 (g6.trans a5)
   omega
  ·exact hge
 ·have := hI.fm i u hi hu u5
  omega
theorem set_swap {α : Type} (l : List α) (i j : Nat) (z : α) (hi : i < l.length) (hj : j < l.length) : ((l.set i (l.getD j z)).set j (l.getD i z)).Perm l := by
 have := List.set_set_perm hi hj
 simpa [List.getD, hi, hj] using this
theorem sinkF_perm : ∀ (k : Nat) (l : List Rcd), k < l.length → (sinkF k l).Perm l
 | 0, l, _ => List.Perm.refl _
 | k + 1, l, h => by
   rw [sinkF]
   split
   ·exact (sinkF_perm k _ (by simp; omega)).trans (set_swap l (k + 1) k zRcd h (by omega))
   ·exact List.Perm.refl _
theorem sortN_perm (l : List Rcd) : ∀ k, k ≤ l.length → (sortN l k).Perm l
 | 0, _ => List.Perm.refl _
 | k + 1, h => (sinkF_perm k _ (by rw [sortN_len]; omega)).trans (sortN_perm l k (by omega))
theorem mem_sortR (l : List Rcd) (r : Rcd) : r ∈ sortR l ↔ r ∈ l := (sortN_perm l l.length (Nat.le_refl _)).mem_iff
section
variable {d : Dep} {c : Chg} (hg : Good d.revs) (hN : d.revs.length ≤ 512) (hk : ChkOK d c)
include hg hN hk
theorem app_old {i : Nat} (hi : i < d.revs.length) : (appD d c).revs[i]? = d.revs[i]? := by
 simp only [appD]; rw [List.getElem?_append_left hi]
theorem app_new {a : Nat} (ha : a < c.edits.length) : (appD d c).revs[d.revs.length + a]? = some (made c (c.edits.getD a zEdt)) := by
 simp only [appD]
 rw [List.getElem?_append_right (by omega), Nat.add_sub_cancel_left, List.getElem?_map, List.getElem?_eq_getElem ha]
 simp [List.getD, ha]
theorem app_ne {i a : Nat} {v : Rev} (hv : d.revs[i]? = some v) (ha : a < c.edits.length) : fileOf v ≠ fileOf (made c (c.edits.getD a zEdt)) := by
 intro e
 have hi := (List.getElem?_eq_some_iff.1 hv).1
 have := good_file (good_app hg hN hk) (by rw [app_old hg hN hk hi]; exact hv) (app_new hg hN hk ha) e
 omega
theorem app_into {i : Nat} {v : Rev} (hv : d.revs[i]? = some v) (r : Rcd) : r ∈ intoR (appD d c) (fileOf v) ↔ r ∈ intoR d (fileOf v) := by
 simp only [intoR, List.mem_filter, appD, mem_sortR, List.mem_append, decide_eq_true_eq]
 constructor
 ·rintro ⟨h | h, e⟩
  ·exact ⟨h, e⟩
  ·exfalso
   obtain ⟨j, hj, er⟩ := List.mem_iff_getElem.1 h
   have h0 := hk.recd j hj
   rw [show c.recs.getD j zRcd = r by simp [List.getD, hj, er]] at h0
   obtain ⟨x, hx, ⟨t1, t2, t3⟩, _⟩ := h0.okTgt
   obtain ⟨a, ha, ea⟩ := List.mem_iff_getElem.1 hx
   have hx' : c.edits.getD a zEdt = x := by simp [List.getD, ha, ea]
   refine app_ne hg hN hk hv ha ?_
   rw [hx', ← e]
   simp only [fileOf, made, t1, t2]
 ·rintro ⟨h, e⟩; exact ⟨.inl h, e⟩
end
def RcTo (d : Dep) : Prop := ∀ r ∈ d.recs, ∃ v ∈ d.revs, fileOf v = ⟨r.to, r.num⟩
theorem rcTo_app {d : Dep} {c : Chg} (h : RcTo d) (hk : ChkOK d c) : RcTo (appD d c) := by
 intro r hr
 simp only [appD, mem_sortR, List.mem_append] at hr
 rcases hr with hr | hr
 ·obtain ⟨v, h1, h2⟩ := h r hr
  exact ⟨v, by simp [appD, h1], h2⟩
 ·obtain ⟨j, hj, er⟩ := List.mem_iff_getElem.1 hr
  have h0 := hk.recd j hj
  rw [show c.recs.getD j zRcd = r by simp [List.getD, hj, er]] at h0
  obtain ⟨x, hx, ⟨t1, t2, t3⟩, _⟩ := h0.okTgt
  exact ⟨made c x, by simp only [appD, List.mem_append, List.mem_map]; exact .inr ⟨x, hx, rfl⟩, by simp only [fileOf, made, t1, t2]⟩
theorem Built.to {l : List Chg} {d : Dep} (h : Built l d) : RcTo d := by
 induction h with
 | nil => intro r hr; simp [zDep] at hr
 | skip c h ih => exact ih
 | app h hc hk ih => exact rcTo_app ih hk
section
variable {d : Dep} {c : Chg} (hg : Good d.revs) (hN : d.revs.length ≤ 512) (hk : ChkOK d c)
include hg hN hk
theorem app_into_new (ht : RcTo d) {a : Nat} (ha : a < c.edits.length) (r : Rcd) : r ∈ intoR (appD d c) (fileOf (made c (c.edits.getD a zEdt))) ↔ r ∈ c.recs ∧ (⟨r.to, r.num⟩ : Fil) = fileOf (made c (c.edits.getD a zEdt)) := by
 simp only [intoR, List.mem_filter, appD, mem_sortR, List.mem_append, decide_eq_true_eq]
 constructor
 ·rintro ⟨h | h, e⟩
  ·exfalso
   obtain ⟨v, h1, h2⟩ := ht r h
   obtain ⟨i, hi⟩ := List.getElem?_of_mem h1
   exact app_ne hg hN hk hi ha (h2.trans e)
  ·exact ⟨h, e⟩
 ·rintro ⟨h, e⟩; exact ⟨.inr h, e⟩
end
def nextB (b r : Rev) : Bool := !(decide (r.act = 5) || decide (r.act = 1)) && (if r.act = 4 then decide (r.frm = b.path) && decide (r.fnum = b.num) else decide (r.path = b.path) && decide (wr (r.num - 1) = b.num))
def lnStep (acc : List Rev) (r : Rev) : List Rev := if nextB ((acc.getLast?).getD zRev) r then acc ++ [r] else acc
def lnP (d : Dep) (f : Fil) : List Rev := match get? d f.path f.num with | some v => if v.act = 1 then d.revs.foldl lnStep [v] else [] | none => []
section
variable {d : Dep} (hg : Good d.revs) (hN : d.revs.length ≤ 512)
include hg hN
theorem nextB_iff {k : Nat} {r b : Rev} (hr : d.revs[k]? = some r) : nextB b r = true ↔ ¬ r.act = 5 ∧ ¬ r.act = 1 ∧ befF r = fileOf b := by
 have hn := hg.num k r hr
 have hk := (List.getElem?_eq_some_iff.1 hr).1
 have hw : wr (r.num - 1) = r.num - 1 := wr_id (by omega) (by omega)
 unfold nextB befF fileOf
 rw [hw]
 by_cases h5 : r.act = 5
 ·simp [h5]
 by_cases h1 : r.act = 1
 ·simp [h1]
 by_cases h4 : r.act = 4
 ·simp [h4]
 ·simp [h5, h1, h4]
theorem first_next {k j : Nat} {r b : Rev} (hr : d.revs[k]? = some r) (hb : d.revs[j]? = some b) (r5 : ¬ r.act = 5) (r1 : ¬ r.act = 1) (h : befF r = fileOf b) : first d r = first d b ∧ j < k := by
 have hp : prev? d r = some b := by
  rw [prev?_bef hg hN hr r1]
  exact (get?_iff hg).2 ⟨j, hb, by rw [h]⟩
 have hc : b.chg < r.chg ∧ j < k := by
  by_cases h4 : r.act = 4
  ·obtain ⟨i, u, h1, h2, h3, h5, _, _, h6⟩ := hg.mov k r hr h4
   have e : fileOf u = fileOf b := by rw [← h]; simp [befF, h4, fileOf, h3, h5]
   have := good_file hg h2 hb e
   subst this; rw [h2] at hb; cases hb; exact ⟨h6, h1⟩
  ·obtain ⟨i, u, h1, h2, h3, h5, _, _, h6⟩ := hg.prv k r hr r1 h4
   have e : fileOf u = fileOf b := by rw [← h]; simp [befF, h4, r1, fileOf, h3, h5]
   have := good_file hg h2 hb e
   subst this; rw [h2] at hb; cases hb; exact ⟨h6, h1⟩
 exact ⟨first_step hp hc.1, hc.2⟩
theorem bef_ex {k : Nat} {r : Rev} (hr : d.revs[k]? = some r) (r1 : ¬ r.act = 1) : ∃ (j : Nat) (u : Rev), j < k ∧ d.revs[j]? = some u ∧ befF r = fileOf u ∧ ¬ u.act = 5 := by
 by_cases h4 : r.act = 4
 ·obtain ⟨i, u, h1, h2, h3, h5, _, h7, h6⟩ := hg.mov k r hr h4
  exact ⟨i, u, h1, h2, by simp [befF, h4, fileOf, h3, h5], h7⟩
 ·obtain ⟨i, u, h1, h2, h3, h5, _, h7, h6⟩ := hg.prv k r hr r1 h4
  exact ⟨i, u, h1, h2, by simp [befF, h4, r1, fileOf, h3, h5], h7⟩
def inLn (d : Dep) (f : Fil) (u : Rev) : Bool := decide (¬ u.act = 5 ∧ ¬ u.act = 1 ∧ first d u = f)
theorem ln_take {f : Fil} {iv : Nat} {v : Rev} (hv : d.revs[iv]? = some v) (hf : fileOf v = f) (v1 : v.act = 1) : ∀ k, k ≤ d.revs.length → (d.revs.take k).foldl lnStep [v] = v :: (d.revs.take k).filter (inLn d f)
 | 0, _ => by simp
 | k + 1, hk => by
   have ih := ln_take hv hf v1 k (by omega)
   obtain ⟨r, hr⟩ : ∃ r, d.revs[k]? = some r := ⟨_, List.getElem?_eq_getElem (by omega)⟩
   have ht : d.revs.take (k + 1) = d.revs.take k ++ [r] := by rw [List.take_add_one, hr]; rfl
   have hfv : first d v = f := by rw [first_none (prev?_one v1)]; exact hf
   rw [ht, List.foldl_append, ih, List.filter_append, List.foldl_cons, List.foldl_nil]
   have key : nextB (((v :: (d.revs.take k).filter (inLn d f)).getLast?).getD zRev) r = inLn d f r := by
    obtain ⟨b, jb, hb, hlast, hbv, hmax⟩ : ∃ (b : Rev) (jb : Nat), d.revs[jb]? = some b ∧ (v :: (d.revs.take k).filter (inLn d f)).getLast? = some b ∧ (¬ b.act = 5 ∧ first d b = f) ∧
      ((b = v ∧ ∀ (i : Nat) (u : Rev), i < k → d.revs[i]? = some u → inLn d f u = false) ∨ (inLn d f b = true ∧ ∀ (i : Nat) (u : Rev), i < k → d.revs[i]? = some u → inLn d f u = true → i ≤ jb)) := by
     rw [List.getLast?_cons]
     obtain ⟨h1, h2⟩ := lastF (inLn d f) (d.revs.take k)
     cases hl : ((d.revs.take k).filter (inLn d f)).getLast? with
     | none =>
       refine ⟨v, iv, hv, rfl, ⟨by omega, hfv⟩, .inl ⟨rfl, fun i u hi hu => h2 hl u ?_⟩⟩
       exact List.mem_of_getElem? (i := i) (by rw [List.getElem?_take, if_pos hi]; exact hu)
     | some b =>
       obtain ⟨j, g1, g2, g3⟩ := h1 b hl
       have hjk : j < k := by have := (List.getElem?_eq_some_iff.1 g1).1; simp at this; omega
       rw [List.getElem?_take, if_pos hjk] at g1
       have g2' := g2
       simp only [inLn, decide_eq_true_eq] at g2'
       refine ⟨b, j, g1, rfl, ⟨g2'.1, g2'.2.2⟩, .inr ⟨g2, fun i u hi hu hp => g3 i u ?_ hp⟩⟩
       rw [List.getElem?_take, if_pos hi]; exact hu
    rw [hlast, Option.getD_some, Bool.eq_iff_iff, nextB_iff hg hN hr]
    simp only [inLn, decide_eq_true_eq]
    constructor
    ·rintro ⟨r5, r1, e⟩
     exact ⟨r5, r1, (first_next hg hN hr hb r5 r1 e).1.trans hbv.2⟩
    ·rintro ⟨r5, r1, e⟩
     refine ⟨r5, r1, ?_⟩
     obtain ⟨j, u, hj, hu, eu, u5⟩ := bef_ex hg hN hr r1
     have hfu : first d u = f := by rw [← (first_next hg hN hr hu r5 r1 eu).1]; exact e
     rw [eu]
     by_cases u1 : u.act = 1
     ·have huv : u = v := by
       have e1 : fileOf u = fileOf v := by rw [first_none (prev?_one u1)] at hfu; rw [hfu, hf]
       have := good_file hg hu hv e1
       subst this; rw [hu] at hv; exact Option.some.inj hv
      rcases hmax with ⟨hbv2, _⟩ | ⟨hbl, hm⟩
      ·rw [huv, hbv2]
      ·exfalso
       simp only [inLn, decide_eq_true_eq] at hbl
       have hjb : jb < k := by
        rcases Nat.lt_or_ge jb k with h | h
        ·exact h
        ·exfalso
         have hmem : b ∈ (v :: (d.revs.take k).filter (inLn d f)) := List.mem_of_getLast? hlast
         rcases List.mem_cons.1 hmem with rfl | hmem
         ·exact hbl.2.1 v1
         ·obtain ⟨i, hi⟩ := List.getElem?_of_mem (List.mem_filter.1 hmem).1
          have hik : i < k := by have := (List.getElem?_eq_some_iff.1 hi).1; simp at this; omega
          rw [List.getElem?_take, if_pos hik] at hi
          have := good_file hg hi hb rfl
          omega
       obtain ⟨k', w, w1, w2, w3, w4, w5, w6⟩ := line_prev hg hN hjb hb hr hbl.1 r5 (hbl.2.2.trans e.symm)
       have e2 : fileOf w = fileOf u := by rw [w5, eu]
       have hkj := good_file hg w3 hu e2
       subst hkj
       rcases Nat.lt_or_ge jb k' with hlt | hge
       ·obtain ⟨k2, w', _, _, _, _, q5, _⟩ := line_prev hg hN hlt hb hu hbl.1 u5 (hbl.2.2.trans hfu.symm)
        have : (befF u) = zFil := by simp [befF, u1]
        rename_i hw' _ _
        rw [this] at q5
        have := hg.num k2 w' (by assumption)
        have h0 : w'.num = 0 := congrArg Fil.num q5
        omega
       ·have : jb = k' := by omega
        subst this
        rw [hb] at hu; cases hu; exact hbl.2.1 u1
     ·have hul : inLn d f u = true := by simp only [inLn, decide_eq_true_eq]; exact ⟨u5, u1, hfu⟩
      rcases hmax with ⟨_, hm⟩ | ⟨hbl, hm⟩
      ·rw [hm j u hj hu] at hul; cases hul
      ·have h1 := hm j u hj hu hul
       have hbl' := hbl
       simp only [inLn, decide_eq_true_eq] at hbl
       have hjb : jb < k := by
        rcases Nat.lt_or_ge jb k with h | h
        ·exact h
        ·exfalso
         have hmem : b ∈ (v :: (d.revs.take k).filter (inLn d f)) := List.mem_of_getLast? hlast
         rcases List.mem_cons.1 hmem with rfl | hmem
         ·exact hbl.2.1 v1
         ·obtain ⟨i, hi⟩ := List.getElem?_of_mem (List.mem_filter.1 hmem).1
          have hik : i < k := by have := (List.getElem?_eq_some_iff.1 hi).1; simp at this; omega
          rw [List.getElem?_take, if_pos hik] at hi
          have := good_file hg hi hb rfl
          omega
       obtain ⟨k', w, w1, w2, w3, w4, w5, w6⟩ := line_prev hg hN hjb hb hr hbl.1 r5 (hbl.2.2.trans e.symm)
       have e2 : fileOf w = fileOf u := by rw [w5, eu]
       have hkj := good_file hg w3 hu e2
       subst hkj
       have : jb = k' := by omega
       subst this
       rw [hb] at hu; cases hu; rfl
   rw [lnStep, key]
   cases h : inLn d f r with
   | true => simp [h]
   | false => simp [h]
theorem lnP_mem {f : Fil} {u : Rev} : u ∈ lnP d f ↔ u ∈ d.revs ∧ ¬ u.act = 5 ∧ first d u = f := by
 unfold lnP
 have hfirst : ∀ (n k : Nat) (u : Rev), k < n → d.revs[k]? = some u → ¬ u.act = 5 → ∃ (j : Nat) (v : Rev), d.revs[j]? = some v ∧ v.act = 1 ∧ fileOf v = first d u := by
  intro n
  induction n with
  | zero => intro k u hk; omega
  | succ n ih =>
    intro k u hk hu u5
    by_cases u1 : u.act = 1
    ·exact ⟨k, u, hu, u1, (first_none (prev?_one u1)).symm⟩
    ·obtain ⟨j, w, hj, hw, ew, w5⟩ := bef_ex hg hN hu u1
     obtain ⟨i, v, h1, h2, h3⟩ := ih j w (by omega) hw w5
     exact ⟨i, v, h1, h2, by rw [h3, (first_next hg hN hu hw u5 u1 ew).1]⟩
 constructor
 ·intro h
  cases hgt : get? d f.path f.num with
  | none => rw [hgt] at h; simp at h
  | some v =>
    rw [hgt] at h
    simp only at h
    split at h
    ·rename_i v1
     obtain ⟨iv, hv, ev⟩ := (get?_iff hg).1 hgt
     have ht := ln_take hg hN hv ev v1 d.revs.length (Nat.le_refl _)
     rw [List.take_length] at ht
     rw [ht] at h
     rcases List.mem_cons.1 h with rfl | h
     ·exact ⟨List.mem_of_getElem? hv, by omega, by rw [first_none (prev?_one v1)]; exact ev⟩
     ·obtain ⟨h1, h2⟩ := List.mem_filter.1 h
      simp only [inLn, decide_eq_true_eq] at h2
      exact ⟨h1, h2.1, h2.2.2⟩
    ·simp at h
 ·rintro ⟨h1, u5, hf⟩
  obtain ⟨k, hk⟩ := List.getElem?_of_mem h1
  obtain ⟨iv, v, hv, v1, ev⟩ := hfirst (k + 1) k u (by omega) hk u5
  rw [hf] at ev
  rw [(get?_iff hg).2 ⟨iv, hv, ev⟩]
  simp only [v1, if_true]
  have ht := ln_take hg hN hv ev v1 d.revs.length (Nat.le_refl _)
  rw [List.take_length] at ht
  rw [ht]
  by_cases u1 : u.act = 1
  ·have e1 : fileOf u = fileOf v := by rw [first_none (prev?_one u1)] at hf; rw [hf, ev]
   have := good_file hg hk hv e1
   subst this; rw [hk] at hv; cases hv; simp
  ·exact List.mem_cons_of_mem _ (List.mem_filter.2 ⟨h1, by simp only [inLn, decide_eq_true_eq]; exact ⟨u5, u1, hf⟩⟩)
end
structure Tsk where
 kind : Int
 lpath : ByteArray
 lnum : Int
 frm : ByteArray
 first : Int
 last : Int
 to : ByteArray
 head : Int
 bpath : ByteArray
 bnum : Int
 move : ByteArray
structure Rsn where
 base : Int
 kw : Bool
 ex : Bool
 xe : Bool
 sum : Int
 size : Int
 mv : Bool
@[reducible] def encTsk (t : Tsk) : List D := [.v (.int .i64 t.kind), .v (.string t.lpath), .v (.int .i64 t.lnum), .v (.string t.frm), .v (.int .i64 t.first), .v (.int .i64 t.last), .v (.string t.to), .v (.int .i64 t.head), .v (.string t.bpath), .v (.int .i64 t.bnum), .v (.string t.move)]
@[reducible] def aTsk (t : Tsk) : AV := .agg ((encTsk t).map C.d)
@[reducible] def encRsn (w : Rsn) : List D := [.v (.int .i64 w.base), .v (.bool w.kw), .v (.bool w.ex), .v (.bool w.xe), .v (.int .u64 w.sum), .v (.int .i64 w.size), .v (.bool w.mv)]
@[reducible] def aRsn (w : Rsn) : AV := .agg ((encRsn w).map C.d)
@[reducible] def encPrb (d : Dep) (t : Tsk) (s h : Rev) : List D := encDep d ++ encTsk t ++ encRev s ++ encRev h
def Tsk.line (t : Tsk) : Fil := ⟨t.lpath, t.lnum⟩
@[reducible] def noS : ByteArray := { data := #[] }
def usableB (p : ByteArray) : Bool := (path? p).isSome && decide (p.size ≤ 200)
def idn (d : Dep) (p : ByteArray) (n : Int) : Option Fil := (member? d p n).map (first d)
def RunOK (d : Dep) (t : Tsk) : Prop := ∀ n : Int, t.first ≤ n → n ≤ t.last → idn d t.frm n = some t.line
def srcR (d : Dep) (t : Tsk) : Rev := (get? d t.frm t.last).getD zRev
def tgtR (d : Dep) (t : Tsk) : Rev := (last? d t.to).getD zRev
def delB (d : Dep) (t : Tsk) : Bool := decide ((srcR d t).act = 3)
def movB (d : Dep) (t : Tsk) : Bool := decide (t.move = noS) || (usableB t.move && !live d t.move && !decide (t.move = t.to))
def kindB (d : Dep) (t : Tsk) : Bool := if t.kind = 1 then !live d t.to && !delB d t && decide (t.move = noS) else live d t.to && !decide (idn d t.to t.head = some t.line) && (delB d t == decide (t.kind = 3)) && movB d t
structure Fits (d : Dep) (t : Tsk) : Prop where
 kind : 1 ≤ t.kind ∧ t.kind ≤ 3
 lo : 1 ≤ t.first
 le : t.first ≤ t.last
 run : RunOK d t
 use : usableB t.to = true
 head : lastNum d t.to = t.head
 rest : kindB d t = true
open Classical in
noncomputable def fitsB (d : Dep) (t : Tsk) : Bool := decide (Fits d t)
def allowB (k ch : Int) : Bool := if k = 1 then decide (ch = 2) else if k = 3 then decide (ch = 1) || decide (ch = 2) else decide (1 ≤ ch) && decide (ch ≤ 4)
def permB (t : Tsk) (ch : Int) (w : Rsn) : Bool := !(w.mv && (decide (t.move = noS) || decide (ch = 1) || decide (t.kind = 3))) && (if ch = 3 ∨ ch = 4 then !typBad w.base w.kw w.xe && decide (0 ≤ w.size) else true)
def resE (d : Dep) (t : Tsk) (ch : Int) (w : Rsn) : Edt × Int :=
 let s := srcR d t
 let h := tgtR d t
 let mk := fun (a : Int) (v : Rev) (sm sz : Int) => (⟨t.to, a, v.base, v.kw, v.ex, v.xe, sm, sz, t.head, noS, 0, 0⟩ : Edt)
 if t.kind = 1 then (mk 1 s s.sum s.size, 1)
 else if ch = 1 then (mk 2 h h.sum h.size, 3)
 else if t.kind = 3 then (mk 3 h 0 0, 1)
 else if ch = 2 then (mk 2 s s.sum s.size, 1)
 else (⟨t.to, 2, w.base, w.kw, w.ex, w.xe, w.sum, w.size, t.head, noS, 0, 0⟩, if ch = 4 then 4 else 2)
def awayE (d : Dep) (t : Tsk) : Edt := ⟨t.to, 5, (tgtR d t).base, (tgtR d t).kw, (tgtR d t).ex, (tgtR d t).xe, 0, 0, t.head, noS, 0, 0⟩
def hereE (d : Dep) (t : Tsk) (e : Edt) : Edt := ⟨t.move, 4, e.base, e.kw, e.ex, e.xe, e.sum, e.size, lastNum d t.move, t.to, t.head, e.fence⟩
def movE (d : Dep) (t : Tsk) (e : Edt) : List Edt := if ord t.to t.move < 0 then [awayE d t, hereE d t e] else [hereE d t e, awayE d t]
def resEs (d : Dep) (t : Tsk) (ch : Int) (w : Rsn) : List Edt := if w.mv then movE d t (resE d t ch w).1 else [(resE d t ch w).1]
def resRc (d : Dep) (t : Tsk) (ch : Int) (w : Rsn) : Rcd := ⟨t.frm, t.first, t.last, if w.mv then t.move else t.to, if w.mv then lastNum d t.move + 1 else t.head + 1, (resE d t ch w).2⟩
@[reducible] def nilP : Bool × List C := (false, [.d (.v (.slice none 0 0))])
noncomputable def resA (d : Dep) (t : Tsk) (ch : Int) (w : Rsn) : AV :=
 if fitsB d t then
  if allowB t.kind ch && permB t ch w then .tup [(false, [.d (.ps 12 ((resEs d t ch w).map encEdt))]), (false, [.d (.ps 6 [encRcd (resRc d t ch w)])]), pI 0]
  else .tup [nilP, nilP, pI 171]
 else .tup [nilP, nilP, pI 170]
def NumOK (d : Dep) : Prop := ∀ v ∈ d.revs, v.num ≤ (log d v.path).length
theorem NumOK.last {d : Dep} (h : NumOK d) (p : ByteArray) : lastNum d p ≤ (log d p).length := by
 unfold lastNum
 cases hl : last? d p with
 | none => simp [zRev]
 | some v =>
   obtain ⟨j, h1, h2, _⟩ := last_some hl
   have := h v (List.mem_of_getElem? h1)
   rw [h2] at this; exact this
theorem numOK_app {d : Dep} {c : Chg} (hg : Good d.revs) (hN : d.revs.length ≤ 512) (h : NumOK d) (hk : ChkOK d c) : NumOK (appD d c) := by
 intro v hv
 have hlog : (log (appD d c) v.path).length = (log d v.path).length + ((c.edits.map (made c)).filter fun u => decide (u.path = v.path)).length := by
  simp only [log, appD, List.filter_append, List.length_append]
 simp only [appD, List.mem_append] at hv
 rcases hv with hv | hv
 ·have := h v hv; rw [hlog]; omega
 ·have hpos : 0 < ((c.edits.map (made c)).filter fun u => decide (u.path = v.path)).length := List.length_pos_of_mem (List.mem_filter.2 ⟨hv, by simp⟩)
  obtain ⟨e, he, rfl⟩ := List.mem_map.1 hv
  obtain ⟨i, hi, e2⟩ := List.mem_iff_getElem.1 he
  have hE := hk.edit i hi
  rw [show c.edits.getD i zEdt = e by simp [List.getD, hi, e2]] at hE
  have h1 := hE.okPrev
  have h2 := lastNum_le hg e.path
  have h3 := h.last e.path
  have hw : wr (e.prev + 1) = e.prev + 1 := wr_id (by omega) (by omega)
  rw [hlog]
  simp only [made] at hpos ⊢
  rw [hw]
  omega
theorem Built.numOK {l : List Chg} {d : Dep} (h : Built l d) : NumOK d := by
 induction h with
 | nil => intro r hr; simp [zDep] at hr
 | skip c h ih => exact ih
 | app h hc hk ih => exact numOK_app h.good h.ok.1 ih hk
theorem idn_iff {d : Dep} (hg : Good d.revs) {p : ByteArray} {n : Int} {f : Fil} : idn d p n = some f ↔ ∃ (j : Nat) (v : Rev), d.revs[j]? = some v ∧ fileOf v = ⟨p, n⟩ ∧ ¬ v.act = 5 ∧ first d v = f := by
 simp only [idn, Option.map_eq_some_iff]
 constructor
 ·rintro ⟨v, h1, h2⟩
  obtain ⟨j, a, b, c⟩ := (member?_iff hg (f := ⟨p, n⟩)).1 h1
  exact ⟨j, v, a, b, c, h2⟩
 ·rintro ⟨j, v, a, b, c, e⟩
  exact ⟨v, (member?_iff hg (f := ⟨p, n⟩)).2 ⟨j, a, b, c⟩, e⟩
theorem idn_line {d : Dep} (hg : Good d.revs) (hN : d.revs.length ≤ 512) {p : ByteArray} {n : Int} {f : Fil} : idn d p n = some f ↔ (⟨p, n⟩ : Fil) ∈ (lnP d f).map fileOf := by
 rw [idn_iff hg, List.mem_map]
 constructor
 ·rintro ⟨j, v, a, b, c, e⟩
  exact ⟨v, (lnP_mem hg hN).2 ⟨List.mem_of_getElem? a, c, e⟩, b⟩
 ·rintro ⟨v, h, b⟩
  obtain ⟨h1, h2, h3⟩ := (lnP_mem hg hN).1 h
  obtain ⟨j, hj⟩ := List.getElem?_of_mem h1
  exact ⟨j, v, hj, b, h2, h3⟩
theorem idn_num {d : Dep} (hg : Good d.revs) (hn : NumOK d) {p : ByteArray} {n : Int} {f : Fil} (h : idn d p n = some f) : 1 ≤ n ∧ n ≤ (log d p).length ∧ n ≤ d.revs.length := by
 obtain ⟨j, v, a, b, c, e⟩ := (idn_iff hg).1 h
 have h1 := hg.num j v a
 have h2 := hn v (List.mem_of_getElem? a)
 have hj := (List.getElem?_eq_some_iff.1 a).1
 have b1 : v.path = p := congrArg Fil.path b
 have b2 : v.num = n := congrArg Fil.num b
 rw [b1] at h2
 omega
theorem incr_ge {l : List Rev} (h : l.Pairwise fun u v => u.num < v.num) : ∀ {j i : Nat} {u v : Rev}, i ≤ j → l[i]? = some u → l[j]? = some v → u.num + ((j : Int) - i) ≤ v.num
 | 0, i, u, v, hij, hu, hv => by
   have : i = 0 := by omega
   subst this; rw [hu] at hv; cases hv; omega
 | j + 1, i, u, v, hij, hu, hv => by
   by_cases e : i = j + 1
   ·subst e; rw [hu] at hv; cases hv; omega
   ·obtain ⟨hj, ev⟩ := List.getElem?_eq_some_iff.1 hv
    have hw : l[j]? = some l[j] := List.getElem?_eq_getElem (by omega)
    have ih := incr_ge h (j := j) (by omega) hu hw
    have := (List.pairwise_iff_getElem.1 h) j (j + 1) (by omega) hj (by omega)
    rw [ev] at this
    omega
theorem log_incr {d : Dep} (hg : Good d.revs) (p : ByteArray) : (log d p).Pairwise fun u v => u.num < v.num := by
 have h0 : d.revs.Pairwise fun u v => u.path = v.path → u.num < v.num :=
  List.pairwise_iff_getElem.2 fun i j hi hj hij e => (hg.path i j _ _ hij (List.getElem?_eq_getElem hi) (List.getElem?_eq_getElem hj) e).2
 refine (h0.filter (fun v => decide (v.path = p))).imp_of_mem ?_
 intro u v hu hv h
 have h1 := (List.mem_filter.1 hu).2
 have h2 := (List.mem_filter.1 hv).2
 simp only [decide_eq_true_eq] at h1 h2
 exact h (by rw [h1, h2])
theorem log_num {d : Dep} (hg : Good d.revs) (hn : NumOK d) (p : ByteArray) {i : Nat} {v : Rev} (hv : (log d p)[i]? = some v) : v.num = (i : Int) + 1 := by
 have hp := log_incr hg p
 have hi := (List.getElem?_eq_some_iff.1 hv).1
 have mem : ∀ {k : Nat} {u : Rev}, (log d p)[k]? = some u → 1 ≤ u.num ∧ u.num ≤ (log d p).length := by
  intro k u hu
  have hm := List.mem_of_getElem? hu
  obtain ⟨h1, h2⟩ := List.mem_filter.1 hm
  simp only [decide_eq_true_eq] at h2
  obtain ⟨j, hj⟩ := List.getElem?_of_mem h1
  have := hg.num j u hj
  have h3 := hn u h1
  rw [h2] at h3
  omega
 have h0 : (log d p)[0]? = some (log d p)[0] := List.getElem?_eq_getElem (by omega)
 have hl : (log d p)[(log d p).length - 1]? = some (log d p)[(log d p).length - 1] := List.getElem?_eq_getElem (by omega)
 have a := incr_ge hp (by omega) h0 hv
 have b := incr_ge hp (by omega) hv hl
 have c := mem h0
 have e := mem hl
 omega
theorem get_dense {d : Dep} (hg : Good d.revs) (hn : NumOK d) {p : ByteArray} {n : Int} (h1 : 1 ≤ n) (h2 : n ≤ (log d p).length) : ∃ v, get? d p n = some v := by
 have hi : (n - 1).toNat < (log d p).length := by omega
 have hv : (log d p)[(n - 1).toNat]? = some (log d p)[(n - 1).toNat] := List.getElem?_eq_getElem hi
 have := log_num hg hn p hv
 cases hf : get? d p n with
 | some v => exact ⟨v, rfl⟩
 | none =>
   exfalso
   have h3 := List.find?_eq_none.1 hf _ (List.mem_of_getElem? hv)
   simp only [decide_eq_true_eq] at h3
   omega
def SrcOK (d : Dep) : Prop := ∀ (k : Nat) (v : Rev), d.revs[k]? = some v → ∀ r ∈ intoR d (fileOf v), 1 ≤ r.first ∧ r.first ≤ r.last ∧ 1 ≤ r.how ∧ r.how ≤ 4 ∧
 ∀ n, r.first ≤ n → n ≤ r.last → ∃ (j : Nat) (u : Rev), j < k ∧ d.revs[j]? = some u ∧ fileOf u = ⟨r.frm, n⟩ ∧ ¬ u.act = 5
theorem srcOK_app {d : Dep} {c : Chg} (hg : Good d.revs) (hN : d.revs.length ≤ 512) (ht : RcTo d) (hn : NumOK d) (h : SrcOK d) (hk : ChkOK d c) : SrcOK (appD d c) := by
 intro k v hv r hr
 rcases Nat.lt_or_ge k d.revs.length with hlt | hge
 ·rw [app_old hg hN hk hlt] at hv
  obtain ⟨a1, a2, a3, a4, a5⟩ := h k v hv r ((app_into hg hN hk hv r).1 hr)
  refine ⟨a1, a2, a3, a4, fun n n1 n2 => ?_⟩
  obtain ⟨j, u, j1, j2, j3, j4⟩ := a5 n n1 n2
  exact ⟨j, u, j1, by rw [app_old hg hN hk (by omega)]; exact j2, j3, j4⟩
 ·obtain ⟨a, rfl⟩ : ∃ a, k = d.revs.length + a := ⟨k - d.revs.length, by omega⟩
  have ha : a < c.edits.length := by
   have := (List.getElem?_eq_some_iff.1 hv).1
   simp only [appD, List.length_append, List.length_map] at this; omega
  rw [app_new hg hN hk ha] at hv
  cases hv
  obtain ⟨hr1, _⟩ := (app_into_new hg hN hk ht ha r).1 hr
  obtain ⟨j, hj, er⟩ := List.mem_iff_getElem.1 hr1
  have h0 := hk.recd j hj
  rw [show c.recs.getD j zRcd = r by simp [List.getD, hj, er]] at h0
  refine ⟨h0.okLo, h0.okLe, h0.okHow.1, h0.okHow.2, fun n n1 n2 => ?_⟩
  have hlo := h0.okLo
  have hhi := h0.okHi
  obtain ⟨u, hu⟩ := get_dense hg hn (p := r.frm) (n := n) (by omega) (by omega)
  obtain ⟨i, hi, ei⟩ := (get?_iff hg).1 hu
  have hil := (List.getElem?_eq_some_iff.1 hi).1
  refine ⟨i, u, by omega, by rw [app_old hg hN hk hil]; exact hi, ei, ?_⟩
  have := (h0.okLine n n1 n2).1
  rwa [show getZ d r.frm n = u by simp [getZ, hu]] at this
theorem Built.src {l : List Chg} {d : Dep} (h : Built l d) : SrcOK d := by
 induction h with
 | nil => intro k v hv; simp [zDep] at hv
 | skip c h ih => exact ih
 | app h hc hk ih => exact srcOK_app h.good h.ok.1 h.to h.numOK ih hk
section
variable {d : Dep} (hg : Good d.revs) (hS : SrcOK d)
include hg hS
end
structure TskB (d : Dep) (x : Tsk) : Prop where
 lo : 1 ≤ x.first
 le : x.first ≤ x.last
 run : RunOK d x
 head : lastNum d x.to = x.head
 kind : (x.kind = 1 ∧ live d x.to = false ∧ ¬ (srcR d x).act = 3 ∧ x.move = noS) ∨
  (x.kind = (if (srcR d x).act = 3 then 3 else 2) ∧ live d x.to = true ∧ ¬ idn d x.to x.head = some x.line ∧ (x.move = noS ∨ (path? x.move).isSome = true ∧ live d x.move = false ∧ ¬ x.move = x.to))
 to : (path? x.to).isSome = true
theorem TskB.fits {d : Dep} {x : Tsk} (h : TskB d x) (ht : x.to.size ≤ 200) (hm : x.move.size ≤ 200) : Fits d x := by
 have hu : usableB x.to = true := by simp [usableB, h.to, ht]
 rcases h.kind with ⟨k, l, s, m⟩ | ⟨k, l, i, m⟩
 ·refine ⟨by omega, h.lo, h.le, h.run, hu, h.head, ?_⟩
  simp [kindB, k, l, delB, s, m]
 ·have hk : x.kind = 2 ∨ x.kind = 3 := by rw [k]; split <;> simp
  have hd : (delB d x == decide (x.kind = 3)) = true := by
   rw [k]
   unfold delB
   by_cases e : (srcR d x).act = 3 <;> simp [e]
  refine ⟨by omega, h.lo, h.le, h.run, hu, h.head, ?_⟩
  have k1 : ¬ x.kind = 1 := by omega
  simp only [kindB, if_neg k1, l, Bool.true_and, i, decide_false, Bool.not_false, hd]
  rcases m with m | ⟨m1, m2, m3⟩
  ·simp [movB, m]
  ·simp [movB, usableB, m1, hm, m2, m3]
end Go.Proofs.YtmhboloicpieeaaGreatDoor
namespace Go.Proofs.YtmhboloicpieeaaGreatDoor
open Go.Ab Tys
variable [Dr]
def k75 := And.intro @Tryz.ntmps75 <| And.intro @bld46 <| And.intro @fld46_3 <| And.intro @ti3 <| @ti46
theorem v75F1 {G G' : Prop} (g : G') (h : Hid G' → G := by intro h9; (first | refine nvB ?_ | refine goA (wr := false) (by simp only [kB, kG, k75, Nat.reduceAdd, Nat.reduceLT, Nat.reduceEqDiff, ↓reduceIte, reduceCtorEq]; first | done | rfl) ?_); (repeat (first | refine nvB ?_ | refine goA (wr := false) (by simp only [kB, kG, k75, Nat.reduceAdd, Nat.reduceLT, Nat.reduceEqDiff, ↓reduceIte, reduceCtorEq]; first | done | rfl) ?_)); exact h9.out) : G := h ⟨g⟩
theorem gone_ac (v : Rev) : AC Tryz.prog 75 [aRev v] [] (fun r st => r = B (gone v) ∧ st = []) := by
 refine AC_enter Tryz.func75 rfl rfl (by simp only [Tryz.ntmps75, List.length]; omega) ?_
 intro x hx
 simp only [List.range, List.range.loop, List.length, List.zip, List.zipWith, Nat.reduceAdd, Tryz.ntmps75]
 try refine v75F1 ?_
 refine rtA (by simp only [kR, Tryz.results75, ↓reduceIte, Nat.reduceEqDiff, reduceCtorEq]; first | done | rfl) ([]) ?_
 refine ⟨?_, rfl⟩
 simp [gone, cond_eq_ite]
def k33 := And.intro @Tryz.ntmps33 <| And.intro @bld37 <| And.intro @bld46 <| And.intro @fld37_0 <| And.intro @fld37_1 <| And.intro @fld46_0 <| And.intro @fld46_1 <| And.intro @ti3 <| And.intro @ti37 <| And.intro @ti46 <| @ti9
theorem v33F1 {G G' : Prop} (g : G') (h : Hid G' → G := by intro h9; (first | refine nvB ?_ | refine goA (wr := false) (by simp only [kB, kS, k33, Nat.reduceAdd, Nat.reduceLT, Nat.reduceEqDiff, ↓reduceIte, reduceCtorEq]; first | done | rfl) ?_); (repeat (first | refine nvB ?_ | refine goA (wr := false) (by simp only [kB, kS, k33, Nat.reduceAdd, Nat.reduceLT, Nat.reduceEqDiff, ↓reduceIte, reduceCtorEq]; first | done | rfl) ?_)); exact h9.out) : G := h ⟨g⟩
theorem file_ac (v : Rev) : AC Tryz.prog 33 [aRev v] [] (fun r st => r = aFil (fileOf v) ∧ st = []) := by
 refine AC_enter Tryz.func33 rfl rfl (by simp only [Tryz.ntmps33, List.length]; omega) ?_
 intro x hx
 simp only [List.range, List.range.loop, List.length, List.zip, List.zipWith, Nat.reduceAdd, Tryz.ntmps33]
 try refine v33F1 ?_
 refine rtA (by simp only [kR, Tryz.results33, ↓reduceIte, Nat.reduceEqDiff, reduceCtorEq, effLoad, cellsOf, List.map, List.length_cons, List.length_nil, List.getD_cons_zero, List.getD_cons_succ, List.getD_nil, List.drop, List.take, splice, ti37]; first | done | rfl) ([]) ?_
 refine ⟨?_, rfl⟩
 simp [fileOf]
def k60 := And.intro @Tryz.ntmps60 <| And.intro @bld41 <| And.intro @bld44 <| And.intro @bld46 <| And.intro @bld56 <| And.intro @bld62 <| And.intro @fld46_0 <| And.intro @fld46_1 <| And.intro @fld46_2 <| And.intro @fld46_3 <| And.intro @fld46_4 <| And.intro @fld46_5 <| And.intro @fld46_6 <| And.intro @fld46_7 <| And.intro @fld56_0 <| And.intro @fld56_1 <| And.intro @fld56_2 <| And.intro @fld56_3 <| And.intro @fld56_4 <| And.intro @fld56_5 <| And.intro @fld56_6 <| And.intro @fld62_0 <| And.intro @ti3 <| And.intro @ti41 <| And.intro @ti44 <| And.intro @ti46 <| And.intro @ti56 <| And.intro @ti62 <| @ti9
theorem made_ac (c : Chg) (e : Edt) : AC Tryz.prog 60 [aChg c, aEdt e] [] (fun r st => r = aRev (made c e) ∧ st = []) := by
 refine AC_enter Tryz.func60 rfl rfl (by simp only [Tryz.ntmps60, List.length]; omega) ?_
 intro x hx
 simp only [List.range, List.range.loop, List.length, List.zip, List.zipWith, Nat.reduceAdd, Tryz.ntmps60]
 (repeat (first | (with_reducible first | refine na ?_ | refine nb ?_ | refine nc ?_ | refine nd ?_ | refine ne ?_ | refine nf ?_ | refine ng ?_ | refine nh ?_ | refine ni ?_ | refine nj ?_ | refine nk ?_ | refine nl ?_ | refine nm (by decide) ?_ | refine nn ?_) | refine TO_go (wr := true) 400 (by simp only [kB, kS, k60, Nat.reduceAdd, Nat.reduceLT, Nat.reduceEqDiff, ↓reduceIte, reduceCtorEq]; first | done | rfl) (by first | exact trivial | (simp only [kO]; omega) | (simp [All, InR]; first | done | omega) | (simp +contextual [All, InR]; first | done | grind)) ?_))
 refine rtA (by simp only [kR, Tryz.results60, ↓reduceIte, Nat.reduceEqDiff, reduceCtorEq, effLoad, cellsOf, List.map, List.length_cons, List.length_nil, List.getD_cons_zero, List.getD_cons_succ, List.getD_nil, List.drop, List.take, splice, ti46]; first | done | rfl) ([]) ?_
 refine ⟨?_, rfl⟩
 simp [made, wr]
def k13 := And.intro @Tryz.ntmps13 <| And.intro @Tryz.underlying27 <| And.intro @bld30 <| And.intro @bld46 <| And.intro @elt27 <| And.intro @ti27 <| And.intro @ti30 <| @ti46
theorem v13F3 {G G' : Prop} (g : G') (h : Hid G' → G := by intro h9; (first | refine nvB ?_ | refine goA (wr := false) (by simp only [kB, kS, k13, Nat.reduceAdd, Nat.reduceLT, Nat.reduceEqDiff, ↓reduceIte, reduceCtorEq]; first | done | rfl) ?_); (repeat (first | refine nvB ?_ | refine goA (wr := false) (by simp only [kB, kS, k13, Nat.reduceAdd, Nat.reduceLT, Nat.reduceEqDiff, ↓reduceIte, reduceCtorEq]; first | done | rfl) ?_)); exact h9.out) : G := h ⟨g⟩
theorem last_ac (d : Dep) (p : ByteArray) (hd : d.revs.length ≤ 1000000) : AC Tryz.prog 13 [aDep d, Str p] [] (fun r st => r = .tup [pRev ((last? d p).getD zRev), pB (last? d p).isSome] ∧ st = []) := by
 have hL : (log d p).length ≤ d.revs.length := List.length_filter_le ..
 refine AC_enter Tryz.func13 rfl rfl (by simp only [Tryz.ntmps13, List.length]; omega) ?_
 intro x hx
 simp only [List.range, List.range.loop, List.length, List.zip, List.zipWith, Nat.reduceAdd, Tryz.ntmps13]
 (repeat (first | refine v13F3 ?_ | (refine caA [] (log_ac d p hd) ?_; rintro r st' ⟨rfl, rfl⟩; refine frA ?_)))
 refine ifA ?_ ?_
 ·intro h
  have h' : log d p = [] := by simpa using h
  try refine v13F3 ?_
  refine rtA (by simp only [kR, Tryz.results13, ↓reduceIte, Nat.reduceEqDiff, reduceCtorEq, effLoad, cellsOf, List.map, List.length_cons, List.length_nil, List.getD_cons_zero, List.getD_cons_succ, List.getD_nil, List.drop, List.take, splice, ti46]; first | done | rfl) ([]) ?_
  refine ⟨?_, rfl⟩
  simp [last?, h', zRev]
 ·intro h
  have h' : log d p ≠ [] := by simpa using h
  have hl : 0 < (log d p).length := List.length_pos_iff.2 h'
  have hlast : last? d p = some ((log d p).getD ((log d p).length - 1) zRev) := by
   rw [last?, List.getLast?_eq_getElem?, List.getD_eq_getElem?_getD, List.getElem?_eq_getElem (by omega : (log d p).length - 1 < (log d p).length)]; rfl
  have hi : ((((log d p).length : Nat) : Int) - 1).toNat = (log d p).length - 1 := by omega
  have he := getD_enc encRev (log d p) ((log d p).length - 1) zRev (by omega)
  refine nvA ?_
  refine goA (wr := false) (by simp only [kB, kS, k13, Nat.reduceAdd, Nat.reduceLT, Nat.reduceEqDiff, ↓reduceIte, reduceCtorEq, hi, he]; first | done | rfl) ?_
  refine nvA ?_
  refine rtA (by simp only [kR, Tryz.results13, ↓reduceIte, Nat.reduceEqDiff, reduceCtorEq, effLoad, cellsOf, List.map, List.length_cons, List.length_nil, List.getD_cons_zero, List.getD_cons_succ, List.getD_nil, List.drop, List.take, splice, ti46]; first | done | rfl) ([]) ?_
  refine ⟨?_, rfl⟩
  simp [hlast]
def k12 := And.intro @Tryz.ntmps12 <| And.intro @Tryz.underlying27 <| And.intro @bld30 <| And.intro @bld46 <| And.intro @elt27 <| And.intro @fld46_1 <| And.intro @ti27 <| And.intro @ti3 <| And.intro @ti30 <| @ti46
theorem v12F3 {G G' : Prop} (g : G') (h : Hid G' → G := by intro h9; (first | refine nvB ?_ | refine goA (wr := false) (by simp only [kB, kS, k12, Nat.reduceAdd, Nat.reduceLT, Nat.reduceEqDiff, ↓reduceIte, reduceCtorEq]; first | done | rfl) ?_); (repeat (first | refine nvB ?_ | refine goA (wr := false) (by simp only [kB, kS, k12, Nat.reduceAdd, Nat.reduceLT, Nat.reduceEqDiff, ↓reduceIte, reduceCtorEq]; first | done | rfl) ?_)); exact h9.out) : G := h ⟨g⟩
theorem get_ac (d : Dep) (p : ByteArray) (n : Int) (hd : d.revs.length ≤ 1000000) : AC Tryz.prog 12 [aDep d, Str p, I .i64 n] [] (fun r st => r = .tup [pRev ((get? d p n).getD zRev), pB (get? d p n).isSome] ∧ st = []) := by
 have hL : (log d p).length ≤ d.revs.length := List.length_filter_le ..
 refine AC_enter Tryz.func12 rfl rfl (by simp only [Tryz.ntmps12, List.length]; omega) ?_
 intro x hx
 simp only [List.range, List.range.loop, List.length, List.zip, List.zipWith, Nat.reduceAdd, Tryz.ntmps12]
 (repeat (first | refine v12F3 ?_ | (refine caA [] (log_ac d p hd) ?_; rintro r st' ⟨rfl, rfl⟩; refine frA ?_)))
 refine T_loop (ι := Nat) (I := fun k => ⟨25, [(2, I .i64 n), (6, .c (.ptr 6 0)), (12, aRevs (log d p)), (13, I .i64 (log d p).length), (14, I .i64 k)], [(6, .box ((encRev zRev).map C.d))]⟩)
  (Inv := fun k => k ≤ (log d p).length ∧ ((log d p).take k).find? (fun v => decide (v.num = n)) = none) (μ := fun k => (log d p).length - k) 0 ⟨by omega, by simp⟩ ?_ ?_
 ·(refine Ent_sub (fun i => i) rfl ?_ ⟨?_, ?_, ?_, keepI hx (by simp [domOf, Ab.get])⟩ <;> first | (simp only [kE, dArr, ↓reduceIte, Nat.reduceEqDiff, reduceCtorEq, zRev]; done) | simp [renAV_id, renAO_id, flat_up, Ab.get, clAV, clC, clCs, clAO, cl_f1, cl_s1, cl_f2, cl_s2, cl_a1, domOf, List.flatten, zRev])
 ·rintro k ⟨hk, hbefore⟩
  try refine v12F3 ?_
  refine ifA ?_ ?_
  ·intro hlt
   have hlt' : k < (log d p).length := by simpa using hlt
   obtain ⟨v, hv, he, htk⟩ := round encRev (log d p) k zRev hlt'
   have hsplit : log d p = (log d p).take k ++ v :: (log d p).drop (k + 1) := by
    rw [← List.take_append_drop (k + 1) (log d p), htk]; simp [List.take_append, List.drop_append, Nat.min_eq_left (Nat.le_of_lt hlt')]
   refine nvA ?_
   refine goA (wr := false) (by simp only [kB, kS, k12, Nat.reduceAdd, Nat.reduceLT, Nat.reduceEqDiff, ↓reduceIte, reduceCtorEq, he]; first | done | rfl) ?_
   try refine v12F3 ?_
   refine ifA ?_ ?_
   ·intro heq
    have heq' : v.num = n := by simpa using heq
    have hg : get? d p n = some v := by rw [get?, hsplit, List.find?_append, hbefore]; simp [heq']
    try refine v12F3 ?_
    refine rtA (by simp only [kR, Tryz.results12, ↓reduceIte, Nat.reduceEqDiff, reduceCtorEq, effLoad, cellsOf, List.map, List.length_cons, List.length_nil, List.getD_cons_zero, List.getD_cons_succ, List.getD_nil, List.drop, List.take, splice, ti46]; first | done | rfl) ([]) ?_
    refine ⟨?_, rfl⟩
    simp [hg]
   ·intro hne
    have hne' : ¬ v.num = n := by simpa using hne
    try refine v12F3 ?_
    refine ⟨k + 1, ⟨by omega, ?_⟩, by omega, ?_⟩
    ·rw [htk, List.find?_append, hbefore]; simp [hne']
    ·(refine Ent_sub (fun i => i) rfl ?_ ⟨?_, ?_, ?_, keepI hx (by simp [domOf, Ab.get])⟩ <;> first | (simp only [kE, dArr, ↓reduceIte, Nat.reduceEqDiff, reduceCtorEq, zRev]; done) | simp [renAV_id, renAO_id, flat_up, Ab.get, clAV, clC, clCs, clAO, cl_f1, cl_s1, cl_f2, cl_s2, cl_a1, domOf, List.flatten, zRev])
  ·intro hge
   have hge' : k = (log d p).length := by have : ¬ k < (log d p).length := by simpa using hge
                                          omega
   have hg : get? d p n = none := by rw [hge', List.take_length] at hbefore; exact hbefore
   try refine v12F3 ?_
   refine rtA (by simp only [kR, Tryz.results12, ↓reduceIte, Nat.reduceEqDiff, reduceCtorEq, effLoad, cellsOf, List.map, List.length_cons, List.length_nil, List.getD_cons_zero, List.getD_cons_succ, List.getD_nil, List.drop, List.take, splice, ti46]; first | done | rfl) ([]) ?_
   refine ⟨?_, rfl⟩
   simp [hg, zRev]
def k34 := And.intro @Tryz.ntmps34 <| And.intro @bld30 <| And.intro @bld46 <| And.intro @fld46_1 <| And.intro @ti3 <| And.intro @ti30 <| @ti46
theorem v34F3 {G G' : Prop} (g : G') (h : Hid G' → G := by intro h9; (first | refine nvB ?_ | refine goA (wr := false) (by simp only [kB, kG, k34, Nat.reduceAdd, Nat.reduceLT, Nat.reduceEqDiff, ↓reduceIte, reduceCtorEq]; first | done | rfl) ?_); (repeat (first | refine nvB ?_ | refine goA (wr := false) (by simp only [kB, kG, k34, Nat.reduceAdd, Nat.reduceLT, Nat.reduceEqDiff, ↓reduceIte, reduceCtorEq]; first | done | rfl) ?_)); exact h9.out) : G := h ⟨g⟩
theorem live_ac (d : Dep) (p : ByteArray) (hd : d.revs.length ≤ 1000000) : AC Tryz.prog 34 [aDep d, Str p] [] (fun r st => r = .tup [pB (live d p), pI (lastNum d p)] ∧ st = []) := by
 refine AC_enter Tryz.func34 rfl rfl (by simp only [Tryz.ntmps34, List.length]; omega) ?_
 intro x hx
 simp only [List.range, List.range.loop, List.length, List.zip, List.zipWith, Nat.reduceAdd, Tryz.ntmps34]
 (repeat (first | refine v34F3 ?_ | (refine caA [] (last_ac d p hd) ?_; rintro r st' ⟨rfl, rfl⟩; refine frA ?_)))
 refine drA (wr := false) ([(17, B (gone ((last? d p).getD zRev)))] : List (Nat × AV)) (by simp only [kD, kB, kG, k34, Nat.reduceAdd, Nat.reduceLT, Nat.reduceEqDiff, ↓reduceIte, reduceCtorEq]; first | done | rfl) ?_ ?_
 ·exact obF gone_ac
 refine nvA ?_
 refine rtA (by simp only [kR, Tryz.results34, ↓reduceIte, Nat.reduceEqDiff, reduceCtorEq]; first | done | rfl) ([]) ?_
 refine ⟨?_, rfl⟩
 cases h : last? d p <;> simp [live, lastNum, h]
def k68 := And.intro @Tryz.ntmps68 <| And.intro @bld30 <| And.intro @bld46 <| And.intro @fld46_0 <| And.intro @fld46_1 <| And.intro @fld46_3 <| And.intro @fld46_6 <| And.intro @fld46_7 <| And.intro @ti3 <| And.intro @ti30 <| And.intro @ti46 <| @ti9
theorem v68F3 {G G' : Prop} (g : G') (h : Hid G' → G := by intro h9; (first | refine nvB ?_ | refine goA (wr := false) (by simp only [kB, kS, k68, Nat.reduceAdd, Nat.reduceLT, Nat.reduceEqDiff, ↓reduceIte, reduceCtorEq]; first | done | rfl) ?_); (repeat (first | refine nvB ?_ | refine goA (wr := false) (by simp only [kB, kS, k68, Nat.reduceAdd, Nat.reduceLT, Nat.reduceEqDiff, ↓reduceIte, reduceCtorEq]; first | done | rfl) ?_)); exact h9.out) : G := h ⟨g⟩
theorem prev_ac (d : Dep) (v : Rev) (hd : d.revs.length ≤ 1000000) : AC Tryz.prog 68 [aDep d, aRev v] [] (fun r st => r = .tup [pRev ((prev? d v).getD zRev), pB (prev? d v).isSome] ∧ st = []) := by
 refine AC_enter Tryz.func68 rfl rfl (by simp only [Tryz.ntmps68, List.length]; omega) ?_
 intro x hx
 simp only [List.range, List.range.loop, List.length, List.zip, List.zipWith, Nat.reduceAdd, Tryz.ntmps68]
 try refine v68F3 ?_
 refine ifA ?_ ?_
 ·intro h
  have h' : v.act = 1 := by simpa using h
  try refine v68F3 ?_
  refine rtA (by simp only [kR, Tryz.results68, ↓reduceIte, Nat.reduceEqDiff, reduceCtorEq, effLoad, cellsOf, List.map, List.length_cons, List.length_nil, List.getD_cons_zero, List.getD_cons_succ, List.getD_nil, List.drop, List.take, splice, ti46]; first | done | rfl) ([]) ?_
  refine ⟨?_, rfl⟩
  simp [prev?, h', zRev]
 ·intro h
  have h' : ¬ v.act = 1 := by simpa using h
  try refine v68F3 ?_
  refine ifA ?_ ?_
  ·intro h4
   have h4' : v.act = 4 := by simpa using h4
   (repeat (first | refine v68F3 ?_ | (refine caA [] (get_ac d v.frm v.fnum hd) ?_; rintro r st' ⟨rfl, rfl⟩; refine frA ?_)))
   refine rtA (by simp only [kR, Tryz.results68, ↓reduceIte, Nat.reduceEqDiff, reduceCtorEq, effLoad, cellsOf, List.map, List.length_cons, List.length_nil, List.getD_cons_zero, List.getD_cons_succ, List.getD_nil, List.drop, List.take, splice, ti46]; first | done | rfl) ([]) ?_
   refine ⟨?_, rfl⟩
   simp [prev?, h4']
  ·intro h4
   have h4' : ¬ v.act = 4 := by simpa using h4
   refine nvA ?_
   refine TO_go (wr := true) 400 (by simp only [kB, kS, k68, Nat.reduceAdd, Nat.reduceLT, Nat.reduceEqDiff, ↓reduceIte, reduceCtorEq]; first | done | rfl) (by first | exact trivial | (simp only [kO]; omega) | (simp [All, InR]; first | done | omega) | (simp +contextual [All, InR]; first | done | grind)) ?_
   (repeat (first | refine v68F3 ?_ | (refine caA [] (get_ac d v.path (wr (v.num - 1)) hd) ?_; rintro r st' ⟨rfl, rfl⟩; refine frA ?_)))
   refine rtA (by simp only [kR, Tryz.results68, ↓reduceIte, Nat.reduceEqDiff, reduceCtorEq, effLoad, cellsOf, List.map, List.length_cons, List.length_nil, List.getD_cons_zero, List.getD_cons_succ, List.getD_nil, List.drop, List.take, splice, ti46]; first | done | rfl) ([]) ?_
   refine ⟨?_, rfl⟩
   simp [prev?, h', h4']
def k29 := And.intro @Tryz.ntmps29 <| And.intro @bld30 <| And.intro @bld37 <| And.intro @bld46 <| And.intro @fld37_0 <| And.intro @fld37_1 <| And.intro @fld46_0 <| And.intro @fld46_1 <| And.intro @fld46_2 <| And.intro @ti3 <| And.intro @ti30 <| And.intro @ti37 <| And.intro @ti46 <| @ti9
theorem v29F4 {G G' : Prop} (g : G') (h : Hid G' → G := by intro h9; (first | refine nvB ?_ | refine goA (wr := false) (by simp only [kB, kG, kS, k29, Nat.reduceAdd, Nat.reduceLT, Nat.reduceEqDiff, ↓reduceIte, reduceCtorEq]; first | done | rfl) ?_); (repeat (first | refine nvB ?_ | refine goA (wr := false) (by simp only [kB, kG, kS, k29, Nat.reduceAdd, Nat.reduceLT, Nat.reduceEqDiff, ↓reduceIte, reduceCtorEq]; first | done | rfl) ?_)); exact h9.out) : G := h ⟨g⟩
theorem first_ac (d : Dep) (v : Rev) (hd : d.revs.length ≤ 1000000) : AC Tryz.prog 29 [aDep d, aRev v] [] (fun r st => r = aFil (first d v) ∧ st = []) := by
 refine AC_enter Tryz.func29 rfl rfl (by simp only [Tryz.ntmps29, List.length]; omega) ?_
 intro x hx
 simp only [List.range, List.range.loop, List.length, List.zip, List.zipWith, Nat.reduceAdd, Tryz.ntmps29]
 try refine v29F4 ?_
 refine T_loop (ι := Rev) (I := fun u => ⟨28, [(2, .c (.ptr 2 0)), (3, .c (.ptr 3 0)), (4, .c (.ptr 4 0))], [(2, .box ((encDep d).map C.d)), (3, .box ((encRev u).map C.d)), (4, .box ((encFil zFil).map C.d))]⟩)
  (Inv := fun u => first d u = first d v) (μ := fun u => cnt d u.chg) v rfl ?_ ?_
 ·(refine Ent_sub (fun i => i) rfl ?_ ⟨?_, ?_, ?_, keepI hx (by simp [domOf, Ab.get])⟩ <;> first | (simp only [kE, dArr, ↓reduceIte, Nat.reduceEqDiff, reduceCtorEq, zFil]; done) | simp [renAV_id, renAO_id, flat_up, Ab.get, clAV, clC, clCs, clAO, cl_f1, cl_s1, cl_f2, cl_s2, cl_a1, domOf, List.flatten, zFil])
 ·intro u hu
  refine nvA ?_
  refine goA (wr := false) (by simp only [kB, kG, kS, k29, Nat.reduceAdd, Nat.reduceLT, Nat.reduceEqDiff, ↓reduceIte, reduceCtorEq]; first | done | rfl) ?_
  refine TO_call [] (by simp) (by simp only [evAll, kB, kG, kS, k29, Nat.reduceAdd, Nat.reduceLT, Nat.reduceEqDiff, ↓reduceIte, reduceCtorEq]; first | done | rfl) ⟨by simp, by simp, by simp [clAV, clC, clCs, clCaps, clCap]⟩ (prev_ac d u hd) ?_
  rintro r st' ⟨rfl, rfl⟩
  refine ⟨by simp [Fresh], ?_⟩
  simp only [kP, Nat.reduceEqDiff, ↓reduceIte, reduceCtorEq]
  cases hp : prev? d u with
  | none =>
    refine goA (wr := false) (by simp only [kB, kG, kS, k29, Nat.reduceAdd, Nat.reduceLT, Nat.reduceEqDiff, ↓reduceIte, reduceCtorEq, Option.isSome]; first | done | rfl) ?_
    try refine v29F4 ?_
    refine ifA ?_ ?_
    ·intro _
     try refine v29F4 ?_
     refine rtA (by simp only [kR, Tryz.results29, ↓reduceIte, Nat.reduceEqDiff, reduceCtorEq, effLoad, cellsOf, List.map, List.length_cons, List.length_nil, List.getD_cons_zero, List.getD_cons_succ, List.getD_nil, List.drop, List.take, splice, ti37]; first | done | rfl) ([]) ?_
     refine ⟨?_, rfl⟩
     rw [← hu, first_none hp]; simp [fileOf]
    ·intro h; simp at h
  | some u' =>
    refine goA (wr := false) (by simp only [kB, kG, kS, k29, Nat.reduceAdd, Nat.reduceLT, Nat.reduceEqDiff, ↓reduceIte, reduceCtorEq, Option.isSome]; first | done | rfl) ?_
    try refine v29F4 ?_
    refine ifA ?_ ?_
    ·intro h
     have hc : u.chg ≤ u'.chg := by simpa using h
     try refine v29F4 ?_
     refine rtA (by simp only [kR, Tryz.results29, ↓reduceIte, Nat.reduceEqDiff, reduceCtorEq, effLoad, cellsOf, List.map, List.length_cons, List.length_nil, List.getD_cons_zero, List.getD_cons_succ, List.getD_nil, List.drop, List.take, splice, ti37]; first | done | rfl) ([]) ?_
     refine ⟨?_, rfl⟩
     rw [← hu, first_old hp hc]; simp [fileOf]
    ·intro h
     have hc : u'.chg < u.chg := by simpa using h
     try refine v29F4 ?_
     refine ⟨u', ?_, cnt_lt (prev?_mem hp) hc, ?_⟩
     ·rw [← hu, first_step hp hc]
     ·(refine Ent_sub (fun i => i) rfl ?_ ⟨?_, ?_, ?_, keepI hx (by simp [domOf, Ab.get])⟩ <;> first | (simp only [kE, dArr, ↓reduceIte, Nat.reduceEqDiff, reduceCtorEq, zFil]; done) | simp [renAV_id, renAO_id, flat_up, Ab.get, clAV, clC, clCs, clAO, cl_f1, cl_s1, cl_f2, cl_s2, cl_a1, domOf, List.flatten, zFil])
def k73 := And.intro @Tryz.ntmps73 <| And.intro @bld30 <| And.intro @bld46 <| And.intro @fld46_3 <| And.intro @ti3 <| And.intro @ti30 <| @ti46
theorem v73R1 {G G' : Prop} (g : G') (h : Hid G' → G := by intro h9; (first | refine nvB ?_ | refine goA (wr := false) (by simp only [kB, kG, kS, k73, Nat.reduceAdd, Nat.reduceLT, Nat.reduceEqDiff, ↓reduceIte, reduceCtorEq]; first | done | rfl) ?_); (repeat (first | refine nvB ?_ | refine goA (wr := false) (by simp only [kB, kG, kS, k73, Nat.reduceAdd, Nat.reduceLT, Nat.reduceEqDiff, ↓reduceIte, reduceCtorEq]; first | done | rfl) ?_)); exact h9.out) : G := h ⟨g⟩
theorem Member_ac (d : Dep) (p : ByteArray) (n : Int) (hd : d.revs.length ≤ 1000000) : AC Tryz.prog 73 [aDep d, Str p, I .i64 n] [] (fun r st => r = .tup [pRev ((member? d p n).getD zRev), pB (member? d p n).isSome] ∧ st = []) := by
 have hg := get_ac d p n hd
 cases eg : get? d p n with
 | none =>
   rw [eg] at hg
   simp only [pRev, pB, Option.isSome, Option.getD] at hg
   refine AC_enter Tryz.func73 rfl rfl (by simp only [Tryz.ntmps73, List.length]; omega) ?_
   intro x hx
   simp only [List.range, List.range.loop, List.length, List.zip, List.zipWith, Nat.reduceAdd, Tryz.ntmps73]
   (repeat (first | refine v73R1 ?_ | (refine caA [] (hg) ?_; rintro r st' ⟨rfl, rfl⟩; refine frA ?_)))
   refine ifA ?_ ?_
   ·intro _
    try refine v73R1 ?_
    refine rtA (by simp only [kR, Tryz.results73, ↓reduceIte, Nat.reduceEqDiff, reduceCtorEq, effLoad, cellsOf, List.map, List.length_cons, List.length_nil, List.getD_cons_zero, List.getD_cons_succ, List.getD_nil, List.drop, List.take, splice, ti46]; first | done | rfl) ([]) ?_
    refine ⟨?_, rfl⟩
    simp [member?, eg, zRev]
   ·intro h; simp at h
 | some v =>
   rw [eg] at hg
   simp only [pRev, pB, Option.isSome, Option.getD] at hg
   refine AC_enter Tryz.func73 rfl rfl (by simp only [Tryz.ntmps73, List.length]; omega) ?_
   intro x hx
   simp only [List.range, List.range.loop, List.length, List.zip, List.zipWith, Nat.reduceAdd, Tryz.ntmps73]
   (repeat (first | refine v73R1 ?_ | (refine caA [] (hg) ?_; rintro r st' ⟨rfl, rfl⟩; refine frA ?_)))
   refine ifA ?_ ?_
   ·intro h
    have h' : v.act = 5 := by simpa using h
    try refine v73R1 ?_
    refine rtA (by simp only [kR, Tryz.results73, ↓reduceIte, Nat.reduceEqDiff, reduceCtorEq, effLoad, cellsOf, List.map, List.length_cons, List.length_nil, List.getD_cons_zero, List.getD_cons_succ, List.getD_nil, List.drop, List.take, splice, ti46]; first | done | rfl) ([]) ?_
    refine ⟨?_, rfl⟩
    simp [member?, eg, zRev, h']
   ·intro h
    have h' : ¬ v.act = 5 := by simpa using h
    try refine v73R1 ?_
    refine rtA (by simp only [kR, Tryz.results73, ↓reduceIte, Nat.reduceEqDiff, reduceCtorEq, effLoad, cellsOf, List.map, List.length_cons, List.length_nil, List.getD_cons_zero, List.getD_cons_succ, List.getD_nil, List.drop, List.take, splice, ti46]; first | done | rfl) ([]) ?_
    refine ⟨?_, rfl⟩
    simp [member?, eg, h']
def k30 := And.intro @Tryz.ntmps30 <| And.intro @Tryz.underlying27 <| And.intro @bld30 <| And.intro @bld37 <| And.intro @bld46 <| And.intro @elt27 <| And.intro @eqt37 <| And.intro @fld30_0 <| And.intro @fld46_3 <| And.intro @ti27 <| And.intro @ti3 <| And.intro @ti30 <| And.intro @ti37 <| @ti46
theorem v30R1 {G G' : Prop} (g : G') (h : Hid G' → G := by intro h9; (first | refine nvB ?_ | refine goA (wr := false) (by simp only [kB, kG, kS, k30, Nat.reduceAdd, Nat.reduceLT, Nat.reduceEqDiff, ↓reduceIte, reduceCtorEq]; first | done | rfl) ?_); (repeat (first | refine nvB ?_ | refine goA (wr := false) (by simp only [kB, kG, kS, k30, Nat.reduceAdd, Nat.reduceLT, Nat.reduceEqDiff, ↓reduceIte, reduceCtorEq]; first | done | rfl) ?_)); exact h9.out) : G := h ⟨g⟩
theorem Line_ac (d : Dep) (f : Fil) (hd : d.revs.length ≤ 1000000) : AC Tryz.prog 30 [aDep d, aFil f] [] (fun r st => r = aRevs (line d f) ∧ st = []) := by
 refine AC_enter Tryz.func30 rfl rfl (by simp only [Tryz.ntmps30, List.length]; omega) ?_
 intro x hx
 simp only [List.range, List.range.loop, List.length, List.zip, List.zipWith, Nat.reduceAdd, Tryz.ntmps30]
 try refine v30R1 ?_
 refine T_ent (Ent_adopt (i := 5) (id := 100) (sz := 12) rfl rfl (by omega)) ?_
 refine fzA ?_
 refine T_loop (ι := Nat) (I := fun k => ⟨31, [(2, .c (.ptr 2 0)), (3, .c (.ptr 3 0)), (5, .c (.ms 100 12 0 ((d.revs.take k).filter (inLine d f)).length)), (9, aRevs d.revs), (10, I .i64 d.revs.length), (11, I .i64 k)],
   [(2, .box ((encDep d).map C.d)), (3, .box ((encFil f).map C.d)), (100, dArr 12 (((d.revs.take k).filter (inLine d f)).map encRev))]⟩)
  (Inv := fun k => k ≤ d.revs.length) (μ := fun k => d.revs.length - k) 0 (by omega) ?_ ?_
 ·exact enA
 ·intro k hk
  have hF := filter_take_le (inLine d f) d.revs k
  try refine v30R1 ?_
  refine ifA ?_ ?_
  ·intro hlt
   have hlt' : k < d.revs.length := by simpa using hlt
   obtain ⟨v, hv, he, htk⟩ := round encRev d.revs k zRev hlt'
   (repeat (first | refine nvB ?_ | refine goA (wr := false) (by simp only [kB, kG, kS, k30, Nat.reduceAdd, Nat.reduceLT, Nat.reduceEqDiff, ↓reduceIte, reduceCtorEq, he]; first | done | rfl) ?_))
   refine drA (wr := false) ([(21, aFil (first d v))] : List (Nat × AV)) (by simp only [kD, kB, kG, kS, k30, Nat.reduceAdd, Nat.reduceLT, Nat.reduceEqDiff, ↓reduceIte, reduceCtorEq]; first | done | rfl) ?_ ?_
   ·exact obT (first_ac d v hd)
   refine nvA ?_
   have hcond : (bif !decide (v.act = 5) then decide ((first d v).path = f.path) && decide ((first d v).num = f.num) else false) = inLine d f v := by
    simp only [inLine]
    generalize first d v = g
    cases g; cases f
    cases decide (v.act = 5) <;> simp [Bool.decide_and]
   refine ifA ?_ ?_
   ·intro heq
    have heq' : inLine d f v = true := by rw [← hcond]; simpa using heq
    try refine v30R1 ?_
    refine ⟨k + 1, by omega, by omega, ?_⟩
    (refine Ent_sub (fun i => if i = 100 then 28 else i) rfl ?_ ⟨?_, ?_, ?_, keepR hx (by simp [domOf, Ab.get])⟩ <;> first | (intro i hi; have h0 := hx i hi; constructor <;> (revert h0; simp only [domOf, Ab.get]; (repeat' split) <;> simp_all); done) | (simp only [kE, dArr, ↓reduceIte, Nat.reduceEqDiff, reduceCtorEq]; done) | (simp only [dArr, ren_arr, ren_map, List.mem_cons, List.not_mem_nil, or_false, forall_eq_or_imp, forall_eq]; simp [renAV, renC, renAO, ren_up, flat_up, Ab.get, clAV, clC, clCs, clAO, cl_f1, cl_s1, cl_f2, cl_s2, cl_a1, domOf, List.flatten, htk, heq', List.filter_append]; done) | simp [renAV, renC, renAO, ren_up, flat_up, Ab.get, clAV, clC, clCs, clAO, cl_f1, cl_s1, cl_f2, cl_s2, cl_a1, domOf, List.flatten, htk, heq', List.filter_append])
   ·intro hne
    have hne' : inLine d f v = false := by rw [← hcond]; simpa using hne
    try refine v30R1 ?_
    refine ⟨k + 1, by omega, by omega, ?_⟩
    (refine Ent_sub (fun i => i) rfl ?_ ⟨?_, ?_, ?_, keepI hx (by simp [domOf, Ab.get])⟩ <;> first | (simp only [kE, dArr, ↓reduceIte, Nat.reduceEqDiff, reduceCtorEq, htk, hne', List.filter_append]; done) | simp [renAV_id, renAO_id, flat_up, Ab.get, clAV, clC, clCs, clAO, cl_f1, cl_s1, cl_f2, cl_s2, cl_a1, domOf, List.flatten, htk, hne', List.filter_append])
  ·intro hge
   have hge' : k = d.revs.length := by have : ¬ k < d.revs.length := by simpa using hge
                                       omega
   refine nvA ?_
   refine TO_ent (Ent_frzSlot (i := 5) (id := 100) (ys := ((d.revs.take k).filter (inLine d f)).map encRev) rfl rfl (by simp)) ?_
   refine fzA ?_
   try refine v30R1 ?_
   refine rtA (by simp only [kR, Tryz.results30, ↓reduceIte, Nat.reduceEqDiff, reduceCtorEq]; first | done | rfl) ([]) ?_
   refine ⟨?_, rfl⟩
   simp [line, hge']
end Go.Proofs.YtmhboloicpieeaaGreatDoor
namespace Go.Proofs.YtmhboloicpieeaaGreatDoor
open Go.Ab
theorem live_eq (d : Dep) (p : ByteArray) : live d p = ((last? d p).isSome && !gone ((last? d p).getD zRev)) := by
 unfold live
 cases last? d p <;> simp
def kindFB (k : Int) (s : Rev) (lv on : Bool) : Bool := if k = 1 then !lv && !decide (s.act = 3) else if k = 2 then lv && !on && !decide (s.act = 3) else if k = 3 then lv && !on && decide (s.act = 3) else false
def moveFB (d : Dep) (t : Tsk) : Bool := decide (t.move = noS) || (!decide (t.kind = 1) && usableB t.move && !decide (t.move = t.to) && !live d t.move)
theorem lnS_len : ∀ (l acc : List Rev), (l.foldl lnStep acc).length ≤ acc.length + l.length
 | [], acc => by simp
 | r :: l, acc => by
   have := lnS_len l (lnStep acc r)
   have h2 : (lnStep acc r).length ≤ acc.length + 1 := by unfold lnStep; split <;> simp
   simp only [List.foldl_cons, List.length_cons]; omega
theorem lnP_len {d : Dep} (hN : d.revs.length ≤ 512) (f : Fil) : (lnP d f).length ≤ 600 := by
 unfold lnP
 split
 ·rename_i v _
  split
  ·have := lnS_len d.revs [v]; simp at this; omega
  ·simp
 ·simp
theorem kindFB_on {k : Int} {s : Rev} {lv on on' : Bool} (h : lv = true → on = on') : kindFB k s lv on = kindFB k s lv on' := by
 cases lv with
 | true => rw [h rfl]
 | false => simp [kindFB]
theorem open_on {d : Dep} (hg : Good d.revs) (hN : d.revs.length ≤ 512) {t : Tsk} {s : List Fil} (hs : ∀ f, f ∈ s ↔ f ∈ (lnP d t.line).map fileOf) (hh : lastNum d t.to = t.head) (hl : live d t.to = true) :
  decide ((⟨(tgtR d t).path, (tgtR d t).num⟩ : Fil) ∈ s) = decide (idn d t.to t.head = some t.line) := by
 unfold live at hl
 cases hv : last? d t.to with
 | none => rw [hv] at hl; cases hl
 | some v =>
   obtain ⟨j, h1, h2, _⟩ := last_some hv
   have e : tgtR d t = v := by simp [tgtR, hv]
   have e2 : v.num = t.head := by rw [← hh]; simp [lastNum, hv]
   rw [e, h2, e2, Bool.eq_iff_iff, decide_eq_true_eq, decide_eq_true_eq, hs, idn_line hg hN]
theorem open_eq {d : Dep} {t : Tsk} (c1 : 1 ≤ t.first) (c2 : t.first ≤ t.last) (hu : usableB t.to = true) (hr : RunOK d t) (hh : lastNum d t.to = t.head) :
  fitsB d t = (kindFB t.kind (srcR d t) (live d t.to) (decide (idn d t.to t.head = some t.line)) && moveFB d t) := by
 have hF : Fits d t ↔ (1 ≤ t.kind ∧ t.kind ≤ 3) ∧ kindB d t = true := ⟨fun h => ⟨h.kind, h.rest⟩, fun h => ⟨h.1, c1, c2, hr, hu, hh, h.2⟩⟩
 have hf : fitsB d t = true ↔ Fits d t := by simp [fitsB]
 rw [Bool.eq_iff_iff, hf, hF]
 by_cases k1 : t.kind = 1
 ·simp [kindB, kindFB, moveFB, delB, k1]
 by_cases k2 : t.kind = 2
 ·simp only [kindB, kindFB, moveFB, movB, delB, k1, k2, if_false, if_true, decide_false, Bool.not_false, Bool.true_and]
  generalize live d t.to = a; generalize decide (idn d t.to t.head = some t.line) = b; generalize decide (t.move = noS) = c; generalize usableB t.move = e; generalize live d t.move = g; generalize decide (t.move = t.to) = i
  generalize decide ((srcR d t).act = 3) = j
  cases a <;> cases b <;> cases c <;> cases e <;> cases g <;> cases i <;> cases j <;> simp
 by_cases k3 : t.kind = 3
 ·simp only [kindB, kindFB, moveFB, movB, delB, k1, k2, k3, if_false, if_true, decide_false, Bool.not_false, Bool.true_and]
  generalize live d t.to = a; generalize decide (idn d t.to t.head = some t.line) = b; generalize decide (t.move = noS) = c; generalize usableB t.move = e; generalize live d t.move = g; generalize decide (t.move = t.to) = i
  generalize decide ((srcR d t).act = 3) = j
  cases a <;> cases b <;> cases c <;> cases e <;> cases g <;> cases i <;> cases j <;> simp
 ·have : kindFB t.kind (srcR d t) (live d t.to) (decide (idn d t.to t.head = some t.line)) = false := by simp [kindFB, k1, k2, k3]
  rw [this]
  simp; omega
section
variable {d : Dep} (hg : Good d.revs) (hN : d.revs.length ≤ 512)
include hg hN
end
end Go.Proofs.YtmhboloicpieeaaGreatDoor
namespace Go.Proofs.YtmhboloicpieeaaGreatDoor
open Go.Ab Tys
variable [Dr]
def isM (r : Rev) : Bool := decide (¬ r.act = 5)
def memL (l : List Rev) : List (Fil × Rev) := (l.filter isM).map fun r => (fileOf r, r)
@[simp] theorem memL_nil : memL [] = [] := rfl
end Go.Proofs.YtmhboloicpieeaaGreatDoor
namespace Go.Proofs.YtmhboloicpieeaaGreatDoor
open Go.Ab
theorem Built.tot {l : List Chg} {d : Dep} (h : Built l d) : d.revs.length ≤ Go.Proofs.YtmhboloicpieeaaGreatDoor.tot l := by
 induction h with
 | nil => simp [zDep]
 | skip c h ih => simp only [Go.Proofs.YtmhboloicpieeaaGreatDoor.tot, List.map_append, List.sum_append] at ih ⊢; omega
 | @app l d c h hc hk ih => simp only [Go.Proofs.YtmhboloicpieeaaGreatDoor.tot, List.map_append, List.sum_append, appD, List.length_append, List.length_map, List.map_cons, List.map_nil, List.sum_cons, List.sum_nil] at ih ⊢; omega
theorem Built.chgs {l : List Chg} {d : Dep} (h : Built l d) : ∀ v ∈ d.revs, 1 ≤ v.chg ∧ v.chg ≤ 1073741824 := by
 induction h with
 | nil => intro r hr; simp [zDep] at hr
 | skip c h ih => exact ih
 | @app l d c h hc hk ih =>
   intro v hv
   simp only [appD, List.mem_append, List.mem_map] at hv
   rcases hv with hv | ⟨e, he, rfl⟩
   ·exact ih v hv
   ·exact hk.num
def nxt (d : Dep) : Int := d.revs.foldl (fun n v => max n (v.chg + 1)) 1
theorem nxt_fold (l : List Rev) : ∀ a : Int, a ≤ l.foldl (fun n v => max n (v.chg + 1)) a ∧ (∀ v ∈ l, v.chg < l.foldl (fun n v => max n (v.chg + 1)) a) ∧ ∀ b : Int, a ≤ b → (∀ v ∈ l, v.chg + 1 ≤ b) → l.foldl (fun n v => max n (v.chg + 1)) a ≤ b := by
 induction l with
 | nil => intro a; simp
 | cons u l ih =>
   intro a
   obtain ⟨h1, h2, h3⟩ := ih (max a (u.chg + 1))
   simp only [List.foldl_cons]
   refine ⟨by omega, ?_, ?_⟩
   ·intro v hv
    rcases List.mem_cons.1 hv with rfl | hv
    ·omega
    ·exact h2 v hv
   ·intro b hb hv
    have := hv u List.mem_cons_self
    exact h3 b (by omega) fun v hv' => hv v (List.mem_cons_of_mem _ hv')
theorem nxt_gt (d : Dep) : ∀ v ∈ d.revs, v.chg < nxt d := (nxt_fold d.revs 1).2.1
theorem Built.nxt {l : List Chg} {d : Dep} (h : Built l d) : 1 ≤ Go.Proofs.YtmhboloicpieeaaGreatDoor.nxt d ∧ Go.Proofs.YtmhboloicpieeaaGreatDoor.nxt d ≤ 1073741825 :=
 ⟨(nxt_fold d.revs 1).1, (nxt_fold d.revs 1).2.2 _ (by omega) fun v hv => by have := h.chgs v hv; omega⟩
structure AppR (d : Dep) (r : Rev) : Prop where
 num : r.num = lastNum d r.path + 1
 old : ∀ v ∈ d.revs, v.chg < r.chg
 act : r.act = 1 ∨ (r.act = 2 ∧ live d r.path = true)
theorem snoc_get {l : List Rev} {r : Rev} {i : Nat} {v : Rev} (h : (l ++ [r])[i]? = some v) : l[i]? = some v ∨ (i = l.length ∧ v = r) := by
 rcases Nat.lt_or_ge i l.length with hi | hi
 ·rw [List.getElem?_append_left hi] at h; exact .inl h
 ·rw [List.getElem?_append_right hi] at h
  have hi2 := (List.getElem?_eq_some_iff.1 h).1
  simp at hi2
  have : i = l.length := by omega
  subst this
  simp at h
  exact .inr ⟨rfl, h.symm⟩
theorem good_appR {d : Dep} {r : Rev} (hg : Good d.revs) (h : AppR d r) : Good (d.revs ++ [r]) := by
 have ln := lastNum_le hg r.path
 have od : ∀ (i : Nat) (v : Rev), d.revs[i]? = some v → (d.revs ++ [r])[i]? = some v := by
  intro i v h
  rw [List.getElem?_append_left (List.getElem?_eq_some_iff.1 h).1]; exact h
 have lt : ∀ (i : Nat) (v : Rev), d.revs[i]? = some v → i < d.revs.length := fun i v h => (List.getElem?_eq_some_iff.1 h).1
 have hn := h.num
 have ha : r.act = 1 ∨ r.act = 2 := by rcases h.act with h | ⟨h, _⟩ <;> omega
 constructor
 ·intro i v hv
  rcases snoc_get hv with hv' | ⟨rfl, rfl⟩
  ·exact hg.num i v hv'
  ·omega
 ·intro i v hv
  rcases snoc_get hv with hv' | ⟨rfl, rfl⟩
  ·exact hg.act i v hv'
  ·omega
 ·intro i j u v hij hu hv
  rcases snoc_get hu with hu' | ⟨rfl, rfl⟩
  ·rcases snoc_get hv with hv' | ⟨rfl, rfl⟩
   ·exact hg.chg i j u v hij hu' hv'
   ·have := h.old u (List.mem_of_getElem? hu'); omega
  ·rcases snoc_get hv with hv' | ⟨rfl, rfl⟩
   ·have := lt _ _ hv'; omega
   ·omega
 ·intro i j u v hij hu hv hp
  rcases snoc_get hu with hu' | ⟨rfl, rfl⟩
  ·rcases snoc_get hv with hv' | ⟨rfl, rfl⟩
   ·exact hg.path i j u v hij hu' hv' hp
   ·refine ⟨h.old u (List.mem_of_getElem? hu'), ?_⟩
    have := lastNum_ge hg hu' hp
    omega
  ·rcases snoc_get hv with hv' | ⟨rfl, rfl⟩
   ·have := lt _ _ hv'; omega
   ·omega
 ·intro i v hv n1 n4
  rcases snoc_get hv with hv' | ⟨rfl, rfl⟩
  ·obtain ⟨j, u, h1, h2, h3⟩ := hg.prv i v hv' n1 n4
   exact ⟨j, u, h1, od j u h2, h3⟩
  ·rcases h.act with h1 | ⟨h1, h2⟩
   ·exact absurd h1 n1
   obtain ⟨w, j, g1, g2, g3, g4, g5, g6⟩ := live_some h2
   exact ⟨j, w, lt j w g2, od j w g2, g3, by omega, g4, g5, h.old w (List.mem_of_getElem? g2)⟩
 ·intro i v hv h4
  rcases snoc_get hv with hv' | ⟨rfl, rfl⟩
  ·obtain ⟨j, u, h1, h2, h3⟩ := hg.mov i v hv' h4
   exact ⟨j, u, h1, od j u h2, h3⟩
  ·omega
 ·intro i v hv h4
  rcases snoc_get hv with hv' | ⟨rfl, rfl⟩
  ·obtain ⟨j, u, h2, h3⟩ := hg.away i v hv' h4
   exact ⟨j, u, od j u h2, h3⟩
  ·omega
 ·intro i j u v hij hu hv u4 v4 hf hn'
  rcases snoc_get hu with hu' | ⟨rfl, rfl⟩
  ·rcases snoc_get hv with hv' | ⟨rfl, rfl⟩
   ·exact hg.mov2 i j u v hij hu' hv' u4 v4 hf hn'
   ·omega
  ·omega
theorem last_appR (d : Dep) (r : Rev) (rs : List Rcd) : lastNum ⟨d.revs ++ [r], rs⟩ r.path = r.num := by
 simp [lastNum, last?, log, List.filter_append]
theorem numOK_appR {d : Dep} {r : Rev} (rs : List Rcd) (h : NumOK d) (hr : r.num = lastNum d r.path + 1) : NumOK ⟨d.revs ++ [r], rs⟩ := by
 intro v hv
 have hl : (log ⟨d.revs ++ [r], rs⟩ v.path).length = (log d v.path).length + ([r].filter fun u => decide (u.path = v.path)).length := by
  simp only [log, List.filter_append, List.length_append]
 simp only [List.mem_append, List.mem_singleton] at hv
 rcases hv with hv | rfl
 ·have := h v hv; rw [hl]; omega
 ·rw [hl, hr]
  have := h.last v.path
  simp; omega
structure TskC (d : Dep) (x : Tsk) : Prop where
 head : lastNum d x.to = x.head
 live : ¬ x.kind = 1 → Go.Proofs.YtmhboloicpieeaaGreatDoor.live d x.to = true
 ne : d.revs ≠ []
theorem TskC.stale {d : Dep} {x : Tsk} (h : TskC d x) {r : Rev} (hp : r.path = x.to) (hr : r.num = lastNum d r.path + 1) (rs : List Rcd) : fitsB ⟨d.revs ++ [r], rs⟩ x = false := by
 unfold fitsB
 rw [decide_eq_false_iff_not]
 intro hf
 have h1 := hf.head
 rw [← hp, last_appR, hr, hp, h.head] at h1
 omega
end Go.Proofs.YtmhboloicpieeaaGreatDoor
namespace Go.Proofs.YtmhboloicpieeaaGreatDoor
open Go.Ab Tys
end Go.Proofs.YtmhboloicpieeaaGreatDoor

/- Depots that one more change makes: the sets and the lines of the old members are the same. -/
import Derived.Test.YtmlhfnodnnbbnaaDoorQP6
import Derived.Test.YtmlhfnodnnbbnaaDoorQR3a
set_option linter.all false

namespace Go.Proofs.YtmlhfnodnnbbnaaDoor
open Go.Ab
def SSeq (A B : SS) : Prop := (∀ g, A.car g ↔ B.car g) ∧ (∀ g, A.con g ↔ B.con g) ∧ (∀ g, A.cre g ↔ B.cre g)
theorem SSeq.refl (A : SS) : SSeq A A := ⟨fun _ => Iff.rfl, fun _ => Iff.rfl, fun _ => Iff.rfl⟩
theorem SSeq.trans {A B C : SS} (h : SSeq A B) (k : SSeq B C) : SSeq A C := ⟨fun g => (h.1 g).trans (k.1 g), fun g => (h.2.1 g).trans (k.2.1 g), fun g => (h.2.2 g).trans (k.2.2 g)⟩
theorem SSeq.symm {A B : SS} (h : SSeq A B) : SSeq B A := ⟨fun g => (h.1 g).symm, fun g => (h.2.1 g).symm, fun g => (h.2.2 g).symm⟩
theorem nil_iff {α : Type} {l m : List α} (h : ∀ x, x ∈ l ↔ x ∈ m) : l = [] ↔ m = [] := by
  constructor
  · rintro rfl; exact List.eq_nil_iff_forall_not_mem.2 fun x hx => by have := (h x).2 hx; cases this
  · rintro rfl; exact List.eq_nil_iff_forall_not_mem.2 fun x hx => by have := (h x).1 hx; cases this
theorem carS_congr {rs rs' : List Rcd} {A A' : Fil → SS} (hr : ∀ r, r ∈ rs ↔ r ∈ rs') (hA : ∀ f, SSeq (A f) (A' f)) (b f g : Fil) : carS rs A b f g ↔ carS rs' A' b f g := by
  unfold carS
  have h1 := nil_iff hr
  simp only [hr, h1, (hA _).1, (hA _).2.1]
theorem stepS_congr {rs rs' : List Rcd} {A A' : Fil → SS} (hr : ∀ r, r ∈ rs ↔ r ∈ rs') (hA : ∀ f, SSeq (A f) (A' f)) (v : Rev) : SSeq (stepS rs A v) (stepS rs' A' v) := by
  have hc := fun g => carS_congr hr hA (befF v) (fileOf v) g
  refine ⟨hc, fun g => ?_, fun g => ?_⟩
  · simp only [stepS, hc g, (hA _).1]
  · simp only [stepS, hc g, hr, (hA _).2.1, (hA _).2.2]
theorem specA_ext {d n : Dep} : ∀ {k : Nat}, (∀ i, i < k → n.revs[i]? = d.revs[i]?) → (∀ (i : Nat) (v : Rev), i < k → d.revs[i]? = some v → ∀ r, r ∈ intoR n (fileOf v) ↔ r ∈ intoR d (fileOf v)) → ∀ f, SSeq (specA n k f) (specA d k f)
  | 0, _, _, f => SSeq.refl _
  | k + 1, h1, h2, f => by
    have ih := specA_ext (k := k) (fun i hi => h1 i (by omega)) (fun i v hi => h2 i v (by omega))
    simp only [specA, h1 k (by omega)]
    cases hv : d.revs[k]? with
    | none => exact ih f
    | some v =>
      simp only
      split
      · exact ih f
      · show SSeq (if f = fileOf v then _ else _) (if f = fileOf v then _ else _)
        split
        · exact stepS_congr (h2 k v (by omega) hv) ih v
        · exact ih f
theorem specA_skip {d : Dep} {f : Fil} {k : Nat} : ∀ {m : Nat}, k ≤ m → (∀ (i : Nat) (v : Rev), k ≤ i → i < m → d.revs[i]? = some v → f ≠ fileOf v) → specA d m f = specA d k f
  | 0, h, _ => by have : k = 0 := by omega
                  rw [this]
  | m + 1, h, hf => by
    by_cases e : k = m + 1
    · rw [e]
    · rw [← specA_skip (m := m) (by omega) (fun i v h1 h2 => hf i v h1 (by omega))]
      simp only [specA]
      cases hv : d.revs[m]? with
      | none => rfl
      | some v =>
        simp only
        split
        · rfl
        · show (if f = fileOf v then _ else _) = _
          rw [if_neg (hf m v (by omega) (by omega) hv)]
theorem SA_step {d : Dep} (hg : Good d.revs) {k : Nat} {v : Rev} (hv : d.revs[k]? = some v) (h5 : ¬ v.act = 5) : SA d (fileOf v) = stepS (intoR d (fileOf v)) (specA d k) v := by
  have hk := (List.getElem?_eq_some_iff.1 hv).1
  rw [SA, specA_skip (k := k + 1) hk (fun i w h1 h2 hw e => by have := good_file hg hv hw e; omega)]
  simp only [specA, hv, h5, if_false, if_true]
theorem SA_bef {d : Dep} (hg : Good d.revs) {k : Nat} {v : Rev} (hv : d.revs[k]? = some v) (h5 : ¬ v.act = 5) : specA d k (befF v) = SA d (befF v) := by
  have hk := (List.getElem?_eq_some_iff.1 hv).1
  rw [SA]
  symm
  apply specA_skip (by omega)
  intro i w h1 h2 hw e
  rcases bef_cases hg hv h5 with ⟨_, hb⟩ | ⟨_, u, x, a1, a2, a3, a4, a5⟩
  · exact zFil_no hg hw (by rw [← e, hb])
  · have := good_file hg a2 hw (by rw [a4, e]); omega
theorem SA_con {d : Dep} (hg : Good d.revs) {k : Nat} {v : Rev} (hv : d.revs[k]? = some v) (h5 : ¬ v.act = 5) (g : Fil) : (SA d (fileOf v)).con g ↔ (SA d (fileOf v)).car g ∧ ¬ (SA d (befF v)).car g := by
  rw [SA_step hg hv h5, ← SA_bef hg hv h5]; rfl
theorem SA_up {d : Dep} (hg : Good d.revs) {k : Nat} {v : Rev} (hv : d.revs[k]? = some v) (h5 : ¬ v.act = 5) (g : Fil) (h : (SA d (befF v)).car g) : (SA d (fileOf v)).car g := by
  rw [← SA_bef hg hv h5] at h
  rw [SA_step hg hv h5]; exact .inl h
theorem SA_cre {d : Dep} (hg : Good d.revs) {k : Nat} {v : Rev} (hv : d.revs[k]? = some v) (h5 : ¬ v.act = 5) (g : Fil) (h : (SA d (fileOf v)).car g) : (SA d (fileOf v)).cre g := by
  rw [SA_step hg hv h5] at h ⊢; exact .inr (.inr h)
theorem exLed {d : Dep} : ∀ {k : Nat}, k ≤ d.revs.length → ∃ L me, LedRun d k L me
  | 0, _ => ⟨_, _, .zero⟩
  | k + 1, h => by
    obtain ⟨L, me, hr⟩ := exLed (d := d) (k := k) (by omega)
    have hv := List.getElem?_eq_getElem (show k < d.revs.length by omega)
    by_cases h5 : (d.revs[k]).act = 5
    · exact ⟨_, _, .away hr hv h5⟩
    · refine ⟨_, _, .memb hr hv h5 (c := (accCar (enterL L k d.revs[k]) k (intoR d (fileOf d.revs[k]))).flatMap fun o => o.getD [])
        (m := ((accCar (enterL L k d.revs[k]) k (intoR d (fileOf d.revs[k]))).flatMap fun o => o.getD []).filter fun x => !decide (x ∈ (befS (enterL L k d.revs[k]) k).getD []))
        (cr := ((accAll (enterL L k d.revs[k]) k (intoR d (fileOf d.revs[k]))).ign ++ [some ((accCar (enterL L k d.revs[k]) k (intoR d (fileOf d.revs[k]))).flatMap fun o => o.getD [])]).flatMap fun o => o.getD [])
        ⟨fun x => by simp only [List.mem_flatMap], fun x => by simp, fun x => by simp only [List.mem_flatMap]⟩⟩
theorem line_prev {d : Dep} (hg : Good d.revs) (hN : d.revs.length ≤ 512) {i j : Nat} {u v : Rev} (hij : i < j) (hu : d.revs[i]? = some u) (hv : d.revs[j]? = some v) (u5 : ¬ u.act = 5) (v5 : ¬ v.act = 5) (hf : first d u = first d v) :
    ∃ (k : Nat) (w : Rev), i ≤ k ∧ k < j ∧ d.revs[k]? = some w ∧ ¬ w.act = 5 ∧ fileOf w = befF v ∧ first d w = first d v := by
  obtain ⟨L, me, hr⟩ := exLed (d := d) (Nat.le_refl _)
  have hI := hr.inv hg
  have hL := (fst_iff hg hN hI hu hv u5 v5).2 hf
  have hj := (List.getElem?_eq_some_iff.1 hv).1
  have hi := (List.getElem?_eq_some_iff.1 hu).1
  rcases hI.pm j v hj hv v5 with ⟨k, w, a1, a2, a3, a4, a5, a6, a7, a8⟩ | ⟨h1, h2, h3⟩
  · refine ⟨k, w, ?_, a2, a3, a4, a5, (fst_iff hg hN hI a3 hv a4 v5).1 a8.symm⟩
    rcases Nat.lt_or_ge k i with hlt | hge
    · exfalso
      obtain ⟨_, s, x, g2, g3, g4, g5, g6⟩ := line_lt hg hN hI (i + 1) k i w u (by omega) hlt a3 hu a4 u5 (by rw [← a8, hL])
      have := bef_inj hg g3 hv g4 v5 g5 a6 (g6.trans a5)
      omega
    · exact hge
  · have := hI.fm i u hi hu u5
    omega
theorem line_car {d : Dep} (hg : Good d.revs) (hN : d.revs.length ≤ 512) : ∀ (n : Nat) {i j : Nat} {u v : Rev}, j < n → i ≤ j → d.revs[i]? = some u → d.revs[j]? = some v → ¬ u.act = 5 → ¬ v.act = 5 → first d u = first d v → ∀ g, (SA d (fileOf u)).car g → (SA d (fileOf v)).car g
  | 0, _, _, _, _, h, _, _, _, _, _, _ => by omega
  | n + 1, i, j, u, v, hn, hij, hu, hv, u5, v5, hf => by
    intro g hc
    by_cases e : i = j
    · subst e; rw [hu] at hv; cases hv; exact hc
    · obtain ⟨k, w, k1, k2, k3, k4, k5, k6⟩ := line_prev hg hN (by omega) hu hv u5 v5 hf
      have := line_car hg hN n (by omega) k1 hu k3 u5 k4 (hf.trans k6.symm) g hc
      rw [k5] at this
      exact SA_up hg hv v5 g this
theorem line_con {d : Dep} (hg : Good d.revs) (hN : d.revs.length ≤ 512) {i j : Nat} {u v : Rev} (hij : i < j) (hu : d.revs[i]? = some u) (hv : d.revs[j]? = some v) (u5 : ¬ u.act = 5) (v5 : ¬ v.act = 5) (hf : first d u = first d v) (g : Fil) : ¬ ((SA d (fileOf u)).con g ∧ (SA d (fileOf v)).con g) := by
  rintro ⟨h1, h2⟩
  obtain ⟨k, w, k1, k2, k3, k4, k5, k6⟩ := line_prev hg hN hij hu hv u5 v5 hf
  have := line_car hg hN (k + 1) (by omega) k1 hu k3 u5 k4 (hf.trans k6.symm) g ((SA_con hg hu u5 g).1 h1).1
  rw [k5] at this
  exact ((SA_con hg hv v5 g).1 h2).2 this
theorem set_swap {α : Type} (l : List α) (i j : Nat) (z : α) (hi : i < l.length) (hj : j < l.length) : ((l.set i (l.getD j z)).set j (l.getD i z)).Perm l := by
  have := List.set_set_perm hi hj
  simpa [List.getD, hi, hj] using this
theorem sinkF_perm : ∀ (k : Nat) (l : List Rcd), k < l.length → (sinkF k l).Perm l
  | 0, l, _ => List.Perm.refl _
  | k + 1, l, h => by
    rw [sinkF]
    split
    · exact (sinkF_perm k _ (by simp; omega)).trans (set_swap l (k + 1) k zRcd h (by omega))
    · exact List.Perm.refl _
theorem sortN_perm (l : List Rcd) : ∀ k, k ≤ l.length → (sortN l k).Perm l
  | 0, _ => List.Perm.refl _
  | k + 1, h => (sinkF_perm k _ (by rw [sortN_len]; omega)).trans (sortN_perm l k (by omega))
theorem mem_sortR (l : List Rcd) (r : Rcd) : r ∈ sortR l ↔ r ∈ l := (sortN_perm l l.length (Nat.le_refl _)).mem_iff
section
variable {d : Dep} {c : Chg} (hg : Good d.revs) (hN : d.revs.length ≤ 512) (hk : ChkOK d c)
include hg hN hk
theorem app_old {i : Nat} (hi : i < d.revs.length) : (appD d c).revs[i]? = d.revs[i]? := by
  simp only [appD]; rw [List.getElem?_append_left hi]
theorem app_new {a : Nat} (ha : a < c.edits.length) : (appD d c).revs[d.revs.length + a]? = some (made c (c.edits.getD a zEdt)) := by
  simp only [appD]
  rw [List.getElem?_append_right (by omega), Nat.add_sub_cancel_left, List.getElem?_map, List.getElem?_eq_getElem ha]
  simp [List.getD, ha]
theorem app_N : (appD d c).revs.length ≤ 512 := by
  have := hk.tot1; simp [appD]; omega
theorem app_ne {i a : Nat} {v : Rev} (hv : d.revs[i]? = some v) (ha : a < c.edits.length) : fileOf v ≠ fileOf (made c (c.edits.getD a zEdt)) := by
  intro e
  have hi := (List.getElem?_eq_some_iff.1 hv).1
  have := good_file (good_app hg hN hk) (by rw [app_old hg hN hk hi]; exact hv) (app_new hg hN hk ha) e
  omega
theorem app_into {i : Nat} {v : Rev} (hv : d.revs[i]? = some v) (r : Rcd) : r ∈ intoR (appD d c) (fileOf v) ↔ r ∈ intoR d (fileOf v) := by
  simp only [intoR, List.mem_filter, appD, mem_sortR, List.mem_append, decide_eq_true_eq]
  constructor
  · rintro ⟨h | h, e⟩
    · exact ⟨h, e⟩
    · exfalso
      obtain ⟨j, hj, er⟩ := List.mem_iff_getElem.1 h
      have h0 := hk.recd j hj
      rw [show c.recs.getD j zRcd = r by simp [List.getD, hj, er]] at h0
      obtain ⟨x, hx, ⟨t1, t2, t3⟩, _⟩ := h0.okTgt
      obtain ⟨a, ha, ea⟩ := List.mem_iff_getElem.1 hx
      have hx' : c.edits.getD a zEdt = x := by simp [List.getD, ha, ea]
      refine app_ne hg hN hk hv ha ?_
      rw [hx', ← e]
      simp only [fileOf, made, t1, t2]
  · rintro ⟨h, e⟩; exact ⟨.inl h, e⟩
theorem app_spec (f : Fil) : SSeq (specA (appD d c) d.revs.length f) (SA d f) :=
  specA_ext (fun i hi => app_old hg hN hk hi) (fun i v _ hv => app_into hg hN hk hv) f
theorem app_SA {f : Fil} (hf : ∀ a, a < c.edits.length → f ≠ fileOf (made c (c.edits.getD a zEdt))) : SSeq (SA (appD d c) f) (SA d f) := by
  have e : SA (appD d c) f = specA (appD d c) d.revs.length f := by
    rw [SA]
    apply specA_skip (by simp [appD])
    intro i v h1 h2 hv
    have hl : i - d.revs.length < c.edits.length := by simp [appD] at h2; omega
    have := app_new hg hN hk hl
    rw [show d.revs.length + (i - d.revs.length) = i by omega, hv] at this
    cases this
    exact hf _ hl
  rw [e]; exact app_spec hg hN hk f
theorem app_SA_old {i : Nat} {v : Rev} (hv : d.revs[i]? = some v) : SSeq (SA (appD d c) (fileOf v)) (SA d (fileOf v)) := app_SA hg hN hk fun a ha => app_ne hg hN hk hv ha
theorem app_get {p : ByteArray} {n : Int} {w : Rev} (h : get? d p n = some w) : get? (appD d c) p n = some w := by
  obtain ⟨j, h1, h2⟩ := (get?_iff hg).1 h
  have hj := (List.getElem?_eq_some_iff.1 h1).1
  exact (get?_iff (good_app hg hN hk)).2 ⟨j, by rw [app_old hg hN hk hj]; exact h1, h2⟩
theorem app_member {f : Fil} {w : Rev} (h : member? d f.path f.num = some w) : member? (appD d c) f.path f.num = some w := by
  obtain ⟨j, h1, h2, h3⟩ := (member?_iff hg).1 h
  have hj := (List.getElem?_eq_some_iff.1 h1).1
  exact (member?_iff (good_app hg hN hk)).2 ⟨j, by rw [app_old hg hN hk hj]; exact h1, h2, h3⟩
theorem app_first : ∀ (n i : Nat) (v : Rev), i < n → d.revs[i]? = some v → ¬ v.act = 5 → first (appD d c) v = first d v
  | 0, i, v, h, _, _ => by omega
  | n + 1, i, v, h, hv, h5 => by
    have hi := (List.getElem?_eq_some_iff.1 hv).1
    have hg' := good_app hg hN hk
    have hN' := app_N hg hN hk
    have hv' : (appD d c).revs[i]? = some v := by rw [app_old hg hN hk hi]; exact hv
    rcases bef_cases hg hv h5 with ⟨h1, _⟩ | ⟨h1, u, w, a1, a2, a3, a4, a5⟩
    · rw [first_none (prev?_one h1), first_none (prev?_one h1)]
    · have e1 : prev? d v = some w := by rw [prev?_bef hg hN hv h1]; exact (get?_iff hg).2 ⟨u, a2, a4⟩
      have e2 : prev? (appD d c) v = some w := by rw [prev?_bef hg' hN' hv' h1]; exact (get?_iff hg').2 ⟨u, by rw [app_old hg hN hk (by omega)]; exact a2, a4⟩
      rw [first_step e1 a5, first_step e2 a5]
      exact app_first n u w (by omega) a2 a3
end
end Go.Proofs.YtmlhfnodnnbbnaaDoor

/- What remains after one integration, or after a rename: plain laws of the statements IntegrateTakes, IntegrateBack and IntegrateRenames. -/
namespace Go.Proofs.YtmlhfnodnnbbnaaDoor
open Go.Ab
def RcTo (d : Dep) : Prop := ∀ r ∈ d.recs, ∃ v ∈ d.revs, fileOf v = ⟨r.to, r.num⟩
theorem rcTo_app {d : Dep} {c : Chg} (h : RcTo d) (hk : ChkOK d c) : RcTo (appD d c) := by
  intro r hr
  simp only [appD, mem_sortR, List.mem_append] at hr
  rcases hr with hr | hr
  · obtain ⟨v, h1, h2⟩ := h r hr
    exact ⟨v, by simp [appD, h1], h2⟩
  · obtain ⟨j, hj, er⟩ := List.mem_iff_getElem.1 hr
    have h0 := hk.recd j hj
    rw [show c.recs.getD j zRcd = r by simp [List.getD, hj, er]] at h0
    obtain ⟨x, hx, ⟨t1, t2, t3⟩, _⟩ := h0.okTgt
    exact ⟨made c x, by simp only [appD, List.mem_append, List.mem_map]; exact .inr ⟨x, hx, rfl⟩, by simp only [fileOf, made, t1, t2]⟩
theorem Built.to {l : List Chg} {d : Dep} (h : Built l d) : RcTo d := by
  induction h with
  | nil => intro r hr; simp [zDep] at hr
  | skip c h ih => exact ih
  | app h hc hk ih => exact rcTo_app ih hk
section
variable {d : Dep} {c : Chg} (hg : Good d.revs) (hN : d.revs.length ≤ 512) (hk : ChkOK d c)
include hg hN hk
theorem app_into_new (ht : RcTo d) {a : Nat} (ha : a < c.edits.length) (r : Rcd) : r ∈ intoR (appD d c) (fileOf (made c (c.edits.getD a zEdt))) ↔ r ∈ c.recs ∧ (⟨r.to, r.num⟩ : Fil) = fileOf (made c (c.edits.getD a zEdt)) := by
  simp only [intoR, List.mem_filter, appD, mem_sortR, List.mem_append, decide_eq_true_eq]
  constructor
  · rintro ⟨h | h, e⟩
    · exfalso
      obtain ⟨v, h1, h2⟩ := ht r h
      obtain ⟨i, hi⟩ := List.getElem?_of_mem h1
      exact app_ne hg hN hk hi ha (h2.trans e)
    · exact ⟨h, e⟩
  · rintro ⟨h, e⟩; exact ⟨.inr h, e⟩
open Classical in
theorem app_remL {i : Nat} {v : Rev} (hv : d.revs[i]? = some v) (v5 : ¬ v.act = 5) (t : Fil) (P : Rev → Prop) (hP : ∀ (j : Nat) (u : Rev), d.revs[j]? = some u → ¬ u.act = 5 → first d u = first d v → u.chg ≤ v.chg → (Open (appD d c) t u ↔ P u)) :
    remL (appD d c) v t = ((d.revs.filter fun u => decide (¬ u.act = 5 ∧ first d u = first d v ∧ u.chg ≤ v.chg ∧ P u))).map fileOf := by
  have hi := (List.getElem?_eq_some_iff.1 hv).1
  rw [remL, show (appD d c).revs = d.revs ++ c.edits.map (made c) from rfl, List.filter_append, List.map_append]
  have e2 : ∀ p : Rev → Bool, (∀ u, p u = true → u.chg ≤ v.chg) → List.filter p (c.edits.map (made c)) = [] := by
    intro p hp
    rw [List.filter_eq_nil_iff]
    intro u hu h
    obtain ⟨e, _, rfl⟩ := List.mem_map.1 hu
    have h1 := hp _ h
    have h2 := hk.old v (List.mem_of_getElem? hv)
    simp only [made] at h1
    omega
  rw [e2 _ (fun u h => by simp only [decide_eq_true_eq] at h; exact h.2.2.1), List.map_nil, List.append_nil]
  congr 1
  apply List.filter_congr
  intro u hu
  obtain ⟨j, hj⟩ := List.getElem?_of_mem hu
  rw [Bool.eq_iff_iff]
  simp only [decide_eq_true_eq]
  rw [app_first hg hN hk (i + 1) i v (by omega) hv v5]
  constructor
  · rintro ⟨h1, h2, h3, h4⟩
    rw [app_first hg hN hk (j + 1) j u (by omega) hj h1] at h2
    exact ⟨h1, h2, h3, (hP j u hj h1 h2 h3).1 h4⟩
  · rintro ⟨h1, h2, h3, h4⟩
    refine ⟨h1, ?_, h3, (hP j u hj h1 h2 h3).2 h4⟩
    rw [app_first hg hN hk (j + 1) j u (by omega) hj h1]; exact h2
end
theorem filter_ne {l : List Fil} (hn : l.Nodup) {k : Nat} {x : Fil} (hx : l[k]? = some x) : l.filter (fun y => !decide (y = x)) = l.take k ++ l.drop (k + 1) := by
  have hkl := (List.getElem?_eq_some_iff.1 hx).1
  have e : l = l.take k ++ x :: l.drop (k + 1) := by
    conv => lhs; rw [← List.take_append_drop k l, List.drop_eq_getElem_cons hkl, (List.getElem?_eq_some_iff.1 hx).2]
  rw [e] at hn
  obtain ⟨_, h2, h3⟩ := List.nodup_append.1 hn
  obtain ⟨h4, _⟩ := List.nodup_cons.1 h2
  conv => lhs; rw [e]
  rw [List.filter_append, List.filter_cons, if_neg (by simp)]
  congr 1
  · exact List.filter_eq_self.2 fun y hy => by
      have := h3 y hy x List.mem_cons_self
      simpa using this
  · exact List.filter_eq_self.2 fun y hy => by
      have : y ≠ x := by rintro rfl; exact h4 hy
      simpa using this
theorem remL_nodup {d : Dep} (hg : Good d.revs) (v : Rev) (t : Fil) : (remL d v t).Nodup := by
  rw [remL, List.Nodup, List.pairwise_map]
  apply List.Pairwise.filter
  rw [List.pairwise_iff_getElem]
  intro i j hi hj hij e
  have := good_file hg (List.getElem?_eq_getElem hi) (List.getElem?_eq_getElem hj) e
  omega
theorem remL_mem {d : Dep} {v : Rev} {t x : Fil} (h : x ∈ remL d v t) : ∃ (j : Nat) (u : Rev), d.revs[j]? = some u ∧ fileOf u = x ∧ ¬ u.act = 5 ∧ first d u = first d v ∧ u.chg ≤ v.chg ∧ Open d t u := by
  rw [remL] at h
  obtain ⟨u, hu, rfl⟩ := List.mem_map.1 h
  obtain ⟨h1, h2⟩ := List.mem_filter.1 hu
  simp only [decide_eq_true_eq] at h2
  obtain ⟨j, hj⟩ := List.getElem?_of_mem h1
  exact ⟨j, u, hj, rfl, h2⟩
end Go.Proofs.YtmlhfnodnnbbnaaDoor

/- One integration into the last revision of a path: what remains after it. -/
namespace Go.Proofs.YtmlhfnodnnbbnaaDoor
open Go.Ab
structure IntoC (d : Dep) (c : Chg) (w : Rev) (r : Rcd) : Prop where
  last : last? d w.path = some w
  ed : ∃ e, c.edits = [e] ∧ e.path = w.path ∧ e.act = 2 ∧ e.prev = w.num
  rc : c.recs = [r]
  to : r.to = w.path
  num : r.num = w.num + 1
@[reducible] def nextF (w : Rev) : Fil := ⟨w.path, w.num + 1⟩
section
variable {d : Dep} {c : Chg} {w : Rev} {r : Rcd} (hg : Good d.revs) (hN : d.revs.length ≤ 512) (ht : RcTo d) (hk : ChkOK d c) (hc : IntoC d c w r)
include hg hN hk hc
theorem into_w : ∃ j : Nat, d.revs[j]? = some w ∧ ¬ w.act = 5 ∧ ¬ w.act = 3 := by
  obtain ⟨e, h1, h2, h3, h4⟩ := hc.ed
  have hE := hk.edit 0 (by rw [h1]; simp)
  rw [show c.edits.getD 0 zEdt = e by rw [h1]; rfl] at hE
  have hl : live d w.path = true := by
    cases hl : live d w.path with
    | true => rfl
    | false =>
      rw [← h2] at hl
      rcases hE.okLive.2 hl with h | h <;> omega
  obtain ⟨v, j, g1, g2, g3, g4, g5, g6⟩ := live_some hl
  rw [hc.last] at g1; cases g1
  exact ⟨j, g2, g5, g4⟩
theorem into_new : ∃ u : Rev, (appD d c).revs[d.revs.length]? = some u ∧ (appD d c).revs.length = d.revs.length + 1 ∧ fileOf u = nextF w ∧ u.act = 2 ∧ befF u = fileOf w ∧ u.chg = c.num ∧ made c (c.edits.getD 0 zEdt) = u := by
  obtain ⟨e, h1, h2, h3, h4⟩ := hc.ed
  obtain ⟨j, hj, _⟩ := into_w hg hN hk hc
  have hn := hg.num j w hj
  have hjl := (List.getElem?_eq_some_iff.1 hj).1
  have h0 := app_new hg hN hk (a := 0) (by rw [h1]; simp)
  rw [show c.edits.getD 0 zEdt = e by rw [h1]; rfl, Nat.add_zero] at h0
  have hwr : wr (w.num + 1) = w.num + 1 := wr_id (by omega) (by omega)
  refine ⟨made c e, h0, by simp [appD, h1], ?_, h3, ?_, rfl, by rw [h1]; rfl⟩
  · simp only [fileOf, made, h2, h4, hwr]
  · simp only [befF, made, h3, h2, h4, hwr, fileOf]
    simp
include ht
theorem into_SA : SSeq (SA (appD d c) (nextF w)) (stepS [r] (SA d) (made c (c.edits.getD 0 zEdt))) := by
  obtain ⟨u, h1, _, h2, h3, h4, h5, h6⟩ := into_new hg hN hk hc
  obtain ⟨e, e1, _⟩ := hc.ed
  rw [← h2, SA_step (good_app hg hN hk) h1 (by omega), h6]
  refine stepS_congr (fun r' => ?_) (app_spec hg hN hk) u
  rw [← h6, app_into_new hg hN hk ht (by rw [e1]; simp), hc.rc, h6, h2]
  simp only [List.mem_singleton]
  constructor
  · exact fun h => h.1
  · rintro rfl; exact ⟨rfl, by simp only [hc.to, hc.num, nextF]⟩
theorem into_car (g : Fil) : (SA (appD d c) (nextF w)).car g ↔ (SA d (fileOf w)).car g ∨ (r.how = 1 ∧ (SA d ⟨r.frm, r.last⟩).car g) ∨ ((¬ r.how = 1 ∧ ¬ r.how = 3) ∧ ∃ n, r.first ≤ n ∧ n ≤ r.last ∧ (SA d ⟨r.frm, n⟩).con g) ∨ (r.how = 4 ∧ g = nextF w) := by
  obtain ⟨u, h1, _, h2, h3, h4, h5, h6⟩ := into_new hg hN hk hc
  rw [(into_SA hg hN ht hk hc).1 g, h6]
  simp only [stepS, carS, h4, h2, List.mem_singleton, exists_eq_left, List.cons_ne_nil, false_or, or_assoc, and_assoc]
theorem into_con (g : Fil) : (SA (appD d c) (nextF w)).con g ↔ (SA (appD d c) (nextF w)).car g ∧ ¬ (SA d (fileOf w)).car g := by
  obtain ⟨u, h1, _, h2, h3, h4, h5, h6⟩ := into_new hg hN hk hc
  rw [(into_SA hg hN ht hk hc).2.1 g, (into_SA hg hN ht hk hc).1 g, h6]
  simp only [stepS, h4]
theorem into_cre (g : Fil) : (SA (appD d c) (nextF w)).cre g ↔ (SA d (fileOf w)).cre g ∨ (r.how = 3 ∧ ∃ n, r.first ≤ n ∧ n ≤ r.last ∧ (SA d ⟨r.frm, n⟩).con g) ∨ (SA (appD d c) (nextF w)).car g := by
  obtain ⟨u, h1, _, h2, h3, h4, h5, h6⟩ := into_new hg hN hk hc
  rw [(into_SA hg hN ht hk hc).2.2 g, (into_SA hg hN ht hk hc).1 g, h6]
  simp only [stepS, h4, List.mem_singleton, exists_eq_left]
omit ht in
theorem into_member : ∃ u, member? (appD d c) (nextF w).path (nextF w).num = some u := by
  obtain ⟨u, h1, _, h2, h3, h4, h5, h6⟩ := into_new hg hN hk hc
  exact ⟨u, (member?_iff (good_app hg hN hk)).2 ⟨_, h1, h2, by omega⟩⟩
theorem takes_rem {s : Fil} {v : Rev} {x : Fil} {pick : Nat} (hv : member? d s.path s.num = some v) (hx : (remL d v (fileOf w))[pick]? = some x) (hh : r.how = 2 ∨ r.how = 3) (hf : r.frm = x.path) (h1 : r.first = x.num) (h2 : r.last = x.num) :
    remS (appD d c) s (nextF w) = some ((remL d v (fileOf w)).take pick ++ (remL d v (fileOf w)).drop (pick + 1)) := by
  obtain ⟨i, v1, v2, v5⟩ := (member?_iff hg).1 hv
  obtain ⟨j, w1, w5, w3⟩ := into_w hg hN hk hc
  obtain ⟨y, hy⟩ := into_member hg hN hk hc
  rw [remS, app_member hg hN hk hv, hy]
  simp only [Option.some.injEq]
  obtain ⟨jx, ux, x1, x2, x3, x4, x5, x6⟩ := remL_mem (List.mem_of_getElem? hx)
  have hcon : ∀ g, (∃ n, r.first ≤ n ∧ n ≤ r.last ∧ (SA d ⟨r.frm, n⟩).con g) ↔ (SA d x).con g := by
    intro g
    rw [h1, h2, hf]
    constructor
    · rintro ⟨n, a1, a2, a3⟩
      have : n = x.num := by omega
      rw [this] at a3; exact a3
    · intro h; exact ⟨x.num, by omega, by omega, h⟩
  have hcre : ∀ g, (SA (appD d c) (nextF w)).cre g ↔ (SA d (fileOf w)).cre g ∨ (SA d x).con g := by
    intro g
    rw [into_cre hg hN ht hk hc g, into_car hg hN ht hk hc g, hcon g]
    have n1 : ¬ r.how = 1 := by omega
    have n4 : ¬ r.how = 4 := by omega
    simp only [n1, n4, false_and, false_or, or_false, not_false_eq_true, true_and]
    constructor
    · rintro (h | ⟨_, h⟩ | h | ⟨_, h⟩)
      · exact .inl h
      · exact .inr h
      · exact .inl (SA_cre hg w1 w5 g h)
      · exact .inr h
    · rintro (h | h)
      · exact .inl h
      · rcases hh with h2 | h3
        · exact .inr (.inr (.inr ⟨by omega, h⟩))
        · exact .inr (.inl ⟨h3, h⟩)
  rw [app_remL hg hN hk v1 v5 (nextF w) (fun u => Open d (fileOf w) u ∧ fileOf u ≠ x), ← filter_ne (remL_nodup hg v _) hx, remL, List.filter_map, List.filter_filter]
  · congr 1
    apply List.filter_congr
    intro u hu
    rw [Bool.eq_iff_iff]
    simp only [Bool.and_eq_true, decide_eq_true_eq, Function.comp, Bool.not_eq_true', decide_eq_false_iff_not]
    constructor
    · rintro ⟨a, b, c, e, f⟩; exact ⟨f, a, b, c, e⟩
    · rintro ⟨f, a, b, c, e⟩; exact ⟨a, b, c, e, f⟩
  · intro k u hu u5 uf uc
    have hsa := app_SA_old hg hN hk hu
    simp only [Open, hsa.2.1, hcre]
    constructor
    · intro ho
      refine ⟨fun h => ho fun g hgc => .inl (h g hgc), ?_⟩
      intro e
      exact ho fun g hgc => .inr (by rw [← e]; exact hgc)
    · rintro ⟨ho, hne⟩ hall
      apply ho
      intro g hgc
      rcases hall g hgc with h | h
      · exact h
      · exfalso
        rw [← x2] at h
        have hux : k ≠ jx := by rintro rfl; rw [hu] at x1; cases x1; exact hne x2
        rcases Nat.lt_or_gt_of_ne hux with hlt | hlt
        · exact line_con hg hN hlt hu x1 u5 x3 (uf.trans x4.symm) g ⟨hgc, h⟩
        · exact line_con hg hN hlt x1 hu x3 u5 (x4.trans uf.symm) g ⟨h, hgc⟩
end
end Go.Proofs.YtmlhfnodnnbbnaaDoor

/- What is offered back; renames: plain laws. -/
namespace Go.Proofs.YtmlhfnodnnbbnaaDoor
open Go.Ab
theorem last_line {d : Dep} (hg : Good d.revs) (hN : d.revs.length ≤ 512) {j k : Nat} {w z : Rev} (hl : last? d w.path = some w) (hw : d.revs[j]? = some w) (hz : d.revs[k]? = some z) (w5 : ¬ w.act = 5) (z5 : ¬ z.act = 5) (hf : first d z = first d w) : k ≤ j ∧ z.chg ≤ w.chg := by
  obtain ⟨L, me, hr⟩ := exLed (d := d) (Nat.le_refl _)
  have hI := hr.inv hg
  have hL := (fst_iff hg hN hI hz hw z5 w5).2 hf
  have hkj : k ≤ j := by
    rcases Nat.lt_or_ge j k with hlt | hge
    · exfalso
      obtain ⟨_, s, x, _, g3, g4, g5, g6⟩ := line_lt hg hN hI (k + 1) j k w z (by omega) hlt hw hz w5 z5 hL.symm
      have hln : lastNum d w.path = w.num := by simp [lastNum, hl]
      by_cases x4 : x.act = 4
      · obtain ⟨a, y, y1, y2, y3, y4⟩ := hg.away s x g3 x4
        simp only [befF, x4, fileOf] at g6
        simp at g6
        have := lastNum_ge hg y1 (p := w.path) (by rw [y2, g6.1])
        rw [hln, y3, g6.2] at this
        omega
      · simp only [befF, g5, x4, if_false, fileOf, Fil.mk.injEq] at g6
        have := lastNum_ge hg g3 (p := w.path) g6.1
        omega
    · exact hge
  exact ⟨hkj, (chg_le hg hN hI hz hw z5 w5 hL).2 hkj⟩
theorem SA_sub {d : Dep} {f g : Fil} (h : (SA d f).car g ∨ (SA d f).con g ∨ (SA d f).cre g) : ∃ w ∈ d.revs, fileOf w = g := spec_sub d _ f g h
section
variable {d : Dep} {c : Chg} {w : Rev} {r : Rcd} (hg : Good d.revs) (hN : d.revs.length ≤ 512) (ht : RcTo d) (hk : ChkOK d c) (hc : IntoC d c w r)
include hg hN ht hk hc
theorem next_new {f : Fil} : ¬ ((SA d f).car (nextF w) ∨ (SA d f).con (nextF w) ∨ (SA d f).cre (nextF w)) := by
  intro h
  obtain ⟨x, hx, e⟩ := SA_sub h
  obtain ⟨i, hi⟩ := List.getElem?_of_mem hx
  obtain ⟨u, h1, _, h2, h3, h4, h5, h6⟩ := into_new hg hN hk hc
  obtain ⟨e', e1, _⟩ := hc.ed
  exact app_ne hg hN hk hi (a := 0) (by rw [e1]; simp) (by rw [h6, h2]; exact e)
theorem back_rem {s : Fil} {v : Rev} (hv : member? d s.path s.num = some v) (hh : r.how = 2 ∨ r.how = 4) (hf : r.frm = s.path) (h2 : r.last = s.num) :
    ∃ l, remS (appD d c) (fileOf w) s = some l ∧ remS (appD d c) (nextF w) s = some (l ++ if r.how = 4 then [nextF w] else []) := by
  obtain ⟨i, v1, v2, v5⟩ := (member?_iff hg).1 hv
  obtain ⟨j, w1, w5, w3⟩ := into_w hg hN hk hc
  obtain ⟨u, n1, n0, n2, n3, n4, n5, n6⟩ := into_new hg hN hk hc
  have hg' := good_app hg hN hk
  have hN' := app_N hg hN hk
  have hjl := (List.getElem?_eq_some_iff.1 w1).1
  have hv' := app_member hg hN hk hv
  have hw : member? d (fileOf w).path (fileOf w).num = some w := (member?_iff hg).2 ⟨j, w1, rfl, w5⟩
  have hw' := app_member hg hN hk hw
  have hu' : member? (appD d c) (nextF w).path (nextF w).num = some u := (member?_iff hg').2 ⟨_, n1, n2, by omega⟩
  have hwc : w.chg < u.chg := by rw [n5]; exact hk.old w (List.mem_of_getElem? w1)
  have hfu : first (appD d c) u = first d w := by
    have hp : prev? (appD d c) u = some w := by
      rw [prev?_bef hg' hN' n1 (by omega), n4]
      exact (get?_iff hg').2 ⟨j, by rw [app_old hg hN hk hjl]; exact w1, rfl⟩
    rw [first_step hp hwc]
    exact app_first hg hN hk (j + 1) j w (by omega) w1 w5
  have hfw := app_first hg hN hk (j + 1) j w (by omega) w1 w5
  refine ⟨remL (appD d c) w s, ?_, ?_⟩
  · rw [remS, hw', hv']
  · rw [remS, hu', hv']
    simp only [Option.some.injEq]
    have hrevs : (appD d c).revs = d.revs ++ [u] := by
      obtain ⟨e, e1, _⟩ := hc.ed
      rw [e1] at n6
      simp only [appD, e1, List.map_cons, List.map_nil]
      congr 1
      simpa using n6
    have hcr : ∀ g, (SA (appD d c) s).cre g ↔ (SA d s).cre g := by
      have := app_SA_old hg hN hk v1
      rw [v2] at this
      exact this.2.2
    have hou : Open (appD d c) s u ↔ r.how = 4 := by
      simp only [Open, n2, hcr]
      constructor
      · intro ho
        rcases hh with h | h
        · exfalso
          apply ho
          intro g hgc
          obtain ⟨q1, q2⟩ := (into_con hg hN ht hk hc g).1 hgc
          rcases (into_car hg hN ht hk hc g).1 q1 with q | ⟨q, _⟩ | ⟨_, n, a1, a2, a3⟩ | ⟨q, _⟩
          · exact absurd q q2
          · omega
          · rw [hf] at a3
            obtain ⟨jz, z, _, z1, z2⟩ := specA_dom d _ _ g (.inr (.inl a3))
            have hz : getZ d r.frm n = z := by
              rw [getZ, hf, (get?_iff hg).2 ⟨jz, z1, z2⟩]; rfl
            have hlz : getZ d r.frm r.last = v := by
              rw [getZ, hf, h2, (get?_iff hg).2 ⟨i, v1, v2⟩]; rfl
            have hrc := hk.recd 0 (by rw [hc.rc]; simp)
            rw [show c.recs.getD 0 zRcd = r by rw [hc.rc]; rfl] at hrc
            obtain ⟨b1, b2⟩ := hrc.okLine n a1 a2
            rw [hz] at b1 b2
            rw [hlz] at b2
            have hzi : jz ≤ i := by
              rcases Nat.lt_or_ge i jz with hlt | hge
              · exfalso
                have e1 : z.path = s.path := congrArg Fil.path z2
                have e2 : z.num = n := congrArg Fil.num z2
                have e3 : v.path = s.path := congrArg Fil.path v2
                have e4 : v.num = s.num := congrArg Fil.num v2
                have := (hg.path i jz v z hlt v1 z1 (by rw [e1, e3])).2
                omega
              · exact hge
            rw [← z2] at a3
            have hcz := ((SA_con hg z1 b1 g).1 a3).1
            have := line_car hg hN (i + 1) (by omega) hzi z1 v1 b1 v5 b2 g hcz
            rw [← v2]
            exact SA_cre hg v1 v5 g this
          · omega
        · exact h
      · intro h4 hall
        have hc4 : (SA (appD d c) (nextF w)).con (nextF w) := (into_con hg hN ht hk hc _).2 ⟨(into_car hg hN ht hk hc _).2 (.inr (.inr (.inr ⟨h4, rfl⟩))), fun h => next_new hg hN ht hk hc (.inl h)⟩
        exact next_new hg hN ht hk hc (.inr (.inr (hall _ hc4)))
    have hchg : ∀ (k : Nat) (z : Rev), d.revs[k]? = some z → ¬ z.act = 5 → first (appD d c) z = first d w → (z.chg ≤ u.chg ↔ z.chg ≤ w.chg) := by
      intro k z hz z5 hzf
      rw [app_first hg hN hk (k + 1) k z (by omega) hz z5] at hzf
      have := (last_line hg hN hc.last w1 hz w5 z5 hzf).2
      constructor <;> intro _ <;> omega
    have hlast : ∀ p : Rev → Bool, (p u = true ↔ r.how = 4) → (List.filter p [u]).map fileOf = if r.how = 4 then [nextF w] else [] := by
      intro p hp
      rw [List.filter_cons]
      by_cases h4 : r.how = 4
      · rw [if_pos (hp.2 h4), if_pos h4, List.filter_nil, List.map_cons, List.map_nil, n2]
      · rw [if_neg (fun h => h4 (hp.1 h)), if_neg h4]; rfl
    have hlast0 : ∀ p : Rev → Bool, (p u = true → u.chg ≤ w.chg) → List.filter p [u] = [] := by
      intro p hp
      rw [List.filter_cons, if_neg (fun h => by have := hp h; omega)]; rfl
    rw [remL, remL, hrevs, List.filter_append, List.filter_append, List.map_append, List.map_append]
    rw [hlast _ (by simp only [decide_eq_true_eq, hfu]; constructor
                    · rintro ⟨_, _, _, h⟩; exact hou.1 h
                    · intro h; exact ⟨by omega, trivial, by omega, hou.2 h⟩)]
    rw [hlast0 _ (by simp only [decide_eq_true_eq]; exact fun h => h.2.2.1), List.map_nil, List.append_nil]
    congr 2
    apply List.filter_congr
    intro z hz
    obtain ⟨k, hk'⟩ := List.getElem?_of_mem hz
    rw [Bool.eq_iff_iff]
    simp only [decide_eq_true_eq, hfu, hfw]
    constructor
    · rintro ⟨a, b, e, f⟩; exact ⟨a, b, (hchg k z hk' a b).1 e, f⟩
    · rintro ⟨a, b, e, f⟩; exact ⟨a, b, (hchg k z hk' a b).2 e, f⟩
end
end Go.Proofs.YtmlhfnodnnbbnaaDoor

/- Renames: what remains after one. -/
namespace Go.Proofs.YtmlhfnodnnbbnaaDoor
open Go.Ab
structure MoveC (d : Dep) (c : Chg) (w : Rev) (to : ByteArray) (base : Int) : Prop where
  last : last? d w.path = some w
  ed : ∃ x y, (c.edits = [x, y] ∨ c.edits = [y, x]) ∧ x.path = w.path ∧ x.act = 5 ∧ y.path = to ∧ y.act = 4 ∧ y.prev = base ∧ y.frm = w.path ∧ y.fnum = w.num
  rc : c.recs = []
section
variable {d : Dep} {c : Chg} {w : Rev} {to : ByteArray} {base : Int} (hg : Good d.revs) (hN : d.revs.length ≤ 512) (ht : RcTo d) (hk : ChkOK d c) (hc : MoveC d c w to base)
include hg hN hk hc
theorem move_w : ∃ j : Nat, d.revs[j]? = some w ∧ ¬ w.act = 5 ∧ ¬ w.act = 3 := by
  obtain ⟨x, y, h0, h1, h2, h3, h4, h5, h6, h7⟩ := hc.ed
  have hl : live d w.path = true := by
    rcases h0 with h0 | h0
    · have hE := hk.edit 1 (by rw [h0]; simp)
      rw [show c.edits.getD 1 zEdt = y by rw [h0]; rfl] at hE
      have := (hE.okFrm h4).1
      rw [h6] at this; exact this
    · have hE := hk.edit 0 (by rw [h0]; simp)
      rw [show c.edits.getD 0 zEdt = y by rw [h0]; rfl] at hE
      have := (hE.okFrm h4).1
      rw [h6] at this; exact this
  obtain ⟨v, j, g1, g2, g3, g4, g5, g6⟩ := live_some hl
  rw [hc.last] at g1; cases g1
  exact ⟨j, g2, g5, g4⟩
theorem move_new : ∃ (a : Nat) (u z : Rev), a < c.edits.length ∧ made c (c.edits.getD a zEdt) = u ∧ ((appD d c).revs = d.revs ++ [z, u] ∨ (appD d c).revs = d.revs ++ [u, z]) ∧ z.act = 5 ∧ (appD d c).revs[d.revs.length + a]? = some u ∧ fileOf u = ⟨to, base + 1⟩ ∧ u.act = 4 ∧ befF u = fileOf w ∧ u.chg = c.num := by
  obtain ⟨x, y, h0, h1, h2, h3, h4, h5, h6, h7⟩ := hc.ed
  have hb : ∀ a, a < c.edits.length → c.edits.getD a zEdt = y → wr (base + 1) = base + 1 := by
    intro a ha e
    have hE := hk.edit a ha
    rw [e] at hE
    have := hE.okPrev
    rw [h5] at this
    have := lastNum_le hg y.path
    exact wr_id (by omega) (by omega)
  rcases h0 with h0 | h0
  · have e : c.edits.getD 1 zEdt = y := by rw [h0]; rfl
    have ha : 1 < c.edits.length := by rw [h0]; simp
    have hn := app_new hg hN hk ha
    rw [e] at hn
    refine ⟨1, made c y, made c x, ha, by rw [e], .inl (by simp [appD, h0]), h2, hn, ?_, h4, ?_, rfl⟩
    · simp only [fileOf, made, h3, h5, hb 1 ha e]
    · simp only [befF, made, h4, h6, h7, fileOf]; simp
  · have e : c.edits.getD 0 zEdt = y := by rw [h0]; rfl
    have ha : 0 < c.edits.length := by rw [h0]; simp
    have hn := app_new hg hN hk ha
    rw [e] at hn
    refine ⟨0, made c y, made c x, ha, by rw [e], .inr (by simp [appD, h0]), h2, hn, ?_, h4, ?_, rfl⟩
    · simp only [fileOf, made, h3, h5, hb 0 ha e]
    · simp only [befF, made, h4, h6, h7, fileOf]; simp
include ht
theorem move_SA (g : Fil) : ((SA (appD d c) ⟨to, base + 1⟩).car g ↔ (SA d (fileOf w)).car g ∨ g = ⟨to, base + 1⟩) ∧ ((SA (appD d c) ⟨to, base + 1⟩).con g ↔ g = ⟨to, base + 1⟩) ∧ ((SA (appD d c) ⟨to, base + 1⟩).cre g ↔ (SA d (fileOf w)).cre g ∨ g = ⟨to, base + 1⟩) := by
  obtain ⟨a, u, z, ha, hu, hr, hz, n1, n2, n3, n4, n5⟩ := move_new hg hN hk hc
  obtain ⟨j, w1, w5, w3⟩ := move_w hg hN hk hc
  have hg' := good_app hg hN hk
  have hi : intoR (appD d c) (fileOf u) = [] := by
    rw [List.eq_nil_iff_forall_not_mem]
    intro r hr
    rw [← hu, app_into_new hg hN hk ht ha, hc.rc] at hr
    simp at hr
  have hs := SA_step hg' n1 (by omega)
  have hb := SA_bef hg' n1 (by omega)
  rw [n4] at hb
  have ho := app_SA_old hg hN hk w1
  have hnew : ∀ f, ¬ ((SA d f).car (fileOf u) ∨ (SA d f).con (fileOf u) ∨ (SA d f).cre (fileOf u)) := by
    intro f h
    obtain ⟨x, hx, e⟩ := SA_sub h
    obtain ⟨i, hxi⟩ := List.getElem?_of_mem hx
    exact app_ne hg hN hk hxi ha (by rw [hu]; exact e)
  rw [← n2, hs, hi]
  have hcar : carS [] (specA (appD d c) (d.revs.length + a)) (befF u) (fileOf u) g ↔ (SA d (fileOf w)).car g ∨ g = fileOf u := by
    simp only [carS, n4, hb, ho.1, List.not_mem_nil, false_and, exists_false, false_or, true_or, true_and]
  refine ⟨hcar, ?_, ?_⟩
  · show (carS [] (specA (appD d c) (d.revs.length + a)) (befF u) (fileOf u) g ∧ ¬ (specA (appD d c) (d.revs.length + a) (befF u)).car g) ↔ _
    rw [hcar, n4, hb, ho.1 g]
    constructor
    · rintro ⟨h | h, hn⟩
      · exact absurd h hn
      · exact h
    · rintro rfl; exact ⟨.inr rfl, fun h => hnew _ (.inl h)⟩
  · show ((specA (appD d c) (d.revs.length + a) (befF u)).cre g ∨ (∃ r ∈ ([] : List Rcd), r.how = 3 ∧ ∃ n, r.first ≤ n ∧ n ≤ r.last ∧ (specA (appD d c) (d.revs.length + a) ⟨r.frm, n⟩).con g) ∨ carS [] (specA (appD d c) (d.revs.length + a)) (befF u) (fileOf u) g) ↔ _
    rw [hcar, n4, hb, ho.2.2 g]
    constructor
    · rintro (h | ⟨r, hr, _⟩ | h | h)
      · exact .inl h
      · cases hr
      · exact .inl (SA_cre hg w1 w5 g h)
      · exact .inr h
    · rintro (h | h)
      · exact .inl h
      · exact .inr (.inr (.inr h))
theorem move_out {f : Fil} : ¬ ((SA d f).car ⟨to, base + 1⟩ ∨ (SA d f).con ⟨to, base + 1⟩ ∨ (SA d f).cre ⟨to, base + 1⟩) := by
  intro h
  obtain ⟨a, u, z, ha, hu, hr, hz, n1, n2, n3, n4, n5⟩ := move_new hg hN hk hc
  obtain ⟨x, hx, e⟩ := SA_sub h
  obtain ⟨i, hxi⟩ := List.getElem?_of_mem hx
  exact app_ne hg hN hk hxi ha (by rw [hu, n2]; exact e)
theorem rename_target {s : Fil} {v : Rev} (hv : member? d s.path s.num = some v) : remS (appD d c) s ⟨to, base + 1⟩ = some (remL d v (fileOf w)) := by
  obtain ⟨a, u, z, ha, hu, hr, hz, n1, n2, n3, n4, n5⟩ := move_new hg hN hk hc
  obtain ⟨i, v1, v2, v5⟩ := (member?_iff hg).1 hv
  have hu' : member? (appD d c) (⟨to, base + 1⟩ : Fil).path (⟨to, base + 1⟩ : Fil).num = some u := (member?_iff (good_app hg hN hk)).2 ⟨_, n1, n2, by omega⟩
  rw [remS, app_member hg hN hk hv, hu']
  simp only [Option.some.injEq]
  rw [app_remL hg hN hk v1 v5 ⟨to, base + 1⟩ (fun x => Open d (fileOf w) x), remL]
  intro k x hx x5 xf xc
  have hsa := app_SA_old hg hN hk hx
  simp only [Open, hsa.2.1, (move_SA hg hN ht hk hc _).2.2]
  constructor
  · intro h h'; exact h fun g hgc => .inl (h' g hgc)
  · intro h h'
    apply h
    intro g hgc
    rcases h' g hgc with q | q
    · exact q
    · exfalso; subst q; exact move_out hg hN ht hk hc (.inr (.inl hgc))
theorem rename_source {t : Fil} {tv : Rev} (htv : member? d t.path t.num = some tv) : remS (appD d c) ⟨to, base + 1⟩ t = some (remL d w t ++ [⟨to, base + 1⟩]) := by
  obtain ⟨a, u, z, ha, hu, hr, hz, n1, n2, n3, n4, n5⟩ := move_new hg hN hk hc
  obtain ⟨j, w1, w5, w3⟩ := move_w hg hN hk hc
  obtain ⟨i, t1, t2, t5⟩ := (member?_iff hg).1 htv
  have hg' := good_app hg hN hk
  have hN' := app_N hg hN hk
  have hjl := (List.getElem?_eq_some_iff.1 w1).1
  have hu' : member? (appD d c) (⟨to, base + 1⟩ : Fil).path (⟨to, base + 1⟩ : Fil).num = some u := (member?_iff hg').2 ⟨_, n1, n2, by omega⟩
  have hwc : w.chg < u.chg := by rw [n5]; exact hk.old w (List.mem_of_getElem? w1)
  have hfu : first (appD d c) u = first d w := by
    have hp : prev? (appD d c) u = some w := by
      rw [prev?_bef hg' hN' n1 (by omega), n4]
      exact (get?_iff hg').2 ⟨j, by rw [app_old hg hN hk hjl]; exact w1, rfl⟩
    rw [first_step hp hwc]
    exact app_first hg hN hk (j + 1) j w (by omega) w1 w5
  rw [remS, hu', app_member hg hN hk htv]
  simp only [Option.some.injEq]
  have hcr : ∀ g, (SA (appD d c) t).cre g ↔ (SA d t).cre g := by
    have := app_SA_old hg hN hk t1
    rw [t2] at this
    exact this.2.2
  have hou : Open (appD d c) t u := by
    simp only [Open, n2, hcr]
    intro h
    exact move_out hg hN ht hk hc (.inr (.inr (h _ ((move_SA hg hN ht hk hc _).2.1.2 rfl))))
  have htail : ∀ p : Rev → Bool, p u = true → p z = false → (((appD d c).revs).filter p).map fileOf = (d.revs.filter p).map fileOf ++ [⟨to, base + 1⟩] := by
    intro p hpu hpz
    rcases hr with hr | hr <;> rw [hr, List.filter_append, List.map_append] <;> simp [List.filter_cons, hpu, hpz, n2]
  rw [remL, htail _ (by simp only [decide_eq_true_eq, hfu]; exact ⟨by omega, trivial, by omega, hou⟩) (by simp [hz]), remL]
  congr 2
  apply List.filter_congr
  intro x hx
  obtain ⟨k, hk'⟩ := List.getElem?_of_mem hx
  have hsa := app_SA_old hg hN hk hk'
  rw [Bool.eq_iff_iff]
  simp only [decide_eq_true_eq]
  simp only [hfu, Open, hsa.2.1, hcr]
  constructor
  · rintro ⟨x5, b, e, f⟩
    rw [app_first hg hN hk (k + 1) k x (by omega) hk' x5] at b
    exact ⟨x5, b, (last_line hg hN hc.last w1 hk' w5 x5 b).2, f⟩
  · rintro ⟨x5, b, e, f⟩
    refine ⟨x5, ?_, by omega, f⟩
    rw [app_first hg hN hk (k + 1) k x (by omega) hk' x5]; exact b
end
end Go.Proofs.YtmlhfnodnnbbnaaDoor

/- A part of the proof. -/
import Derived.Test.YtbllfnmabmamfaaGreatDoorQP7
import Derived.Test.YtbllfnmabmamfaaGreatDoorQU11
set_option linter.all false
namespace Go.Proofs.YtbllfnmabmamfaaGreatDoor
open Go.Ab
def RcTo (d : Dep) : Prop := ∀ r ∈ d.recs, ∃ v ∈ d.revs, fileOf v = ⟨r.to, r.num⟩
theorem rcTo_app {d : Dep} {c : Chg} (h : RcTo d) (hk : ChkOK d c) : RcTo (appD d c) := by
  intro r hr
  simp only [appD, mem_sortR, List.mem_append] at hr
  rcases hr with hr | hr
  · obtain ⟨v, h1, h2⟩ := h r hr
    exact ⟨v, by simp [appD, h1], h2⟩
  · obtain ⟨j, hj, er⟩ := List.mem_iff_getElem.1 hr
    have h0 := hk.recd j hj
    rw [show c.recs.getD j zRcd = r by simp [List.getD, hj, er]] at h0
    obtain ⟨x, hx, ⟨t1, t2, t3⟩, _⟩ := h0.okTgt
    exact ⟨made c x, by simp only [appD, List.mem_append, List.mem_map]; exact .inr ⟨x, hx, rfl⟩, by simp only [fileOf, made, t1, t2]⟩
theorem Built.to {l : List Chg} {d : Dep} (h : Built l d) : RcTo d := by
  induction h with
  | nil => intro r hr; simp [zDep] at hr
  | skip c h ih => exact ih
  | app h hc hk ih => exact rcTo_app ih hk
section
variable {d : Dep} {c : Chg} (hg : Good d.revs) (hN : d.revs.length ≤ 512) (hk : ChkOK d c)
include hg hN hk
theorem app_into_new (ht : RcTo d) {a : Nat} (ha : a < c.edits.length) (r : Rcd) : r ∈ intoR (appD d c) (fileOf (made c (c.edits.getD a zEdt))) ↔ r ∈ c.recs ∧ (⟨r.to, r.num⟩ : Fil) = fileOf (made c (c.edits.getD a zEdt)) := by
  simp only [intoR, List.mem_filter, appD, mem_sortR, List.mem_append, decide_eq_true_eq]
  constructor
  · rintro ⟨h | h, e⟩
    · exfalso
      obtain ⟨v, h1, h2⟩ := ht r h
      obtain ⟨i, hi⟩ := List.getElem?_of_mem h1
      exact app_ne hg hN hk hi ha (h2.trans e)
    · exact ⟨h, e⟩
  · rintro ⟨h, e⟩; exact ⟨.inr h, e⟩
end
end Go.Proofs.YtbllfnmabmamfaaGreatDoor
namespace Go.Proofs.YtbllfnmabmamfaaGreatDoor
open Go.Ab
theorem incr_ge {l : List Rev} (h : l.Pairwise fun u v => u.num < v.num) : ∀ {j i : Nat} {u v : Rev}, i ≤ j → l[i]? = some u → l[j]? = some v → u.num + ((j : Int) - i) ≤ v.num
  | 0, i, u, v, hij, hu, hv => by
    have : i = 0 := by omega
    subst this; rw [hu] at hv; cases hv; omega
  | j + 1, i, u, v, hij, hu, hv => by
    by_cases e : i = j + 1
    · subst e; rw [hu] at hv; cases hv; omega
    · obtain ⟨hj, ev⟩ := List.getElem?_eq_some_iff.1 hv
      have hw : l[j]? = some l[j] := List.getElem?_eq_getElem (by omega)
      have ih := incr_ge h (j := j) (by omega) hu hw
      have := (List.pairwise_iff_getElem.1 h) j (j + 1) (by omega) hj (by omega)
      rw [ev] at this
      omega
theorem log_incr {d : Dep} (hg : Good d.revs) (p : ByteArray) : (log d p).Pairwise fun u v => u.num < v.num := by
  have h0 : d.revs.Pairwise fun u v => u.path = v.path → u.num < v.num :=
    List.pairwise_iff_getElem.2 fun i j hi hj hij e => (hg.path i j _ _ hij (List.getElem?_eq_getElem hi) (List.getElem?_eq_getElem hj) e).2
  refine (h0.filter (fun v => decide (v.path = p))).imp_of_mem ?_
  intro u v hu hv h
  have h1 := (List.mem_filter.1 hu).2
  have h2 := (List.mem_filter.1 hv).2
  simp only [decide_eq_true_eq] at h1 h2
  exact h (by rw [h1, h2])
theorem log_num {d : Dep} (hg : Good d.revs) (hn : NumOK d) (p : ByteArray) {i : Nat} {v : Rev} (hv : (log d p)[i]? = some v) : v.num = (i : Int) + 1 := by
  have hp := log_incr hg p
  have hi := (List.getElem?_eq_some_iff.1 hv).1
  have mem : ∀ {k : Nat} {u : Rev}, (log d p)[k]? = some u → 1 ≤ u.num ∧ u.num ≤ (log d p).length := by
    intro k u hu
    have hm := List.mem_of_getElem? hu
    obtain ⟨h1, h2⟩ := List.mem_filter.1 hm
    simp only [decide_eq_true_eq] at h2
    obtain ⟨j, hj⟩ := List.getElem?_of_mem h1
    have := hg.num j u hj
    have h3 := hn u h1
    rw [h2] at h3
    omega
  have h0 : (log d p)[0]? = some (log d p)[0] := List.getElem?_eq_getElem (by omega)
  have hl : (log d p)[(log d p).length - 1]? = some (log d p)[(log d p).length - 1] := List.getElem?_eq_getElem (by omega)
  have a := incr_ge hp (by omega) h0 hv
  have b := incr_ge hp (by omega) hv hl
  have c := mem h0
  have e := mem hl
  omega
theorem get_dense {d : Dep} (hg : Good d.revs) (hn : NumOK d) {p : ByteArray} {n : Int} (h1 : 1 ≤ n) (h2 : n ≤ (log d p).length) : ∃ v, get? d p n = some v := by
  have hi : (n - 1).toNat < (log d p).length := by omega
  have hv : (log d p)[(n - 1).toNat]? = some (log d p)[(n - 1).toNat] := List.getElem?_eq_getElem hi
  have := log_num hg hn p hv
  cases hf : get? d p n with
  | some v => exact ⟨v, rfl⟩
  | none =>
    exfalso
    have h3 := List.find?_eq_none.1 hf _ (List.mem_of_getElem? hv)
    simp only [decide_eq_true_eq] at h3
    omega
def SrcOK (d : Dep) : Prop := ∀ (k : Nat) (v : Rev), d.revs[k]? = some v → ∀ r ∈ intoR d (fileOf v), 1 ≤ r.first ∧ r.first ≤ r.last ∧ 1 ≤ r.how ∧ r.how ≤ 4 ∧
  ∀ n, r.first ≤ n → n ≤ r.last → ∃ (j : Nat) (u : Rev), j < k ∧ d.revs[j]? = some u ∧ fileOf u = ⟨r.frm, n⟩ ∧ ¬ u.act = 5
theorem srcOK_app {d : Dep} {c : Chg} (hg : Good d.revs) (hN : d.revs.length ≤ 512) (ht : RcTo d) (hn : NumOK d) (h : SrcOK d) (hk : ChkOK d c) : SrcOK (appD d c) := by
  intro k v hv r hr
  rcases Nat.lt_or_ge k d.revs.length with hlt | hge
  · rw [app_old hg hN hk hlt] at hv
    obtain ⟨a1, a2, a3, a4, a5⟩ := h k v hv r ((app_into hg hN hk hv r).1 hr)
    refine ⟨a1, a2, a3, a4, fun n n1 n2 => ?_⟩
    obtain ⟨j, u, j1, j2, j3, j4⟩ := a5 n n1 n2
    exact ⟨j, u, j1, by rw [app_old hg hN hk (by omega)]; exact j2, j3, j4⟩
  · obtain ⟨a, rfl⟩ : ∃ a, k = d.revs.length + a := ⟨k - d.revs.length, by omega⟩
    have ha : a < c.edits.length := by
      have := (List.getElem?_eq_some_iff.1 hv).1
      simp only [appD, List.length_append, List.length_map] at this; omega
    rw [app_new hg hN hk ha] at hv
    cases hv
    obtain ⟨hr1, _⟩ := (app_into_new hg hN hk ht ha r).1 hr
    obtain ⟨j, hj, er⟩ := List.mem_iff_getElem.1 hr1
    have h0 := hk.recd j hj
    rw [show c.recs.getD j zRcd = r by simp [List.getD, hj, er]] at h0
    refine ⟨h0.okLo, h0.okLe, h0.okHow.1, h0.okHow.2, fun n n1 n2 => ?_⟩
    have hlo := h0.okLo
    have hhi := h0.okHi
    obtain ⟨u, hu⟩ := get_dense hg hn (p := r.frm) (n := n) (by omega) (by omega)
    obtain ⟨i, hi, ei⟩ := (get?_iff hg).1 hu
    have hil := (List.getElem?_eq_some_iff.1 hi).1
    refine ⟨i, u, by omega, by rw [app_old hg hN hk hil]; exact hi, ei, ?_⟩
    have := (h0.okLine n n1 n2).1
    rwa [show getZ d r.frm n = u by simp [getZ, hu]] at this
theorem Built.src {l : List Chg} {d : Dep} (h : Built l d) : SrcOK d := by
  induction h with
  | nil => intro k v hv; simp [zDep] at hv
  | skip c h ih => exact ih
  | app h hc hk ih => exact srcOK_app h.good h.ok.1 h.to h.numOK ih hk
section
variable {d : Dep} (hg : Good d.revs) (hS : SrcOK d)
include hg hS
theorem src_spec {k : Nat} {v : Rev} (hv : d.revs[k]? = some v) {r : Rcd} (hr : r ∈ intoR d (fileOf v)) {n : Int} (n1 : r.first ≤ n) (n2 : n ≤ r.last) : specA d k ⟨r.frm, n⟩ = SA d ⟨r.frm, n⟩ := by
  obtain ⟨_, _, _, _, h5⟩ := hS k v hv r hr
  obtain ⟨j, u, j1, j2, j3, j4⟩ := h5 n n1 n2
  have hk := (List.getElem?_eq_some_iff.1 hv).1
  rw [SA]; symm
  apply specA_skip (by omega)
  intro i w h1 h2 hw e
  have := good_file hg j2 hw (by rw [j3, e])
  omega
theorem carS_SA {k : Nat} {v : Rev} (hv : d.revs[k]? = some v) (h5 : ¬ v.act = 5) (g : Fil) : (SA d (fileOf v)).car g ↔ carS (intoR d (fileOf v)) (SA d) (befF v) (fileOf v) g := by
  rw [SA_step hg hv h5]
  show carS _ (specA d k) _ _ g ↔ _
  unfold carS
  rw [SA_bef hg hv h5]
  have key : (∃ r ∈ intoR d (fileOf v), (r.how = 1 ∧ (specA d k ⟨r.frm, r.last⟩).car g) ∨ (¬ r.how = 1 ∧ ¬ r.how = 3 ∧ ∃ n, r.first ≤ n ∧ n ≤ r.last ∧ (specA d k ⟨r.frm, n⟩).con g)) ↔
      (∃ r ∈ intoR d (fileOf v), (r.how = 1 ∧ (SA d ⟨r.frm, r.last⟩).car g) ∨ (¬ r.how = 1 ∧ ¬ r.how = 3 ∧ ∃ n, r.first ≤ n ∧ n ≤ r.last ∧ (SA d ⟨r.frm, n⟩).con g)) := by
    refine exists_congr fun r => and_congr_right fun hr => ?_
    obtain ⟨_, hle, _⟩ := hS k v hv r hr
    rw [src_spec hg hS hv hr hle (Int.le_refl _)]
    refine or_congr Iff.rfl (and_congr_right fun _ => and_congr_right fun _ => exists_congr fun n => and_congr_right fun n1 => and_congr_right fun n2 => ?_)
    rw [src_spec hg hS hv hr n1 n2]
  rw [key]
end
end Go.Proofs.YtbllfnmabmamfaaGreatDoor
namespace Go.Proofs.YtbllfnmabmamfaaGreatDoor
open Go.Ab
section
variable {d : Dep} (hg : Good d.revs) (hN : d.revs.length ≤ 512)
include hg hN
omit hN in
theorem SA_zero : SA d zFil = SS0 := by
  rw [SA, specA_skip (k := 0) (Nat.zero_le _) fun i v _ _ hv e => zFil_no hg hv e.symm]
  rfl
theorem rem_nil {v : Rev} {t : Fil} (h : remL d v t = []) {i : Nat} {u : Rev} (hu : d.revs[i]? = some u) (u5 : ¬ u.act = 5) (hf : first d u = first d v) (hc : u.chg ≤ v.chg) (g : Fil) (hcon : (SA d (fileOf u)).con g) : (SA d t).cre g := by
  classical
  have h0 : ¬ Open d t u := by
    intro ho
    have : fileOf u ∈ remL d v t := by
      rw [remL, List.mem_map]
      exact ⟨u, List.mem_filter.2 ⟨List.mem_of_getElem? hu, by simp only [decide_eq_true_eq]; exact ⟨u5, hf, hc, ho⟩⟩, rfl⟩
    rw [h] at this; cases this
  simp only [Open, Classical.not_not] at h0
  exact h0 g hcon
theorem car_cre {v : Rev} {t : Fil} (h : remL d v t = []) : ∀ (n i : Nat) (w : Rev), i < n → d.revs[i]? = some w → ¬ w.act = 5 → first d w = first d v → w.chg ≤ v.chg → ∀ g, (SA d (fileOf w)).car g → (SA d t).cre g
  | 0, _, _, hi, _, _, _, _, _, _ => by omega
  | n + 1, i, w, hi, hw, w5, hf, hc, g, hcar => by
    by_cases hb : (SA d (befF w)).car g
    · have w1 : ¬ w.act = 1 := by
        intro w1
        rw [show befF w = zFil by simp [befF, w1], SA_zero hg] at hb
        exact hb
      obtain ⟨j, x, hj, hx, ex, x5⟩ := bef_ex hg hN hw w1
      obtain ⟨f1, _⟩ := first_next hg hN hw hx w5 w1 ex
      have := hg.chg j i x w hj hx hw
      exact car_cre h n j x (by omega) hx x5 (by rw [← f1]; exact hf) (by omega) g (by rw [← ex]; exact hb)
    · exact rem_nil hg hN h hw w5 hf hc g ((SA_con hg hw w5 g).2 ⟨hcar, hb⟩)
theorem chain_rem {s m : Rev} {t : Fil} {i j : Nat} (hm : d.revs[j]? = some m) (m5 : ¬ m.act = 5) (ha : remL d m t = [])
    (hp : ∀ (k : Nat) (u : Rev), d.revs[k]? = some u → ¬ u.act = 5 → first d u = first d s → u.chg ≤ s.chg → ∀ g, (SA d (fileOf u)).con g → (SA d (fileOf m)).car g) : remL d s t = [] := by
  classical
  rw [remL, List.map_eq_nil_iff, List.filter_eq_nil_iff]
  intro u hu h
  simp only [decide_eq_true_eq] at h
  obtain ⟨u5, hf, hc, ho⟩ := h
  obtain ⟨k, hk⟩ := List.getElem?_of_mem hu
  exact ho fun g hg' => car_cre hg hN ha (j + 1) j m (by omega) hm m5 rfl (Int.le_refl _) g (hp k u hk u5 hf hc g hg')
end
end Go.Proofs.YtbllfnmabmamfaaGreatDoor

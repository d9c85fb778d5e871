/- The ledger as a run over the revisions; what holds of it at each step. -/
import Derived.Test.YtbllfnmabmamfaaGreatDoorQP2
import Derived.Test.YtbllfnmabmamfaaGreatDoorQP0
set_option linter.all false

namespace Go.Proofs.YtbllfnmabmamfaaGreatDoor
open Go.Ab
def intoR (d : Dep) (f : Fil) : List Rcd := d.recs.filter fun r => decide ((⟨r.to, r.num⟩ : Fil) = f)
def led0 (d : Dep) : Led := ⟨d.revs, [], List.replicate d.revs.length 0, List.replicate d.revs.length 0, List.replicate d.revs.length none, List.replicate d.revs.length none, List.replicate d.revs.length none⟩
def ixL (L : Led) (f : Fil) (k : Nat) : Led := { L with index := aput L.index f k }
def pushM (me : List (Int × List Int)) (l : Int) (k : Nat) : List (Int × List Int) := aput me l ((alook me l).getD [] ++ [(k : Int)])
inductive LedRun (d : Dep) : Nat → Led → List (Int × List Int) → Prop
  | zero : LedRun d 0 (led0 d) []
  | away {k : Nat} {L : Led} {me : List (Int × List Int)} {v : Rev} (h : LedRun d k L me) (hv : d.revs[k]? = some v) (h5 : v.act = 5) : LedRun d (k + 1) (ixL (enterL L k v) (fileOf v) k) me
  | memb {k : Nat} {L : Led} {me : List (Int × List Int)} {v : Rev} (h : LedRun d k L me) (hv : d.revs[k]? = some v) (h5 : ¬ v.act = 5) {c m cr : List Int} (hA : AccR (enterL L k v) k (intoR d (fileOf v)) c m cr) :
      LedRun d (k + 1) (ixL (setL (enterL L k v) k c m cr) (fileOf v) k) (pushM me (lineOf L k v) k)
structure LedInv (d : Dep) (k : Nat) (L : Led) (me : List (Int × List Int)) : Prop where
  kn : k ≤ d.revs.length
  revs : L.revs = d.revs
  lp : L.prev.length = d.revs.length
  lf : L.fst.length = d.revs.length
  lc : L.car.length = d.revs.length
  lo : L.con.length = d.revs.length
  lr : L.cre.length = d.revs.length
  ix : ∀ f i, alook L.index f = some i ↔ ∃ (j : Nat) (v : Rev), i = (j : Int) ∧ j < k ∧ d.revs[j]? = some v ∧ fileOf v = f
  f5 : ∀ (j : Nat) (v : Rev), j < k → d.revs[j]? = some v → v.act = 5 → L.fst.getD j 0 = -1 ∧ L.con.getD j none = none ∧ L.car.getD j none = none
  fm : ∀ (j : Nat) (v : Rev), j < k → d.revs[j]? = some v → ¬ v.act = 5 → 0 ≤ L.fst.getD j 0 ∧ L.fst.getD j 0 ≤ j
  pm : ∀ (j : Nat) (v : Rev), j < k → d.revs[j]? = some v → ¬ v.act = 5 →
    (∃ (u : Nat) (w : Rev), L.prev.getD j 0 = (u : Int) ∧ u < j ∧ d.revs[u]? = some w ∧ ¬ w.act = 5 ∧ fileOf w = befF v ∧ ¬ v.act = 1 ∧ w.chg < v.chg ∧ L.fst.getD j 0 = L.fst.getD u 0) ∨ (v.act = 1 ∧ L.prev.getD j 0 = -1 ∧ L.fst.getD j 0 = j)
  mem : ∀ key : Int, 0 ≤ key → (alook me key).getD [] = ((List.range k).filter fun j => decide (L.fst.getD j 0 = key)).map fun j : Nat => (j : Int)
  mne : ∀ key : Int, alook me key ≠ some []
  sets : ∀ (j : Nat) (v : Rev), j < k → d.revs[j]? = some v → ¬ v.act = 5 → ∃ c m cr, L.car.getD j none = some c ∧ L.con.getD j none = some m ∧ L.cre.getD j none = some cr
  un : ∀ j : Nat, k ≤ j → L.car.getD j none = none ∧ L.con.getD j none = none ∧ L.cre.getD j none = none
  bd : ∀ (j : Nat) (x : Int), x ∈ (L.car.getD j none).getD [] ∨ x ∈ (L.con.getD j none).getD [] ∨ x ∈ (L.cre.getD j none).getD [] → 0 ≤ x ∧ x < k
theorem getD_set {α : Type} (l : List α) (i j : Nat) (a z : α) (h : i < l.length) : (l.set i a).getD j z = if i = j then a else l.getD j z := by
  simp only [List.getD, List.getElem?_set]
  split
  · rename_i e; subst e; simp [h]
  · rfl
theorem good_file {l : List Rev} (hg : Good l) {i j : Nat} {u v : Rev} (hu : l[i]? = some u) (hv : l[j]? = some v) (h : fileOf u = fileOf v) : i = j := by
  simp only [fileOf, Fil.mk.injEq] at h
  rcases Nat.lt_trichotomy i j with hlt | rfl | hlt
  · have := (hg.path i j u v hlt hu hv h.1).2; omega
  · rfl
  · have := (hg.path j i v u hlt hv hu h.1.symm).2; omega
theorem bef_cases {l : List Rev} (hg : Good l) {k : Nat} {v : Rev} (hv : l[k]? = some v) (h5 : ¬ v.act = 5) :
    (v.act = 1 ∧ befF v = zFil) ∨ (¬ v.act = 1 ∧ ∃ (u : Nat) (w : Rev), u < k ∧ l[u]? = some w ∧ ¬ w.act = 5 ∧ fileOf w = befF v ∧ w.chg < v.chg) := by
  by_cases h1 : v.act = 1
  · exact .inl ⟨h1, by simp [befF, h1]⟩
  · refine .inr ⟨h1, ?_⟩
    by_cases h4 : v.act = 4
    · obtain ⟨j, u, a1, a2, a3, a4, a5, a6, a7⟩ := hg.mov k v hv h4
      exact ⟨j, u, a1, a2, a6, by simp [befF, h4, fileOf, a3, a4], a7⟩
    · obtain ⟨j, u, a1, a2, a3, a4, a5, a6, a7⟩ := hg.prv k v hv h1 h4
      exact ⟨j, u, a1, a2, a6, by simp [befF, h1, h4, fileOf, a3, a4], a7⟩
theorem zFil_no {l : List Rev} (hg : Good l) {j : Nat} {v : Rev} (hv : l[j]? = some v) : fileOf v ≠ zFil := by
  intro h
  have := (hg.num j v hv).1
  simp only [fileOf, zFil, Fil.mk.injEq] at h
  omega
theorem LedInv.look {d : Dep} {k : Nat} {L : Led} {me : List (Int × List Int)} (h : LedInv d k L me) (hg : Good d.revs) {v : Rev} (hv : d.revs[k]? = some v) (h5 : ¬ v.act = 5) :
    (v.act = 1 ∧ alook L.index (befF v) = none ∧ memB L (befF v) = none) ∨
    (¬ v.act = 1 ∧ ∃ (u : Nat) (w : Rev), u < k ∧ d.revs[u]? = some w ∧ ¬ w.act = 5 ∧ fileOf w = befF v ∧ w.chg < v.chg ∧ alook L.index (befF v) = some (u : Int) ∧ memB L (befF v) = some (u : Int) ∧ 0 ≤ L.fst.getD u 0 ∧ L.fst.getD u 0 ≤ u) := by
  rcases bef_cases hg hv h5 with ⟨h1, hb⟩ | ⟨h1, u, w, a1, a2, a3, a4, a5⟩
  · have hn : alook L.index (befF v) = none := by
      cases hk : alook L.index (befF v) with
      | none => rfl
      | some i =>
        obtain ⟨j, w, _, _, b3, b4⟩ := (h.ix _ _).1 hk
        exact absurd (b4.trans hb) (zFil_no hg b3)
    exact .inl ⟨h1, hn, by simp [memB, hn]⟩
  · have hs : alook L.index (befF v) = some (u : Int) := (h.ix _ _).2 ⟨u, w, rfl, a1, a2, a4⟩
    obtain ⟨f1, f2⟩ := h.fm u w a1 a2 a3
    exact .inr ⟨h1, u, w, a1, a2, a3, a4, a5, hs, by simp only [memB, hs, Int.toNat_natCast, f1, if_true], f1, f2⟩
theorem mem_contsF (L : Led) (f : ByteArray) (o : Option (List Int)) : ∀ (k : Nat) (n : Int), o ∈ contsF L f n k ↔ ∃ (j i : Int), n ≤ j ∧ j < n + k ∧ alook L.index ⟨f, j⟩ = some i ∧ o = L.con.getD i.toNat none
  | 0, n => by
    simp only [contsF, List.not_mem_nil, false_iff, not_exists]
    rintro j i ⟨h1, h2, _⟩
    simp at h2; omega
  | k + 1, n => by
    simp only [contsF, List.mem_append, mem_contsF L f o k (n + 1)]
    constructor
    · rintro (h | ⟨j, i, h1, h2, h3, h4⟩)
      · cases hk : alook L.index ⟨f, n⟩ with
        | none => rw [hk] at h; simp at h
        | some i => rw [hk] at h; simp at h; exact ⟨n, i, by omega, by omega, hk, by simpa using h⟩
      · exact ⟨j, i, by omega, by omega, h3, h4⟩
    · rintro ⟨j, i, h1, h2, h3, h4⟩
      by_cases e : j = n
      · subst e; left; rw [h3]; simp [h4]
      · exact .inr ⟨j, i, by omega, by omega, h3, h4⟩
theorem mem_conts (L : Led) (r : Rcd) (o : Option (List Int)) : o ∈ conts L r ↔ ∃ (j i : Int), r.first ≤ j ∧ 1 ≤ j ∧ j ≤ r.last ∧ j ≤ 512 ∧ alook L.index ⟨r.frm, j⟩ = some i ∧ o = L.con.getD i.toNat none := by
  rw [conts, mem_contsF]
  constructor
  · rintro ⟨j, i, h1, h2, h3⟩; exact ⟨j, i, by omega, by omega, by omega, by omega, h3⟩
  · rintro ⟨j, i, h1, h2, h3, h4, h5⟩; exact ⟨j, i, by omega, by omega, h5⟩
theorem mem_accStep (L : Led) (a : Acc) (r : Rcd) (o : Option (List Int)) :
    (o ∈ (accStep L a r).car ↔ o ∈ a.car ∨ (r.how = 1 ∧ ∃ i, alook L.index ⟨r.frm, r.last⟩ = some i ∧ o = L.car.getD i.toNat none) ∨ (¬ r.how = 1 ∧ ¬ r.how = 3 ∧ o ∈ conts L r)) ∧
    (o ∈ (accStep L a r).ign ↔ o ∈ a.ign ∨ (r.how = 3 ∧ o ∈ conts L r)) ∧ ((accStep L a r).orig = true ↔ a.orig = true ∨ r.how = 4) := by
  unfold accStep
  by_cases h1 : r.how = 1
  · rw [if_pos h1]
    have h3 : ¬ r.how = 3 := by omega
    have h4 : ¬ r.how = 4 := by omega
    cases hk : alook L.index ⟨r.frm, r.last⟩ with
    | none => simp [h1]
    | some i => simp [h1]
  · rw [if_neg h1]
    by_cases h3 : r.how = 3
    · rw [if_pos h3]; simp [h3]
    · rw [if_neg h3]; simp [h1, h3]
theorem mem_accF (L : Led) (o : Option (List Int)) : ∀ (rs : List Rcd) (a : Acc),
    (o ∈ (rs.foldl (accStep L) a).car ↔ o ∈ a.car ∨ ∃ r ∈ rs, (r.how = 1 ∧ ∃ i, alook L.index ⟨r.frm, r.last⟩ = some i ∧ o = L.car.getD i.toNat none) ∨ (¬ r.how = 1 ∧ ¬ r.how = 3 ∧ o ∈ conts L r)) ∧
    (o ∈ (rs.foldl (accStep L) a).ign ↔ o ∈ a.ign ∨ ∃ r ∈ rs, r.how = 3 ∧ o ∈ conts L r) ∧ ((rs.foldl (accStep L) a).orig = true ↔ a.orig = true ∨ ∃ r ∈ rs, r.how = 4)
  | [], a => by simp
  | r :: rs, a => by
    obtain ⟨h1, h2, h3⟩ := mem_accF L o rs (accStep L a r)
    obtain ⟨g1, g2, g3⟩ := mem_accStep L a r o
    simp only [List.foldl_cons, h1, h2, h3, g1, g2, g3, List.mem_cons, exists_eq_or_imp, or_assoc]
    exact ⟨trivial, trivial, trivial⟩
theorem mem_accCar (L : Led) (i : Nat) (rs : List Rcd) (o : Option (List Int)) : o ∈ accCar L i rs ↔ o = befS L i ∨ (∃ r ∈ rs, (r.how = 1 ∧ ∃ i, alook L.index ⟨r.frm, r.last⟩ = some i ∧ o = L.car.getD i.toNat none) ∨ (¬ r.how = 1 ∧ ¬ r.how = 3 ∧ o ∈ conts L r)) ∨
    ((rs = [] ∨ ∃ r ∈ rs, r.how = 4) ∧ o = some [(i : Int)]) := by
  obtain ⟨h1, h2, h3⟩ := mem_accF L o rs (acc0 L i (decide ((rs.length : Int) = 0)))
  have ho : ((accAll L i rs).orig = true ↔ rs = [] ∨ ∃ r ∈ rs, r.how = 4) := by
    rw [accAll, h3]; simp [acc0, Int.natCast_eq_zero, List.length_eq_zero_iff]
  rw [accCar, List.mem_append, accAll, h1]
  simp only [acc0, List.mem_singleton, or_assoc]
  have : (o ∈ if (accAll L i rs).orig = true then [some [(i : Int)]] else []) ↔ ((rs = [] ∨ ∃ r ∈ rs, r.how = 4) ∧ o = some [(i : Int)]) := by
    rw [← ho]; split <;> simp_all
  rw [← this]; rfl
theorem mem_accIgn (L : Led) (i : Nat) (rs : List Rcd) (o : Option (List Int)) : o ∈ (accAll L i rs).ign ↔ o = knoS L i ∨ ∃ r ∈ rs, r.how = 3 ∧ o ∈ conts L r := by
  obtain ⟨h1, h2, h3⟩ := mem_accF L o rs (acc0 L i (decide ((rs.length : Int) = 0)))
  rw [accAll, h2]; simp [acc0]
theorem ix_step {d : Dep} {k : Nat} {L : Led} {me : List (Int × List Int)} (h : LedInv d k L me) (hg : Good d.revs) {v : Rev} (hv : d.revs[k]? = some v) :
    ∀ f i, alook (aput L.index (fileOf v) (k : Int)) f = some i ↔ ∃ (j : Nat) (w : Rev), i = (j : Int) ∧ j < k + 1 ∧ d.revs[j]? = some w ∧ fileOf w = f := by
  intro f i
  rw [alook_aput]
  by_cases e : f = fileOf v
  · subst e
    rw [if_pos rfl]
    constructor
    · intro h; cases h; exact ⟨k, v, rfl, by omega, hv, rfl⟩
    · rintro ⟨j, w, rfl, _, h2, h3⟩
      rw [good_file hg h2 hv h3]
  · rw [if_neg e, h.ix]
    constructor
    · rintro ⟨j, w, h1, h2, h3⟩; exact ⟨j, w, h1, by omega, h3⟩
    · rintro ⟨j, w, h1, h2, h3, h4⟩
      refine ⟨j, w, h1, ?_, h3, h4⟩
      by_cases ej : j = k
      · subst ej; rw [hv] at h3; cases h3; exact absurd h4.symm e
      · omega
theorem range_filter_old {k : Nat} {l m : List Int} (key : Int) (h : ∀ j, j < k → m.getD j 0 = l.getD j 0) : (List.range k).filter (fun j => decide (m.getD j 0 = key)) = (List.range k).filter (fun j => decide (l.getD j 0 = key)) :=
  List.filter_congr fun j hj => by rw [h j (by simpa using hj)]
theorem acc_bd {L : Led} {i : Nat} {rs : List Rcd} {c m cr : List Int} (hA : AccR L i rs c m cr) (P : Int → Prop) (hi : P i)
    (hb : ∀ (j : Nat) (x : Int), x ∈ (L.car.getD j none).getD [] ∨ x ∈ (L.con.getD j none).getD [] ∨ x ∈ (L.cre.getD j none).getD [] → P x) : ∀ x, x ∈ c ∨ x ∈ m ∨ x ∈ cr → P x := by
  have h1 : ∀ x, x ∈ c → P x := by
    intro x hx
    obtain ⟨o, ho, hxo⟩ := (hA.car x).1 hx
    rcases (mem_accCar L i rs o).1 ho with rfl | ⟨r, _, ⟨_, k, _, rfl⟩ | ⟨_, _, ho⟩⟩ | ⟨_, rfl⟩
    · unfold befS at hxo
      split at hxo
      · exact hb _ x (.inl hxo)
      · simp at hxo
    · exact hb _ x (.inl hxo)
    · obtain ⟨_, k, _, _, _, _, _, rfl⟩ := (mem_conts L r o).1 ho
      exact hb _ x (.inr (.inl hxo))
    · simp at hxo; rw [hxo]; exact hi
  rintro x (hx | hx | hx)
  · exact h1 x hx
  · exact h1 x ((hA.con x).1 hx).1
  · obtain ⟨o, ho, hxo⟩ := (hA.cre x).1 hx
    rcases List.mem_append.1 ho with ho | ho
    · rcases (mem_accIgn L i rs o).1 ho with rfl | ⟨r, _, _, ho⟩
      · unfold knoS at hxo
        split at hxo
        · exact hb _ x (.inr (.inr hxo))
        · simp at hxo
      · obtain ⟨_, k, _, _, _, _, _, rfl⟩ := (mem_conts L r o).1 ho
        exact hb _ x (.inr (.inl hxo))
    · simp at ho; subst ho; exact h1 x (by simpa using hxo)
theorem rep_getD {α : Type} (n j : Nat) (a : α) : (List.replicate n a).getD j a = a := by
  simp only [List.getD, List.getElem?_replicate]; split <;> rfl
theorem LedRun.inv {d : Dep} (hg : Good d.revs) {k : Nat} {L : Led} {me : List (Int × List Int)} (h : LedRun d k L me) : LedInv d k L me := by
  induction h with
  | zero =>
    have hz : ∀ j : Nat, (led0 d).car.getD j none = none ∧ (led0 d).con.getD j none = none ∧ (led0 d).cre.getD j none = none := fun j => ⟨rep_getD _ _ _, rep_getD _ _ _, rep_getD _ _ _⟩
    refine ⟨by simp, rfl, by simp [led0], by simp [led0], by simp [led0], by simp [led0], by simp [led0], ?_, ?_, ?_, ?_, ?_, ?_, ?_, fun j _ => hz j, ?_⟩
    · intro f i; simp [led0, alook]
    · intro j v hj; omega
    · intro j v hj; omega
    · intro j v hj; omega
    · intro key _; simp [alook]
    · intro key; simp [alook]
    · intro j v hj; omega
    · intro j x h
      obtain ⟨h1, h2, h3⟩ := hz j
      rw [h1, h2, h3] at h
      rcases h with h | h | h <;> simp at h
  | @away k L me v h hv h5 ih =>
    have hk : k < d.revs.length := (List.getElem?_eq_some_iff.1 hv).1
    have hF : ∀ j, (ixL (enterL L k v) (fileOf v) k).fst.getD j 0 = if k = j then -1 else L.fst.getD j 0 := fun j => by
      show (L.fst.set k _).getD j 0 = _
      rw [getD_set _ _ _ _ _ (by rw [ih.lf]; exact hk), if_pos h5]
    have hP : ∀ j, (ixL (enterL L k v) (fileOf v) k).prev.getD j 0 = if k = j then -1 else L.prev.getD j 0 := fun j => by
      show (L.prev.set k _).getD j 0 = _
      rw [getD_set _ _ _ _ _ (by rw [ih.lp]; exact hk), if_pos h5]
    have old : ∀ (j : Nat) (w : Rev), j < k + 1 → d.revs[j]? = some w → ¬ w.act = 5 → j < k := by
      intro j w hj hw h
      by_cases e : j = k
      · subst e; rw [hv] at hw; cases hw; exact absurd h5 h
      · omega
    refine ⟨hk, ih.revs, ?_, ?_, ih.lc, ih.lo, ih.lr, ix_step ih hg hv, ?_, ?_, ?_, ?_, ih.mne, ?_, fun j hj => ih.un j (by omega), ?_⟩
    · simp [ixL, enterL, ih.lp]
    · simp [ixL, enterL, ih.lf]
    · intro j w hj hw w5
      rw [hF]
      by_cases e : k = j
      · subst e
        exact ⟨if_pos rfl, (ih.un k (Nat.le_refl _)).2.1, (ih.un k (Nat.le_refl _)).1⟩
      · rw [if_neg e]; exact ih.f5 j w (by omega) hw w5
    · intro j w hj hw w5
      have := old j w hj hw w5
      rw [hF, if_neg (by omega)]; exact ih.fm j w this hw w5
    · intro j w hj hw w5
      have hj' := old j w hj hw w5
      rw [hP, hF, if_neg (by omega), if_neg (by omega)]
      rcases ih.pm j w hj' hw w5 with ⟨u, w', a1, a2, a3⟩ | h
      · exact .inl ⟨u, w', a1, a2, by rw [hF, if_neg (by omega)]; exact a3⟩
      · exact .inr h
    · intro key hkey
      rw [ih.mem key hkey, List.range_succ, List.filter_append, range_filter_old (l := L.fst) (m := (ixL (enterL L k v) (fileOf v) k).fst) key (fun j hj => by rw [hF, if_neg (by omega)])]
      have : (List.filter (fun j => decide ((ixL (enterL L k v) (fileOf v) k).fst.getD j 0 = key)) [k]) = [] := by
        rw [List.filter_cons, hF, if_pos rfl, if_neg (by simp; omega)]; rfl
      rw [this, List.append_nil]
    · intro j w hj hw w5; exact ih.sets j w (old j w hj hw w5) hw w5
    · intro j x hx; have := ih.bd j x hx; omega
  | @memb k L me v h hv h5 c m cr hA ih =>
    have hk : k < d.revs.length := (List.getElem?_eq_some_iff.1 hv).1
    generalize hL' : ixL (setL (enterL L k v) k c m cr) (fileOf v) k = L'
    have hF : ∀ j, L'.fst.getD j 0 = if k = j then lineOf L k v else L.fst.getD j 0 := fun j => by
      rw [← hL']; show (L.fst.set k _).getD j 0 = _
      rw [getD_set _ _ _ _ _ (by rw [ih.lf]; exact hk), if_neg h5]
    have hP : ∀ j, L'.prev.getD j 0 = if k = j then prevOf L v else L.prev.getD j 0 := fun j => by
      rw [← hL']; show (L.prev.set k _).getD j 0 = _
      rw [getD_set _ _ _ _ _ (by rw [ih.lp]; exact hk), if_neg h5]
    have hC : ∀ j, L'.car.getD j none = if k = j then some c else L.car.getD j none := fun j => by
      rw [← hL']; show (L.car.set k _).getD j none = _
      rw [getD_set _ _ _ _ _ (by rw [ih.lc]; exact hk)]
    have hO : ∀ j, L'.con.getD j none = if k = j then some m else L.con.getD j none := fun j => by
      rw [← hL']; show (L.con.set k _).getD j none = _
      rw [getD_set _ _ _ _ _ (by rw [ih.lo]; exact hk)]
    have hR : ∀ j, L'.cre.getD j none = if k = j then some cr else L.cre.getD j none := fun j => by
      rw [← hL']; show (L.cre.set k _).getD j none = _
      rw [getD_set _ _ _ _ _ (by rw [ih.lr]; exact hk)]
    have hlk := ih.look hg hv h5
    have hln : 0 ≤ lineOf L k v ∧ lineOf L k v ≤ k := by
      rcases hlk with ⟨_, _, h⟩ | ⟨_, u, w, a1, a2, a3, a4, a5, a6, a7, a8, a9⟩
      · simp only [lineOf, h]; omega
      · simp only [lineOf, a7, Int.toNat_natCast]; omega
    refine ⟨hk, ?_, ?_, ?_, ?_, ?_, ?_, ?_, ?_, ?_, ?_, ?_, ?_, ?_, ?_, ?_⟩
    · rw [← hL']; exact ih.revs
    · rw [← hL']; simp [ixL, setL, enterL, ih.lp]
    · rw [← hL']; simp [ixL, setL, enterL, ih.lf]
    · rw [← hL']; simp [ixL, setL, enterL, ih.lc]
    · rw [← hL']; simp [ixL, setL, enterL, ih.lo]
    · rw [← hL']; simp [ixL, setL, enterL, ih.lr]
    · rw [← hL']; exact ix_step ih hg hv
    · intro j w hj hw w5
      have e : ¬ k = j := by rintro rfl; rw [hv] at hw; cases hw; exact h5 w5
      rw [hF, hO, hC, if_neg e, if_neg e, if_neg e]; exact ih.f5 j w (by omega) hw w5
    · intro j w hj hw w5
      rw [hF]
      by_cases e : k = j
      · subst e; rw [if_pos rfl]; exact hln
      · rw [if_neg e]; exact ih.fm j w (by omega) hw w5
    · intro j w hj hw w5
      rw [hF, hP]
      by_cases e : k = j
      · subst e
        rw [hv] at hw; cases hw
        rw [if_pos rfl, if_pos rfl]
        rcases hlk with ⟨h1, _, h⟩ | ⟨h1, u, w, a1, a2, a3, a4, a5, a6, a7, a8, a9⟩
        · exact .inr ⟨h1, by simp only [prevOf, h], by simp only [lineOf, h]⟩
        · refine .inl ⟨u, w, by simp only [prevOf, a7], a1, a2, a3, a4, h1, a5, ?_⟩
          rw [hF, if_neg (by omega)]; simp only [lineOf, a7, Int.toNat_natCast]
      · rw [if_neg e, if_neg e]
        rcases ih.pm j w (by omega) hw w5 with ⟨u, w', a1, a2, a3⟩ | h
        · exact .inl ⟨u, w', a1, a2, by rw [hF, if_neg (by omega)]; exact a3⟩
        · exact .inr h
    · intro key hkey
      rw [List.range_succ, List.filter_append, range_filter_old (l := L.fst) (m := L'.fst) key (fun j hj => by rw [hF, if_neg (by omega)]), List.map_append, ← ih.mem key hkey, pushM, alook_aput]
      by_cases e : key = lineOf L k v
      · subst e
        have : (List.filter (fun j => decide (L'.fst.getD j 0 = lineOf L k v)) [k]) = [k] := by
          rw [List.filter_cons, hF, if_pos rfl, if_pos (by simp)]; rfl
        rw [if_pos rfl, this]; rfl
      · have : (List.filter (fun j => decide (L'.fst.getD j 0 = key)) [k]) = [] := by
          rw [List.filter_cons, hF, if_pos rfl, if_neg (by simp; exact fun h => e h.symm)]; rfl
        rw [if_neg e, this]; simp
    · intro key
      rw [pushM, alook_aput]
      split
      · simp
      · exact ih.mne key
    · intro j w hj hw w5
      rw [hC, hO, hR]
      by_cases e : k = j
      · subst e; exact ⟨c, m, cr, if_pos rfl, if_pos rfl, if_pos rfl⟩
      · rw [if_neg e, if_neg e, if_neg e]; exact ih.sets j w (by omega) hw w5
    · intro j hj
      rw [hC, hO, hR, if_neg (by omega), if_neg (by omega), if_neg (by omega)]; exact ih.un j (by omega)
    · intro j x hx
      rw [hC, hO, hR] at hx
      by_cases e : k = j
      · rw [if_pos e, if_pos e, if_pos e] at hx
        refine acc_bd hA (fun x => 0 ≤ x ∧ x < ((k + 1 : Nat) : Int)) (by omega) ?_ x hx
        intro j x hx
        have := ih.bd j x hx
        omega
      · rw [if_neg e, if_neg e, if_neg e] at hx
        have := ih.bd j x hx
        omega
end Go.Proofs.YtbllfnmabmamfaaGreatDoor

/- The sets of the members, as the document has them; those of the ledger are the same. -/
namespace Go.Proofs.YtbllfnmabmamfaaGreatDoor
open Go.Ab
structure SS where
  car : Fil → Prop
  con : Fil → Prop
  cre : Fil → Prop
def SS0 : SS := ⟨fun _ => False, fun _ => False, fun _ => False⟩
def carS (rs : List Rcd) (A : Fil → SS) (b f g : Fil) : Prop :=
  (A b).car g ∨ (∃ r ∈ rs, (r.how = 1 ∧ (A ⟨r.frm, r.last⟩).car g) ∨ (¬ r.how = 1 ∧ ¬ r.how = 3 ∧ ∃ n, r.first ≤ n ∧ n ≤ r.last ∧ (A ⟨r.frm, n⟩).con g)) ∨ ((rs = [] ∨ ∃ r ∈ rs, r.how = 4) ∧ g = f)
def stepS (rs : List Rcd) (A : Fil → SS) (v : Rev) : SS :=
  ⟨carS rs A (befF v) (fileOf v), fun g => carS rs A (befF v) (fileOf v) g ∧ ¬ (A (befF v)).car g,
   fun g => (A (befF v)).cre g ∨ (∃ r ∈ rs, r.how = 3 ∧ ∃ n, r.first ≤ n ∧ n ≤ r.last ∧ (A ⟨r.frm, n⟩).con g) ∨ carS rs A (befF v) (fileOf v) g⟩
def specA (d : Dep) : Nat → Fil → SS
  | 0 => fun _ => SS0
  | k + 1 =>
    match d.revs[k]? with
    | none => specA d k
    | some v => if v.act = 5 then specA d k else fun f => if f = fileOf v then stepS (intoR d (fileOf v)) (specA d k) v else specA d k f
def fileX (d : Dep) (x : Int) (g : Fil) : Prop := ∃ w, d.revs[x.toNat]? = some w ∧ fileOf w = g
def inL (d : Dep) (L : Led) (s : List (Option (List Int))) (f g : Fil) : Prop := ∃ i x, alook L.index f = some i ∧ x ∈ (s.getD i.toNat none).getD [] ∧ fileX d x g
structure SetRel (d : Dep) (A : Fil → SS) (L : Led) : Prop where
  car : ∀ f g, (A f).car g ↔ inL d L L.car f g
  con : ∀ f g, (A f).con g ↔ inL d L L.con f g
  cre : ∀ f g, (A f).cre g ↔ inL d L L.cre f g
theorem fileX_inj {d : Dep} (hg : Good d.revs) {x y : Int} {g : Fil} (hx : 0 ≤ x) (hy : 0 ≤ y) (h1 : fileX d x g) (h2 : fileX d y g) : x = y := by
  obtain ⟨w, a1, a2⟩ := h1
  obtain ⟨w', b1, b2⟩ := h2
  have := good_file hg a1 b1 (a2.trans b2.symm)
  omega
theorem uni_file {d : Dep} {c : List Int} {s : List (Option (List Int))} (h : Uni c s) (g : Fil) : (∃ x ∈ c, fileX d x g) ↔ ∃ o ∈ s, ∃ x ∈ o.getD [], fileX d x g := by
  constructor
  · rintro ⟨x, hx, hf⟩
    obtain ⟨o, ho, hxo⟩ := (h x).1 hx
    exact ⟨o, ho, x, hxo, hf⟩
  · rintro ⟨o, ho, x, hx, hf⟩
    exact ⟨x, (h x).2 ⟨o, ho, hx⟩, hf⟩
theorem conts_file {d : Dep} (hg : Good d.revs) (hN : d.revs.length ≤ 512) {k : Nat} {L : Led} {me : List (Int × List Int)} (hI : LedInv d k L me) {A : Fil → SS} (hR : SetRel d A L) (r : Rcd) (g : Fil) :
    (∃ o ∈ conts L r, ∃ x ∈ o.getD [], fileX d x g) ↔ ∃ n, r.first ≤ n ∧ n ≤ r.last ∧ (A ⟨r.frm, n⟩).con g := by
  constructor
  · rintro ⟨o, ho, x, hx, hf⟩
    obtain ⟨j, i, h1, h2, h3, h4, h5, rfl⟩ := (mem_conts L r o).1 ho
    exact ⟨j, h1, h3, (hR.con _ _).2 ⟨i, x, h5, hx, hf⟩⟩
  · rintro ⟨n, h1, h2, h3⟩
    obtain ⟨i, x, g1, g2, g3⟩ := (hR.con _ _).1 h3
    obtain ⟨j, w, e1, e2, e3, e4⟩ := (hI.ix _ _).1 g1
    have hn := hg.num j w e3
    have hj := (List.getElem?_eq_some_iff.1 e3).1
    have : w.num = n := by have := congrArg Fil.num e4; simpa [fileOf] using this
    exact ⟨_, (mem_conts L r _).2 ⟨n, i, h1, by omega, h2, by omega, g1, rfl⟩, x, g2, g3⟩
theorem setRel_run {d : Dep} (hg : Good d.revs) (hN : d.revs.length ≤ 512) {k : Nat} {L : Led} {me : List (Int × List Int)} (h : LedRun d k L me) : SetRel d (specA d k) L := by
  induction h with
  | zero => constructor <;> (intro f g; simp [specA, SS0, inL, led0, alook])
  | @away k L me v h hv h5 ih =>
    have hI := h.inv hg
    have hs : specA d (k + 1) = specA d k := by simp only [specA, hv, h5, if_true]
    rw [hs]
    have key : ∀ (s : List (Option (List Int))), s.getD k none = none → ∀ f g, inL d (ixL (enterL L k v) (fileOf v) k) s f g ↔ inL d L s f g := by
      intro s hsk f g
      unfold inL
      show (∃ i x, alook (aput L.index (fileOf v) (k : Int)) f = some i ∧ _) ↔ _
      rw [alook_aput]
      by_cases e : f = fileOf v
      · subst e
        rw [if_pos rfl]
        constructor
        · rintro ⟨i, x, h1, h2, _⟩
          cases h1; rw [Int.toNat_natCast, hsk] at h2; simp at h2
        · rintro ⟨i, x, h1, h2, _⟩
          obtain ⟨j, w, _, g2, g3, g4⟩ := (hI.ix _ _).1 h1
          have := good_file hg g3 hv g4; omega
      · rw [if_neg e]
    obtain ⟨u1, u2, u3⟩ := hI.un k (Nat.le_refl _)
    exact ⟨fun f g => by rw [ih.car, ← key L.car u1]; rfl, fun f g => by rw [ih.con, ← key L.con u2]; rfl, fun f g => by rw [ih.cre, ← key L.cre u3]; rfl⟩
  | @memb k L me v h hv h5 c m cr hA ih =>
    have hI := h.inv hg
    have hk : k < d.revs.length := (List.getElem?_eq_some_iff.1 hv).1
    have hs : specA d (k + 1) = fun f => if f = fileOf v then stepS (intoR d (fileOf v)) (specA d k) v else specA d k f := by simp only [specA, hv, h5, if_false]
    rw [hs]
    generalize specA d k = A at *
    generalize hrs : intoR d (fileOf v) = rs at *
    -- the sets before
    have hbefore : befS (enterL L k v) k = (match alook L.index (befF v) with | some u => L.car.getD u.toNat none | none => none) ∧ knoS (enterL L k v) k = (match alook L.index (befF v) with | some u => L.cre.getD u.toNat none | none => none) := by
      have hp : (enterL L k v).prev.getD k 0 = prevOf L v := by
        show (L.prev.set k _).getD k 0 = _
        rw [getD_set _ _ _ _ _ (by rw [hI.lp]; exact hk), if_neg h5, if_pos rfl]
      rcases hI.look hg hv h5 with ⟨h1, h2, h3⟩ | ⟨h1, u, w, a1, a2, a3, a4, a5, a6, a7, a8, a9⟩
      · rw [befS, knoS, hp, h2]; simp [prevOf, h3]
      · rw [befS, knoS, hp, a6]; simp only [prevOf, a7]
        rw [if_pos (by omega), if_pos (by omega)]; exact ⟨rfl, rfl⟩
    have hbc : ∀ g, (∃ x ∈ (befS (enterL L k v) k).getD [], fileX d x g) ↔ (A (befF v)).car g := by
      intro g
      rw [ih.car, hbefore.1, inL]
      cases alook L.index (befF v) with
      | none => simp
      | some u => simp
    have hbr : ∀ g, (∃ x ∈ (knoS (enterL L k v) k).getD [], fileX d x g) ↔ (A (befF v)).cre g := by
      intro g
      rw [ih.cre, hbefore.2, inL]
      cases alook L.index (befF v) with
      | none => simp
      | some u => simp
    have hcont : ∀ r g, (∃ o ∈ conts (enterL L k v) r, ∃ x ∈ o.getD [], fileX d x g) ↔ ∃ n, r.first ≤ n ∧ n ≤ r.last ∧ (A ⟨r.frm, n⟩).con g := fun r g => by
      have e : conts (enterL L k v) r = conts L r := by
        have : ∀ (n : Nat) (q : Int), contsF (enterL L k v) r.frm q n = contsF L r.frm q n := by
          intro n; induction n with
          | zero => intro q; rfl
          | succ n ihn => intro q; simp only [contsF, ihn]; rfl
        simp only [conts, this]
      rw [e]; exact conts_file hg hN hI ih r g
    have hbd : ∀ x, x ∈ c ∨ x ∈ m ∨ x ∈ cr → 0 ≤ x := acc_bd hA (fun x => 0 ≤ x) (by omega) (fun j x hx => (hI.bd j x hx).1)
    have hbb : ∀ x, x ∈ (befS (enterL L k v) k).getD [] → 0 ≤ x := by
      intro x hx
      unfold befS at hx
      split at hx
      · exact (hI.bd _ x (.inl hx)).1
      · simp at hx
    have hcar : ∀ g, (∃ x ∈ c, fileX d x g) ↔ carS rs A (befF v) (fileOf v) g := by
      intro g
      rw [uni_file hA.car g, carS]
      constructor
      · rintro ⟨o, ho, x, hx, hf⟩
        rcases (mem_accCar _ k rs o).1 ho with rfl | ⟨r, hr, ⟨r1, i, ri, rfl⟩ | ⟨r1, r3, ho⟩⟩ | ⟨hor, rfl⟩
        · exact .inl ((hbc g).1 ⟨x, hx, hf⟩)
        · exact .inr (.inl ⟨r, hr, .inl ⟨r1, (ih.car _ _).2 ⟨i, x, ri, hx, hf⟩⟩⟩)
        · exact .inr (.inl ⟨r, hr, .inr ⟨r1, r3, (hcont r g).1 ⟨o, ho, x, hx, hf⟩⟩⟩)
        · simp at hx; subst hx
          obtain ⟨w, hw, e⟩ := hf
          rw [Int.toNat_natCast, hv] at hw; cases hw
          exact .inr (.inr ⟨hor, e.symm⟩)
      · rintro (hb | ⟨r, hr, ⟨r1, hc⟩ | ⟨r1, r3, hc⟩⟩ | ⟨hor, rfl⟩)
        · obtain ⟨x, hx, hf⟩ := (hbc g).2 hb
          exact ⟨_, (mem_accCar _ k rs _).2 (.inl rfl), x, hx, hf⟩
        · obtain ⟨i, x, h1, h2, h3⟩ := (ih.car _ _).1 hc
          exact ⟨_, (mem_accCar _ k rs _).2 (.inr (.inl ⟨r, hr, .inl ⟨r1, i, h1, rfl⟩⟩)), x, h2, h3⟩
        · obtain ⟨o, ho, x, hx, hf⟩ := (hcont r g).2 hc
          exact ⟨o, (mem_accCar _ k rs _).2 (.inr (.inl ⟨r, hr, .inr ⟨r1, r3, ho⟩⟩)), x, hx, hf⟩
        · exact ⟨_, (mem_accCar _ k rs _).2 (.inr (.inr ⟨hor, rfl⟩)), k, by simp, v, by rw [Int.toNat_natCast]; exact hv, rfl⟩
    have hcon : ∀ g, (∃ x ∈ m, fileX d x g) ↔ carS rs A (befF v) (fileOf v) g ∧ ¬ (A (befF v)).car g := by
      intro g
      rw [← hcar g, ← hbc g]
      constructor
      · rintro ⟨x, hx, hf⟩
        obtain ⟨h1, h2⟩ := (hA.con x).1 hx
        refine ⟨⟨x, h1, hf⟩, ?_⟩
        rintro ⟨y, hy, hfy⟩
        have := fileX_inj hg (hbd x (.inl h1)) (hbb y hy) hf hfy
        subst this; exact h2 hy
      · rintro ⟨⟨x, hx, hf⟩, hn⟩
        exact ⟨x, (hA.con x).2 ⟨hx, fun h => hn ⟨x, h, hf⟩⟩, hf⟩
    have hcre : ∀ g, (∃ x ∈ cr, fileX d x g) ↔ (A (befF v)).cre g ∨ (∃ r ∈ rs, r.how = 3 ∧ ∃ n, r.first ≤ n ∧ n ≤ r.last ∧ (A ⟨r.frm, n⟩).con g) ∨ carS rs A (befF v) (fileOf v) g := by
      intro g
      rw [uni_file hA.cre g]
      constructor
      · rintro ⟨o, ho, x, hx, hf⟩
        rcases List.mem_append.1 ho with ho | ho
        · rcases (mem_accIgn _ k rs o).1 ho with rfl | ⟨r, hr, r3, ho⟩
          · exact .inl ((hbr g).1 ⟨x, hx, hf⟩)
          · exact .inr (.inl ⟨r, hr, r3, (hcont r g).1 ⟨o, ho, x, hx, hf⟩⟩)
        · simp at ho; subst ho
          exact .inr (.inr ((hcar g).1 ⟨x, hx, hf⟩))
      · rintro (hb | ⟨r, hr, r3, hc⟩ | hc)
        · obtain ⟨x, hx, hf⟩ := (hbr g).2 hb
          exact ⟨_, List.mem_append.2 (.inl ((mem_accIgn _ k rs _).2 (.inl rfl))), x, hx, hf⟩
        · obtain ⟨o, ho, x, hx, hf⟩ := (hcont r g).2 hc
          exact ⟨o, List.mem_append.2 (.inl ((mem_accIgn _ k rs _).2 (.inr ⟨r, hr, r3, ho⟩))), x, hx, hf⟩
        · obtain ⟨x, hx, hf⟩ := (hcar g).2 hc
          exact ⟨some c, List.mem_append.2 (.inr (by simp)), x, hx, hf⟩
    have key : ∀ (s : List (Option (List Int))) (n : List Int) (B B' : Fil → Fil → Prop), s.length = d.revs.length → (∀ f g, B f g ↔ inL d L s f g) → (∀ g, (∃ x ∈ n, fileX d x g) ↔ B' (fileOf v) g) → (∀ f g, ¬ f = fileOf v → (B' f g ↔ B f g)) →
        ∀ f g, B' f g ↔ inL d (ixL (setL (enterL L k v) k c m cr) (fileOf v) k) (s.set k (some n)) f g := by
      intro s n B B' hl hB hn hB' f g
      unfold inL
      show _ ↔ ∃ i x, alook (aput L.index (fileOf v) (k : Int)) f = some i ∧ _
      rw [alook_aput]
      by_cases e : f = fileOf v
      · subst e
        rw [if_pos rfl, ← hn g]
        constructor
        · rintro ⟨x, hx, hf⟩
          exact ⟨k, x, rfl, by rw [Int.toNat_natCast, getD_set _ _ _ _ _ (by omega), if_pos rfl]; exact hx, hf⟩
        · rintro ⟨i, x, h1, h2, h3⟩
          cases h1
          rw [Int.toNat_natCast, getD_set _ _ _ _ _ (by omega), if_pos rfl] at h2
          exact ⟨x, h2, h3⟩
      · rw [if_neg e, hB' f g e, hB, inL]
        constructor
        · rintro ⟨i, x, h1, h2, h3⟩
          obtain ⟨j, w, rfl, g2, _⟩ := (hI.ix _ _).1 h1
          exact ⟨j, x, h1, by rw [Int.toNat_natCast, getD_set _ _ _ _ _ (by omega), if_neg (by omega)]; simpa using h2, h3⟩
        · rintro ⟨i, x, h1, h2, h3⟩
          obtain ⟨j, w, rfl, g2, _⟩ := (hI.ix _ _).1 h1
          rw [Int.toNat_natCast, getD_set _ _ _ _ _ (by omega), if_neg (by omega)] at h2
          exact ⟨j, x, h1, by simpa using h2, h3⟩
    refine ⟨?_, ?_, ?_⟩
    · exact key L.car c (fun f g => (A f).car g) _ hI.lc ih.car (fun g => by rw [if_pos rfl]; exact hcar g) (fun f g e => by rw [if_neg e])
    · exact key L.con m (fun f g => (A f).con g) _ hI.lo ih.con (fun g => by rw [if_pos rfl]; exact hcon g) (fun f g e => by rw [if_neg e])
    · exact key L.cre cr (fun f g => (A f).cre g) _ hI.lr ih.cre (fun g => by rw [if_pos rfl]; exact hcre g) (fun f g e => by rw [if_neg e])
end Go.Proofs.YtbllfnmabmamfaaGreatDoor

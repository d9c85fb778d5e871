/- A part of the proof. -/
import Derived.Test.YtbllfnmabmamfaaGreatDoorRW5
import Derived.Test.YtbllfnmabmamfaaGreatDoorQU11
import Derived.Test.YtbllfnmabmamfaaGreatDoorRW8
import Derived.Test.YtbllfnmabmamfaaGreatDoorRP17
import Derived.Test.YtbllfnmabmamfaaGreatDoorQP12
import Derived.Sort.Statements
set_option linter.all false
namespace Go.Proofs.YtbllfnmabmamfaaGreatDoor
open Go.Ab
def PathOK (d : Dep) : Prop := ∀ v ∈ d.revs, (path? v.path).isSome = true ∧ v.path.size ≤ 100000
theorem Built.paths {l : List Chg} {d : Dep} (h : Built l d) : PathOK d := by
  induction h with
  | nil => intro r hr; simp [zDep] at hr
  | skip c h ih => exact ih
  | @app l d c h hc hk ih =>
    intro v hv
    simp only [appD, List.mem_append, List.mem_map] at hv
    rcases hv with hv | ⟨e, he, rfl⟩
    · exact ih v hv
    · obtain ⟨i, hi, rfl⟩ := List.mem_iff_getElem.1 he
      have h0 := (hk.edit i hi).okPath
      rw [show c.edits.getD i zEdt = c.edits[i] by simp [List.getD, hi]] at h0
      exact ⟨h0, hc.1 _ he⟩
theorem spec_file {d : Dep} : ∀ (k : Nat) (f g : Fil), ((specA d k f).car g ∨ (specA d k f).con g ∨ (specA d k f).cre g) → ∃ u ∈ d.revs, fileOf u = g
  | 0, f, g, h => by simp [specA, SS0] at h
  | k + 1, f, g, h => by
    have ih := spec_file (d := d) k
    cases hv : d.revs[k]? with
    | none => simp only [specA, hv] at h; exact ih f g h
    | some v =>
      simp only [specA, hv] at h
      by_cases h5 : v.act = 5
      · rw [if_pos h5] at h; exact ih f g h
      · rw [if_neg h5] at h
        by_cases e : f = fileOf v
        · rw [if_pos e] at h
          have hc : carS (intoR d (fileOf v)) (specA d k) (befF v) (fileOf v) g → ∃ u ∈ d.revs, fileOf u = g := by
            rintro (h | ⟨r, _, ⟨_, h⟩ | ⟨_, _, n, _, _, h⟩⟩ | ⟨_, rfl⟩)
            · exact ih _ _ (.inl h)
            · exact ih _ _ (.inl h)
            · exact ih _ _ (.inr (.inl h))
            · exact ⟨v, List.mem_of_getElem? hv, rfl⟩
          rcases h with h | ⟨h, _⟩ | h | ⟨r, _, _, n, _, _, h⟩ | h
          · exact hc h
          · exact hc h
          · exact ih _ _ (.inr (.inr h))
          · exact ih _ _ (.inr (.inl h))
          · exact hc h
        · rw [if_neg e] at h; exact ih f g h
theorem SA_file {d : Dep} (f g : Fil) (h : (SA d f).car g ∨ (SA d f).con g ∨ (SA d f).cre g) : ∃ u ∈ d.revs, fileOf u = g := spec_file _ f g h
section
variable {d : Dep} (hg : Good d.revs) (hN : d.revs.length ≤ 512)
include hg hN
theorem prevM_one {v : Rev} (h1 : v.act = 1) : prevM (memL d.revs) v = none := by simp [prevM, h1]
theorem prevM_some {i : Nat} {v : Rev} (hv : d.revs[i]? = some v) (h1 : ¬ v.act = 1) : ∃ j u, j < i ∧ d.revs[j]? = some u ∧ ¬ u.act = 5 ∧ prevM (memL d.revs) v = some u ∧ befF v = fileOf u := by
  obtain ⟨j, u, j1, j2, j3, j4⟩ := bef_ex hg hN hv h1
  refine ⟨j, u, j1, j2, j4, ?_, j3⟩
  rw [prevM, if_neg h1, j3]
  exact alook_memL_get hg j2 j4
def cmB (l : List Rev) : Nat := (l.filter isM).length
omit hg hN in
theorem cmB_lt {l : List Rev} {i j : Nat} {u : Rev} (hu : l[j]? = some u) (h5 : ¬ u.act = 5) (hj : j < i) : cmB (l.take j) + 1 ≤ cmB (l.take i) := by
  have hl := (List.getElem?_eq_some_iff.1 hu).1
  have e1 : l.take (j + 1) = l.take j ++ [u] := by
    rw [List.take_add_one, hu]; rfl
  have h1 : cmB (l.take (j + 1)) = cmB (l.take j) + 1 := by
    rw [e1]; simp [cmB, List.filter_append, isM, h5]
  have h2 : cmB (l.take (j + 1)) ≤ cmB (l.take i) := by
    have e2 : l.take (j + 1) = (l.take i).take (j + 1) := by rw [List.take_take, Nat.min_eq_left (by omega)]
    rw [e2]
    exact ((List.take_sublist _ _).filter _).length_le
  omega
theorem lst_first : ∀ (n i : Nat) (v : Rev), d.revs[i]? = some v → ¬ v.act = 5 → cmB (d.revs.take i) ≤ n → fileOf (lst (memL d.revs) n v) = first d v
  | n, i, v, hv, h5, hn => by
    by_cases h1 : v.act = 1
    · rw [lst_none (prevM_one hg hN h1)]
      exact (first_none (by simp [prev?, h1])).symm
    · obtain ⟨j, u, j1, j2, j4, j5, j3⟩ := prevM_some hg hN hv h1
      have hc := cmB_lt (i := i) j2 j4 j1
      obtain ⟨f1, _⟩ := first_next hg hN hv j2 h5 h1 j3
      cases n with
      | zero => omega
      | succ n =>
        rw [lst, j5, f1]
        exact lst_first n j u j2 j4 (by omega)
theorem idM_first {i : Nat} {v : Rev} (hv : d.revs[i]? = some v) (h5 : ¬ v.act = 5) : idM (memL d.revs) (fileOf v) = some (first d v) := by
  rw [idM, alook_memL_get hg hv h5]
  simp only [Option.map_some]
  rw [lst_first hg hN _ i v hv h5]
  have h0 := cmB_lt (i := d.revs.length) hv h5 (List.getElem?_eq_some_iff.1 hv).1
  rw [List.take_length] at h0
  have : (memL d.revs).length = cmB d.revs := by simp [memL, cmB]
  omega
end
end Go.Proofs.YtbllfnmabmamfaaGreatDoor
namespace Go.Proofs.YtbllfnmabmamfaaGreatDoor
open Go.Ab
section
variable {d : Dep} (hg : Good d.revs) (hN : d.revs.length ≤ 512)
include hg hN
theorem line_after {f : Fil} {iv : Nat} {v : Rev} (hv : d.revs[iv]? = some v) (hf : fileOf v = f) : ∀ (n i : Nat) (u : Rev), i < n → d.revs[i]? = some u → ¬ u.act = 5 → first d u = f → iv ≤ i
  | 0, i, u, h, _, _, _ => by omega
  | n + 1, i, u, h, hu, u5, e => by
    by_cases u1 : u.act = 1
    · have e1 : fileOf u = fileOf v := by rw [first_none (prev?_one u1)] at e; rw [e, hf]
      have := good_file hg hu hv e1
      omega
    · obtain ⟨j, w, hj, hw, ew, w5⟩ := bef_ex hg hN hu u1
      have := line_after hv hf n j w (by omega) hw w5 (by rw [← (first_next hg hN hu hw u5 u1 ew).1]; exact e)
      omega
theorem lnP_line (f : Fil) : lnP d f = d.revs.filter fun u => decide (¬ u.act = 5 ∧ first d u = f) := by
  have hmem := fun u => lnP_mem hg hN (f := f) (u := u)
  have hnil : lnP d f = [] → d.revs.filter (fun u => decide (¬ u.act = 5 ∧ first d u = f)) = [] := by
    intro h
    rw [List.filter_eq_nil_iff]
    intro u hu hp
    simp only [decide_eq_true_eq] at hp
    have := (hmem u).2 ⟨hu, hp.1, hp.2⟩
    rw [h] at this; cases this
  cases hgt : get? d f.path f.num with
  | none =>
    have : lnP d f = [] := by simp [lnP, hgt]
    rw [this, hnil this]
  | some v =>
    by_cases v1 : v.act = 1
    · obtain ⟨iv, hv, ev⟩ := (get?_iff hg).1 hgt
      have hvl := (List.getElem?_eq_some_iff.1 hv).1
      have ht := ln_take hg hN hv ev v1 d.revs.length (Nat.le_refl _)
      rw [List.take_length] at ht
      have hl : lnP d f = v :: d.revs.filter (inLn d f) := by simp only [lnP, hgt, v1, if_true]; exact ht
      have hsplit : d.revs = d.revs.take iv ++ v :: d.revs.drop (iv + 1) := by
        conv => lhs; rw [← List.take_append_drop iv d.revs]
        congr 1
        rw [List.drop_eq_getElem_cons hvl]
        congr 1
        exact (List.getElem?_eq_some_iff.1 hv).2
      have hbef : ∀ u ∈ d.revs.take iv, ¬ (¬ u.act = 5 ∧ first d u = f) := by
        rintro u hu ⟨u5, e⟩
        obtain ⟨i, hi⟩ := List.getElem?_of_mem hu
        have hil : i < iv := by have := (List.getElem?_eq_some_iff.1 hi).1; simp at this; omega
        rw [List.getElem?_take, if_pos hil] at hi
        have := line_after hg hN hv ev (i + 1) i u (by omega) hi u5 e
        omega
      have hself : ¬ v.act = 5 ∧ first d v = f := ⟨by omega, by rw [first_none (prev?_one v1)]; exact ev⟩
      rw [hl]
      rw [hsplit, List.filter_append, List.filter_append, List.filter_cons, List.filter_cons]
      have f1 : (d.revs.take iv).filter (inLn d f) = [] := by
        rw [List.filter_eq_nil_iff]
        intro u hu h
        simp only [inLn, decide_eq_true_eq] at h
        exact hbef u hu ⟨h.1, h.2.2⟩
      have f2 : (d.revs.take iv).filter (fun u => decide (¬ u.act = 5 ∧ first d u = f)) = [] := by
        rw [List.filter_eq_nil_iff]
        intro u hu h
        simp only [decide_eq_true_eq] at h
        exact hbef u hu h
      have f3 : inLn d f v = false := by simp [inLn, v1]
      have f4 : decide (¬ v.act = 5 ∧ first d v = f) = true := decide_eq_true hself
      have f5 : (d.revs.drop (iv + 1)).filter (inLn d f) = (d.revs.drop (iv + 1)).filter fun u => decide (¬ u.act = 5 ∧ first d u = f) := by
        apply List.filter_congr
        intro u hu
        obtain ⟨i, hi⟩ := List.getElem?_of_mem hu
        rw [List.getElem?_drop] at hi
        rw [Bool.eq_iff_iff]
        simp only [inLn, decide_eq_true_eq]
        refine ⟨fun h => ⟨h.1, h.2.2⟩, fun h => ⟨h.1, fun u1 => ?_, h.2⟩⟩
        have e1 : fileOf u = fileOf v := by have := h.2; rw [first_none (prev?_one u1)] at this; rw [this, ev]
        have := good_file hg hi hv e1
        omega
      rw [f1, f2, f3, f4, f5]
      simp
    · have : lnP d f = [] := by simp [lnP, hgt, v1]
      rw [this, hnil this]
theorem line_chg {i j : Nat} {u w : Rev} (hij : i < j) (hu : d.revs[i]? = some u) (hw : d.revs[j]? = some w) (u5 : ¬ u.act = 5) (w5 : ¬ w.act = 5) (hf : first d u = first d w) : u.chg < w.chg := by
  obtain ⟨k, x, k1, k2, hx, x5, ex, fx⟩ := line_prev hg hN hij hu hw u5 w5 hf
  have w1 : ¬ w.act = 1 := by
    intro w1
    have : befF w = zFil := by simp [befF, w1]
    rw [this] at ex
    have := hg.num k x hx
    have h0 : x.num = 0 := congrArg Fil.num ex
    omega
  have h1 : u.chg ≤ x.chg := by
    rcases Nat.lt_or_ge i k with h | h
    · exact hg.chg i k u x h hu hx
    · have : i = k := by omega
      subst this; rw [hu] at hx; cases hx; omega
  have h2 : x.chg < w.chg := by
    by_cases h4 : w.act = 4
    · obtain ⟨m, y, m1, m2, m3, m5, _, _, m6⟩ := hg.mov j w hw h4
      have e : fileOf y = fileOf x := by rw [ex]; simp [befF, h4, fileOf, m3, m5]
      have := good_file hg m2 hx e
      subst this; rw [m2] at hx; cases hx; exact m6
    · obtain ⟨m, y, m1, m2, m3, m5, _, _, m6⟩ := hg.prv j w hw w1 h4
      have e : fileOf y = fileOf x := by rw [ex]; simp [befF, h4, w1, fileOf, m3, m5]
      have := good_file hg m2 hx e
      subst this; rw [m2] at hx; cases hx; exact m6
  omega
theorem line_pair (f : Fil) : (lnP d f).Pairwise fun u w => u.chg < w.chg := by
  rw [lnP_line hg hN]
  have h0 : d.revs.Pairwise fun u w => ¬ u.act = 5 → ¬ w.act = 5 → first d u = first d w → u.chg < w.chg :=
    List.pairwise_iff_getElem.2 fun i j hi hj hij u5 w5 e => line_chg hg hN hij (List.getElem?_eq_getElem hi) (List.getElem?_eq_getElem hj) u5 w5 e
  refine (h0.filter _).imp_of_mem ?_
  intro u w hu hw h
  have h1 := (List.mem_filter.1 hu).2
  have h2 := (List.mem_filter.1 hw).2
  simp only [decide_eq_true_eq] at h1 h2
  exact h h1.1 h2.1 (h1.2.trans h2.2.symm)
end
end Go.Proofs.YtbllfnmabmamfaaGreatDoor
namespace Go.Proofs.YtbllfnmabmamfaaGreatDoor
open Go.Ab
structure Cmp {α : Type} (c : α → α → Int) : Prop where
  refl : ∀ x, c x x = 0
  neg : ∀ x y, c x y < 0 → 0 < c y x
  pos : ∀ x y, 0 < c x y → c y x < 0
  eql : ∀ x y z, c x y = 0 → c x z = c y z
  eqr : ∀ x y z, c x y = 0 → c z x = c z y
  trans : ∀ x y z, c x y < 0 → c y z < 0 → c x z < 0
theorem Cmp.lex {α : Type} {c e : α → α → Int} (hc : Cmp c) (he : Cmp e) : Cmp fun x y => if c x y = 0 then e x y else c x y where
  refl x := by simp only [hc.refl, if_true]; exact he.refl x
  neg x y h := by
    try simp only at h ⊢
    by_cases h0 : c x y = 0
    · have : c y x = 0 := by rw [← hc.eql x y x h0]; exact hc.refl x
      rw [if_pos h0] at h; rw [if_pos this]; exact he.neg x y h
    · rw [if_neg h0] at h
      have := hc.neg x y h
      rw [if_neg (by omega)]; exact this
  pos x y h := by
    try simp only at h ⊢
    by_cases h0 : c x y = 0
    · have : c y x = 0 := by rw [← hc.eql x y x h0]; exact hc.refl x
      rw [if_pos h0] at h; rw [if_pos this]; exact he.pos x y h
    · rw [if_neg h0] at h
      have := hc.pos x y h
      rw [if_neg (by omega)]; exact this
  eql x y z h := by
    try simp only at h ⊢
    by_cases h0 : c x y = 0
    · rw [if_pos h0] at h; rw [hc.eql x y z h0, he.eql x y z h]
    · rw [if_neg h0] at h; exact absurd h h0
  eqr x y z h := by
    try simp only at h ⊢
    by_cases h0 : c x y = 0
    · rw [if_pos h0] at h; rw [hc.eqr x y z h0, he.eqr x y z h]
    · rw [if_neg h0] at h; exact absurd h h0
  trans x y z h1 h2 := by
    try simp only at h1 h2 ⊢
    by_cases a : c x y = 0
    · rw [if_pos a] at h1
      rw [hc.eql x y z a]
      by_cases b : c y z = 0
      · rw [if_pos b] at h2 ⊢; exact he.trans x y z h1 h2
      · rw [if_neg b] at h2 ⊢; exact h2
    · rw [if_neg a] at h1
      by_cases b : c y z = 0
      · rw [← hc.eqr y z x b, if_neg a]; exact h1
      · rw [if_neg b] at h2
        have := hc.trans x y z h1 h2
        rw [if_neg (by omega)]; exact this
theorem Cmp.on {α β : Type} {c : β → β → Int} (h : Cmp c) (f : α → β) : Cmp fun x y => c (f x) (f y) :=
  ⟨fun x => h.refl _, fun x y => h.neg _ _, fun x y => h.pos _ _, fun x y z => h.eql _ _ _, fun x y z => h.eqr _ _ _, fun x y z => h.trans _ _ _⟩
theorem Cmp.of {α : Type} {c : α → α → Int} (refl : ∀ x, c x x = 0) (neg : ∀ x y, c x y < 0 → 0 < c y x) (pos : ∀ x y, 0 < c x y → c y x < 0) (eq : ∀ x y, c x y = 0 → x = y) (trans : ∀ x y z, c x y < 0 → c y z < 0 → c x z < 0) : Cmp c :=
  ⟨refl, neg, pos, fun x y z h => by rw [eq x y h], fun x y z h => by rw [eq x y h], trans⟩
theorem cbl_neg : ∀ l m : List UInt8, (Lib.compareBytes l m < 0 → 0 < Lib.compareBytes m l) ∧ (0 < Lib.compareBytes l m → Lib.compareBytes m l < 0)
  | [], [] => by simp [Lib.compareBytes]
  | [], _ :: _ => by simp [Lib.compareBytes]
  | _ :: _, [] => by simp [Lib.compareBytes]
  | a :: l, b :: m => by
    have ih := cbl_neg l m
    simp only [Lib.compareBytes, UInt8.lt_iff_toNat_lt]
    by_cases h1 : a.toNat < b.toNat
    · rw [if_pos h1, if_neg (by omega), if_pos h1]; omega
    · rw [if_neg h1]
      by_cases h2 : b.toNat < a.toNat
      · rw [if_pos h2, if_pos h2]; omega
      · rw [if_neg h2, if_neg h2, if_neg h1]; exact ih
theorem cmp_cb : Cmp cb := Cmp.of cb_refl (fun x y => (cbl_neg _ _).1) (fun x y => (cbl_neg _ _).2) (fun x y => cb_eq) (fun x y z => cb_trans)
theorem cmpL_eq : ∀ l m : List ByteArray, cmpL l m = 0 → l = m
  | [], [], _ => rfl
  | [], _ :: _, h => by simp [cmpL] at h
  | _ :: _, [], h => by simp [cmpL] at h
  | a :: l, b :: m, h => by
    rw [cmpL] at h
    by_cases e : cb a b = 0
    · rw [if_pos e] at h; rw [cb_eq e, cmpL_eq l m h]
    · rw [if_neg e] at h; exact absurd h e
theorem cmpL_neg : ∀ l m : List ByteArray, (cmpL l m < 0 → 0 < cmpL m l) ∧ (0 < cmpL l m → cmpL m l < 0)
  | [], [] => by simp [cmpL]
  | [], _ :: _ => by simp [cmpL]
  | _ :: _, [] => by simp [cmpL]
  | a :: l, b :: m => by
    have ih := cmpL_neg l m
    simp only [cmpL]
    by_cases e : cb a b = 0
    · have := cb_eq e; subst this
      rw [if_pos e, if_pos e]; exact ih
    · have e2 : ¬ cb b a = 0 := fun h => e (by rw [cb_eq h]; exact cb_refl _)
      rw [if_neg e, if_neg e2]
      exact ⟨cmp_cb.neg a b, cmp_cb.pos a b⟩
theorem cmp_cmpL : Cmp cmpL := Cmp.of cmpL_refl (fun x y => (cmpL_neg x y).1) (fun x y => (cmpL_neg x y).2) cmpL_eq cmpL_trans
theorem cmp_int : Cmp cmpI := by
  refine Cmp.of ?_ ?_ ?_ ?_ ?_ <;> intros <;> simp only [cmpI] at * <;> (repeat' split at *) <;> omega
abbrev Pth := { p : ByteArray // (path? p).isSome = true }
theorem cmp_ord : Cmp fun p q : Pth => ord p.1 q.1 := by
  have h := cmp_cmpL.on fun p : Pth => (path? p.1).get p.2
  have e : (fun p q : Pth => ord p.1 q.1) = fun p q : Pth => cmpL ((path? p.1).get p.2) ((path? q.1).get q.2) := by
    funext p q
    obtain ⟨a, b, ea, eb, e1⟩ := ord_path p.2 q.2
    rw [e1]
    congr 1
    · simp [ea]
    · simp [eb]
  rw [e]; exact h
end Go.Proofs.YtbllfnmabmamfaaGreatDoor
namespace Go.Proofs.YtbllfnmabmamfaaGreatDoor
open Go.Ab
theorem Cmp.swo {α : Type} [Inhabited α] {c : α → α → Int} (h : Cmp c) : Go.Sort.SWO fun x y => decide (c x y < 0) where
  irrefl x := by simp [h.refl x]
  trans x y z h1 h2 := by
    simp only [decide_eq_true_eq] at h1 h2 ⊢
    exact h.trans x y z h1 h2
  ntrans x y z h1 h2 := by
    simp only [decide_eq_false_iff_not] at h1 h2 ⊢
    intro h3
    by_cases e : c x y = 0
    · rw [h.eql x y z e] at h3; exact h2 h3
    · exact h2 (h.trans y x z (h.pos x y (by omega)) h3)
abbrev PFil := { f : Fil // (path? f.path).isSome = true }
def pth (f : PFil) : Pth := ⟨f.1.path, f.2⟩
def cfF (x y : PFil) : Int := if ord x.1.path y.1.path = 0 then if cb x.1.path y.1.path = 0 then cmpI x.1.num y.1.num else cb x.1.path y.1.path else ord x.1.path y.1.path
theorem cmp_cfF : Cmp cfF := (cmp_ord.on pth).lex ((cmp_cb.on fun f : PFil => f.1.path).lex (cmp_int.on fun f : PFil => f.1.num))
end Go.Proofs.YtbllfnmabmamfaaGreatDoor

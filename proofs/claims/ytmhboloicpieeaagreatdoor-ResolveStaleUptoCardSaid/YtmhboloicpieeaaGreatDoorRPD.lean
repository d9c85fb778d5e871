/- A part of the proof. -/
import Derived.Test.YtmhboloicpieeaaGreatDoorRBd
import Derived.Test.YtmhboloicpieeaaGreatDoorRAbDl
set_option linter.all false
namespace Go.Proofs.YtmhboloicpieeaaGreatDoor.Tys
open Go.Ab Go.Proofs
end Go.Proofs.YtmhboloicpieeaaGreatDoor.Tys
set_option linter.all false
namespace Go.Proofs.YtmhboloicpieeaaGreatDoor
open Go.Ab Tys
section
variable [Dr] {P : Program} {x : X} {s s' : S} {Q : Exit → S → Prop} {ops l l' : List Oper}
structure Hid (G : Prop) : Prop where
 out : G
theorem nvA {G G' : Prop} (g : G') (h : G' → G := by intro h9; (repeat (with_reducible first | refine na ?_ | refine nb ?_ | refine nc ?_ | refine nd ?_ | refine ne ?_ | refine nf ?_ | refine ng ?_ | refine nh ?_ | refine ni ?_ | refine nj ?_ | refine nk ?_ | refine nl ?_ | refine nm (by decide) ?_ | refine nn ?_)); exact h9) : G := h g
theorem nvB {G G' : Prop} (g : G') (h : G' → G := by intro h9; (with_reducible first | refine na ?_ | refine nb ?_ | refine nc ?_ | refine nd ?_ | refine ne ?_ | refine nf ?_ | refine ng ?_ | refine nh ?_ | refine ni ?_ | refine nj ?_ | refine nk ?_ | refine nl ?_ | refine nm (by decide) ?_ | refine nn ?_); (repeat (with_reducible first | refine na ?_ | refine nb ?_ | refine nc ?_ | refine nd ?_ | refine ne ?_ | refine nf ?_ | refine ng ?_ | refine nh ?_ | refine ni ?_ | refine nj ?_ | refine nk ?_ | refine nl ?_ | refine nm (by decide) ?_ | refine nn ?_)); exact h9) : G := h g
theorem fzA {G G' : Prop} (g : G') (h : G' → G := by intro h9; simp only [Ab.put, Nat.reduceEqDiff, ↓reduceIte, reduceCtorEq, if_false, if_true]; exact h9) : G := h g
theorem goA {wr : Bool} {ps : List Prop} (h : run1 P wr ops 400 l s = some (s', ps, l')) (hk : TO P x ops l' s' Q) (ho : All ps := by first | exact trivial | (simp only [kO]; omega) | (simp [All, InR]; first | done | omega) | (simp +contextual [All, InR]; first | done | grind)) : TO P x ops l s Q := TO_go 400 h ho hk
theorem ifA {c : Operand} {d d' : Code} {b : Bool} (h1 : b = true → T P x d s Q) (h2 : b = false → T P x d' s Q) (hc : ev s c = some (B b) := by simp only [kV, ↓reduceIte, Nat.reduceEqDiff, reduceCtorEq]; first | done | rfl) : T P x (.cond c d d') s Q := T_cond hc h1 h2
theorem enA (hn : s'.n = s.n := by rfl) (he : ∀ p ∈ s'.env, get s.env p.1 = some (renAV (fun i => i) p.2) ∧ clAV (domOf s'.st) p.2 := by first | (simp only [kE, dArr, clPs, clEnv, clCaps, clCap, ↓reduceIte, Nat.reduceEqDiff, reduceCtorEq]; done) | simp [renAV_id, renAO_id, flat_up, Ab.get, clAV, clC, clCs, clPs, clEnv, clCaps, clCap, clAO, clCs_append, cl_f1, cl_s1, cl_f2, cl_s2, cl_a1, domOf, List.flatten]) (h1 : ∀ p ∈ s'.st, get s.st ((fun i => i) p.1) = some (renAO (fun i => i) p.2) := by first | (simp only [kE, dArr, clPs, clEnv, clCaps, clCap, ↓reduceIte, Nat.reduceEqDiff, reduceCtorEq]; done) | simp [renAV_id, renAO_id, flat_up, Ab.get, clAV, clC, clCs, clPs, clEnv, clCaps, clCap, clAO, clCs_append, cl_f1, cl_s1, cl_f2, cl_s2, cl_a1, domOf, List.flatten]) (h2 : (s'.st.map fun p => (fun i => i) p.1).Nodup := by first | (simp only [kE, dArr, clPs, clEnv, clCaps, clCap, ↓reduceIte, Nat.reduceEqDiff, reduceCtorEq]; done) | simp [renAV_id, renAO_id, flat_up, Ab.get, clAV, clC, clCs, clPs, clEnv, clCaps, clCap, clAO, clCs_append, cl_f1, cl_s1, cl_f2, cl_s2, cl_a1, domOf, List.flatten])
  (h3 : ∀ p ∈ s'.st, clAO (domOf s'.st) p.2 := by first | (simp only [kE, dArr, clPs, clEnv, clCaps, clCap, ↓reduceIte, Nat.reduceEqDiff, reduceCtorEq]; done) | simp [renAV_id, renAO_id, flat_up, Ab.get, clAV, clC, clCs, clPs, clEnv, clCaps, clCap, clAO, clCs_append, cl_f1, cl_s1, cl_f2, cl_s2, cl_a1, domOf, List.flatten]) (h4 : ∀ id, x.d0 id → domOf s'.st id = true ∧ id = id := by exact keepI (by assumption) (by simp [domOf, Ab.get])) : Ent x s s' := Ent_sub (fun i => i) hn he ⟨h1, h2, h3, h4⟩
theorem enR (ρ : Nat → Nat) (hn : s'.n = s.n := by rfl) (he : ∀ p ∈ s'.env, get s.env p.1 = some (renAV ρ p.2) ∧ clAV (domOf s'.st) p.2 := by first | (simp only [kE, dArr, ↓reduceIte, Nat.reduceEqDiff, reduceCtorEq]; done) | (simp only [dArr, ren_arr, ren_map, List.mem_cons, List.not_mem_nil, or_false, forall_eq_or_imp, forall_eq]; simp [renAV, renC, renAO, ren_up, flat_up, Ab.get, clAV, clC, clCs, clPs, clEnv, clCaps, clCap, clCs_append, ren_up1, clAO, cl_f1, cl_s1, cl_f2, cl_s2, cl_a1, domOf, List.flatten]; done) | simp [renAV, renC, renAO, ren_up, flat_up, Ab.get, clAV, clC, clCs, clPs, clEnv, clCaps, clCap, clCs_append, ren_up1, clAO, cl_f1, cl_s1, cl_f2, cl_s2, cl_a1, domOf, List.flatten]) (h1 : ∀ p ∈ s'.st, get s.st (ρ p.1) = some (renAO ρ p.2) := by first | (simp only [kE, dArr, ↓reduceIte, Nat.reduceEqDiff, reduceCtorEq]; done) | (simp only [dArr, ren_arr, ren_map, List.mem_cons, List.not_mem_nil, or_false, forall_eq_or_imp, forall_eq]; simp [renAV, renC, renAO, ren_up, flat_up, Ab.get, clAV, clC, clCs, clPs, clEnv, clCaps, clCap, clCs_append, ren_up1, clAO, cl_f1, cl_s1, cl_f2, cl_s2, cl_a1, domOf, List.flatten]; done) | simp [renAV, renC, renAO, ren_up, flat_up, Ab.get, clAV, clC, clCs, clPs, clEnv, clCaps, clCap, clCs_append, ren_up1, clAO, cl_f1, cl_s1, cl_f2, cl_s2, cl_a1, domOf, List.flatten]) (h2 : (s'.st.map fun p => ρ p.1).Nodup := by first | (simp only [kE, dArr, ↓reduceIte, Nat.reduceEqDiff, reduceCtorEq]; done) | (simp only [dArr, ren_arr, ren_map, List.mem_cons, List.not_mem_nil, or_false, forall_eq_or_imp, forall_eq]; simp [renAV, renC, renAO, ren_up, flat_up, Ab.get, clAV, clC, clCs, clPs, clEnv, clCaps, clCap, clCs_append, ren_up1, clAO, cl_f1, cl_s1, cl_f2, cl_s2, cl_a1, domOf, List.flatten]; done) | simp [renAV, renC, renAO, ren_up, flat_up, Ab.get, clAV, clC, clCs, clPs, clEnv, clCaps, clCap, clCs_append, ren_up1, clAO, cl_f1, cl_s1, cl_f2, cl_s2, cl_a1, domOf, List.flatten])
  (h3 : ∀ p ∈ s'.st, clAO (domOf s'.st) p.2 := by first | (simp only [kE, dArr, ↓reduceIte, Nat.reduceEqDiff, reduceCtorEq]; done) | (simp only [dArr, ren_arr, ren_map, List.mem_cons, List.not_mem_nil, or_false, forall_eq_or_imp, forall_eq]; simp [renAV, renC, renAO, ren_up, flat_up, Ab.get, clAV, clC, clCs, clPs, clEnv, clCaps, clCap, clCs_append, ren_up1, clAO, cl_f1, cl_s1, cl_f2, cl_s2, cl_a1, domOf, List.flatten]; done) | simp [renAV, renC, renAO, ren_up, flat_up, Ab.get, clAV, clC, clCs, clPs, clEnv, clCaps, clCap, clCs_append, ren_up1, clAO, cl_f1, cl_s1, cl_f2, cl_s2, cl_a1, domOf, List.flatten]) (h4 : ∀ id, x.d0 id → domOf s'.st id = true ∧ ρ id = id := by exact keepR (by assumption) (by simp [domOf, Ab.get])) : Ent x s s' := Ent_sub ρ hn he ⟨h1, h2, h3, h4⟩
theorem frA {A G G' : Prop} (g : G') (ha : A := by simp [Fresh, domOf, Ab.get]) (h : G' → G := by intro h9; (try simp only [kP, Nat.reduceEqDiff, ↓reduceIte, reduceCtorEq, List.cons_append, List.nil_append]); exact h9) : A ∧ G := ⟨ha, h g⟩
theorem caA {dst : Option Tmp} {f : FuncId} {bs : List Operand} {ats : Array TypeId} {ty : TypeId} {pos : String} {after : Array Edge} {args : List AV} (st0 : List (Nat × AO)) {R : AV → List (Nat × AO) → Prop} (hc : AC P f args st0 R)
  (hk : ∀ r st', R r st' → Fresh s st0 st' ∧ TO P x ops l ⟨s.n, putD s.env dst r, putAll s.st st'⟩ Q) (hd : ∀ i, dst = some i → i < s.n := by simp) (he : evAll s bs = some args := by simp only [kV, ↓reduceIte, Nat.reduceEqDiff, reduceCtorEq]; first | done | rfl)
  (l1 : ∀ p ∈ st0, get s.st p.1 = some p.2 := by simp [Ab.get]) (l2 : ∀ p ∈ st0, clAO (domOf st0) p.2 := by simp [clAO, cl_f1, cl_s1, cl_f2, cl_s2, cl_a1, flat_up, clPs, clEnv, clCaps, clCap, clCs, clC, domOf, Ab.get]) (l3 : ∀ a ∈ args, clAV (domOf st0) a := by simp [clAV, clC, clCs, clCaps, clCap, domOf, Ab.get]) :
  TO P x ops (⟨dst, .call { callee := .value (.func f), args := bs.toArray, argTypes := ats }, ty, pos, after, none⟩ :: l) s Q := TO_call st0 hd he ⟨l1, l2, l3⟩ hc hk
theorem obT {F G : Prop} (f : F) (h : F → G := by intro f9; simp only [All, List.cons_append, List.nil_append, InR, List.mem_cons, List.not_mem_nil, or_false, forall_eq_or_imp, forall_eq, clAV, clCs, clC, clCaps, clCap, and_true, true_and, implies_true, List.length_map, List.length_cons, List.length_nil, dArr, cl_arr, tyCs]; repeat' (first | exact trivial | exact f9 | refine And.intro ?_ ?_ | intro _ | assumption | rfl | omega | (rw [Bool.not_eq_true']; assumption) | (simp; done) | (simp only [decide_eq_true_eq] at *; omega) | (simp_all; done))) : G := h f
theorem obN {G : Prop} (h : G := by simp only [All, List.cons_append, List.nil_append, InR, List.mem_cons, List.not_mem_nil, or_false, forall_eq_or_imp, forall_eq, clAV, clCs, clC, clCaps, clCap, and_true, true_and, implies_true, List.length_map, List.length_cons, List.length_nil, dArr, cl_arr, tyCs]; repeat' (first | exact trivial | refine And.intro ?_ ?_ | intro _ | assumption | rfl | omega | (rw [Bool.not_eq_true']; assumption) | (simp; done) | (simp only [decide_eq_true_eq] at *; omega) | (simp_all; done))) : G := h
theorem obF {α : Type} {p : α → Prop} {G : Prop} (f : ∀ a, p a) (h : (∀ a, p a) → G := by intro f9; simp only [All, List.cons_append, List.nil_append, InR, List.mem_cons, List.not_mem_nil, or_false, forall_eq_or_imp, forall_eq, clAV, clCs, clC, clCaps, clCap, and_true, true_and, implies_true, List.length_map, List.length_cons, List.length_nil, dArr, cl_arr, tyCs]; repeat' (first | exact trivial | exact f9 _ | refine And.intro ?_ ?_ | intro _ | assumption | rfl | omega | (rw [Bool.not_eq_true']; assumption) | (simp; done) | (simp only [decide_eq_true_eq] at *; omega) | (simp_all; done))) : G := h f
theorem obG {F1 F2 G : Prop} (f1 : F1) (f2 : F2) (h : F1 → F2 → G := by intro f8 f9; simp only [All, List.cons_append, List.nil_append, InR, List.mem_cons, List.not_mem_nil, or_false, forall_eq_or_imp, forall_eq, clAV, clCs, clC, clCaps, clCap, and_true, true_and, implies_true, List.length_map, List.length_cons, List.length_nil, dArr, cl_arr, tyCs]; repeat' (first | exact trivial | exact f8 | exact f9 | refine And.intro ?_ ?_ | intro _ | assumption | rfl | omega | (rw [Bool.not_eq_true']; assumption) | (simp; done) | (simp only [decide_eq_true_eq] at *; omega) | (simp_all; done))) : G := h f1 f2
theorem obH {F1 F2 F3 G : Prop} (f1 : F1) (f2 : F2) (f3 : F3) (h : F1 → F2 → F3 → G := by intro f7 f8 f9; simp only [All, List.cons_append, List.nil_append, InR, List.mem_cons, List.not_mem_nil, or_false, forall_eq_or_imp, forall_eq, clAV, clCs, clC, clCaps, clCap, and_true, true_and, implies_true, List.length_map, List.length_cons, List.length_nil, dArr, cl_arr, tyCs]; repeat' (first | exact trivial | exact f7 | exact f8 | exact f9 | refine And.intro ?_ ?_ | intro _ | assumption | rfl | omega | (rw [Bool.not_eq_true']; assumption) | (simp; done) | (simp only [decide_eq_true_eq] at *; omega) | (simp_all; done))) : G := h f1 f2 f3
theorem drA {wr : Bool} {id : Nat} {s1 : S} (cs : List (Nat × AV)) {As : List A1} {ps : List Prop} (h : runD P wr l cs l s = some (As, ps, s1)) (ho : All ps) (hk : Q .normal s1) (hm : P.follows .mixedOrders = true := by kernel_rfl) (hc : drawOK l As = true := by kernel_rfl) :
  T P x (.region id l.toArray true) s Q := T_draw cs hm h ho hc hk
theorem rtA {rs : List ResultVar} {R : AV → List (Nat × AO) → Prop} {r : AV} {obl : List Prop} (h : retV P rs s = some (r, obl)) (st' : List (Nat × AO)) (hR : R r st') (ho : All obl := by first | exact trivial | (simp only [kO]; omega) | (simp [All, InR]; first | done | omega) | (simp +contextual [All, InR]; first | done | grind)) (h1 : ∀ p ∈ st', get s.st ((fun i => i) p.1) = some (renAO (fun i => i) p.2) := by simp [Ab.get, renAO_id]) (h2 : (st'.map fun p => (fun i => i) p.1).Nodup := by simp) (h3 : ∀ p ∈ st', clAO (domOf st') p.2 := by simp [Ab.get, clAO, clAV, cl_f1, cl_s1, cl_f2, cl_s2, cl_a1, flat_up, clPs, clEnv, clCaps, clCap, clCs, clC, domOf]) (h4 : ∀ id, x.d0 id → domOf st' id = true ∧ id = id := by exact keepI (by assumption) (by simp [domOf, Ab.get])) (hcl : clAV (domOf st') r := by simp [Ab.get, clAO, clAV, cl_f1, cl_s1, cl_f2, cl_s2, cl_a1, flat_up, clPs, clEnv, clCaps, clCap, clCs, clC, domOf]) : RetQ P rs x R .ret s := ⟨.inl rfl, r, obl, h, ho, st', ⟨h1, h2, h3, h4⟩, hcl, hR⟩
theorem rtN {rs : List ResultVar} {R : AV → List (Nat × AO) → Prop} {r : AV} {obl : List Prop} (h : retV P rs s = some (r, obl)) (st' : List (Nat × AO)) (hR : R r st') (ho : All obl := by first | exact trivial | (simp only [kO]; omega) | (simp [All, InR]; first | done | omega) | (simp +contextual [All, InR]; first | done | grind)) (h1 : ∀ p ∈ st', get s.st ((fun i => i) p.1) = some (renAO (fun i => i) p.2) := by simp [Ab.get, renAO_id]) (h2 : (st'.map fun p => (fun i => i) p.1).Nodup := by simp) (h3 : ∀ p ∈ st', clAO (domOf st') p.2 := by simp [Ab.get, clAO, clAV, cl_f1, cl_s1, cl_f2, cl_s2, cl_a1, flat_up, clPs, clEnv, clCaps, clCap, clCs, clC, domOf]) (h4 : ∀ id, x.d0 id → domOf st' id = true ∧ id = id := by exact keepI (by assumption) (by simp [domOf, Ab.get])) (hcl : clAV (domOf st') r := by simp [Ab.get, clAO, clAV, cl_f1, cl_s1, cl_f2, cl_s2, cl_a1, flat_up, clPs, clEnv, clCaps, clCap, clCs, clC, domOf]) : RetQ P rs x R .normal s := ⟨.inr rfl, r, obl, h, ho, st', ⟨h1, h2, h3, h4⟩, hcl, hR⟩
theorem rtV {rs : List ResultVar} {R : AV → List (Nat × AO) → Prop} {r : AV} {obl : List Prop} {e : Exit} (h : retV P rs s = some (r, obl)) (st' : List (Nat × AO)) (hR : R r st') (he : e = .ret ∨ e = .normal := by first | exact .inl rfl | exact .inr rfl) (ho : All obl := by first | exact trivial | (simp only [kO]; omega) | (simp [All, InR]; first | done | omega) | (simp +contextual [All, InR]; first | done | grind)) (h1 : ∀ p ∈ st', get s.st ((fun i => i) p.1) = some (renAO (fun i => i) p.2) := by simp [Ab.get, renAO_id]) (h2 : (st'.map fun p => (fun i => i) p.1).Nodup := by simp) (h3 : ∀ p ∈ st', clAO (domOf st') p.2 := by simp [Ab.get, clAO, clAV, cl_f1, cl_s1, cl_f2, cl_s2, cl_a1, flat_up, clPs, clEnv, clCaps, clCap, clCs, clC, domOf]) (h4 : ∀ id, x.d0 id → domOf st' id = true ∧ id = id := by exact keepI (by assumption) (by simp [domOf, Ab.get])) (hcl : clAV (domOf st') r := by simp [Ab.get, clAO, clAV, cl_f1, cl_s1, cl_f2, cl_s2, cl_a1, flat_up, clPs, clEnv, clCaps, clCap, clCs, clC, domOf]) : RetQ P rs x R e s := ⟨he, r, obl, h, ho, st', ⟨h1, h2, h3, h4⟩, hcl, hR⟩
end
end Go.Proofs.YtmhboloicpieeaaGreatDoor
namespace Go.Proofs.YtmhboloicpieeaaGreatDoor
open Go.Ab Tys
def cnt (d : Dep) (c : Int) : Nat := (d.revs.filter fun u => decide (u.chg < c)).length
def firstF (d : Dep) : Nat → Rev → Fil
 | 0, v => fileOf v
 | n + 1, v =>
   match prev? d v with
   | none => fileOf v
   | some u => if v.chg ≤ u.chg then fileOf v else firstF d n u
def first (d : Dep) (v : Rev) : Fil := firstF d (cnt d v.chg) v
theorem get?_mem {d : Dep} {p : ByteArray} {n : Int} {u : Rev} (h : get? d p n = some u) : u ∈ d.revs ∧ u.path = p ∧ u.num = n := by
 have h1 := List.mem_of_find?_eq_some h
 have h2 := List.find?_some h
 simp only [log, List.mem_filter] at h1
 exact ⟨h1.1, by simpa using h1.2, by simpa using h2⟩
theorem prev?_mem {d : Dep} {v u : Rev} (h : prev? d v = some u) : u ∈ d.revs := by
 unfold prev? at h
 split at h
 ·cases h
 ·split at h
  ·exact (get?_mem h).1
  ·exact (get?_mem h).1
theorem cnt_lt {d : Dep} {u : Rev} {c : Int} (hu : u ∈ d.revs) (h : u.chg < c) : cnt d u.chg < cnt d c := by
 unfold cnt
 generalize d.revs = l at hu
 have hle : ∀ l : List Rev, (l.filter fun w => decide (w.chg < u.chg)).length ≤ (l.filter fun w => decide (w.chg < c)).length := by
  intro l
  induction l with
  | nil => simp
  | cons w l ih =>
    simp only [List.filter_cons]
    by_cases h1 : w.chg < u.chg
    ·rw [if_pos (by simpa using h1), if_pos (by simp; omega)]; simpa using ih
    ·rw [if_neg (by simpa using h1)]
     split
     ·simp; omega
     ·exact ih
 induction l with
 | nil => cases hu
 | cons w l ih =>
   rcases List.mem_cons.1 hu with rfl | hu
   ·simp only [List.filter_cons]
    rw [if_neg (by simp), if_pos (by simpa using h)]
    have := hle l
    simp; omega
   ·have := ih hu
    simp only [List.filter_cons]
    by_cases h1 : w.chg < u.chg
    ·rw [if_pos (by simpa using h1), if_pos (by simp; omega)]; simpa using this
    ·rw [if_neg (by simpa using h1)]
     split
     ·simp; omega
     ·exact this
theorem firstF_enough (d : Dep) : ∀ (n m : Nat) (v : Rev), cnt d v.chg ≤ n → cnt d v.chg ≤ m → firstF d n v = firstF d m v := by
 have step : ∀ (n : Nat) (v : Rev), cnt d v.chg ≤ n → firstF d (n + 1) v = firstF d n v := by
  intro n
  induction n with
  | zero =>
    intro v hv
    simp only [firstF]
    split
    ·rfl
    ·rename_i u hu
     split
     ·rfl
     ·rename_i hc
      have := cnt_lt (prev?_mem hu) (by omega : u.chg < v.chg)
      omega
  | succ n ih =>
    intro v hv
    rw [firstF]
    conv => rhs; rw [firstF]
    split
    ·rfl
    ·rename_i u hu
     split
     ·rfl
     ·rename_i hc
      have := cnt_lt (prev?_mem hu) (by omega : u.chg < v.chg)
      exact ih u (by omega)
 have up : ∀ (k n : Nat) (v : Rev), cnt d v.chg ≤ n → firstF d (n + k) v = firstF d n v := by
  intro k
  induction k with
  | zero => intros; rfl
  | succ k ih => intro n v hv; rw [← Nat.add_assoc, step _ _ (by omega), ih n v hv]
 intro n m v hn hm
 rcases Nat.le_total n m with h | h
 ·obtain ⟨k, rfl⟩ := Nat.exists_eq_add_of_le h; exact (up k n v hn).symm
 ·obtain ⟨k, rfl⟩ := Nat.exists_eq_add_of_le h; exact up k m v hm
theorem first_none {d : Dep} {v : Rev} (h : prev? d v = none) : first d v = fileOf v := by
 unfold first
 cases cnt d v.chg with
 | zero => rfl
 | succ n => simp [firstF, h]
theorem first_old {d : Dep} {v u : Rev} (h : prev? d v = some u) (hc : v.chg ≤ u.chg) : first d v = fileOf v := by
 unfold first
 cases cnt d v.chg with
 | zero => rfl
 | succ n => simp [firstF, h, hc]
theorem first_step {d : Dep} {v u : Rev} (h : prev? d v = some u) (hc : u.chg < v.chg) : first d v = first d u := by
 have hlt := cnt_lt (prev?_mem h) hc
 unfold first
 obtain ⟨n, hn⟩ : ∃ n, cnt d v.chg = n + 1 := ⟨cnt d v.chg - 1, by omega⟩
 rw [hn, firstF, h]
 simp only
 rw [if_neg (by omega)]
 exact firstF_enough d _ _ u (by omega) (Nat.le_refl _)
def hasPrefix (s p : ByteArray) : Bool := decide (p.size ≤ s.size) && decide (s.extract 0 p.size = p)
@[reducible] def slash : ByteArray := { data := #[47] }
theorem slash_size : slash.size = 1 := rfl
theorem slash_byte : ((#[47] : Array UInt8).getD 0 0).toNat.toUInt8 = 47 := by decide
theorem indexByte_lt (l : List UInt8) (c : UInt8) : Lib.indexByte l c < l.length := by
 induction l with
 | nil => simp [Lib.indexByte]
 | cons b l ih =>
   unfold Lib.indexByte
   split
   ·simp
   ·split
    ·simp; omega
    ·simp; omega
def cntS (s : ByteArray) : Nat := Lib.countByte s.data.toList 47
def idxS (s : ByteArray) : Int := Lib.indexByte s.data.toList 47
theorem cntS_le (s : ByteArray) : cntS s ≤ s.size := by
 unfold cntS Lib.countByte
 have := List.count_le_length (a := (47 : UInt8)) (l := s.data.toList)
 simpa using this
theorem idxS_lt (s : ByteArray) : idxS s < s.size := by
 have := indexByte_lt s.data.toList 47
 simpa [idxS] using this
theorem idxS_ge (s : ByteArray) : -1 ≤ idxS s := Lib.indexByte_ge _ _
def splitN : Nat → ByteArray → List ByteArray
 | 0, s => [s]
 | n + 1, s => if idxS s < 0 then [s] else s.extract 0 (idxS s).toNat :: splitN n (s.extract ((idxS s).toNat + 1) s.size)
def split (s : ByteArray) : List ByteArray := splitN (cntS s) s
@[reducible] def encS (b : ByteArray) : List D := [.v (.string b)]
@[reducible] def aStrs (l : List ByteArray) : AV := .c (.d (.ps 1 (l.map encS)))
theorem splitN_len : ∀ (n : Nat) (s : ByteArray), (splitN n s).length ≤ n + 1
 | 0, s => by simp [splitN]
 | n + 1, s => by
   simp only [splitN]
   split
   ·simp
   ·simpa using splitN_len n _
theorem set_gen {α : Type} (e : α → List D) (l : List α) (i : Nat) (v : α) (n : Nat) (hn : ∀ a, (e a).length = n) :
  ((l.map e).map fun l => l.map C.d).set i ((e v).map C.d ++ List.drop n (((l.map e).map fun l => l.map C.d).getD i [])) = ((l.set i v).map e).map fun l => l.map C.d := by
 by_cases h : i < l.length
 ·have : (((l.map e).map fun l => l.map C.d).getD i []).length = n := by simp [List.getD, h, hn]
  rw [List.drop_eq_nil_of_le (by omega), List.append_nil]; simp [List.map_set]
 ·rw [List.set_eq_of_length_le (by simp; omega), List.set_eq_of_length_le (by omega)]
theorem set_S (l : List ByteArray) (i : Nat) (v : ByteArray) : ((l.map encS).map fun l => l.map C.d).set i (C.d (.v (.string v)) :: List.drop 1 (((l.map encS).map fun l => l.map C.d).getD i [])) = ((l.set i v).map encS).map fun l => l.map C.d :=
 set_gen encS l i v 1 (fun _ => rfl)
theorem splitN_neg {n : Nat} {s : ByteArray} (h : idxS s < 0) : splitN n s = [s] := by
 cases n with
 | zero => rfl
 | succ n => simp [splitN, h]
theorem set_up (l : List ByteArray) (i : Nat) (v : ByteArray) : ((l.map encS).map fun l => l.map C.d).set i [C.d (.v (.string v))] = ((l.set i v).map encS).map fun l => l.map C.d := by
 simp only [List.map_map, List.map_set]; rfl
theorem fill_next (done : List ByteArray) (k : Nat) (e v : ByteArray) : (done ++ List.replicate (k + 1) e).set done.length v = (done ++ [v]) ++ List.replicate k e := by
 rw [List.set_append, if_neg (by omega)]; simp [List.replicate_succ]
theorem cut_fill (done : List ByteArray) (k : Nat) (rest : ByteArray) (h : 0 < k) : ((done ++ List.replicate k ByteArray.empty).set done.length rest).take (done.length + 1) = done ++ [rest] := by
 obtain ⟨j, rfl⟩ : ∃ j, k = j + 1 := ⟨k - 1, by omega⟩
 rw [fill_next, List.take_append_of_le_length (by simp), List.take_of_length_le (by simp)]
@[reducible] def letters : ByteArray := { data := ([65, 66, 67, 68, 69, 70, 71, 72, 73, 74, 75, 76, 77, 78, 79, 80, 81, 82, 83, 84, 85, 86, 87, 88, 89, 90, 97, 98, 99, 100, 101, 102, 103].append [104, 105, 106, 107, 108, 109, 110, 111, 112, 113, 114, 115, 116, 117, 118, 119, 120, 121, 122, 48, 49, 50, 51, 52, 53, 54, 55, 56, 57, 95, 46, 43, 45]).toArray }
def okB (b : Int) : Bool := decide (0 ≤ Lib.indexByte letters.data.toList b.toNat.toUInt8)
@[reducible] def byteAt (s : ByteArray) (k : Nat) : Int := ((s.data.getD k 0).toNat : Int)
def comp (s : ByteArray) : Bool := !(decide (s = { data := #[] }) || decide (byteAt s 0 = 46)) && (List.range s.size).all fun k => okB (byteAt s k)
theorem range_all (n k : Nat) (p : Nat → Bool) (hk : k < n) (h : (List.range n).all p = true) : p k = true := by
 rw [List.all_eq_true] at h; exact h k (List.mem_range.2 hk)
theorem empty_size {s : ByteArray} (h : s ≠ { data := #[] }) : 0 < s.size := by
 rcases Nat.eq_zero_or_pos s.size with e | e
 ·exfalso; apply h; cases s with | mk d => have : d.size = 0 := e
                                           rw [Array.eq_empty_of_size_eq_zero this]
 ·exact e
@[reducible] def dslash : ByteArray := { data := #[47, 47] }
theorem splitN_size : ∀ (n : Nat) (s x : ByteArray), x ∈ splitN n s → x.size ≤ s.size
 | 0, s, x, h => by simp [splitN] at h; rw [h]; omega
 | n + 1, s, x, h => by
   simp only [splitN] at h
   split at h
   ·simp at h; rw [h]; omega
   ·rcases List.mem_cons.1 h with rfl | h
    ·simp; omega
    ·have := splitN_size n _ x h; simp at this; omega
def parts? (p : ByteArray) : Option (List ByteArray) := if hasPrefix p dslash then (if (split (p.extract 2 p.size)).all comp then some (split (p.extract 2 p.size)) else none) else none
@[reducible] def pStrs : Option (List ByteArray) → Bool × List C
 | none => (false, [.d (.v (.slice none 0 0))])
 | some l => (false, [.d (.ps 1 (l.map encS))])
theorem split_len (s : ByteArray) : (split s).length ≤ s.size + 1 := Nat.le_trans (splitN_len _ _) (by have := cntS_le s; omega)
def path? (p : ByteArray) : Option (List ByteArray) := match parts? p with | some l => if l.length < 2 then none else some l | none => none
def cb (a b : ByteArray) : Int := Lib.compareBytes a.data.toList b.data.toList
def cmpL : List ByteArray → List ByteArray → Int
 | [], [] => 0
 | [], _ :: _ => -1
 | _ :: _, [] => 1
 | a :: l, b :: m => if cb a b = 0 then cmpL l m else cb a b
def ord (p q : ByteArray) : Int :=
 match path? p, path? q with
 | none, none => cb p q
 | none, some _ => -1
 | some _, none => 1
 | some a, some b => cmpL a b
theorem path?_len {p : ByteArray} {l : List ByteArray} (h : path? p = some l) : l.length ≤ p.size + 1 := by
 unfold path? at h
 split at h
 ·rename_i l' hl
  split at h
  ·cases h
  ·cases h
   unfold parts? at hl
   split at hl
   ·split at hl
    ·cases hl
     have := split_len (p.extract 2 p.size)
     simp at this; omega
    ·cases hl
   ·cases hl
 ·cases h
def before (a b : Rcd) : Bool :=
 if ord a.to b.to ≠ 0 then decide (ord a.to b.to < 0) else if a.num ≠ b.num then decide (a.num < b.num) else if ord a.frm b.frm ≠ 0 then decide (ord a.frm b.frm < 0) else decide (a.first < b.first)
def rOK (r : Rcd) : Prop := r.frm.size ≤ 100000 ∧ r.to.size ≤ 100000
def zRcd : Rcd := ⟨ByteArray.empty, 0, 0, ByteArray.empty, 0, 0⟩
def sinkF : Nat → List Rcd → List Rcd
 | 0, l => l
 | k + 1, l => if before (l.getD (k + 1) zRcd) (l.getD k zRcd) then sinkF k ((l.set (k + 1) (l.getD k zRcd)).set k (l.getD (k + 1) zRcd)) else l
def sortN (l : List Rcd) : Nat → List Rcd
 | 0 => l
 | k + 1 => sinkF k (sortN l k)
def sortR (l : List Rcd) : List Rcd := sortN l l.length
@[reducible] def uArr {α : Type} (e : α → List D) (l : List α) : List (List C) := (l.map e).map fun l => l.map C.d
theorem uGet {α : Type} (e : α → List D) (l : List α) (k : Nat) (z : α) (h : k < l.length) : (uArr e l).getD k [] = (e (l.getD k z)).map C.d := by
 simp [List.getD, h]
theorem set_R (l : List Rcd) (i : Nat) (v : Rcd) : ((l.map encRcd).map fun l => l.map C.d).set i (C.d (.v (.string v.frm)) :: C.d (.v (.int .i64 v.first)) :: C.d (.v (.int .i64 v.last)) :: C.d (.v (.string v.to)) :: C.d (.v (.int .i64 v.num)) :: C.d (.v (.int .i64 v.how)) :: List.drop 6 (((l.map encRcd).map fun l => l.map C.d).getD i [])) = ((l.set i v).map encRcd).map fun l => l.map C.d :=
 set_gen encRcd l i v 6 (fun _ => rfl)
theorem set_R2 (l : List Rcd) (i : Nat) (v : Rcd) : ((l.map encRcd).map fun l => l.map C.d).set i [C.d (.v (.string v.frm)), C.d (.v (.int .i64 v.first)), C.d (.v (.int .i64 v.last)), C.d (.v (.string v.to)), C.d (.v (.int .i64 v.num)), C.d (.v (.int .i64 v.how))] = ((l.set i v).map encRcd).map fun l => l.map C.d := by
 simp [List.map_set]
theorem swap_mem {l : List Rcd} {i j : Nat} {v w : Rcd} (hv : v ∈ l) (hw : w ∈ l) {P : Rcd → Prop} (h : ∀ r ∈ l, P r) : ∀ r ∈ (l.set i w).set j v, P r := by
 intro r hr
 rcases List.mem_or_eq_of_mem_set hr with hr | rfl
 ·rcases List.mem_or_eq_of_mem_set hr with hr | rfl
  ·exact h r hr
  ·exact h _ hw
 ·exact h _ hv
def typBad (base : Int) (kw xe : Bool) : Bool := decide (base < 1) || decide (3 < base) || (kw && !decide (base = 1)) || (xe && decide (base = 3))
def mate (x y : Edt) : Bool := (decide (x.act = 5) && decide (y.act = 4) && decide (y.frm = x.path)) || (decide (x.act = 4) && decide (y.act = 5) && decide (y.path = x.frm))
def mates (c : Chg) (x : Edt) : Nat := (c.edits.filter (mate x)).length
def movedB (c : Chg) (x : Edt) : Bool := decide ((mates c x : Int) = 1) || (!decide (x.act = 5) && !decide (x.act = 4))
def zEdt : Edt := ⟨ByteArray.empty, 0, 0, false, false, false, 0, 0, 0, ByteArray.empty, 0, 0⟩
def eOK (e : Edt) : Prop := e.path.size ≤ 100000
structure EditOK (d : Dep) (c : Chg) (i : Nat) (e : Edt) : Prop where
 okPath : (path? e.path).isSome = true
 okOrder : 0 < i → ord (c.edits.getD (i - 1) zEdt).path e.path < 0
 okLo : 1 ≤ e.act
 okHi : e.act ≤ 5
 okLive : (e.act = 1 ∨ e.act = 4) ↔ live d e.path = false
 okPrev : e.prev = lastNum d e.path
 okFrm : e.act = 4 → live d e.frm = true ∧ lastNum d e.frm = e.fnum ∧ e.frm ≠ e.path
 okGone : e.act = 3 ∨ e.act = 5 → e.sum = 0 ∧ e.size = 0
@[reducible] def getZ (d : Dep) (p : ByteArray) (n : Int) : Rev := (get? d p n).getD zRev
def tgtB (r : Rcd) (e : Edt) : Prop := e.path = r.to ∧ wr (e.prev + 1) = r.num ∧ ¬ e.act = 5
structure RecOK (d : Dep) (c : Chg) (r : Rcd) : Prop where
 okHow : 1 ≤ r.how ∧ r.how ≤ 4
 okLo : 1 ≤ r.first
 okLe : r.first ≤ r.last
 okHi : r.last ≤ (log d r.frm).length
 okLine : ∀ n, r.first ≤ n → n ≤ r.last → ¬ (getZ d r.frm n).act = 5 ∧ first d (getZ d r.frm n) = first d (getZ d r.frm r.last)
 okTgt : ∃ e ∈ c.edits, tgtB r e ∧ (¬ e.act = 1 → ¬ first d ((prev? d (made c e)).getD zRev) = first d (getZ d r.frm r.last))
structure ChkOK (d : Dep) (c : Chg) : Prop where
 len1 : 1 ≤ c.edits.length
 len2 : c.edits.length ≤ 64
 len3 : c.recs.length ≤ 64
 num : 1 ≤ c.num ∧ c.num ≤ 1073741824
 old : ∀ v ∈ d.revs, v.chg < c.num
 edit : ∀ i, i < c.edits.length → EditOK d c i (c.edits.getD i zEdt)
 move : ∀ e ∈ c.edits, movedB c e = true
 recd : ∀ i, i < c.recs.length → RecOK d c (c.recs.getD i zRcd)
 tot1 : d.revs.length + c.edits.length ≤ 512
 tot2 : d.recs.length + c.recs.length ≤ 512
theorem sinkF_len : ∀ (k : Nat) (l : List Rcd), (sinkF k l).length = l.length
 | 0, l => rfl
 | k + 1, l => by
   simp only [sinkF]
   split
   ·rw [sinkF_len k]; simp
   ·rfl
theorem sinkF_mem {P : Rcd → Prop} : ∀ (k : Nat) (l : List Rcd), k < l.length → (∀ r ∈ l, P r) → ∀ r ∈ sinkF k l, P r
 | 0, l, _, h => h
 | k + 1, l, hk, h => by
   simp only [sinkF]
   split
   ·refine sinkF_mem k _ (by simp; omega) (swap_mem ?_ ?_ h)
    ·rw [List.getD_eq_getElem?_getD, List.getElem?_eq_getElem hk]; simp
    ·rw [List.getD_eq_getElem?_getD, List.getElem?_eq_getElem (by omega : k < l.length)]; simp
   ·exact h
theorem sortN_len (l : List Rcd) : ∀ k, (sortN l k).length = l.length
 | 0 => rfl
 | k + 1 => by rw [sortN, sinkF_len, sortN_len l k]
theorem sortN_mem {P : Rcd → Prop} {l : List Rcd} (h : ∀ r ∈ l, P r) : ∀ k, k ≤ l.length → ∀ r ∈ sortN l k, P r
 | 0, _ => h
 | k + 1, hk => sinkF_mem k _ (by rw [sortN_len]; omega) (sortN_mem h k (by omega))
theorem sortR_len (l : List Rcd) : (sortR l).length = l.length := sortN_len l _
theorem sortR_mem {P : Rcd → Prop} {l : List Rcd} (h : ∀ r ∈ l, P r) : ∀ r ∈ sortR l, P r := sortN_mem h _ (Nat.le_refl _)
def appD (d : Dep) (c : Chg) : Dep := ⟨d.revs ++ c.edits.map (made c), sortR (d.recs ++ c.recs)⟩
theorem cl_two (sz : Nat) (a b : List (List D)) : clAO (fun _ => false) (.arr sz (a.map (fun l => l.map C.d) ++ b.map (fun l => l.map C.d))) := by
 simp only [clAO]
 rw [List.flatten_append, clCs_append, flat_up, flat_up, clCs_d, clCs_d]
 exact ⟨trivial, trivial⟩
theorem up6 (m : List Rcd) : ∀ l ∈ (m.map encRcd).map (fun l => l.map C.d), l.length = 6 := by simp
@[reducible] def nilC : C := .d (.v (.slice none 0 0))
def cOK (c : Chg) : Prop := (∀ e ∈ c.edits, eOK e) ∧ (∀ r ∈ c.recs, rOK r) ∧ c.edits.length ≤ 100000 ∧ c.recs.length ≤ 100000
inductive Built : List Chg → Dep → Prop
 | nil : Built [] zDep
 | skip {l : List Chg} {d : Dep} (c : Chg) (h : Built l d) : Built (l ++ [c]) d
 | app {l : List Chg} {d : Dep} {c : Chg} (h : Built l d) (hc : cOK c) (hk : ChkOK d c) : Built (l ++ [c]) (appD d c)
theorem Built.ok {l : List Chg} {d : Dep} (h : Built l d) : d.revs.length ≤ 512 ∧ d.recs.length ≤ 512 ∧ ∀ r ∈ d.recs, rOK r := by
 induction h with
 | nil => simp [zDep]
 | skip c h ih => exact ih
 | app h hc hk ih =>
   refine ⟨?_, ?_, ?_⟩
   ·have := hk.tot1; simp [appD]; omega
   ·have := hk.tot2; simp [appD, sortR_len]; omega
   ·exact sortR_mem fun r hr => by rcases List.mem_append.1 hr with hr | hr; exact ih.2.2 r hr; exact hc.2.1 r hr
def zChg : Chg := ⟨0, ByteArray.empty, ByteArray.empty, [], []⟩
def tot (l : List Chg) : Nat := (l.map fun c => c.edits.length + c.recs.length).sum
def sE (e : Edt) : Prop := e.path.size + e.frm.size ≤ 500
def sR (r : Rcd) : Prop := r.frm.size + r.to.size ≤ 500
def sC (c : Chg) : Prop := (∀ e ∈ c.edits, sE e) ∧ ∀ r ∈ c.recs, sR r
structure Few (l : List Chg) : Prop where
 len : l.length ≤ 2000000
 tot : tot l ≤ 2000000
 es : ∀ c ∈ l, ∀ e ∈ c.edits, e.path.size ≤ 2000000 ∧ e.frm.size ≤ 2000000
 rs : ∀ c ∈ l, ∀ r ∈ c.recs, r.frm.size ≤ 2000000 ∧ r.to.size ≤ 2000000
theorem tot_append (a b : List Chg) : tot (a ++ b) = tot a + tot b := by simp [tot]
theorem tot_mem {l : List Chg} {c : Chg} (h : c ∈ l) : c.edits.length + c.recs.length ≤ tot l := by
 induction l with
 | nil => cases h
 | cons d l ih =>
   have e : tot (d :: l) = d.edits.length + d.recs.length + tot l := by simp [tot]
   rcases List.mem_cons.1 h with rfl | h
   ·omega
   ·have := ih h; omega
theorem tot_take (l : List Chg) (k : Nat) : tot (l.take k) ≤ tot l := by
 conv => rhs; rw [← List.take_append_drop k l, tot_append]
 omega
theorem sC_ok {l : List Chg} (h1 : tot l ≤ 200) (h2 : ∀ c ∈ l, sC c) : ∀ c ∈ l, cOK c := by
 intro c hc
 have h := tot_mem hc
 obtain ⟨a, b⟩ := h2 c hc
 refine ⟨fun e he => ?_, fun r hr => ?_, by omega, by omega⟩
 ·have := a e he; simp only [sE] at this; simp only [eOK]; omega
 ·have := b r hr; simp only [sR] at this; simp only [rOK]; omega
def member? (d : Dep) (p : ByteArray) (n : Int) : Option Rev := match get? d p n with | some v => if v.act = 5 then none else some v | none => none
def inLine (d : Dep) (f : Fil) (v : Rev) : Bool := !decide (v.act = 5) && decide (first d v = f)
def line (d : Dep) (f : Fil) : List Rev := d.revs.filter (inLine d f)
end Go.Proofs.YtmhboloicpieeaaGreatDoor

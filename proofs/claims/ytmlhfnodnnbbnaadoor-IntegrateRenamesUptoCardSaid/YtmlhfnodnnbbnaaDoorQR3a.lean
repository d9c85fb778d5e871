/- A part of the proof: contracts of functions of the program over abstract states. -/
import Derived.Test.YtmlhfnodnnbbnaaDoorQP6
import Derived.Test.YtmlhfnodnnbbnaaDoorQAbCl
import Derived.Test.YtmlhfnodnnbbnaaDoorQT7
import Derived.Test.YtmlhfnodnnbbnaaDoorQT8
set_option linter.all false
namespace Go.Proofs.YtmlhfnodnnbbnaaDoor
open Go.Ab Tys
structure SV where
  og : Bool
  car : List Fil
  con : List Fil
  cre : List Fil
@[reducible] def vSV (x : SV) : Bool × List D := (true, [.v (.bool x.og), .pm (sEnt kF x.car), .pm (sEnt kF x.con), .pm (sEnt kF x.cre)])
theorem look_SV (A : List (Fil × SV)) (p : ByteArray) (n : Int) : (findE [C.d (.v (.string p)), C.d (.v (.int .i64 n))] ((mEnt kF vSV A).map upE)).getD (true, [C.d (.v (.bool false)), C.d (.v (.map none)), C.d (.v (.map none)), C.d (.v (.map none))]) =
    (true, [C.d (.v (.bool (((alook A ⟨p, n⟩).map SV.og).getD false))), C.d (dSet kF ((alook A ⟨p, n⟩).map SV.car)), C.d (dSet kF ((alook A ⟨p, n⟩).map SV.con)), C.d (dSet kF ((alook A ⟨p, n⟩).map SV.cre))]) := by
  have := findE_ent (ve := vSV) kF_eq A ⟨p, n⟩
  rw [show ((kF ⟨p, n⟩).2.map C.d) = [C.d (.v (.string p)), C.d (.v (.int .i64 n))] from rfl] at this
  rw [this]
  cases alook A ⟨p, n⟩ <;> rfl
theorem ty_SV (A : List (Fil × SV)) : ∀ e ∈ (mEnt kF vSV A).map upE, e.1.1 = true ∧ tyCs [.str, .int .i64] e.1.2 := by
  intro e he
  simp only [mEnt, List.mem_map] at he
  obtain ⟨_, ⟨f, _, rfl⟩, rfl⟩ := he
  exact ⟨rfl, by simp [upE, upD, tyCs]⟩
theorem ins_SV (A : List (Fil × SV)) (p : ByteArray) (n : Int) (og : Bool) (c m r : List Fil) : insE (true, [C.d (.v (.string p)), C.d (.v (.int .i64 n))]) (true, [C.d (.v (.bool og)), C.d (.pm (sEnt kF c)), C.d (.pm (sEnt kF m)), C.d (.pm (sEnt kF r))]) ((mEnt kF vSV A).map upE) = (mEnt kF vSV (aput A ⟨p, n⟩ ⟨og, c, m, r⟩)).map upE :=
  insE_ent (ve := vSV) kF_eq A ⟨p, n⟩ ⟨og, c, m, r⟩
structure SvOK (A : List (Fil × SV)) (S : Fil → SS) : Prop where
  car : ∀ f g, (S f).car g ↔ g ∈ ((alook A f).map SV.car).getD []
  con : ∀ f g, (S f).con g ↔ g ∈ ((alook A f).map SV.con).getD []
  cre : ∀ f g, (S f).cre g ↔ g ∈ ((alook A f).map SV.cre).getD []
def DomA (d : Dep) (k : Nat) (A : List (Fil × SV)) : Prop := ∀ (j : Nat) (w : Rev), j < k → d.revs[j]? = some w → ¬ w.act = 5 → ∃ x, alook A (fileOf w) = some x
theorem DomA.away {d : Dep} {k : Nat} {A : List (Fil × SV)} (h : DomA d k A) {v : Rev} (hv : d.revs[k]? = some v) (h5 : v.act = 5) : DomA d (k + 1) A := by
  intro j w hj hw w5
  by_cases e : j = k
  · subst e; rw [hv] at hw; cases hw; exact absurd h5 w5
  · exact h j w (by omega) hw w5
theorem DomA.memb {d : Dep} {k : Nat} {A : List (Fil × SV)} (h : DomA d k A) {v : Rev} (hv : d.revs[k]? = some v) (x : SV) : DomA d (k + 1) (aput A (fileOf v) x) := by
  intro j w hj hw w5
  rw [alook_aput]
  by_cases e : fileOf w = fileOf v
  · exact ⟨x, if_pos e⟩
  · rw [if_neg e]
    have : j ≠ k := by rintro rfl; rw [hv] at hw; cases hw; exact e rfl
    exact h j w (by omega) hw w5
def RcGood (rs : List Rcd) : Prop := ∀ r ∈ rs, 1 ≤ r.first ∧ r.first ≤ r.last ∧ r.last ≤ 512 ∧ 1 ≤ r.how ∧ r.how ≤ 4
theorem specA_dom (d : Dep) : ∀ (k : Nat) (f g : Fil), (specA d k f).car g ∨ (specA d k f).con g ∨ (specA d k f).cre g → ∃ (j : Nat) (w : Rev), j < k ∧ d.revs[j]? = some w ∧ fileOf w = f
  | 0, f, g, h => by simp [specA, SS0] at h
  | k + 1, f, g, h => by
    simp only [specA] at h
    cases hv : d.revs[k]? with
    | none => rw [hv] at h; obtain ⟨j, w, h1, h2⟩ := specA_dom d k f g h; exact ⟨j, w, by omega, h2⟩
    | some v =>
      rw [hv] at h
      simp only at h
      by_cases h5 : v.act = 5
      · rw [if_pos h5] at h; obtain ⟨j, w, h1, h2⟩ := specA_dom d k f g h; exact ⟨j, w, by omega, h2⟩
      · rw [if_neg h5] at h
        by_cases e : f = fileOf v
        · exact ⟨k, v, by omega, hv, e.symm⟩
        · simp only [if_neg e] at h
          obtain ⟨j, w, h1, h2⟩ := specA_dom d k f g h; exact ⟨j, w, by omega, h2⟩
theorem prev_some {d : Dep} (hg : Good d.revs) (hN : d.revs.length ≤ 512) {k : Nat} {v u : Rev} (hv : d.revs[k]? = some v) (h : prev? d v = some u) : fileOf u = befF v := by
  by_cases h1 : v.act = 1
  · rw [prev?_one h1] at h; cases h
  · rw [prev?_bef hg hN hv h1] at h
    obtain ⟨j, _, h2⟩ := (get?_iff hg).1 h
    exact h2
theorem prev_none {d : Dep} (hg : Good d.revs) (hN : d.revs.length ≤ 512) {k : Nat} {v : Rev} (hv : d.revs[k]? = some v) (h : prev? d v = none) (g : Fil) : ¬ ((specA d k (befF v)).car g ∨ (specA d k (befF v)).con g ∨ (specA d k (befF v)).cre g) := by
  intro hc
  obtain ⟨j, w, h1, h2, h3⟩ := specA_dom d k _ g hc
  by_cases h1' : v.act = 1
  · exact zFil_no hg h2 (by rw [h3]; simp [befF, h1'])
  · rw [prev?_bef hg hN hv h1'] at h
    have := (get?_iff hg (p := (befF v).path) (n := (befF v).num)).2 ⟨j, h2, h3⟩
    rw [h] at this; cases this
structure RecInv (S : Fil → SS) (b : Fil) (rs : List Rcd) (og : Bool) (n : Int) (c r : List Fil) : Prop where
  car : ∀ g, g ∈ c ↔ (S b).car g ∨ ∃ r ∈ rs, (r.how = 1 ∧ (S ⟨r.frm, r.last⟩).car g) ∨ (¬ r.how = 1 ∧ ¬ r.how = 3 ∧ ∃ n, r.first ≤ n ∧ n ≤ r.last ∧ (S ⟨r.frm, n⟩).con g)
  cre : ∀ g, g ∈ r ↔ (S b).cre g ∨ ∃ r ∈ rs, r.how = 3 ∧ ∃ n, r.first ≤ n ∧ n ≤ r.last ∧ (S ⟨r.frm, n⟩).con g
  og : og = true ↔ rs = [] ∨ ∃ r ∈ rs, r.how = 4
  n0 : 0 ≤ n
  nz : n = 0 ↔ rs = []
  nb : n ≤ 2 + rs.length
@[reducible] def bef9 (o : Option SV) : AO := .box [.d (.v (.bool ((o.map SV.og).getD false))), .d (dSet kF (o.map SV.car)), .d (dSet kF (o.map SV.con)), .d (dSet kF (o.map SV.cre))]
theorem RecInv.step {S : Fil → SS} {b : Fil} {rs : List Rcd} {og : Bool} {n : Int} {c r1 c1 c2 r2 : List Fil} (h : RecInv S b rs og n c r1) (q : Rcd) (h4 : 1 ≤ q.how ∧ q.how ≤ 4)
    (hc1 : ∀ g, g ∈ c1 ↔ g ∈ c ∨ (q.how = 1 ∧ (S ⟨q.frm, q.last⟩).car g)) (hc2 : ∀ g, g ∈ c2 ↔ g ∈ c1 ∨ ((q.how = 2 ∨ q.how = 4) ∧ ∃ m, q.first ≤ m ∧ m < q.last + 1 ∧ (S ⟨q.frm, m⟩).con g))
    (hr2 : ∀ g, g ∈ r2 ↔ g ∈ r1 ∨ (q.how = 3 ∧ ∃ m, q.first ≤ m ∧ m < q.last + 1 ∧ (S ⟨q.frm, m⟩).con g)) :
    RecInv S b (rs ++ [q]) (bif decide (q.how = 4) then true else (bif decide (n + 1 = 1) then false else og)) (bif decide (q.how = 4) then 2 else n + 1) c2 r2 := by
  have ex : ∀ g, (∃ m, q.first ≤ m ∧ m < q.last + 1 ∧ (S ⟨q.frm, m⟩).con g) ↔ ∃ m, q.first ≤ m ∧ m ≤ q.last ∧ (S ⟨q.frm, m⟩).con g := fun g =>
    ⟨fun ⟨m, a1, a2, a3⟩ => ⟨m, a1, by omega, a3⟩, fun ⟨m, a1, a2, a3⟩ => ⟨m, a1, by omega, a3⟩⟩
  have hn0 := h.n0
  have hnz := h.nz
  have hnb := h.nb
  refine ⟨fun g => ?_, fun g => ?_, ?_, ?_, ?_, ?_⟩
  · have : (q.how = 2 ∨ q.how = 4) ↔ (¬ q.how = 1 ∧ ¬ q.how = 3) := by omega
    rw [hc2 g, hc1 g, h.car g, ex g, this]
    simp only [List.mem_append, List.mem_singleton, or_and_right, exists_or, exists_eq_left, or_assoc, and_assoc]
  · rw [hr2 g, h.cre g, ex g]
    simp only [List.mem_append, List.mem_singleton, or_and_right, exists_or, exists_eq_left, or_assoc]
  · by_cases q4 : q.how = 4
    · simp [q4]
    · rw [decide_eq_false q4]
      simp only [cond_false, List.append_eq_nil_iff, List.cons_ne_nil, and_false, false_or, List.mem_append, List.mem_singleton, or_and_right, exists_or, exists_eq_left, q4, or_false]
      by_cases e : n = 0
      · have hr := hnz.1 e
        subst hr
        rw [e]; simp
      · rw [decide_eq_false (by omega : ¬ n + 1 = 1)]
        simp only [cond_false, h.og]
        have : ¬ rs = [] := fun hr => e (hnz.2 hr)
        simp [this]
  · by_cases q4 : q.how = 4
    · simp [q4]
    · rw [decide_eq_false q4]; simp only [cond_false]; omega
  · by_cases q4 : q.how = 4
    · simp [q4]
    · rw [decide_eq_false q4]; simp only [cond_false, List.append_eq_nil_iff, List.cons_ne_nil, and_false, iff_false]; omega
  · by_cases q4 : q.how = 4
    · simp [q4]; omega
    · rw [decide_eq_false q4]; simp only [cond_false, List.length_append, List.length_singleton]; omega
theorem step_in {P : Prop} {p : Prop} {Q : Int → Prop} {a m : Int} (ham : a ≤ m) : ((p ∨ (P ∧ ∃ i, a ≤ i ∧ i < m ∧ Q i)) ∨ (P ∧ Q m)) ↔ (p ∨ (P ∧ ∃ i, a ≤ i ∧ i < m + 1 ∧ Q i)) := by
  constructor
  · rintro ((h | ⟨h, i, h1, h2, h3⟩) | ⟨h, h3⟩)
    · exact .inl h
    · exact .inr ⟨h, i, h1, by omega, h3⟩
    · exact .inr ⟨h, m, ham, by omega, h3⟩
  · rintro (h | ⟨h, i, h1, h2, h3⟩)
    · exact .inl (.inl h)
    · by_cases e : i = m
      · subst e; exact .inr ⟨h, h3⟩
      · exact .inl (.inr ⟨h, i, h1, by omega, h3⟩)
@[reducible] def envR (d : Dep) (k j : Nat) (n : Int) : List (Nat × AV) := [(1, .c (.ptr 1 0)), (3, .c (.mp 17)), (5, .c (.ptr 5 0)), (6, .c (.ptr 6 0)), (7, .c (.ptr 7 0)), (8, I .i64 n), (9, .c (.ptr 9 0)), (13, .c (.ptr 13 0)), (19, aRevs d.revs), (20, I .i64 d.revs.length), (21, I .i64 k), (62, .c (.d (.ps 6 (d.recs.map encRcd)))), (63, I .i64 d.recs.length), (64, I .i64 j)]
@[reducible] def stR (d : Dep) (A : List (Fil × SV)) (v : Rev) (o : Option SV) (rr : Rcd) (og : Bool) (c r : List Fil) : List (Nat × AO) :=
  [(1, .box ((encDep d).map C.d)), (17, .map ((mEnt kF vSV A).map upE)), (5, .box ((encRev v).map C.d)), (6, .box ((encFil (fileOf v)).map C.d)), (33, uMap kF c), (34, uMap kF []), (35, uMap kF r), (7, .box [.d (.v (.bool og)), .mp 33, .mp 34, .mp 35]), (9, bef9 o), (13, .box ((encRcd rr).map C.d))]
theorem SvOK.step {A : List (Fil × SV)} {d : Dep} {k : Nat} (h : SvOK A (specA d k)) {v : Rev} (hv : d.revs[k]? = some v) (h5 : ¬ v.act = 5) (x : SV) (hc : ∀ g, g ∈ x.car ↔ carS (intoR d (fileOf v)) (specA d k) (befF v) (fileOf v) g)
    (hn : ∀ g, g ∈ x.con ↔ g ∈ x.car ∧ ¬ (specA d k (befF v)).car g) (hr : ∀ g, g ∈ x.cre ↔ ((specA d k (befF v)).cre g ∨ ∃ r ∈ intoR d (fileOf v), r.how = 3 ∧ ∃ n, r.first ≤ n ∧ n ≤ r.last ∧ (specA d k ⟨r.frm, n⟩).con g) ∨ g ∈ x.car) :
    SvOK (aput A (fileOf v) x) (specA d (k + 1)) := by
  have hs : specA d (k + 1) = fun f => if f = fileOf v then stepS (intoR d (fileOf v)) (specA d k) v else specA d k f := by simp only [specA, hv, h5, if_false]
  rw [hs]
  refine ⟨fun f g => ?_, fun f g => ?_, fun f g => ?_⟩ <;> rw [alook_aput] <;> by_cases e : f = fileOf v
  · simp only [if_pos e, stepS]; exact (hc g).symm
  · simp only [if_neg e]; exact h.car f g
  · simp only [if_pos e, stepS]; rw [← hc g]; exact (hn g).symm
  · simp only [if_neg e]; exact h.con f g
  · simp only [if_pos e, stepS]; rw [← hc g, ← or_assoc]; exact (hr g).symm
  · simp only [if_neg e]; exact h.cre f g
end Go.Proofs.YtmlhfnodnnbbnaaDoor

namespace Go.Proofs.YtmlhfnodnnbbnaaDoor
open Go.Ab Tys
def opA (A : List (Fil × SV)) (t : Fil) (v u : Rev) : Bool := bif decide (u.chg ≤ v.chg) then !subB (((alook A (fileOf u)).map SV.con).getD []) (((alook A t).map SV.cre).getD []) else false
def remR (A : List (Fil × SV)) (t : Fil) (v : Rev) (l : List Rev) : List Fil := (l.filter (opA A t v)).map fileOf
theorem remR_len (A : List (Fil × SV)) (t : Fil) (v : Rev) (l : List Rev) : (remR A t v l).length ≤ l.length := by simp only [remR, List.length_map]; exact List.length_filter_le ..
theorem remR_eq {d : Dep} {A : List (Fil × SV)} (hA : SvOK A (SA d)) (t : Fil) (v : Rev) : remR A t v (line d (first d v)) = remL d v t := by
  rw [remR, line, remL, List.filter_filter]
  congr 1
  apply List.filter_congr
  intro u hu
  rw [Bool.eq_iff_iff]
  simp only [Bool.and_eq_true, inLine, opA, decide_eq_true_eq, Bool.not_eq_true', decide_eq_false_iff_not]
  have hs : subB (((alook A (fileOf u)).map SV.con).getD []) (((alook A t).map SV.cre).getD []) = true ↔ ∀ g, (SA d (fileOf u)).con g → (SA d t).cre g := by
    simp only [subB, List.all_eq_true, decide_eq_true_eq]
    exact ⟨fun h g hg => (hA.cre t g).2 (h g ((hA.con _ g).1 hg)), fun h g hg => (hA.cre t g).1 (h g ((hA.con _ g).2 hg))⟩
  by_cases hc : u.chg ≤ v.chg
  · rw [decide_eq_true hc]
    simp only [cond_true, Bool.not_eq_true', Open]
    rw [← hs]
    constructor
    · rintro ⟨h1, h2, h3⟩; exact ⟨h2, h3, hc, by simp [h1]⟩
    · rintro ⟨h1, h2, _, h3⟩; exact ⟨by simpa using h3, h1, h2⟩
  · rw [decide_eq_false hc]
    simp [hc]
theorem line_mem {d : Dep} {f : Fil} {u : Rev} (h : u ∈ line d f) : u ∈ d.revs ∧ ¬ u.act = 5 := by
  obtain ⟨h1, h2⟩ := List.mem_filter.1 h
  refine ⟨h1, ?_⟩
  simp [inLine] at h2
  exact h2.1
theorem spec_sub (d : Dep) : ∀ (k : Nat) (f g : Fil), (specA d k f).car g ∨ (specA d k f).con g ∨ (specA d k f).cre g → ∃ w ∈ d.revs, fileOf w = g
  | 0, f, g, h => by simp [specA, SS0] at h
  | k + 1, f, g, h => by
    have ih := spec_sub d k
    simp only [specA] at h
    cases hv : d.revs[k]? with
    | none => rw [hv] at h; exact ih f g h
    | some v =>
      rw [hv] at h
      simp only at h
      by_cases h5 : v.act = 5
      · rw [if_pos h5] at h; exact ih f g h
      · rw [if_neg h5] at h
        by_cases e : f = fileOf v
        · simp only [if_pos e, stepS] at h
          have hc : carS (intoR d (fileOf v)) (specA d k) (befF v) (fileOf v) g → ∃ w ∈ d.revs, fileOf w = g := by
            rintro (h | ⟨r, _, ⟨_, h⟩ | ⟨_, _, n, _, _, h⟩⟩ | ⟨_, h⟩)
            · exact ih _ g (.inl h)
            · exact ih _ g (.inl h)
            · exact ih _ g (.inr (.inl h))
            · exact ⟨v, List.mem_of_getElem? hv, h.symm⟩
          rcases h with h | h | (h | ⟨r, _, _, n, _, _, h⟩ | h)
          · exact hc h
          · exact hc h.1
          · exact ih _ g (.inr (.inr h))
          · exact ih _ g (.inr (.inl h))
          · exact hc h
        · simp only [if_neg e] at h; exact ih f g h
open Classical in
theorem fin_list (d : Dep) (P : Fil → Prop) (h : ∀ g, P g → ∃ w ∈ d.revs, fileOf w = g) : ∃ l : List Fil, ∀ g, g ∈ l ↔ P g := by
  refine ⟨(d.revs.map fileOf).filter fun g => decide (P g), fun g => ?_⟩
  rw [List.mem_filter]
  constructor
  · rintro ⟨_, h2⟩; exact of_decide_eq_true h2
  · intro hp
    obtain ⟨w, hw, e⟩ := h g hp
    exact ⟨List.mem_map.2 ⟨w, hw, e⟩, decide_eq_true hp⟩
theorem exA (d : Dep) : ∀ k : Nat, ∃ A, SvOK A (specA d k) ∧ DomA d k A
  | 0 => ⟨[], by constructor <;> simp [specA, SS0, alook], fun j w h => by simp at h⟩
  | k + 1 => by
    obtain ⟨A, hA, hD⟩ := exA d k
    cases hv : d.revs[k]? with
    | none =>
      have hsp : specA d (k + 1) = specA d k := by simp only [specA, hv]
      refine ⟨A, by rw [hsp]; exact hA, fun j w hj hw => ?_⟩
      by_cases e : j = k
      · subst e; rw [hv] at hw; cases hw
      · exact hD j w (by omega) hw
    | some v =>
      by_cases h5 : v.act = 5
      · have hsp : specA d (k + 1) = specA d k := by simp only [specA, hv, h5, if_true]
        exact ⟨A, by rw [hsp]; exact hA, hD.away hv h5⟩
      · have hs : specA d (k + 1) (fileOf v) = stepS (intoR d (fileOf v)) (specA d k) v := by simp only [specA, hv, h5, if_false, if_true]
        have sub := spec_sub d (k + 1) (fileOf v)
        rw [hs] at sub
        obtain ⟨c, hc⟩ := fin_list d _ (fun g h => sub g (.inl h))
        obtain ⟨m, hm⟩ := fin_list d _ (fun g h => sub g (.inr (.inl h)))
        obtain ⟨r, hr⟩ := fin_list d _ (fun g h => sub g (.inr (.inr h)))
        simp only [stepS] at hc hm hr
        refine ⟨aput A (fileOf v) ⟨true, c, m, r⟩, hA.step hv h5 ⟨true, c, m, r⟩ hc (fun g => ?_) (fun g => ?_), hD.memb hv _⟩
        · simp only; rw [hm g, hc g]
        · simp only; rw [hr g, hc g, or_assoc]
end Go.Proofs.YtmlhfnodnnbbnaaDoor

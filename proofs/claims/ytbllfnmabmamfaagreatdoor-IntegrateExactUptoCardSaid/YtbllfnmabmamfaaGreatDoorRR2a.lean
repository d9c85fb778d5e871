/- A part of the proof. -/
import Derived.Test.YtbllfnmabmamfaaGreatDoorRBd2
import Derived.Test.YtbllfnmabmamfaaGreatDoorQP4
import Derived.Test.YtbllfnmabmamfaaGreatDoorQP7
import Derived.Test.YtbllfnmabmamfaaGreatDoorRT7
import Derived.Test.YtbllfnmabmamfaaGreatDoorRT8
set_option linter.all false
namespace Go.Proofs.YtbllfnmabmamfaaGreatDoor
open Go.Ab Tys
structure SV where
  og : Bool
  car : List Fil
  con : List Fil
  cre : List Fil
structure SvOK (A : List (Fil × SV)) (S : Fil → SS) : Prop where
  car : ∀ f g, (S f).car g ↔ g ∈ ((alook A f).map SV.car).getD []
  con : ∀ f g, (S f).con g ↔ g ∈ ((alook A f).map SV.con).getD []
  cre : ∀ f g, (S f).cre g ↔ g ∈ ((alook A f).map SV.cre).getD []
def DomA (d : Dep) (k : Nat) (A : List (Fil × SV)) : Prop := ∀ (j : Nat) (w : Rev), j < k → d.revs[j]? = some w → ¬ w.act = 5 → ∃ x, alook A (fileOf w) = some x
theorem DomA.away {d : Dep} {k : Nat} {A : List (Fil × SV)} (h : DomA d k A) {v : Rev} (hv : d.revs[k]? = some v) (h5 : v.act = 5) : DomA d (k + 1) A := by
  intro j w hj hw w5
  by_cases e : j = k
  · subst e; rw [hv] at hw; cases hw; exact absurd h5 w5
  · exact h j w (by omega) hw w5
theorem DomA.memb {d : Dep} {k : Nat} {A : List (Fil × SV)} (h : DomA d k A) {v : Rev} (hv : d.revs[k]? = some v) (x : SV) : DomA d (k + 1) (aput A (fileOf v) x) := by
  intro j w hj hw w5
  rw [alook_aput]
  by_cases e : fileOf w = fileOf v
  · exact ⟨x, if_pos e⟩
  · rw [if_neg e]
    have : j ≠ k := by rintro rfl; rw [hv] at hw; cases hw; exact e rfl
    exact h j w (by omega) hw w5
structure RecInv (S : Fil → SS) (b : Fil) (rs : List Rcd) (og : Bool) (n : Int) (c r : List Fil) : Prop where
  car : ∀ g, g ∈ c ↔ (S b).car g ∨ ∃ r ∈ rs, (r.how = 1 ∧ (S ⟨r.frm, r.last⟩).car g) ∨ (¬ r.how = 1 ∧ ¬ r.how = 3 ∧ ∃ n, r.first ≤ n ∧ n ≤ r.last ∧ (S ⟨r.frm, n⟩).con g)
  cre : ∀ g, g ∈ r ↔ (S b).cre g ∨ ∃ r ∈ rs, r.how = 3 ∧ ∃ n, r.first ≤ n ∧ n ≤ r.last ∧ (S ⟨r.frm, n⟩).con g
  og : og = true ↔ rs = [] ∨ ∃ r ∈ rs, r.how = 4
  n0 : 0 ≤ n
  nz : n = 0 ↔ rs = []
  nb : n ≤ 2 + rs.length
theorem RecInv.step {S : Fil → SS} {b : Fil} {rs : List Rcd} {og : Bool} {n : Int} {c r1 c1 c2 r2 : List Fil} (h : RecInv S b rs og n c r1) (q : Rcd) (h4 : 1 ≤ q.how ∧ q.how ≤ 4)
    (hc1 : ∀ g, g ∈ c1 ↔ g ∈ c ∨ (q.how = 1 ∧ (S ⟨q.frm, q.last⟩).car g)) (hc2 : ∀ g, g ∈ c2 ↔ g ∈ c1 ∨ ((q.how = 2 ∨ q.how = 4) ∧ ∃ m, q.first ≤ m ∧ m < q.last + 1 ∧ (S ⟨q.frm, m⟩).con g))
    (hr2 : ∀ g, g ∈ r2 ↔ g ∈ r1 ∨ (q.how = 3 ∧ ∃ m, q.first ≤ m ∧ m < q.last + 1 ∧ (S ⟨q.frm, m⟩).con g)) :
    RecInv S b (rs ++ [q]) (bif decide (q.how = 4) then true else (bif decide (n + 1 = 1) then false else og)) (bif decide (q.how = 4) then 2 else n + 1) c2 r2 := by
  have ex : ∀ g, (∃ m, q.first ≤ m ∧ m < q.last + 1 ∧ (S ⟨q.frm, m⟩).con g) ↔ ∃ m, q.first ≤ m ∧ m ≤ q.last ∧ (S ⟨q.frm, m⟩).con g := fun g =>
    ⟨fun ⟨m, a1, a2, a3⟩ => ⟨m, a1, by omega, a3⟩, fun ⟨m, a1, a2, a3⟩ => ⟨m, a1, by omega, a3⟩⟩
  have hn0 := h.n0
  have hnz := h.nz
  have hnb := h.nb
  refine ⟨fun g => ?_, fun g => ?_, ?_, ?_, ?_, ?_⟩
  · have : (q.how = 2 ∨ q.how = 4) ↔ (¬ q.how = 1 ∧ ¬ q.how = 3) := by omega
    rw [hc2 g, hc1 g, h.car g, ex g, this]
    simp only [List.mem_append, List.mem_singleton, or_and_right, exists_or, exists_eq_left, or_assoc, and_assoc]
  · rw [hr2 g, h.cre g, ex g]
    simp only [List.mem_append, List.mem_singleton, or_and_right, exists_or, exists_eq_left, or_assoc]
  · by_cases q4 : q.how = 4
    · simp [q4]
    · rw [decide_eq_false q4]
      simp only [cond_false, List.append_eq_nil_iff, List.cons_ne_nil, and_false, false_or, List.mem_append, List.mem_singleton, or_and_right, exists_or, exists_eq_left, q4, or_false]
      by_cases e : n = 0
      · have hr := hnz.1 e
        subst hr
        rw [e]; simp
      · rw [decide_eq_false (by omega : ¬ n + 1 = 1)]
        simp only [cond_false, h.og]
        have : ¬ rs = [] := fun hr => e (hnz.2 hr)
        simp [this]
  · by_cases q4 : q.how = 4
    · simp [q4]
    · rw [decide_eq_false q4]; simp only [cond_false]; omega
  · by_cases q4 : q.how = 4
    · simp [q4]
    · rw [decide_eq_false q4]; simp only [cond_false, List.append_eq_nil_iff, List.cons_ne_nil, and_false, iff_false]; omega
  · by_cases q4 : q.how = 4
    · simp [q4]; omega
    · rw [decide_eq_false q4]; simp only [cond_false, List.length_append, List.length_singleton]; omega
theorem SvOK.step {A : List (Fil × SV)} {d : Dep} {k : Nat} (h : SvOK A (specA d k)) {v : Rev} (hv : d.revs[k]? = some v) (h5 : ¬ v.act = 5) (x : SV) (hc : ∀ g, g ∈ x.car ↔ carS (intoR d (fileOf v)) (specA d k) (befF v) (fileOf v) g)
    (hn : ∀ g, g ∈ x.con ↔ g ∈ x.car ∧ ¬ (specA d k (befF v)).car g) (hr : ∀ g, g ∈ x.cre ↔ ((specA d k (befF v)).cre g ∨ ∃ r ∈ intoR d (fileOf v), r.how = 3 ∧ ∃ n, r.first ≤ n ∧ n ≤ r.last ∧ (specA d k ⟨r.frm, n⟩).con g) ∨ g ∈ x.car) :
    SvOK (aput A (fileOf v) x) (specA d (k + 1)) := by
  have hs : specA d (k + 1) = fun f => if f = fileOf v then stepS (intoR d (fileOf v)) (specA d k) v else specA d k f := by simp only [specA, hv, h5, if_false]
  rw [hs]
  refine ⟨fun f g => ?_, fun f g => ?_, fun f g => ?_⟩ <;> rw [alook_aput] <;> by_cases e : f = fileOf v
  · simp only [if_pos e, stepS]; exact (hc g).symm
  · simp only [if_neg e]; exact h.car f g
  · simp only [if_pos e, stepS]; rw [← hc g]; exact (hn g).symm
  · simp only [if_neg e]; exact h.con f g
  · simp only [if_pos e, stepS]; rw [← hc g, ← or_assoc]; exact (hr g).symm
  · simp only [if_neg e]; exact h.cre f g
end Go.Proofs.YtbllfnmabmamfaaGreatDoor
namespace Go.Proofs.YtbllfnmabmamfaaGreatDoor
open Go.Ab Tys
@[reducible] def mB : ByteArray := { data := #[47, 47, 109, 47, 102] }
@[reducible] def dB : ByteArray := { data := #[47, 47, 100, 47, 102] }
@[reducible] def aw1 : Rev := ⟨mB, 1, 1, 1, 1, false, false, false, 0, 0, ByteArray.empty, 0⟩
@[reducible] def aw2 : Rev := ⟨dB, 1, 2, 1, 1, false, false, false, 0, 0, ByteArray.empty, 0⟩
@[reducible] def aw3 : Rev := ⟨mB, 2, 3, 2, 1, false, false, false, 0, 0, ByteArray.empty, 0⟩
@[reducible] def awr : Rcd := ⟨mB, 1, 1, dB, 1, 1⟩
@[reducible] def d0 : Dep := ⟨[aw1, aw2, aw3], [awr]⟩
theorem d0_cases {i : Nat} {v : Rev} (h : d0.revs[i]? = some v) : (i = 0 ∧ v = aw1) ∨ (i = 1 ∧ v = aw2) ∨ (i = 2 ∧ v = aw3) := by
  rcases i with _ | _ | _ | i
  · simp at h; exact .inl ⟨rfl, h.symm⟩
  · simp at h; exact .inr (.inl ⟨rfl, h.symm⟩)
  · simp at h; exact .inr (.inr ⟨rfl, h.symm⟩)
  · simp at h
theorem good_d0 : Good d0.revs := by
  constructor
  · intro i v h; rcases d0_cases h with ⟨rfl, rfl⟩ | ⟨rfl, rfl⟩ | ⟨rfl, rfl⟩ <;> simp
  · intro i v h; rcases d0_cases h with ⟨rfl, rfl⟩ | ⟨rfl, rfl⟩ | ⟨rfl, rfl⟩ <;> simp
  · intro i j u v hij hu hv
    rcases d0_cases hu with ⟨rfl, rfl⟩ | ⟨rfl, rfl⟩ | ⟨rfl, rfl⟩ <;> rcases d0_cases hv with ⟨rfl, rfl⟩ | ⟨rfl, rfl⟩ | ⟨rfl, rfl⟩ <;> first | omega | simp
  · intro i j u v hij hu hv hp
    rcases d0_cases hu with ⟨rfl, rfl⟩ | ⟨rfl, rfl⟩ | ⟨rfl, rfl⟩ <;> rcases d0_cases hv with ⟨rfl, rfl⟩ | ⟨rfl, rfl⟩ | ⟨rfl, rfl⟩ <;> first | omega | (exact absurd hp (by decide)) | simp
  · intro i v h h1 h4
    rcases d0_cases h with ⟨rfl, rfl⟩ | ⟨rfl, rfl⟩ | ⟨rfl, rfl⟩
    · exact absurd rfl h1
    · exact absurd rfl h1
    · exact ⟨0, aw1, by omega, rfl, rfl, rfl, by decide, by decide, by decide⟩
  · intro i v h h4
    rcases d0_cases h with ⟨rfl, rfl⟩ | ⟨rfl, rfl⟩ | ⟨rfl, rfl⟩ <;> exact absurd h4 (by decide)
  · intro i v h h4
    rcases d0_cases h with ⟨rfl, rfl⟩ | ⟨rfl, rfl⟩ | ⟨rfl, rfl⟩ <;> exact absurd h4 (by decide)
  · intro i j u v hij hu hv u4
    rcases d0_cases hu with ⟨rfl, rfl⟩ | ⟨rfl, rfl⟩ | ⟨rfl, rfl⟩ <;> exact absurd u4 (by decide)
@[reducible] def sv1 : SV := ⟨true, [⟨mB, 1⟩], [⟨mB, 1⟩], [⟨mB, 1⟩]⟩
@[reducible] def sv2 : SV := ⟨false, [⟨mB, 1⟩], [⟨mB, 1⟩], [⟨mB, 1⟩]⟩
@[reducible] def sv3 : SV := ⟨true, [⟨mB, 1⟩, ⟨mB, 2⟩], [⟨mB, 2⟩], [⟨mB, 1⟩, ⟨mB, 2⟩]⟩
theorem ok1 : SvOK [(⟨mB, 1⟩, sv1)] (specA d0 1) := by
  have h0 : SvOK [] (specA d0 0) := by constructor <;> simp [specA, SS0, alook]
  have hi : intoR d0 (fileOf aw1) = [] := by decide
  refine h0.step (v := aw1) rfl (by decide) sv1 ?_ ?_ ?_ <;> intro g <;> (try rw [hi]) <;> simp [carS, specA, SS0, fileOf]
theorem ok2 : SvOK [(⟨mB, 1⟩, sv1), (⟨dB, 1⟩, sv2)] (specA d0 2) := by
  have hi : intoR d0 (fileOf aw2) = [awr] := by decide
  have hb : befF aw2 = zFil := by decide
  have hz : alook [((⟨mB, 1⟩ : Fil), sv1)] zFil = none := by decide
  have := ok1.step (v := aw2) rfl (by decide) sv2 (by
    intro g; rw [hi, hb, carS]; simp only [ok1.car, ok1.con, hz]; simp [alook]) (by
    intro g; simp only [hb, ok1.car, hz]; simp) (by
    intro g; rw [hi, hb]; simp only [ok1.car, ok1.con, ok1.cre, hz]; simp)
  exact this
theorem ok3 : SvOK [(⟨mB, 1⟩, sv1), (⟨dB, 1⟩, sv2), (⟨mB, 2⟩, sv3)] (SA d0) := by
  have hi : intoR d0 (fileOf aw3) = [] := by decide
  have hb : befF aw3 = ⟨mB, 1⟩ := by decide
  have := ok2.step (v := aw3) rfl (by decide) sv3 (by
    intro g; rw [hi, hb, carS]; simp only [ok2.car, ok2.con]; simp [alook, fileOf]) (by
    intro g; simp only [hb, ok2.car]; simp [alook]; constructor
    · intro h; rw [h]; exact ⟨.inr rfl, by decide⟩
    · rintro ⟨h | h, h2⟩
      · exact absurd h h2
      · exact h) (by
    intro g; rw [hi, hb]; simp only [ok2.car, ok2.con, ok2.cre]; simp [alook])
  exact this
theorem awake_rem : remS d0 ⟨mB, 2⟩ ⟨dB, 1⟩ = some [⟨mB, 2⟩] := by
  have m1 : member? d0 mB 2 = some aw3 := by decide
  have m2 : member? d0 dB 1 = some aw2 := by decide
  have f1 : first d0 aw1 = first d0 aw3 := by decide
  have f2 : ¬ first d0 aw2 = first d0 aw3 := by decide
  have o1 : ¬ Open d0 ⟨dB, 1⟩ aw1 := by
    simp only [Open, ok3.con, ok3.cre, fileOf]
    intro h
    exact h fun g hg => hg
  have o3 : Open d0 ⟨dB, 1⟩ aw3 := by
    simp only [Open, ok3.con, ok3.cre, fileOf]
    intro h
    have := h ⟨mB, 2⟩ (by decide)
    exact absurd this (by decide)
  have p1 : ¬ (¬ aw1.act = 5 ∧ first d0 aw1 = first d0 aw3 ∧ aw1.chg ≤ aw3.chg ∧ Open d0 ⟨dB, 1⟩ aw1) := fun h => o1 h.2.2.2
  have p2 : ¬ (¬ aw2.act = 5 ∧ first d0 aw2 = first d0 aw3 ∧ aw2.chg ≤ aw3.chg ∧ Open d0 ⟨dB, 1⟩ aw2) := fun h => f2 h.2.1
  have p3 : ¬ aw3.act = 5 ∧ first d0 aw3 = first d0 aw3 ∧ aw3.chg ≤ aw3.chg ∧ Open d0 ⟨dB, 1⟩ aw3 := ⟨by decide, rfl, by decide, o3⟩
  have e : remL d0 aw3 ⟨dB, 1⟩ = [⟨mB, 2⟩] := by
    rw [remL, show d0.revs = [aw1, aw2, aw3] from rfl, List.filter_cons, List.filter_cons, List.filter_cons, List.filter_nil, if_neg (by simpa using p1), if_neg (by simpa using p2), if_pos (by simpa using p3)]; rfl
  simp only [remS, m1, m2, e]
def k18 := And.intro @Tryz.ntmps18 <| And.intro @Tryz.underlying65 <| And.intro @bld30 <| And.intro @bld37 <| And.intro @bld41 <| And.intro @bld46 <| And.intro @bld76 <| And.intro @elt27 <| And.intro @elt28 <| And.intro @elt65 <| And.intro @fld30_0 <| And.intro @fld30_1 <| And.intro @fld37_0 <| And.intro @fld37_1 <| And.intro @fld41_0 <| And.intro @fld46_0 <| And.intro @fld46_1 <| And.intro @fld46_2 <| And.intro @fld46_3 <| And.intro @fld46_4 <| And.intro @fld76_0 <| And.intro @fld76_1 <| And.intro @fld76_2 <| And.intro @fld76_3 <| And.intro @fld76_4 <| And.intro @fld76_5 <| And.intro @ti27 <| And.intro @ti28 <| And.intro @ti3 <| And.intro @ti30 <| And.intro @ti37 <| And.intro @ti41 <| And.intro @ti46 <| And.intro @ti65 <| And.intro @ti76 <| @ti9
theorem v18L2 {G G' : Prop} (g : G') (h : Hid G' → G := by intro h9; (first | refine nvB ?_ | refine goA (wr := false) (by simp only [kB, kG, kS, k18, Nat.reduceAdd, Nat.reduceLT, Nat.reduceEqDiff, ↓reduceIte, reduceCtorEq]; first | done | rfl) ?_); (repeat (first | refine nvB ?_ | refine goA (wr := false) (by simp only [kB, kG, kS, k18, Nat.reduceAdd, Nat.reduceLT, Nat.reduceEqDiff, ↓reduceIte, reduceCtorEq]; first | done | rfl) ?_)); exact h9.out) : G := h ⟨g⟩
set_option maxRecDepth 100000 in
set_option maxHeartbeats 8000000 in
theorem awake_ac : AC Tryz.prog 18 [] [] (fun r st => r = B true ∧ st = []) := by
  have hR := Remaining_ac d0 good_d0 (by decide) (by decide) ⟨mB, 2⟩ ⟨dB, 1⟩
  rw [← remA_some awake_rem] at hR
  refine AC_enter Tryz.func18 rfl rfl (by simp only [Tryz.ntmps18, List.length]; omega) ?_
  intro x hx
  simp only [List.range, List.range.loop, List.length, List.zip, List.zipWith, Nat.reduceAdd, Tryz.ntmps18]
  refine nvA ?_
  refine goA (wr := false) (by simp only [kB, kG, kS, k18, Nat.reduceAdd, Nat.reduceLT, Nat.reduceEqDiff, ↓reduceIte, reduceCtorEq]; first | done | rfl) ?_
  refine nvA ?_
  refine goA (wr := false) (by simp only [kB, kG, kS, k18, Nat.reduceAdd, Nat.reduceLT, Nat.reduceEqDiff, ↓reduceIte, reduceCtorEq]; first | done | rfl) ?_
  refine nvA ?_
  refine TO_go (wr := false) 6 (by simp only [kB, kG, kS, k18, Nat.reduceAdd, Nat.reduceLT, Nat.reduceEqDiff, ↓reduceIte, reduceCtorEq]; first | done | rfl) ?_ ?_
  · exact obN
  refine TO_ent (Ent_frzSlot (i := 12) (id := 12) (ys := d0.revs.map encRev) rfl rfl rfl) ?_
  refine fzA ?_
  refine TO_go (wr := false) 1 (by simp only [kB, kG, kS, k18, Nat.reduceAdd, Nat.reduceLT, Nat.reduceEqDiff, ↓reduceIte, reduceCtorEq]; first | done | rfl) ?_ ?_
  · exact obN
  refine TO_ent (Ent_frzSlot (i := 14) (id := 14) (ys := d0.recs.map encRcd) rfl rfl rfl) ?_
  refine fzA ?_
  (repeat (first | refine v18L2 ?_ | (refine caA [] (hR) ?_; rintro r st' ⟨rfl, rfl⟩; refine frA ?_)))
  refine goA (wr := false) (by simp only [kB, kG, kS, k18, Nat.reduceAdd, Nat.reduceLT, Nat.reduceEqDiff, ↓reduceIte, reduceCtorEq, Int.toNat_zero, encFil, cond_true, show ((1 : Nat) : Int) = 1 from rfl]; first | done | rfl) ?_
  try refine v18L2 ?_
  refine rtA (by simp only [kR, Tryz.results18, ↓reduceIte, Nat.reduceEqDiff, reduceCtorEq]; first | done | rfl) ([]) ?_
  refine ⟨?_, rfl⟩
  rfl
end Go.Proofs.YtbllfnmabmamfaaGreatDoor

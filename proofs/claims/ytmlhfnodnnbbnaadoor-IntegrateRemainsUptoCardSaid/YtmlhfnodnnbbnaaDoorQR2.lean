/- A part of the proof: contracts of functions of the program over abstract states. -/
import Derived.Test.YtmlhfnodnnbbnaaDoorQP6
import Derived.Test.YtmlhfnodnnbbnaaDoorQAbCl
import Derived.Test.YtmlhfnodnnbbnaaDoorQT7
set_option linter.all false
namespace Go.Proofs.YtmlhfnodnnbbnaaDoor
open Go.Ab Tys
structure SV where
  og : Bool
  car : List Fil
  con : List Fil
  cre : List Fil
@[reducible] def vSV (x : SV) : Bool × List D := (true, [.v (.bool x.og), .pm (sEnt kF x.car), .pm (sEnt kF x.con), .pm (sEnt kF x.cre)])
theorem look_SV (A : List (Fil × SV)) (p : ByteArray) (n : Int) : (findE [C.d (.v (.string p)), C.d (.v (.int .i64 n))] ((mEnt kF vSV A).map upE)).getD (true, [C.d (.v (.bool false)), C.d (.v (.map none)), C.d (.v (.map none)), C.d (.v (.map none))]) =
    (true, [C.d (.v (.bool (((alook A ⟨p, n⟩).map SV.og).getD false))), C.d (dSet kF ((alook A ⟨p, n⟩).map SV.car)), C.d (dSet kF ((alook A ⟨p, n⟩).map SV.con)), C.d (dSet kF ((alook A ⟨p, n⟩).map SV.cre))]) := by
  have := findE_ent (ve := vSV) kF_eq A ⟨p, n⟩
  rw [show ((kF ⟨p, n⟩).2.map C.d) = [C.d (.v (.string p)), C.d (.v (.int .i64 n))] from rfl] at this
  rw [this]
  cases alook A ⟨p, n⟩ <;> rfl
theorem ty_SV (A : List (Fil × SV)) : ∀ e ∈ (mEnt kF vSV A).map upE, e.1.1 = true ∧ tyCs [.str, .int .i64] e.1.2 := by
  intro e he
  simp only [mEnt, List.mem_map] at he
  obtain ⟨_, ⟨f, _, rfl⟩, rfl⟩ := he
  exact ⟨rfl, by simp [upE, upD, tyCs]⟩
theorem ins_SV (A : List (Fil × SV)) (p : ByteArray) (n : Int) (og : Bool) (c m r : List Fil) : insE (true, [C.d (.v (.string p)), C.d (.v (.int .i64 n))]) (true, [C.d (.v (.bool og)), C.d (.pm (sEnt kF c)), C.d (.pm (sEnt kF m)), C.d (.pm (sEnt kF r))]) ((mEnt kF vSV A).map upE) = (mEnt kF vSV (aput A ⟨p, n⟩ ⟨og, c, m, r⟩)).map upE :=
  insE_ent (ve := vSV) kF_eq A ⟨p, n⟩ ⟨og, c, m, r⟩
structure SvOK (A : List (Fil × SV)) (S : Fil → SS) : Prop where
  car : ∀ f g, (S f).car g ↔ g ∈ ((alook A f).map SV.car).getD []
  con : ∀ f g, (S f).con g ↔ g ∈ ((alook A f).map SV.con).getD []
  cre : ∀ f g, (S f).cre g ↔ g ∈ ((alook A f).map SV.cre).getD []
def DomA (d : Dep) (k : Nat) (A : List (Fil × SV)) : Prop := ∀ (j : Nat) (w : Rev), j < k → d.revs[j]? = some w → ¬ w.act = 5 → ∃ x, alook A (fileOf w) = some x
theorem DomA.away {d : Dep} {k : Nat} {A : List (Fil × SV)} (h : DomA d k A) {v : Rev} (hv : d.revs[k]? = some v) (h5 : v.act = 5) : DomA d (k + 1) A := by
  intro j w hj hw w5
  by_cases e : j = k
  · subst e; rw [hv] at hw; cases hw; exact absurd h5 w5
  · exact h j w (by omega) hw w5
theorem DomA.memb {d : Dep} {k : Nat} {A : List (Fil × SV)} (h : DomA d k A) {v : Rev} (hv : d.revs[k]? = some v) (x : SV) : DomA d (k + 1) (aput A (fileOf v) x) := by
  intro j w hj hw w5
  rw [alook_aput]
  by_cases e : fileOf w = fileOf v
  · exact ⟨x, if_pos e⟩
  · rw [if_neg e]
    have : j ≠ k := by rintro rfl; rw [hv] at hw; cases hw; exact e rfl
    exact h j w (by omega) hw w5
def RcGood (rs : List Rcd) : Prop := ∀ r ∈ rs, 1 ≤ r.first ∧ r.first ≤ r.last ∧ r.last ≤ 512 ∧ 1 ≤ r.how ∧ r.how ≤ 4
theorem specA_dom (d : Dep) : ∀ (k : Nat) (f g : Fil), (specA d k f).car g ∨ (specA d k f).con g ∨ (specA d k f).cre g → ∃ (j : Nat) (w : Rev), j < k ∧ d.revs[j]? = some w ∧ fileOf w = f
  | 0, f, g, h => by simp [specA, SS0] at h
  | k + 1, f, g, h => by
    simp only [specA] at h
    cases hv : d.revs[k]? with
    | none => rw [hv] at h; obtain ⟨j, w, h1, h2⟩ := specA_dom d k f g h; exact ⟨j, w, by omega, h2⟩
    | some v =>
      rw [hv] at h
      simp only at h
      by_cases h5 : v.act = 5
      · rw [if_pos h5] at h; obtain ⟨j, w, h1, h2⟩ := specA_dom d k f g h; exact ⟨j, w, by omega, h2⟩
      · rw [if_neg h5] at h
        by_cases e : f = fileOf v
        · exact ⟨k, v, by omega, hv, e.symm⟩
        · simp only [if_neg e] at h
          obtain ⟨j, w, h1, h2⟩ := specA_dom d k f g h; exact ⟨j, w, by omega, h2⟩
theorem prev_some {d : Dep} (hg : Good d.revs) (hN : d.revs.length ≤ 512) {k : Nat} {v u : Rev} (hv : d.revs[k]? = some v) (h : prev? d v = some u) : fileOf u = befF v := by
  by_cases h1 : v.act = 1
  · rw [prev?_one h1] at h; cases h
  · rw [prev?_bef hg hN hv h1] at h
    obtain ⟨j, _, h2⟩ := (get?_iff hg).1 h
    exact h2
theorem prev_none {d : Dep} (hg : Good d.revs) (hN : d.revs.length ≤ 512) {k : Nat} {v : Rev} (hv : d.revs[k]? = some v) (h : prev? d v = none) (g : Fil) : ¬ ((specA d k (befF v)).car g ∨ (specA d k (befF v)).con g ∨ (specA d k (befF v)).cre g) := by
  intro hc
  obtain ⟨j, w, h1, h2, h3⟩ := specA_dom d k _ g hc
  by_cases h1' : v.act = 1
  · exact zFil_no hg h2 (by rw [h3]; simp [befF, h1'])
  · rw [prev?_bef hg hN hv h1'] at h
    have := (get?_iff hg (p := (befF v).path) (n := (befF v).num)).2 ⟨j, h2, h3⟩
    rw [h] at this; cases this
structure RecInv (S : Fil → SS) (b : Fil) (rs : List Rcd) (og : Bool) (n : Int) (c r : List Fil) : Prop where
  car : ∀ g, g ∈ c ↔ (S b).car g ∨ ∃ r ∈ rs, (r.how = 1 ∧ (S ⟨r.frm, r.last⟩).car g) ∨ (¬ r.how = 1 ∧ ¬ r.how = 3 ∧ ∃ n, r.first ≤ n ∧ n ≤ r.last ∧ (S ⟨r.frm, n⟩).con g)
  cre : ∀ g, g ∈ r ↔ (S b).cre g ∨ ∃ r ∈ rs, r.how = 3 ∧ ∃ n, r.first ≤ n ∧ n ≤ r.last ∧ (S ⟨r.frm, n⟩).con g
  og : og = true ↔ rs = [] ∨ ∃ r ∈ rs, r.how = 4
  n0 : 0 ≤ n
  nz : n = 0 ↔ rs = []
  nb : n ≤ 2 + rs.length
@[reducible] def bef9 (o : Option SV) : AO := .box [.d (.v (.bool ((o.map SV.og).getD false))), .d (dSet kF (o.map SV.car)), .d (dSet kF (o.map SV.con)), .d (dSet kF (o.map SV.cre))]
theorem RecInv.step {S : Fil → SS} {b : Fil} {rs : List Rcd} {og : Bool} {n : Int} {c r1 c1 c2 r2 : List Fil} (h : RecInv S b rs og n c r1) (q : Rcd) (h4 : 1 ≤ q.how ∧ q.how ≤ 4)
    (hc1 : ∀ g, g ∈ c1 ↔ g ∈ c ∨ (q.how = 1 ∧ (S ⟨q.frm, q.last⟩).car g)) (hc2 : ∀ g, g ∈ c2 ↔ g ∈ c1 ∨ ((q.how = 2 ∨ q.how = 4) ∧ ∃ m, q.first ≤ m ∧ m < q.last + 1 ∧ (S ⟨q.frm, m⟩).con g))
    (hr2 : ∀ g, g ∈ r2 ↔ g ∈ r1 ∨ (q.how = 3 ∧ ∃ m, q.first ≤ m ∧ m < q.last + 1 ∧ (S ⟨q.frm, m⟩).con g)) :
    RecInv S b (rs ++ [q]) (bif decide (q.how = 4) then true else (bif decide (n + 1 = 1) then false else og)) (bif decide (q.how = 4) then 2 else n + 1) c2 r2 := by
  have ex : ∀ g, (∃ m, q.first ≤ m ∧ m < q.last + 1 ∧ (S ⟨q.frm, m⟩).con g) ↔ ∃ m, q.first ≤ m ∧ m ≤ q.last ∧ (S ⟨q.frm, m⟩).con g := fun g =>
    ⟨fun ⟨m, a1, a2, a3⟩ => ⟨m, a1, by omega, a3⟩, fun ⟨m, a1, a2, a3⟩ => ⟨m, a1, by omega, a3⟩⟩
  have hn0 := h.n0
  have hnz := h.nz
  have hnb := h.nb
  refine ⟨fun g => ?_, fun g => ?_, ?_, ?_, ?_, ?_⟩
  · have : (q.how = 2 ∨ q.how = 4) ↔ (¬ q.how = 1 ∧ ¬ q.how = 3) := by omega
    rw [hc2 g, hc1 g, h.car g, ex g, this]
    simp only [List.mem_append, List.mem_singleton, or_and_right, exists_or, exists_eq_left, or_assoc, and_assoc]
  · rw [hr2 g, h.cre g, ex g]
    simp only [List.mem_append, List.mem_singleton, or_and_right, exists_or, exists_eq_left, or_assoc]
  · by_cases q4 : q.how = 4
    · simp [q4]
    · rw [decide_eq_false q4]
      simp only [cond_false, List.append_eq_nil_iff, List.cons_ne_nil, and_false, false_or, List.mem_append, List.mem_singleton, or_and_right, exists_or, exists_eq_left, q4, or_false]
      by_cases e : n = 0
      · have hr := hnz.1 e
        subst hr
        rw [e]; simp
      · rw [decide_eq_false (by omega : ¬ n + 1 = 1)]
        simp only [cond_false, h.og]
        have : ¬ rs = [] := fun hr => e (hnz.2 hr)
        simp [this]
  · by_cases q4 : q.how = 4
    · simp [q4]
    · rw [decide_eq_false q4]; simp only [cond_false]; omega
  · by_cases q4 : q.how = 4
    · simp [q4]
    · rw [decide_eq_false q4]; simp only [cond_false, List.append_eq_nil_iff, List.cons_ne_nil, and_false, iff_false]; omega
  · by_cases q4 : q.how = 4
    · simp [q4]; omega
    · rw [decide_eq_false q4]; simp only [cond_false, List.length_append, List.length_singleton]; omega
theorem step_in {P : Prop} {p : Prop} {Q : Int → Prop} {a m : Int} (ham : a ≤ m) : ((p ∨ (P ∧ ∃ i, a ≤ i ∧ i < m ∧ Q i)) ∨ (P ∧ Q m)) ↔ (p ∨ (P ∧ ∃ i, a ≤ i ∧ i < m + 1 ∧ Q i)) := by
  constructor
  · rintro ((h | ⟨h, i, h1, h2, h3⟩) | ⟨h, h3⟩)
    · exact .inl h
    · exact .inr ⟨h, i, h1, by omega, h3⟩
    · exact .inr ⟨h, m, ham, by omega, h3⟩
  · rintro (h | ⟨h, i, h1, h2, h3⟩)
    · exact .inl (.inl h)
    · by_cases e : i = m
      · subst e; exact .inr ⟨h, h3⟩
      · exact .inl (.inr ⟨h, i, h1, by omega, h3⟩)
@[reducible] def envR (d : Dep) (k j : Nat) (n : Int) : List (Nat × AV) := [(1, .c (.ptr 1 0)), (3, .c (.mp 17)), (5, .c (.ptr 5 0)), (6, .c (.ptr 6 0)), (7, .c (.ptr 7 0)), (8, I .i64 n), (9, .c (.ptr 9 0)), (13, .c (.ptr 13 0)), (19, aRevs d.revs), (20, I .i64 d.revs.length), (21, I .i64 k), (62, .c (.d (.ps 6 (d.recs.map encRcd)))), (63, I .i64 d.recs.length), (64, I .i64 j)]
@[reducible] def stR (d : Dep) (A : List (Fil × SV)) (v : Rev) (o : Option SV) (rr : Rcd) (og : Bool) (c r : List Fil) : List (Nat × AO) :=
  [(1, .box ((encDep d).map C.d)), (17, .map ((mEnt kF vSV A).map upE)), (5, .box ((encRev v).map C.d)), (6, .box ((encFil (fileOf v)).map C.d)), (33, uMap kF c), (34, uMap kF []), (35, uMap kF r), (7, .box [.d (.v (.bool og)), .mp 33, .mp 34, .mp 35]), (9, bef9 o), (13, .box ((encRcd rr).map C.d))]
theorem SvOK.step {A : List (Fil × SV)} {d : Dep} {k : Nat} (h : SvOK A (specA d k)) {v : Rev} (hv : d.revs[k]? = some v) (h5 : ¬ v.act = 5) (x : SV) (hc : ∀ g, g ∈ x.car ↔ carS (intoR d (fileOf v)) (specA d k) (befF v) (fileOf v) g)
    (hn : ∀ g, g ∈ x.con ↔ g ∈ x.car ∧ ¬ (specA d k (befF v)).car g) (hr : ∀ g, g ∈ x.cre ↔ ((specA d k (befF v)).cre g ∨ ∃ r ∈ intoR d (fileOf v), r.how = 3 ∧ ∃ n, r.first ≤ n ∧ n ≤ r.last ∧ (specA d k ⟨r.frm, n⟩).con g) ∨ g ∈ x.car) :
    SvOK (aput A (fileOf v) x) (specA d (k + 1)) := by
  have hs : specA d (k + 1) = fun f => if f = fileOf v then stepS (intoR d (fileOf v)) (specA d k) v else specA d k f := by simp only [specA, hv, h5, if_false]
  rw [hs]
  refine ⟨fun f g => ?_, fun f g => ?_, fun f g => ?_⟩ <;> rw [alook_aput] <;> by_cases e : f = fileOf v
  · simp only [if_pos e, stepS]; exact (hc g).symm
  · simp only [if_neg e]; exact h.car f g
  · simp only [if_pos e, stepS]; rw [← hc g]; exact (hn g).symm
  · simp only [if_neg e]; exact h.con f g
  · simp only [if_pos e, stepS]; rw [← hc g, ← or_assoc]; exact (hr g).symm
  · simp only [if_neg e]; exact h.cre f g
def k27 := And.intro @Tryd.ntmps27 <| And.intro @Tryd.underlying27 <| And.intro @Tryd.underlying28 <| And.intro @bld124 <| And.intro @bld24 <| And.intro @bld30 <| And.intro @bld50 <| And.intro @bld69 <| And.intro @elt27 <| And.intro @elt28 <| And.intro @fld124_0 <| And.intro @fld124_1 <| And.intro @fld124_2 <| And.intro @fld124_3 <| And.intro @fld24_0 <| And.intro @fld24_1 <| And.intro @fld30_0 <| And.intro @fld30_1 <| And.intro @fld50_0 <| And.intro @fld50_1 <| And.intro @fld50_3 <| And.intro @fld69_0 <| And.intro @fld69_1 <| And.intro @fld69_2 <| And.intro @fld69_3 <| And.intro @fld69_4 <| And.intro @fld69_5 <| And.intro @kyt24 <| And.intro @mpt122 <| And.intro @mpt88 <| And.intro @ti122 <| And.intro @ti124 <| And.intro @ti24 <| And.intro @ti27 <| And.intro @ti28 <| And.intro @ti3 <| And.intro @ti30 <| And.intro @ti4 <| And.intro @ti50 <| And.intro @ti69 <| And.intro @ti88 <| @ti9
set_option maxRecDepth 100000 in
set_option maxHeartbeats 16000000 in
theorem All_ac (d : Dep) (hg : Good d.revs) (hn : d.revs.length ≤ 512) (hm : d.recs.length ≤ 512) (hrc : RcGood d.recs) :
    AC Tryd.prog 27 [aDep d] [] (fun r st => (∃ A, SvOK A (SA d) ∧ DomA d d.revs.length A ∧ r = .c (.d (.pm (mEnt kF vSV A)))) ∧ st = []) := by
  refine AC_enter Tryd.func27 rfl rfl (by simp only [Tryd.ntmps27, List.length]; omega) ?_
  intro x hx
  simp only [List.range, List.range.loop, List.length, List.zip, List.zipWith, Nat.reduceAdd, Tryd.ntmps27]
  (repeat (first | (with_reducible first | refine na ?_ | refine nb ?_ | refine nc ?_ | refine nd ?_ | refine ne ?_ | refine nf ?_ | refine ng ?_ | refine nh ?_ | refine ni ?_ | refine nj ?_ | refine nk ?_ | refine nl ?_ | refine nm (by decide) ?_ | refine nn ?_) | refine TO_go (wr := false) 400 (by simp only [kB, kG, kS, kM, k27, Nat.reduceAdd, Nat.reduceLT, Nat.reduceEqDiff, ↓reduceIte, reduceCtorEq]; first | done | rfl) (by first | exact trivial | (simp only [kO]; omega) | (simp [All, InR]; first | done | omega) | (simp +contextual [All, InR]; first | done | grind)) ?_))
  refine T_loop (ι := Nat × List (Fil × SV)) (I := fun j => ⟨164, [(1, .c (.ptr 1 0)), (3, .c (.mp 17)), (19, aRevs d.revs), (20, I .i64 d.revs.length), (21, I .i64 j.1)],
      [(1, .box ((encDep d).map C.d)), (17, .map ((mEnt kF vSV j.2).map upE))]⟩)
    (Inv := fun j => j.1 ≤ d.revs.length ∧ SvOK j.2 (specA d j.1) ∧ DomA d j.1 j.2) (μ := fun j => d.revs.length - j.1) (0, []) ⟨by simp, by constructor <;> simp [specA, SS0, alook], fun j w h => by simp at h⟩ ?_ ?_
  · (refine Ent_sub (fun i => i) rfl ?_ ⟨?_, ?_, ?_, keepI hx (by simp [domOf, Ab.get])⟩ <;> first | (simp only [kE, dArr, ↓reduceIte, Nat.reduceEqDiff, reduceCtorEq]; done) | simp [renAV_id, renAO_id, flat_up, Ab.get, clAV, clC, clCs, clAO, cl_f1, cl_s1, cl_f2, cl_s2, cl_a1, domOf, List.flatten])
  rintro ⟨k, A⟩ ⟨hk, hA, hD⟩
  simp only at hk hA hD ⊢
  (repeat (first | (with_reducible first | refine na ?_ | refine nb ?_ | refine nc ?_ | refine nd ?_ | refine ne ?_ | refine nf ?_ | refine ng ?_ | refine nh ?_ | refine ni ?_ | refine nj ?_ | refine nk ?_ | refine nl ?_ | refine nm (by decide) ?_ | refine nn ?_) | refine TO_go (wr := false) 400 (by simp only [kB, kG, kS, kM, k27, Nat.reduceAdd, Nat.reduceLT, Nat.reduceEqDiff, ↓reduceIte, reduceCtorEq]; first | done | rfl) (by first | exact trivial | (simp only [kO]; omega) | (simp [All, InR]; first | done | omega) | (simp +contextual [All, InR]; first | done | grind)) ?_))
  refine T_cond (by simp only [kV, ↓reduceIte, Nat.reduceEqDiff, reduceCtorEq]; first | done | rfl) ?_ ?_
  · intro hlt
    have hlt' : k < d.revs.length := by simpa using hlt
    obtain ⟨v, hv, he, htk⟩ := round encRev d.revs k zRev hlt'
    (repeat (first | (with_reducible first | refine na ?_ | refine nb ?_ | refine nc ?_ | refine nd ?_ | refine ne ?_ | refine nf ?_ | refine ng ?_ | refine nh ?_ | refine ni ?_ | refine nj ?_ | refine nk ?_ | refine nl ?_ | refine nm (by decide) ?_ | refine nn ?_) | refine TO_go (wr := false) 400 (by simp only [kB, kG, kS, kM, k27, Nat.reduceAdd, Nat.reduceLT, Nat.reduceEqDiff, ↓reduceIte, reduceCtorEq, he]; first | done | rfl) (by first | exact trivial | (simp only [kO]; omega) | (simp [All, InR]; first | done | omega) | (simp +contextual [All, InR]; first | done | grind)) ?_))
    refine T_cond (by simp only [kV, ↓reduceIte, Nat.reduceEqDiff, reduceCtorEq]; first | done | rfl) ?_ ?_
    · intro h5
      have h5' : v.act = 5 := by simpa using h5
      have hsp : specA d (k + 1) = specA d k := by simp only [specA, hv, h5', if_true]
      (repeat (first | (with_reducible first | refine na ?_ | refine nb ?_ | refine nc ?_ | refine nd ?_ | refine ne ?_ | refine nf ?_ | refine ng ?_ | refine nh ?_ | refine ni ?_ | refine nj ?_ | refine nk ?_ | refine nl ?_ | refine nm (by decide) ?_ | refine nn ?_) | refine TO_go (wr := false) 400 (by simp only [kB, kG, kS, kM, k27, Nat.reduceAdd, Nat.reduceLT, Nat.reduceEqDiff, ↓reduceIte, reduceCtorEq]; first | done | rfl) (by first | exact trivial | (simp only [kO]; omega) | (simp [All, InR]; first | done | omega) | (simp +contextual [All, InR]; first | done | grind)) ?_))
      refine ⟨(k + 1, A), ⟨hlt', by rw [hsp]; exact hA, hD.away hv h5'⟩, by simp; omega, ?_⟩
      (refine Ent_sub (fun i => i) rfl ?_ ⟨?_, ?_, ?_, keepI hx (by simp [domOf, Ab.get])⟩ <;> first | (simp only [kE, dArr, ↓reduceIte, Nat.reduceEqDiff, reduceCtorEq]; done) | simp [renAV_id, renAO_id, flat_up, Ab.get, clAV, clC, clCs, clAO, cl_f1, cl_s1, cl_f2, cl_s2, cl_a1, domOf, List.flatten])
    intro h5
    have h5' : ¬ v.act = 5 := by simpa using h5
    (repeat (first | (with_reducible first | refine na ?_ | refine nb ?_ | refine nc ?_ | refine nd ?_ | refine ne ?_ | refine nf ?_ | refine ng ?_ | refine nh ?_ | refine ni ?_ | refine nj ?_ | refine nk ?_ | refine nl ?_ | refine nm (by decide) ?_ | refine nn ?_) | refine TO_go (wr := false) 400 (by simp only [kB, kG, kS, kM, k27, Nat.reduceAdd, Nat.reduceLT, Nat.reduceEqDiff, ↓reduceIte, reduceCtorEq]; first | done | rfl) (by first | exact trivial | (simp only [kO]; omega) | (simp [All, InR]; first | done | omega) | (simp +contextual [All, InR]; first | done | grind)) ?_ | (refine TO_call [] (by simp) (by simp only [kV, ↓reduceIte, Nat.reduceEqDiff, reduceCtorEq]; first | done | rfl) ⟨by simp, by simp, by simp [clAV, clC, clCs]⟩ (prev_ac d v (by omega)) ?_; (rintro r st' ⟨rfl, rfl⟩; refine ⟨by simp [Fresh], ?_⟩; simp only [kP, Nat.reduceEqDiff, ↓reduceIte, reduceCtorEq]))))
    refine T_joinE (ι := Option SV × List Fil × List Fil)
      (fun j => ⟨164, [(1, .c (.ptr 1 0)), (3, .c (.mp 17)), (5, .c (.ptr 5 0)), (6, .c (.ptr 6 0)), (7, .c (.ptr 7 0)), (8, I .i64 0), (9, .c (.ptr 9 0)), (19, aRevs d.revs), (20, I .i64 d.revs.length), (21, I .i64 k)],
        [(1, .box ((encDep d).map C.d)), (17, .map ((mEnt kF vSV A).map upE)), (5, .box ((encRev v).map C.d)), (6, .box ((encFil (fileOf v)).map C.d)), (33, uMap kF j.2.1), (34, uMap kF []), (35, uMap kF j.2.2), (7, .box [.d (.v (.bool true)), .mp 33, .mp 34, .mp 35]), (9, bef9 j.1)]⟩)
      (fun j => (∀ g, (specA d k (befF v)).car g ↔ g ∈ (j.1.map SV.car).getD []) ∧ (∀ g, (specA d k (befF v)).car g ↔ g ∈ j.2.1) ∧ (∀ g, (specA d k (befF v)).cre g ↔ g ∈ j.2.2)) ?_ ?_
    · cases hp : prev? d v with
      | none =>
        have hno := prev_none hg hn hv hp
        refine T_cond (by simp only [kV, ↓reduceIte, Nat.reduceEqDiff, reduceCtorEq]; first | done | rfl) ?_ ?_
        · intro h; cases h
        intro _
        (repeat (with_reducible first | refine na ?_ | refine nb ?_ | refine nc ?_ | refine nd ?_ | refine ne ?_ | refine nf ?_ | refine ng ?_ | refine nh ?_ | refine ni ?_ | refine nj ?_ | refine nk ?_ | refine nl ?_ | refine nm (by decide) ?_ | refine nn ?_))
        refine ⟨rfl, (none, [], []), ⟨fun g => ?_, fun g => ?_, fun g => ?_⟩, ?_⟩
        · simp only [Option.map_none, Option.getD, List.not_mem_nil, iff_false]; exact fun h => hno g (.inl h)
        · simp only [List.not_mem_nil, iff_false]; exact fun h => hno g (.inl h)
        · simp only [List.not_mem_nil, iff_false]; exact fun h => hno g (.inr (.inr h))
        · (refine Ent_sub (fun i => i) rfl ?_ ⟨?_, ?_, ?_, keepI hx (by simp [domOf, Ab.get])⟩ <;> first | (simp only [kE, dArr, ↓reduceIte, Nat.reduceEqDiff, reduceCtorEq, fileOf]; done) | simp [renAV_id, renAO_id, flat_up, Ab.get, clAV, clC, clCs, clAO, cl_f1, cl_s1, cl_f2, cl_s2, cl_a1, domOf, List.flatten, fileOf])
      | some u =>
        have hfu := prev_some hg hn hv hp
        simp only [Option.getD]
        refine T_cond (by simp only [kV, ↓reduceIte, Nat.reduceEqDiff, reduceCtorEq]; first | done | rfl) ?_ ?_
        rotate_left
        · intro h; cases h
        intro _
        (repeat (with_reducible first | refine na ?_ | refine nb ?_ | refine nc ?_ | refine nd ?_ | refine ne ?_ | refine nf ?_ | refine ng ?_ | refine nh ?_ | refine ni ?_ | refine nj ?_ | refine nk ?_ | refine nl ?_ | refine nm (by decide) ?_ | refine nn ?_))
        refine TO_go (wr := false) 400 (by simp only [kB, kG, kS, kM, k27, Nat.reduceAdd, Nat.reduceLT, Nat.reduceEqDiff, ↓reduceIte, reduceCtorEq, look_SV]; first | done | rfl) ?_ ?_
        · simp only [All, List.cons_append, List.nil_append, InR, List.mem_cons, List.not_mem_nil, or_false, forall_eq_or_imp, forall_eq, clAV, clCs, clC, and_true, true_and, implies_true, List.length_map, List.length_cons, List.length_nil, dArr, cl_arr, tyCs]
          repeat' (first | exact trivial | exact ty_SV A | refine And.intro ?_ ?_ | intro _ | assumption | rfl | omega | (rw [Bool.not_eq_true']; assumption) | (simp; done) | (simp only [decide_eq_true_eq] at *; omega) | (simp_all; done))
        have hcA := hA.car (befF v)
        have hrA := hA.cre (befF v)
        rw [show (⟨u.path, u.num⟩ : Fil) = befF v from hfu]
        generalize alook A (befF v) = o at hcA hrA ⊢
        (repeat (first | (with_reducible first | refine na ?_ | refine nb ?_ | refine nc ?_ | refine nd ?_ | refine ne ?_ | refine nf ?_ | refine ng ?_ | refine nh ?_ | refine ni ?_ | refine nj ?_ | refine nk ?_ | refine nl ?_ | refine nm (by decide) ?_ | refine nn ?_) | refine TO_go (wr := false) 400 (by simp only [kB, kG, kS, kM, k27, Nat.reduceAdd, Nat.reduceLT, Nat.reduceEqDiff, ↓reduceIte, reduceCtorEq]; first | done | rfl) (by first | exact trivial | (simp only [kO]; omega) | (simp [All, InR]; first | done | omega) | (simp +contextual [All, InR]; first | done | grind)) ?_))
        refine TO_call ([(33, uMap kF [])]) (by simp) (by simp only [kV, ↓reduceIte, Nat.reduceEqDiff, reduceCtorEq]; first | done | rfl) ⟨by simp [Ab.get, clPs], by simp [clAO, cl_f1, cl_s1, cl_f2, cl_s2, cl_a1, flat_up, clCs, clC, domOf, Ab.get, clPs], by simp [clAV, clC, clCs, domOf, Ab.get, clPs]⟩ (add_ac 33 (by decide) (by decide) [] (o.map SV.car)) ?_
        rintro rv9 st' ⟨c, hc, rfl⟩
        refine ⟨by simp [Fresh, domOf, Ab.get], ?_⟩
        simp only [kP, Nat.reduceEqDiff, ↓reduceIte, reduceCtorEq, List.cons_append, List.nil_append]
        (repeat (first | (with_reducible first | refine na ?_ | refine nb ?_ | refine nc ?_ | refine nd ?_ | refine ne ?_ | refine nf ?_ | refine ng ?_ | refine nh ?_ | refine ni ?_ | refine nj ?_ | refine nk ?_ | refine nl ?_ | refine nm (by decide) ?_ | refine nn ?_) | refine TO_go (wr := false) 400 (by simp only [kB, kG, kS, kM, k27, Nat.reduceAdd, Nat.reduceLT, Nat.reduceEqDiff, ↓reduceIte, reduceCtorEq]; first | done | rfl) (by first | exact trivial | (simp only [kO]; omega) | (simp [All, InR]; first | done | omega) | (simp +contextual [All, InR]; first | done | grind)) ?_))
        refine TO_call ([(35, uMap kF [])]) (by simp) (by simp only [kV, ↓reduceIte, Nat.reduceEqDiff, reduceCtorEq]; first | done | rfl) ⟨by simp [Ab.get, clPs], by simp [clAO, cl_f1, cl_s1, cl_f2, cl_s2, cl_a1, flat_up, clCs, clC, domOf, Ab.get, clPs], by simp [clAV, clC, clCs, domOf, Ab.get, clPs]⟩ (add_ac 35 (by decide) (by decide) [] (o.map SV.cre)) ?_
        rintro rv9 st' ⟨cr, hcr, rfl⟩
        refine ⟨by simp [Fresh, domOf, Ab.get], ?_⟩
        simp only [kP, Nat.reduceEqDiff, ↓reduceIte, reduceCtorEq, List.cons_append, List.nil_append]
        (repeat (with_reducible first | refine na ?_ | refine nb ?_ | refine nc ?_ | refine nd ?_ | refine ne ?_ | refine nf ?_ | refine ng ?_ | refine nh ?_ | refine ni ?_ | refine nj ?_ | refine nk ?_ | refine nl ?_ | refine nm (by decide) ?_ | refine nn ?_))
        refine ⟨rfl, (o, c, cr), ⟨hcA, fun g => ?_, fun g => ?_⟩, ?_⟩
        · rw [hc g, hcA g]; simp
        · rw [hcr g, hrA g]; simp
        · (refine Ent_sub (fun i => i) rfl ?_ ⟨?_, ?_, ?_, keepI hx (by simp [domOf, Ab.get])⟩ <;> first | (simp only [kE, dArr, ↓reduceIte, Nat.reduceEqDiff, reduceCtorEq, fileOf]; done) | simp [renAV_id, renAO_id, flat_up, Ab.get, clAV, clC, clCs, clAO, cl_f1, cl_s1, cl_f2, cl_s2, cl_a1, domOf, List.flatten, fileOf])
    rintro ⟨o, c0, r0⟩ ⟨ho, hc0, hr0⟩
    simp only at ho hc0 hr0 ⊢
    (repeat (first | (with_reducible first | refine na ?_ | refine nb ?_ | refine nc ?_ | refine nd ?_ | refine ne ?_ | refine nf ?_ | refine ng ?_ | refine nh ?_ | refine ni ?_ | refine nj ?_ | refine nk ?_ | refine nl ?_ | refine nm (by decide) ?_ | refine nn ?_) | refine TO_go (wr := false) 400 (by simp only [kB, kG, kS, kM, k27, Nat.reduceAdd, Nat.reduceLT, Nat.reduceEqDiff, ↓reduceIte, reduceCtorEq]; first | done | rfl) (by first | exact trivial | (simp only [kO]; omega) | (simp [All, InR]; first | done | omega) | (simp +contextual [All, InR]; first | done | grind)) ?_))
    refine T_loop (ι := Nat × Bool × Int × List Fil × List Fil) (I := fun j => ⟨164, [(1, .c (.ptr 1 0)), (3, .c (.mp 17)), (5, .c (.ptr 5 0)), (6, .c (.ptr 6 0)), (7, .c (.ptr 7 0)), (8, I .i64 j.2.2.1), (9, .c (.ptr 9 0)), (19, aRevs d.revs), (20, I .i64 d.revs.length), (21, I .i64 k), (62, .c (.d (.ps 6 (d.recs.map encRcd)))), (63, I .i64 d.recs.length), (64, I .i64 j.1)],
        [(1, .box ((encDep d).map C.d)), (17, .map ((mEnt kF vSV A).map upE)), (5, .box ((encRev v).map C.d)), (6, .box ((encFil (fileOf v)).map C.d)), (33, uMap kF j.2.2.2.1), (34, uMap kF []), (35, uMap kF j.2.2.2.2), (7, .box [.d (.v (.bool j.2.1)), .mp 33, .mp 34, .mp 35]), (9, bef9 o)]⟩)
      (Inv := fun j => j.1 ≤ d.recs.length ∧ RecInv (specA d k) (befF v) ((d.recs.take j.1).filter fun r => decide ((⟨r.to, r.num⟩ : Fil) = fileOf v)) j.2.1 j.2.2.1 j.2.2.2.1 j.2.2.2.2) (μ := fun j => d.recs.length - j.1) (0, true, 0, c0, r0)
      ⟨by simp, ⟨fun g => by simp [hc0 g], fun g => by simp [hr0 g], by simp, by simp, by simp, by simp⟩⟩ ?_ ?_
    · (refine Ent_sub (fun i => i) rfl ?_ ⟨?_, ?_, ?_, keepI hx (by simp [domOf, Ab.get])⟩ <;> first | (simp only [kE, dArr, ↓reduceIte, Nat.reduceEqDiff, reduceCtorEq, fileOf]; done) | simp [renAV_id, renAO_id, flat_up, Ab.get, clAV, clC, clCs, clAO, cl_f1, cl_s1, cl_f2, cl_s2, cl_a1, domOf, List.flatten, fileOf])
    rintro ⟨j, og, n, c, r1⟩ ⟨hj, hR⟩
    simp only at hj hR ⊢
    have hnb := hR.nb
    have hn0 := hR.n0
    have hfl : ((d.recs.take j).filter fun r => decide ((⟨r.to, r.num⟩ : Fil) = fileOf v)).length ≤ 512 := Nat.le_trans (List.length_filter_le ..) (by simp; omega)
    (repeat (first | (with_reducible first | refine na ?_ | refine nb ?_ | refine nc ?_ | refine nd ?_ | refine ne ?_ | refine nf ?_ | refine ng ?_ | refine nh ?_ | refine ni ?_ | refine nj ?_ | refine nk ?_ | refine nl ?_ | refine nm (by decide) ?_ | refine nn ?_) | refine TO_go (wr := false) 400 (by simp only [kB, kG, kS, kM, k27, Nat.reduceAdd, Nat.reduceLT, Nat.reduceEqDiff, ↓reduceIte, reduceCtorEq]; first | done | rfl) (by first | exact trivial | (simp only [kO]; omega) | (simp [All, InR]; first | done | omega) | (simp +contextual [All, InR]; first | done | grind)) ?_))
    refine T_cond (by simp only [kV, ↓reduceIte, Nat.reduceEqDiff, reduceCtorEq]; first | done | rfl) ?_ ?_
    · intro hlt2
      have hlt2' : j < d.recs.length := by simpa using hlt2
      obtain ⟨r, hr, he2, htk2⟩ := round encRcd d.recs j zRcd hlt2'
      obtain ⟨q1, q2, q3, q4, q5⟩ := hrc r (List.mem_of_getElem? hr)
      (repeat (first | (with_reducible first | refine na ?_ | refine nb ?_ | refine nc ?_ | refine nd ?_ | refine ne ?_ | refine nf ?_ | refine ng ?_ | refine nh ?_ | refine ni ?_ | refine nj ?_ | refine nk ?_ | refine nl ?_ | refine nm (by decide) ?_ | refine nn ?_) | refine TO_go (wr := false) 400 (by simp only [kB, kG, kS, kM, k27, Nat.reduceAdd, Nat.reduceLT, Nat.reduceEqDiff, ↓reduceIte, reduceCtorEq, he2]; first | done | rfl) (by first | exact trivial | (simp only [kO]; omega) | (simp [All, InR]; first | done | omega) | (simp +contextual [All, InR]; first | done | grind)) ?_))
      have hcond : (bif !decide (r.to = v.path) then true else !decide (r.num = v.num)) = !decide ((⟨r.to, r.num⟩ : Fil) = fileOf v) := by
        simp only [fileOf, Fil.mk.injEq]
        by_cases e1 : r.to = v.path <;> by_cases e2 : r.num = v.num <;> simp [e1, e2]
      refine T_cond (by simp only [kV, ↓reduceIte, Nat.reduceEqDiff, reduceCtorEq]; first | done | rfl) ?_ ?_
      · intro hno
        rw [hcond] at hno
        have hno' : ¬ (⟨r.to, r.num⟩ : Fil) = fileOf v := by simpa using hno
        (repeat (first | (with_reducible first | refine na ?_ | refine nb ?_ | refine nc ?_ | refine nd ?_ | refine ne ?_ | refine nf ?_ | refine ng ?_ | refine nh ?_ | refine ni ?_ | refine nj ?_ | refine nk ?_ | refine nl ?_ | refine nm (by decide) ?_ | refine nn ?_) | refine TO_go (wr := false) 400 (by simp only [kB, kG, kS, kM, k27, Nat.reduceAdd, Nat.reduceLT, Nat.reduceEqDiff, ↓reduceIte, reduceCtorEq]; first | done | rfl) (by first | exact trivial | (simp only [kO]; omega) | (simp [All, InR]; first | done | omega) | (simp +contextual [All, InR]; first | done | grind)) ?_))
        refine ⟨(j + 1, og, n, c, r1), ⟨hlt2', ?_⟩, by simp; omega, ?_⟩
        · simp only [htk2, List.filter_append]
          have : List.filter (fun r => decide ((⟨r.to, r.num⟩ : Fil) = fileOf v)) [r] = [] := by simp [hno']
          rw [this, List.append_nil]; exact hR
        · (refine Ent_sub (fun i => i) rfl ?_ ⟨?_, ?_, ?_, keepI hx (by simp [domOf, Ab.get])⟩ <;> first | (simp only [kE, dArr, ↓reduceIte, Nat.reduceEqDiff, reduceCtorEq, fileOf]; done) | simp [renAV_id, renAO_id, flat_up, Ab.get, clAV, clC, clCs, clAO, cl_f1, cl_s1, cl_f2, cl_s2, cl_a1, domOf, List.flatten, fileOf])
      intro hyes
      rw [hcond] at hyes
      have hyes' : (⟨r.to, r.num⟩ : Fil) = fileOf v := by simpa using hyes
      (repeat (first | (with_reducible first | refine na ?_ | refine nb ?_ | refine nc ?_ | refine nd ?_ | refine ne ?_ | refine nf ?_ | refine ng ?_ | refine nh ?_ | refine ni ?_ | refine nj ?_ | refine nk ?_ | refine nl ?_ | refine nm (by decide) ?_ | refine nn ?_) | refine TO_go (wr := false) 400 (by simp only [kB, kG, kS, kM, k27, Nat.reduceAdd, Nat.reduceLT, Nat.reduceEqDiff, ↓reduceIte, reduceCtorEq]; first | done | rfl) (by first | exact trivial | (simp only [kO]; omega) | (simp [All, InR]; first | done | omega) | (simp +contextual [All, InR]; first | done | grind)) ?_))
      refine T_join ⟨164, envR d k j (n + 1), stR d A v o r (bif decide (n + 1 = 1) then false else og) c r1⟩ ?_ ?_
      · refine T_cond (by simp only [kV, ↓reduceIte, Nat.reduceEqDiff, reduceCtorEq]; first | done | rfl) ?_ ?_
        · intro h
          rw [h]
          (repeat (first | (with_reducible first | refine na ?_ | refine nb ?_ | refine nc ?_ | refine nd ?_ | refine ne ?_ | refine nf ?_ | refine ng ?_ | refine nh ?_ | refine ni ?_ | refine nj ?_ | refine nk ?_ | refine nl ?_ | refine nm (by decide) ?_ | refine nn ?_) | refine TO_go (wr := false) 400 (by simp only [kB, kG, kS, kM, k27, Nat.reduceAdd, Nat.reduceLT, Nat.reduceEqDiff, ↓reduceIte, reduceCtorEq]; first | done | rfl) (by first | exact trivial | (simp only [kO]; omega) | (simp [All, InR]; first | done | omega) | (simp +contextual [All, InR]; first | done | grind)) ?_))
          refine ⟨rfl, ?_⟩
          (refine Ent_sub (fun i => i) rfl ?_ ⟨?_, ?_, ?_, keepI hx (by simp [domOf, Ab.get])⟩ <;> first | (simp only [kE, dArr, ↓reduceIte, Nat.reduceEqDiff, reduceCtorEq, fileOf]; done) | simp [renAV_id, renAO_id, flat_up, Ab.get, clAV, clC, clCs, clAO, cl_f1, cl_s1, cl_f2, cl_s2, cl_a1, domOf, List.flatten, fileOf])
        · intro h
          rw [h]
          (repeat (with_reducible first | refine na ?_ | refine nb ?_ | refine nc ?_ | refine nd ?_ | refine ne ?_ | refine nf ?_ | refine ng ?_ | refine nh ?_ | refine ni ?_ | refine nj ?_ | refine nk ?_ | refine nl ?_ | refine nm (by decide) ?_ | refine nn ?_))
          refine ⟨rfl, ?_⟩
          (refine Ent_sub (fun i => i) rfl ?_ ⟨?_, ?_, ?_, keepI hx (by simp [domOf, Ab.get])⟩ <;> first | (simp only [kE, dArr, ↓reduceIte, Nat.reduceEqDiff, reduceCtorEq, fileOf]; done) | simp [renAV_id, renAO_id, flat_up, Ab.get, clAV, clC, clCs, clAO, cl_f1, cl_s1, cl_f2, cl_s2, cl_a1, domOf, List.flatten, fileOf])
      generalize hog1 : (bif decide (n + 1 = 1) then false else og) = og1
      (repeat (first | (with_reducible first | refine na ?_ | refine nb ?_ | refine nc ?_ | refine nd ?_ | refine ne ?_ | refine nf ?_ | refine ng ?_ | refine nh ?_ | refine ni ?_ | refine nj ?_ | refine nk ?_ | refine nl ?_ | refine nm (by decide) ?_ | refine nn ?_) | refine TO_go (wr := false) 400 (by simp only [kB, kG, kS, kM, k27, Nat.reduceAdd, Nat.reduceLT, Nat.reduceEqDiff, ↓reduceIte, reduceCtorEq]; first | done | rfl) (by first | exact trivial | (simp only [kO]; omega) | (simp [All, InR]; first | done | omega) | (simp +contextual [All, InR]; first | done | grind)) ?_))
      refine T_join ⟨164, envR d k j (bif decide (r.how = 4) then 2 else n + 1), stR d A v o r (bif decide (r.how = 4) then true else og1) c r1⟩ ?_ ?_
      · refine T_cond (by simp only [kV, ↓reduceIte, Nat.reduceEqDiff, reduceCtorEq]; first | done | rfl) ?_ ?_
        · intro h
          rw [h]
          (repeat (first | (with_reducible first | refine na ?_ | refine nb ?_ | refine nc ?_ | refine nd ?_ | refine ne ?_ | refine nf ?_ | refine ng ?_ | refine nh ?_ | refine ni ?_ | refine nj ?_ | refine nk ?_ | refine nl ?_ | refine nm (by decide) ?_ | refine nn ?_) | refine TO_go (wr := false) 400 (by simp only [kB, kG, kS, kM, k27, Nat.reduceAdd, Nat.reduceLT, Nat.reduceEqDiff, ↓reduceIte, reduceCtorEq]; first | done | rfl) (by first | exact trivial | (simp only [kO]; omega) | (simp [All, InR]; first | done | omega) | (simp +contextual [All, InR]; first | done | grind)) ?_))
          refine ⟨rfl, ?_⟩
          (refine Ent_sub (fun i => i) rfl ?_ ⟨?_, ?_, ?_, keepI hx (by simp [domOf, Ab.get])⟩ <;> first | (simp only [kE, dArr, ↓reduceIte, Nat.reduceEqDiff, reduceCtorEq, fileOf]; done) | simp [renAV_id, renAO_id, flat_up, Ab.get, clAV, clC, clCs, clAO, cl_f1, cl_s1, cl_f2, cl_s2, cl_a1, domOf, List.flatten, fileOf])
        · intro h
          rw [h]
          (repeat (with_reducible first | refine na ?_ | refine nb ?_ | refine nc ?_ | refine nd ?_ | refine ne ?_ | refine nf ?_ | refine ng ?_ | refine nh ?_ | refine ni ?_ | refine nj ?_ | refine nk ?_ | refine nl ?_ | refine nm (by decide) ?_ | refine nn ?_))
          refine ⟨rfl, ?_⟩
          (refine Ent_sub (fun i => i) rfl ?_ ⟨?_, ?_, ?_, keepI hx (by simp [domOf, Ab.get])⟩ <;> first | (simp only [kE, dArr, ↓reduceIte, Nat.reduceEqDiff, reduceCtorEq, fileOf]; done) | simp [renAV_id, renAO_id, flat_up, Ab.get, clAV, clC, clCs, clAO, cl_f1, cl_s1, cl_f2, cl_s2, cl_a1, domOf, List.flatten, fileOf])
      generalize hog2 : (bif decide (r.how = 4) then true else og1) = og2
      generalize hn2 : (bif decide (r.how = 4) then 2 else n + 1) = n2
      (repeat (first | (with_reducible first | refine na ?_ | refine nb ?_ | refine nc ?_ | refine nd ?_ | refine ne ?_ | refine nf ?_ | refine ng ?_ | refine nh ?_ | refine ni ?_ | refine nj ?_ | refine nk ?_ | refine nl ?_ | refine nm (by decide) ?_ | refine nn ?_) | refine TO_go (wr := false) 400 (by simp only [kB, kG, kS, kM, k27, Nat.reduceAdd, Nat.reduceLT, Nat.reduceEqDiff, ↓reduceIte, reduceCtorEq]; first | done | rfl) (by first | exact trivial | (simp only [kO]; omega) | (simp [All, InR]; first | done | omega) | (simp +contextual [All, InR]; first | done | grind)) ?_))
      refine T_joinE (ι := List Fil) (fun c1 => ⟨164, envR d k j n2, stR d A v o r og2 c1 r1⟩) (fun c1 => ∀ g, g ∈ c1 ↔ g ∈ c ∨ (r.how = 1 ∧ (specA d k ⟨r.frm, r.last⟩).car g)) ?_ ?_
      · refine T_cond (by simp only [kV, ↓reduceIte, Nat.reduceEqDiff, reduceCtorEq]; first | done | rfl) ?_ ?_
        · intro h
          have h' : r.how = 1 := by simpa using h
          have hcA := hA.car ⟨r.frm, r.last⟩
          (repeat (with_reducible first | refine na ?_ | refine nb ?_ | refine nc ?_ | refine nd ?_ | refine ne ?_ | refine nf ?_ | refine ng ?_ | refine nh ?_ | refine ni ?_ | refine nj ?_ | refine nk ?_ | refine nl ?_ | refine nm (by decide) ?_ | refine nn ?_))
          refine T_drawc (wr := false) [] rfl (by kernel_rfl) (by simp only [kD, List.dropLast_cons₂, List.dropLast_singleton, kB, kG, kS, kM, k27, Nat.reduceAdd, Nat.reduceLT, Nat.reduceEqDiff, ↓reduceIte, reduceCtorEq, look_SV]; first | done | rfl) ?_ (by kernel_rfl) (by kernel_rfl) ([(33, uMap kF c)]) (by simp) (by simp only [kV, ↓reduceIte, Nat.reduceEqDiff, reduceCtorEq]; first | done | rfl) ⟨by simp [Ab.get, clPs], by simp [clAO, cl_f1, cl_s1, cl_f2, cl_s2, cl_a1, flat_up, clCs, clC, domOf, Ab.get, clPs], by simp [clAV, clC, clCs, domOf, Ab.get, clPs]⟩ (add_ac 33 (by decide) (by decide) c ((alook A ⟨r.frm, r.last⟩).map SV.car)) ?_
          rotate_left
          rintro rv9 st' ⟨c1, hc1, rfl⟩
          refine ⟨by simp [Fresh, domOf, Ab.get], ?_⟩
          simp only [kP, Nat.reduceEqDiff, ↓reduceIte, reduceCtorEq, List.cons_append, List.nil_append]
          rotate_left
          · simp only [All, List.cons_append, List.nil_append, InR, List.mem_cons, List.not_mem_nil, or_false, forall_eq_or_imp, forall_eq, clAV, clCs, clC, and_true, true_and, implies_true, List.length_map, List.length_cons, List.length_nil, dArr, cl_arr, tyCs]
            repeat' (first | exact trivial | exact ty_SV A | refine And.intro ?_ ?_ | intro _ | assumption | rfl | omega | (rw [Bool.not_eq_true']; assumption) | (simp; done) | (simp only [decide_eq_true_eq] at *; omega) | (simp_all; done))
          refine ⟨trivial, c1, fun g => ?_, ?_⟩
          · rw [hc1 g, hcA g]; simp [h']
          · (refine Ent_sub (fun i => i) rfl ?_ ⟨?_, ?_, ?_, keepI hx (by simp [domOf, Ab.get])⟩ <;> first | (simp only [kE, dArr, ↓reduceIte, Nat.reduceEqDiff, reduceCtorEq, fileOf]; done) | simp [renAV_id, renAO_id, flat_up, Ab.get, clAV, clC, clCs, clAO, cl_f1, cl_s1, cl_f2, cl_s2, cl_a1, domOf, List.flatten, fileOf])
        · intro h
          have h' : ¬ r.how = 1 := by simpa using h
          (repeat (with_reducible first | refine na ?_ | refine nb ?_ | refine nc ?_ | refine nd ?_ | refine ne ?_ | refine nf ?_ | refine ng ?_ | refine nh ?_ | refine ni ?_ | refine nj ?_ | refine nk ?_ | refine nl ?_ | refine nm (by decide) ?_ | refine nn ?_))
          refine ⟨rfl, c, fun g => by simp [h'], ?_⟩
          (refine Ent_sub (fun i => i) rfl ?_ ⟨?_, ?_, ?_, keepI hx (by simp [domOf, Ab.get])⟩ <;> first | (simp only [kE, dArr, ↓reduceIte, Nat.reduceEqDiff, reduceCtorEq, fileOf]; done) | simp [renAV_id, renAO_id, flat_up, Ab.get, clAV, clC, clCs, clAO, cl_f1, cl_s1, cl_f2, cl_s2, cl_a1, domOf, List.flatten, fileOf])
      intro c1 hc1
      (repeat (first | (with_reducible first | refine na ?_ | refine nb ?_ | refine nc ?_ | refine nd ?_ | refine ne ?_ | refine nf ?_ | refine ng ?_ | refine nh ?_ | refine ni ?_ | refine nj ?_ | refine nk ?_ | refine nl ?_ | refine nm (by decide) ?_ | refine nn ?_) | refine TO_go (wr := false) 400 (by simp only [kB, kG, kS, kM, k27, Nat.reduceAdd, Nat.reduceLT, Nat.reduceEqDiff, ↓reduceIte, reduceCtorEq]; first | done | rfl) (by first | exact trivial | (simp only [kO]; omega) | (simp [All, InR]; first | done | omega) | (simp +contextual [All, InR]; first | done | grind)) ?_))
      refine T_loop (ι := Int × List Fil × List Fil) (I := fun i => ⟨164, envR d k j n2 ++ [(14, I .i64 i.1)], stR d A v o r og2 i.2.1 i.2.2⟩)
        (Inv := fun i => r.first ≤ i.1 ∧ i.1 ≤ r.last + 1 ∧ (∀ g, g ∈ i.2.1 ↔ g ∈ c1 ∨ ((r.how = 2 ∨ r.how = 4) ∧ ∃ m, r.first ≤ m ∧ m < i.1 ∧ (specA d k ⟨r.frm, m⟩).con g)) ∧ (∀ g, g ∈ i.2.2 ↔ g ∈ r1 ∨ (r.how = 3 ∧ ∃ m, r.first ≤ m ∧ m < i.1 ∧ (specA d k ⟨r.frm, m⟩).con g)))
        (μ := fun i => (r.last + 1 - i.1).toNat) (r.first, c1, r1) ⟨by simp, by simp; omega, fun g => ?_, fun g => ?_⟩ ?_ ?_
      · simp only [iff_self_or, and_imp]; rintro _ ⟨m, h1, h2, _⟩; omega
      · simp only [iff_self_or, and_imp]; rintro _ ⟨m, h1, h2, _⟩; omega
      · (refine Ent_sub (fun i => i) rfl ?_ ⟨?_, ?_, ?_, keepI hx (by simp [domOf, Ab.get])⟩ <;> first | (simp only [kE, dArr, ↓reduceIte, Nat.reduceEqDiff, reduceCtorEq, fileOf]; done) | simp [renAV_id, renAO_id, flat_up, Ab.get, clAV, clC, clCs, clAO, cl_f1, cl_s1, cl_f2, cl_s2, cl_a1, domOf, List.flatten, fileOf])
      rintro ⟨m, c2, r2⟩ ⟨m1, m2, hc2, hr2⟩
      simp only at m1 m2 hc2 hr2 ⊢
      (repeat (first | (with_reducible first | refine na ?_ | refine nb ?_ | refine nc ?_ | refine nd ?_ | refine ne ?_ | refine nf ?_ | refine ng ?_ | refine nh ?_ | refine ni ?_ | refine nj ?_ | refine nk ?_ | refine nl ?_ | refine nm (by decide) ?_ | refine nn ?_) | refine TO_go (wr := false) 400 (by simp only [kB, kG, kS, kM, k27, Nat.reduceAdd, Nat.reduceLT, Nat.reduceEqDiff, ↓reduceIte, reduceCtorEq]; first | done | rfl) (by first | exact trivial | (simp only [kO]; omega) | (simp [All, InR]; first | done | omega) | (simp +contextual [All, InR]; first | done | grind)) ?_))
      refine T_cond (by simp only [kV, ↓reduceIte, Nat.reduceEqDiff, reduceCtorEq]; first | done | rfl) ?_ ?_
      · intro hml
        have hml' : m ≤ r.last := by simpa using hml
        have hnA := hA.con ⟨r.frm, m⟩
        (repeat (with_reducible first | refine na ?_ | refine nb ?_ | refine nc ?_ | refine nd ?_ | refine ne ?_ | refine nf ?_ | refine ng ?_ | refine nh ?_ | refine ni ?_ | refine nj ?_ | refine nk ?_ | refine nl ?_ | refine nm (by decide) ?_ | refine nn ?_))
        refine TO_go (wr := false) 400 (by simp only [kB, kG, kS, kM, k27, Nat.reduceAdd, Nat.reduceLT, Nat.reduceEqDiff, ↓reduceIte, reduceCtorEq, look_SV]; first | done | rfl) ?_ ?_
        · simp only [All, List.cons_append, List.nil_append, InR, List.mem_cons, List.not_mem_nil, or_false, forall_eq_or_imp, forall_eq, clAV, clCs, clC, and_true, true_and, implies_true, List.length_map, List.length_cons, List.length_nil, dArr, cl_arr, tyCs]
          repeat' (first | exact trivial | exact ty_SV A | refine And.intro ?_ ?_ | intro _ | assumption | rfl | omega | (rw [Bool.not_eq_true']; assumption) | (simp; done) | (simp only [decide_eq_true_eq] at *; omega) | (simp_all; done))
        generalize alook A ⟨r.frm, m⟩ = o3 at hnA ⊢
        (repeat (first | (with_reducible first | refine na ?_ | refine nb ?_ | refine nc ?_ | refine nd ?_ | refine ne ?_ | refine nf ?_ | refine ng ?_ | refine nh ?_ | refine ni ?_ | refine nj ?_ | refine nk ?_ | refine nl ?_ | refine nm (by decide) ?_ | refine nn ?_) | refine TO_go (wr := false) 400 (by simp only [kB, kG, kS, kM, k27, Nat.reduceAdd, Nat.reduceLT, Nat.reduceEqDiff, ↓reduceIte, reduceCtorEq]; first | done | rfl) (by first | exact trivial | (simp only [kO]; omega) | (simp [All, InR]; first | done | omega) | (simp +contextual [All, InR]; first | done | grind)) ?_))
        refine T_join ⟨164, envR d k j n2 ++ [(14, I .i64 m), (15, .c (.d (dSet kF (o3.map SV.con)))), (119, I .i64 r.how), (120, B (decide (r.how = 2) || decide (r.how = 4)))], stR d A v o r og2 c2 r2⟩ ?_ ?_
        · refine T_cond (by simp only [kV, ↓reduceIte, Nat.reduceEqDiff, reduceCtorEq]; first | done | rfl) ?_ ?_
          · intro h
            rw [h, Bool.true_or]
            (repeat (with_reducible first | refine na ?_ | refine nb ?_ | refine nc ?_ | refine nd ?_ | refine ne ?_ | refine nf ?_ | refine ng ?_ | refine nh ?_ | refine ni ?_ | refine nj ?_ | refine nk ?_ | refine nl ?_ | refine nm (by decide) ?_ | refine nn ?_))
            refine ⟨rfl, ?_⟩
            (refine Ent_sub (fun i => i) rfl ?_ ⟨?_, ?_, ?_, keepI hx (by simp [domOf, Ab.get])⟩ <;> first | (simp only [kE, dArr, ↓reduceIte, Nat.reduceEqDiff, reduceCtorEq, fileOf]; done) | simp [renAV_id, renAO_id, flat_up, Ab.get, clAV, clC, clCs, clAO, cl_f1, cl_s1, cl_f2, cl_s2, cl_a1, domOf, List.flatten, fileOf])
          · intro h
            rw [h, Bool.false_or]
            (repeat (first | (with_reducible first | refine na ?_ | refine nb ?_ | refine nc ?_ | refine nd ?_ | refine ne ?_ | refine nf ?_ | refine ng ?_ | refine nh ?_ | refine ni ?_ | refine nj ?_ | refine nk ?_ | refine nl ?_ | refine nm (by decide) ?_ | refine nn ?_) | refine TO_go (wr := false) 400 (by simp only [kB, kG, kS, kM, k27, Nat.reduceAdd, Nat.reduceLT, Nat.reduceEqDiff, ↓reduceIte, reduceCtorEq]; first | done | rfl) (by first | exact trivial | (simp only [kO]; omega) | (simp [All, InR]; first | done | omega) | (simp +contextual [All, InR]; first | done | grind)) ?_))
            refine ⟨rfl, ?_⟩
            (refine Ent_sub (fun i => i) rfl ?_ ⟨?_, ?_, ?_, keepI hx (by simp [domOf, Ab.get])⟩ <;> first | (simp only [kE, dArr, ↓reduceIte, Nat.reduceEqDiff, reduceCtorEq, fileOf]; done) | simp [renAV_id, renAO_id, flat_up, Ab.get, clAV, clC, clCs, clAO, cl_f1, cl_s1, cl_f2, cl_s2, cl_a1, domOf, List.flatten, fileOf])
        (repeat (with_reducible first | refine na ?_ | refine nb ?_ | refine nc ?_ | refine nd ?_ | refine ne ?_ | refine nf ?_ | refine ng ?_ | refine nh ?_ | refine ni ?_ | refine nj ?_ | refine nk ?_ | refine nl ?_ | refine nm (by decide) ?_ | refine nn ?_))
        refine T_joinE (ι := List Fil × List Fil) (fun i => ⟨164, envR d k j n2 ++ [(14, I .i64 m)], stR d A v o r og2 i.1 i.2⟩)
          (fun i => (∀ g, g ∈ i.1 ↔ g ∈ c2 ∨ ((r.how = 2 ∨ r.how = 4) ∧ (specA d k ⟨r.frm, m⟩).con g)) ∧ (∀ g, g ∈ i.2 ↔ g ∈ r2 ∨ (r.how = 3 ∧ (specA d k ⟨r.frm, m⟩).con g))) ?_ ?_
        · refine T_cond (by simp only [kV, ↓reduceIte, Nat.reduceEqDiff, reduceCtorEq]; first | done | rfl) ?_ ?_
          · intro h
            have h' : r.how = 2 ∨ r.how = 4 := by simpa using h
            have h3 : ¬ r.how = 3 := by omega
            (repeat (first | (with_reducible first | refine na ?_ | refine nb ?_ | refine nc ?_ | refine nd ?_ | refine ne ?_ | refine nf ?_ | refine ng ?_ | refine nh ?_ | refine ni ?_ | refine nj ?_ | refine nk ?_ | refine nl ?_ | refine nm (by decide) ?_ | refine nn ?_) | refine TO_go (wr := false) 400 (by simp only [kB, kG, kS, kM, k27, Nat.reduceAdd, Nat.reduceLT, Nat.reduceEqDiff, ↓reduceIte, reduceCtorEq]; first | done | rfl) (by first | exact trivial | (simp only [kO]; omega) | (simp [All, InR]; first | done | omega) | (simp +contextual [All, InR]; first | done | grind)) ?_))
            refine TO_call ([(33, uMap kF c2)]) (by simp) (by simp only [kV, ↓reduceIte, Nat.reduceEqDiff, reduceCtorEq]; first | done | rfl) ⟨by simp [Ab.get, clPs], by simp [clAO, cl_f1, cl_s1, cl_f2, cl_s2, cl_a1, flat_up, clCs, clC, domOf, Ab.get, clPs], by simp [clAV, clC, clCs, domOf, Ab.get, clPs]⟩ (add_ac 33 (by decide) (by decide) c2 (o3.map SV.con)) ?_
            rintro rv9 st' ⟨c3, hc3, rfl⟩
            refine ⟨by simp [Fresh, domOf, Ab.get], ?_⟩
            simp only [kP, Nat.reduceEqDiff, ↓reduceIte, reduceCtorEq, List.cons_append, List.nil_append]
            (repeat (with_reducible first | refine na ?_ | refine nb ?_ | refine nc ?_ | refine nd ?_ | refine ne ?_ | refine nf ?_ | refine ng ?_ | refine nh ?_ | refine ni ?_ | refine nj ?_ | refine nk ?_ | refine nl ?_ | refine nm (by decide) ?_ | refine nn ?_))
            refine ⟨rfl, (c3, r2), ⟨fun g => ?_, fun g => by simp [h3]⟩, ?_⟩
            · rw [hc3 g, hnA g]; simp [h']
            · (refine Ent_sub (fun i => i) rfl ?_ ⟨?_, ?_, ?_, keepI hx (by simp [domOf, Ab.get])⟩ <;> first | (simp only [kE, dArr, ↓reduceIte, Nat.reduceEqDiff, reduceCtorEq, fileOf]; done) | simp [renAV_id, renAO_id, flat_up, Ab.get, clAV, clC, clCs, clAO, cl_f1, cl_s1, cl_f2, cl_s2, cl_a1, domOf, List.flatten, fileOf])
          · intro h
            have h' : ¬ (r.how = 2 ∨ r.how = 4) := by simpa using h
            (repeat (first | (with_reducible first | refine na ?_ | refine nb ?_ | refine nc ?_ | refine nd ?_ | refine ne ?_ | refine nf ?_ | refine ng ?_ | refine nh ?_ | refine ni ?_ | refine nj ?_ | refine nk ?_ | refine nl ?_ | refine nm (by decide) ?_ | refine nn ?_) | refine TO_go (wr := false) 400 (by simp only [kB, kG, kS, kM, k27, Nat.reduceAdd, Nat.reduceLT, Nat.reduceEqDiff, ↓reduceIte, reduceCtorEq]; first | done | rfl) (by first | exact trivial | (simp only [kO]; omega) | (simp [All, InR]; first | done | omega) | (simp +contextual [All, InR]; first | done | grind)) ?_))
            refine T_cond (by simp only [kV, ↓reduceIte, Nat.reduceEqDiff, reduceCtorEq]; first | done | rfl) ?_ ?_
            · intro h2
              have h3 : r.how = 3 := by simpa using h2
              (repeat (first | (with_reducible first | refine na ?_ | refine nb ?_ | refine nc ?_ | refine nd ?_ | refine ne ?_ | refine nf ?_ | refine ng ?_ | refine nh ?_ | refine ni ?_ | refine nj ?_ | refine nk ?_ | refine nl ?_ | refine nm (by decide) ?_ | refine nn ?_) | refine TO_go (wr := false) 400 (by simp only [kB, kG, kS, kM, k27, Nat.reduceAdd, Nat.reduceLT, Nat.reduceEqDiff, ↓reduceIte, reduceCtorEq]; first | done | rfl) (by first | exact trivial | (simp only [kO]; omega) | (simp [All, InR]; first | done | omega) | (simp +contextual [All, InR]; first | done | grind)) ?_))
              refine TO_call ([(35, uMap kF r2)]) (by simp) (by simp only [kV, ↓reduceIte, Nat.reduceEqDiff, reduceCtorEq]; first | done | rfl) ⟨by simp [Ab.get, clPs], by simp [clAO, cl_f1, cl_s1, cl_f2, cl_s2, cl_a1, flat_up, clCs, clC, domOf, Ab.get, clPs], by simp [clAV, clC, clCs, domOf, Ab.get, clPs]⟩ (add_ac 35 (by decide) (by decide) r2 (o3.map SV.con)) ?_
              rintro rv9 st' ⟨r3, hr3, rfl⟩
              refine ⟨by simp [Fresh, domOf, Ab.get], ?_⟩
              simp only [kP, Nat.reduceEqDiff, ↓reduceIte, reduceCtorEq, List.cons_append, List.nil_append]
              (repeat (with_reducible first | refine na ?_ | refine nb ?_ | refine nc ?_ | refine nd ?_ | refine ne ?_ | refine nf ?_ | refine ng ?_ | refine nh ?_ | refine ni ?_ | refine nj ?_ | refine nk ?_ | refine nl ?_ | refine nm (by decide) ?_ | refine nn ?_))
              refine ⟨rfl, (c2, r3), ⟨fun g => by simp [h'], fun g => ?_⟩, ?_⟩
              · rw [hr3 g, hnA g]; simp [h3]
              · (refine Ent_sub (fun i => i) rfl ?_ ⟨?_, ?_, ?_, keepI hx (by simp [domOf, Ab.get])⟩ <;> first | (simp only [kE, dArr, ↓reduceIte, Nat.reduceEqDiff, reduceCtorEq, fileOf]; done) | simp [renAV_id, renAO_id, flat_up, Ab.get, clAV, clC, clCs, clAO, cl_f1, cl_s1, cl_f2, cl_s2, cl_a1, domOf, List.flatten, fileOf])
            · intro h2
              have h3 : ¬ r.how = 3 := by simpa using h2
              (repeat (with_reducible first | refine na ?_ | refine nb ?_ | refine nc ?_ | refine nd ?_ | refine ne ?_ | refine nf ?_ | refine ng ?_ | refine nh ?_ | refine ni ?_ | refine nj ?_ | refine nk ?_ | refine nl ?_ | refine nm (by decide) ?_ | refine nn ?_))
              refine ⟨rfl, (c2, r2), ⟨fun g => by simp [h'], fun g => by simp [h3]⟩, ?_⟩
              (refine Ent_sub (fun i => i) rfl ?_ ⟨?_, ?_, ?_, keepI hx (by simp [domOf, Ab.get])⟩ <;> first | (simp only [kE, dArr, ↓reduceIte, Nat.reduceEqDiff, reduceCtorEq, fileOf]; done) | simp [renAV_id, renAO_id, flat_up, Ab.get, clAV, clC, clCs, clAO, cl_f1, cl_s1, cl_f2, cl_s2, cl_a1, domOf, List.flatten, fileOf])
        rintro ⟨c3, r3⟩ ⟨hc3, hr3⟩
        simp only at hc3 hr3 ⊢
        (repeat (first | (with_reducible first | refine na ?_ | refine nb ?_ | refine nc ?_ | refine nd ?_ | refine ne ?_ | refine nf ?_ | refine ng ?_ | refine nh ?_ | refine ni ?_ | refine nj ?_ | refine nk ?_ | refine nl ?_ | refine nm (by decide) ?_ | refine nn ?_) | refine TO_go (wr := false) 400 (by simp only [kB, kG, kS, kM, k27, Nat.reduceAdd, Nat.reduceLT, Nat.reduceEqDiff, ↓reduceIte, reduceCtorEq]; first | done | rfl) (by first | exact trivial | (simp only [kO]; omega) | (simp [All, InR]; first | done | omega) | (simp +contextual [All, InR]; first | done | grind)) ?_))
        refine ⟨(m + 1, c3, r3), ⟨by simp; omega, by simp; omega, fun g => ?_, fun g => ?_⟩, by simp; omega, ?_⟩
        · simp only [hc3 g, hc2 g]; exact step_in (by omega)
        · simp only [hr3 g, hr2 g]; exact step_in (by omega)
        · (refine Ent_sub (fun i => i) rfl ?_ ⟨?_, ?_, ?_, keepI hx (by simp [domOf, Ab.get])⟩ <;> first | (simp only [kE, dArr, ↓reduceIte, Nat.reduceEqDiff, reduceCtorEq, fileOf]; done) | simp [renAV_id, renAO_id, flat_up, Ab.get, clAV, clC, clCs, clAO, cl_f1, cl_s1, cl_f2, cl_s2, cl_a1, domOf, List.flatten, fileOf])
      intro hml
      have hml' : ¬ m ≤ r.last := by simpa using hml
      have hm3 : m = r.last + 1 := by omega
      subst hm3
      (repeat (first | (with_reducible first | refine na ?_ | refine nb ?_ | refine nc ?_ | refine nd ?_ | refine ne ?_ | refine nf ?_ | refine ng ?_ | refine nh ?_ | refine ni ?_ | refine nj ?_ | refine nk ?_ | refine nl ?_ | refine nm (by decide) ?_ | refine nn ?_) | refine TO_go (wr := false) 400 (by simp only [kB, kG, kS, kM, k27, Nat.reduceAdd, Nat.reduceLT, Nat.reduceEqDiff, ↓reduceIte, reduceCtorEq]; first | done | rfl) (by first | exact trivial | (simp only [kO]; omega) | (simp [All, InR]; first | done | omega) | (simp +contextual [All, InR]; first | done | grind)) ?_))
      refine ⟨(j + 1, og2, n2, c2, r2), ⟨hlt2', ?_⟩, by simp; omega, ?_⟩
      · simp only [htk2, List.filter_append]
        have : List.filter (fun r => decide ((⟨r.to, r.num⟩ : Fil) = fileOf v)) [r] = [r] := by simp [hyes']
        rw [this, ← hog2, ← hn2, ← hog1]
        exact hR.step r ⟨q4, q5⟩ hc1 hc2 hr2
      · (refine Ent_sub (fun i => i) rfl ?_ ⟨?_, ?_, ?_, keepI hx (by simp [domOf, Ab.get])⟩ <;> first | (simp only [kE, dArr, ↓reduceIte, Nat.reduceEqDiff, reduceCtorEq, fileOf]; done) | simp [renAV_id, renAO_id, flat_up, Ab.get, clAV, clC, clCs, clAO, cl_f1, cl_s1, cl_f2, cl_s2, cl_a1, domOf, List.flatten, fileOf])
    intro hge2
    have hge2' : j = d.recs.length := by have : ¬ j < d.recs.length := by simpa using hge2
                                         omega
    rw [hge2', List.take_length] at hR
    change RecInv (specA d k) (befF v) (intoR d (fileOf v)) og n c r1 at hR
    clear hnb hn0 hfl
    (repeat (first | (with_reducible first | refine na ?_ | refine nb ?_ | refine nc ?_ | refine nd ?_ | refine ne ?_ | refine nf ?_ | refine ng ?_ | refine nh ?_ | refine ni ?_ | refine nj ?_ | refine nk ?_ | refine nl ?_ | refine nm (by decide) ?_ | refine nn ?_) | refine TO_go (wr := false) 400 (by simp only [kB, kG, kS, kM, k27, Nat.reduceAdd, Nat.reduceLT, Nat.reduceEqDiff, ↓reduceIte, reduceCtorEq]; first | done | rfl) (by first | exact trivial | (simp only [kO]; omega) | (simp [All, InR]; first | done | omega) | (simp +contextual [All, InR]; first | done | grind)) ?_))
    refine T_joinE (ι := List Fil) (fun c4 => ⟨164, [(1, .c (.ptr 1 0)), (3, .c (.mp 17)), (6, .c (.ptr 6 0)), (7, .c (.ptr 7 0)), (9, .c (.ptr 9 0)), (19, aRevs d.revs), (20, I .i64 d.revs.length), (21, I .i64 k)],
        [(1, .box ((encDep d).map C.d)), (17, .map ((mEnt kF vSV A).map upE)), (6, .box ((encFil (fileOf v)).map C.d)), (33, uMap kF c4), (34, uMap kF []), (35, uMap kF r1), (7, .box [.d (.v (.bool og)), .mp 33, .mp 34, .mp 35]), (9, bef9 o)]⟩)
      (fun c4 => ∀ g, g ∈ c4 ↔ carS (intoR d (fileOf v)) (specA d k) (befF v) (fileOf v) g) ?_ ?_
    · refine T_cond (by simp only [kV, ↓reduceIte, Nat.reduceEqDiff, reduceCtorEq]; first | done | rfl) ?_ ?_
      · intro h
        (repeat (with_reducible first | refine na ?_ | refine nb ?_ | refine nc ?_ | refine nd ?_ | refine ne ?_ | refine nf ?_ | refine ng ?_ | refine nh ?_ | refine ni ?_ | refine nj ?_ | refine nk ?_ | refine nl ?_ | refine nm (by decide) ?_ | refine nn ?_))
        refine TO_go (wr := false) 400 (by simp only [kB, kG, kS, kM, k27, Nat.reduceAdd, Nat.reduceLT, Nat.reduceEqDiff, ↓reduceIte, reduceCtorEq, ins_F]; first | done | rfl) ?_ ?_
        · simp only [All, List.cons_append, List.nil_append, InR, List.mem_cons, List.not_mem_nil, or_false, forall_eq_or_imp, forall_eq, clAV, clCs, clC, and_true, true_and, implies_true, List.length_map, List.length_cons, List.length_nil, dArr, cl_arr, tyCs]
          repeat' (first | exact trivial | exact ty_F c | refine And.intro ?_ ?_ | intro _ | assumption | rfl | omega | (rw [Bool.not_eq_true']; assumption) | (simp; done) | (simp only [decide_eq_true_eq] at *; omega) | (simp_all; done))
        (repeat (with_reducible first | refine na ?_ | refine nb ?_ | refine nc ?_ | refine nd ?_ | refine ne ?_ | refine nf ?_ | refine ng ?_ | refine nh ?_ | refine ni ?_ | refine nj ?_ | refine nk ?_ | refine nl ?_ | refine nm (by decide) ?_ | refine nn ?_))
        refine ⟨rfl, addS c (fileOf v), fun g => ?_, ?_⟩
        · rw [mem_addS, hR.car g, carS]; simp only [(hR.og.1 h), true_and, or_assoc]
        · (refine Ent_sub (fun i => i) rfl ?_ ⟨?_, ?_, ?_, keepI hx (by simp [domOf, Ab.get])⟩ <;> first | (simp only [kE, dArr, ↓reduceIte, Nat.reduceEqDiff, reduceCtorEq, fileOf]; done) | simp [renAV_id, renAO_id, flat_up, Ab.get, clAV, clC, clCs, clAO, cl_f1, cl_s1, cl_f2, cl_s2, cl_a1, domOf, List.flatten, fileOf])
      · intro h
        (repeat (with_reducible first | refine na ?_ | refine nb ?_ | refine nc ?_ | refine nd ?_ | refine ne ?_ | refine nf ?_ | refine ng ?_ | refine nh ?_ | refine ni ?_ | refine nj ?_ | refine nk ?_ | refine nl ?_ | refine nm (by decide) ?_ | refine nn ?_))
        refine ⟨rfl, c, fun g => ?_, ?_⟩
        · have : ¬ (intoR d (fileOf v) = [] ∨ ∃ r ∈ intoR d (fileOf v), r.how = 4) := fun hh => by rw [hR.og.2 hh] at h; cases h
          rw [hR.car g, carS]; simp only [this, false_and, or_false]
        · (refine Ent_sub (fun i => i) rfl ?_ ⟨?_, ?_, ?_, keepI hx (by simp [domOf, Ab.get])⟩ <;> first | (simp only [kE, dArr, ↓reduceIte, Nat.reduceEqDiff, reduceCtorEq, fileOf]; done) | simp [renAV_id, renAO_id, flat_up, Ab.get, clAV, clC, clCs, clAO, cl_f1, cl_s1, cl_f2, cl_s2, cl_a1, domOf, List.flatten, fileOf])
    intro c4 hc4
    (repeat (with_reducible first | refine na ?_ | refine nb ?_ | refine nc ?_ | refine nd ?_ | refine ne ?_ | refine nf ?_ | refine ng ?_ | refine nh ?_ | refine ni ?_ | refine nj ?_ | refine nk ?_ | refine nl ?_ | refine nm (by decide) ?_ | refine nn ?_))
    refine TO_ent (Ent_frzMapCell (bid := 7) (id := 33) (j := 1) (es := sEnt kF c4) (by decide) rfl rfl rfl) ?_
    simp only [Ab.put, Nat.reduceEqDiff, ↓reduceIte, reduceCtorEq, if_false, if_true]
    (repeat (first | (with_reducible first | refine na ?_ | refine nb ?_ | refine nc ?_ | refine nd ?_ | refine ne ?_ | refine nf ?_ | refine ng ?_ | refine nh ?_ | refine ni ?_ | refine nj ?_ | refine nk ?_ | refine nl ?_ | refine nm (by decide) ?_ | refine nn ?_) | refine TO_go (wr := false) 400 (by simp only [kB, kG, kS, kM, k27, Nat.reduceAdd, Nat.reduceLT, Nat.reduceEqDiff, ↓reduceIte, reduceCtorEq]; first | done | rfl) (by first | exact trivial | (simp only [kO]; omega) | (simp [All, InR]; first | done | omega) | (simp +contextual [All, InR]; first | done | grind)) ?_))
    refine TO_call ([(35, uMap kF r1)]) (by simp) (by simp only [kV, ↓reduceIte, Nat.reduceEqDiff, reduceCtorEq]; first | done | rfl) ⟨by simp [Ab.get, clPs], by simp [clAO, cl_f1, cl_s1, cl_f2, cl_s2, cl_a1, flat_up, clCs, clC, domOf, Ab.get, clPs], by simp [clAV, clC, clCs, domOf, Ab.get, clPs]⟩ (add_ac 35 (by decide) (by decide) r1 (some c4)) ?_
    rintro rv9 st' ⟨r4, hr4, rfl⟩
    refine ⟨by simp [Fresh, domOf, Ab.get], ?_⟩
    simp only [kP, Nat.reduceEqDiff, ↓reduceIte, reduceCtorEq, List.cons_append, List.nil_append]
    cases o with
    | none =>
      (repeat (first | (with_reducible first | refine na ?_ | refine nb ?_ | refine nc ?_ | refine nd ?_ | refine ne ?_ | refine nf ?_ | refine ng ?_ | refine nh ?_ | refine ni ?_ | refine nj ?_ | refine nk ?_ | refine nl ?_ | refine nm (by decide) ?_ | refine nn ?_) | refine TO_go (wr := false) 400 (by simp only [kB, kG, kS, kM, k27, Nat.reduceAdd, Nat.reduceLT, Nat.reduceEqDiff, ↓reduceIte, reduceCtorEq]; first | done | rfl) (by first | exact trivial | (simp only [kO]; omega) | (simp [All, InR]; first | done | omega) | (simp +contextual [All, InR]; first | done | grind)) ?_))
      refine T_loop (ι := Option EntD × List Fil × List Fil) (I := fun i => ⟨164, [(1, .c (.ptr 1 0)), (3, .c (.mp 17)), (6, .c (.ptr 6 0)), (7, .c (.ptr 7 0)), (9, .c (.ptr 9 0)), (19, aRevs d.revs), (20, I .i64 d.revs.length), (21, I .i64 k), (146, .c (.ptr 146 0))],
        [(1, .box ((encDep d).map C.d)), (17, .map ((mEnt kF vSV A).map upE)), (6, .box ((encFil (fileOf v)).map C.d)), (34, uMap kF i.2.2), (35, uMap kF r4), (7, .box [.d (.v (.bool og)), .d (.pm (sEnt kF c4)), .mp 34, .mp 35]), (9, bef9 none), (146, .iter i.1 (sEnt kF i.2.1))]⟩)
        (Inv := fun i => ∀ g, (g ∈ i.2.2 ∨ g ∈ i.2.1 ∧ ¬ g ∈ Option.getD (Option.map SV.car none) []) ↔ (g ∈ c4 ∧ ¬ g ∈ Option.getD (Option.map SV.car none) [])) (μ := fun i => i.2.1.length) (none, c4, []) (by simp) ?_ ?_
      · (refine Ent_sub (fun i => i) rfl ?_ ⟨?_, ?_, ?_, keepI hx (by simp [domOf, Ab.get])⟩ <;> first | (simp only [kE, dArr, ↓reduceIte, Nat.reduceEqDiff, reduceCtorEq, fileOf]; done) | simp [renAV_id, renAO_id, flat_up, Ab.get, clAV, clC, clCs, clAO, cl_f1, cl_s1, cl_f2, cl_s2, cl_a1, domOf, List.flatten, fileOf])
      rintro ⟨cur, rest, m4⟩ h4
      simp only at h4 ⊢
      (repeat (with_reducible first | refine na ?_ | refine nb ?_ | refine nc ?_ | refine nd ?_ | refine ne ?_ | refine nf ?_ | refine ng ?_ | refine nh ?_ | refine ni ?_ | refine nj ?_ | refine nk ?_ | refine nl ?_ | refine nm (by decide) ?_ | refine nn ?_))
      refine TO_next (id := 146) (by simp) (by simp only [kV, ↓reduceIte, Nat.reduceEqDiff, reduceCtorEq]; first | done | rfl) rfl ?_ ?_
      · intro h0
        have : rest = [] := by simpa [sEnt] using h0
        subst this
        simp only [Ab.put, Nat.reduceEqDiff, ↓reduceIte, reduceCtorEq, if_false, if_true]
        (repeat (first | (with_reducible first | refine na ?_ | refine nb ?_ | refine nc ?_ | refine nd ?_ | refine ne ?_ | refine nf ?_ | refine ng ?_ | refine nh ?_ | refine ni ?_ | refine nj ?_ | refine nk ?_ | refine nl ?_ | refine nm (by decide) ?_ | refine nn ?_) | refine TO_go (wr := false) 400 (by simp only [kB, kG, kS, kM, k27, Nat.reduceAdd, Nat.reduceLT, Nat.reduceEqDiff, ↓reduceIte, reduceCtorEq]; first | done | rfl) (by first | exact trivial | (simp only [kO]; omega) | (simp [All, InR]; first | done | omega) | (simp +contextual [All, InR]; first | done | grind)) ?_))
        refine T_cond (by simp only [kV, ↓reduceIte, Nat.reduceEqDiff, reduceCtorEq]; first | done | rfl) ?_ ?_
        · intro hh; cases hh
        intro _
        (repeat (with_reducible first | refine na ?_ | refine nb ?_ | refine nc ?_ | refine nd ?_ | refine ne ?_ | refine nf ?_ | refine ng ?_ | refine nh ?_ | refine ni ?_ | refine nj ?_ | refine nk ?_ | refine nl ?_ | refine nm (by decide) ?_ | refine nn ?_))
        refine TO_ent (Ent_frzMapCell (bid := 7) (id := 34) (j := 2) (es := sEnt kF m4) (by decide) rfl rfl rfl) ?_
        simp only [Ab.put, Nat.reduceEqDiff, ↓reduceIte, reduceCtorEq, if_false, if_true]
        refine TO_ent (Ent_frzMapCell (bid := 7) (id := 35) (j := 3) (es := sEnt kF r4) (by decide) rfl rfl rfl) ?_
        simp only [Ab.put, Nat.reduceEqDiff, ↓reduceIte, reduceCtorEq, if_false, if_true]
        refine TO_go (wr := false) 400 (by simp only [kB, kG, kS, kM, k27, Nat.reduceAdd, Nat.reduceLT, Nat.reduceEqDiff, ↓reduceIte, reduceCtorEq, ins_SV]; first | done | rfl) ?_ ?_
        · simp only [All, List.cons_append, List.nil_append, InR, List.mem_cons, List.not_mem_nil, or_false, forall_eq_or_imp, forall_eq, clAV, clCs, clC, and_true, true_and, implies_true, List.length_map, List.length_cons, List.length_nil, dArr, cl_arr, tyCs]
          repeat' (first | exact trivial | exact ty_SV A | refine And.intro ?_ ?_ | intro _ | assumption | rfl | omega | (rw [Bool.not_eq_true']; assumption) | (simp; done) | (simp only [decide_eq_true_eq] at *; omega) | (simp_all; done))
        (repeat (first | (with_reducible first | refine na ?_ | refine nb ?_ | refine nc ?_ | refine nd ?_ | refine ne ?_ | refine nf ?_ | refine ng ?_ | refine nh ?_ | refine ni ?_ | refine nj ?_ | refine nk ?_ | refine nl ?_ | refine nm (by decide) ?_ | refine nn ?_) | refine TO_go (wr := false) 400 (by simp only [kB, kG, kS, kM, k27, Nat.reduceAdd, Nat.reduceLT, Nat.reduceEqDiff, ↓reduceIte, reduceCtorEq]; first | done | rfl) (by first | exact trivial | (simp only [kO]; omega) | (simp [All, InR]; first | done | omega) | (simp +contextual [All, InR]; first | done | grind)) ?_))
        refine ⟨(k + 1, aput A (fileOf v) ⟨og, c4, m4, r4⟩), ⟨hlt', hA.step hv h5' ⟨og, c4, m4, r4⟩ hc4 (fun g => ?_) (fun g => ?_), hD.memb hv _⟩, by simp; omega, ?_⟩
        · simp only; rw [ho g, ← h4 g]; simp
        · simp only; rw [hr4 g, hR.cre g]; rfl
        · (refine Ent_sub (fun i => i) rfl ?_ ⟨?_, ?_, ?_, keepI hx (by simp [domOf, Ab.get])⟩ <;> first | (simp only [kE, dArr, ↓reduceIte, Nat.reduceEqDiff, reduceCtorEq, fileOf]; done) | simp [renAV_id, renAO_id, flat_up, Ab.get, clAV, clC, clCs, clAO, cl_f1, cl_s1, cl_f2, cl_s2, cl_a1, domOf, List.flatten, fileOf])
      intro l1 e l2 hsp
      obtain ⟨xs, g4, ys, rfl, rfl, rfl, rfl⟩ := sEnt_split hsp
      simp only [Ab.put, Nat.reduceEqDiff, ↓reduceIte, reduceCtorEq, if_false, if_true]
      (repeat (first | (with_reducible first | refine na ?_ | refine nb ?_ | refine nc ?_ | refine nd ?_ | refine ne ?_ | refine nf ?_ | refine ng ?_ | refine nh ?_ | refine ni ?_ | refine nj ?_ | refine nk ?_ | refine nl ?_ | refine nm (by decide) ?_ | refine nn ?_) | refine TO_go (wr := false) 400 (by simp only [kB, kG, kS, kM, k27, Nat.reduceAdd, Nat.reduceLT, Nat.reduceEqDiff, ↓reduceIte, reduceCtorEq, upD]; first | done | rfl) (by first | exact trivial | (simp only [kO]; omega) | (simp [All, InR]; first | done | omega) | (simp +contextual [All, InR]; first | done | grind)) ?_))
      refine T_cond (by simp only [kV, ↓reduceIte, Nat.reduceEqDiff, reduceCtorEq]; first | done | rfl) ?_ ?_
      rotate_left
      · intro hh; cases hh
      intro _
      (repeat (first | (with_reducible first | refine na ?_ | refine nb ?_ | refine nc ?_ | refine nd ?_ | refine ne ?_ | refine nf ?_ | refine ng ?_ | refine nh ?_ | refine ni ?_ | refine nj ?_ | refine nk ?_ | refine nl ?_ | refine nm (by decide) ?_ | refine nn ?_) | refine TO_go (wr := false) 400 (by simp only [kB, kG, kS, kM, k27, Nat.reduceAdd, Nat.reduceLT, Nat.reduceEqDiff, ↓reduceIte, reduceCtorEq, upD]; first | done | rfl) (by first | exact trivial | (simp only [kO]; omega) | (simp [All, InR]; first | done | omega) | (simp +contextual [All, InR]; first | done | grind)) ?_))
      refine TO_go (wr := false) 400 (by simp only [kB, kG, kS, kM, k27, Nat.reduceAdd, Nat.reduceLT, Nat.reduceEqDiff, ↓reduceIte, reduceCtorEq, look0, Option.map_none]; first | done | rfl) ?_ ?_
      · simp only [All, List.cons_append, List.nil_append, InR, List.mem_cons, List.not_mem_nil, or_false, forall_eq_or_imp, forall_eq, clAV, clCs, clC, and_true, true_and, implies_true, List.length_map, List.length_cons, List.length_nil, dArr, cl_arr, tyCs]
        repeat' (first | exact trivial | exact by simp | refine And.intro ?_ ?_ | intro _ | assumption | rfl | omega | (rw [Bool.not_eq_true']; assumption) | (simp; done) | (simp only [decide_eq_true_eq] at *; omega) | (simp_all; done))
      (repeat (with_reducible first | refine na ?_ | refine nb ?_ | refine nc ?_ | refine nd ?_ | refine ne ?_ | refine nf ?_ | refine ng ?_ | refine nh ?_ | refine ni ?_ | refine nj ?_ | refine nk ?_ | refine nl ?_ | refine nm (by decide) ?_ | refine nn ?_))
      refine T_cond (by simp only [kV, ↓reduceIte, Nat.reduceEqDiff, reduceCtorEq]; first | done | rfl) ?_ ?_
      · intro _
        have hk' : ¬ g4 ∈ Option.getD (Option.map SV.car none) [] := by simp
        (repeat (first | (with_reducible first | refine na ?_ | refine nb ?_ | refine nc ?_ | refine nd ?_ | refine ne ?_ | refine nf ?_ | refine ng ?_ | refine nh ?_ | refine ni ?_ | refine nj ?_ | refine nk ?_ | refine nl ?_ | refine nm (by decide) ?_ | refine nn ?_) | refine TO_go (wr := false) 400 (by simp only [kB, kG, kS, kM, k27, Nat.reduceAdd, Nat.reduceLT, Nat.reduceEqDiff, ↓reduceIte, reduceCtorEq]; first | done | rfl) (by first | exact trivial | (simp only [kO]; omega) | (simp [All, InR]; first | done | omega) | (simp +contextual [All, InR]; first | done | grind)) ?_))
        refine TO_go (wr := false) 400 (by simp only [kB, kG, kS, kM, k27, Nat.reduceAdd, Nat.reduceLT, Nat.reduceEqDiff, ↓reduceIte, reduceCtorEq, ins_F]; first | done | rfl) ?_ ?_
        · simp only [All, List.cons_append, List.nil_append, InR, List.mem_cons, List.not_mem_nil, or_false, forall_eq_or_imp, forall_eq, clAV, clCs, clC, and_true, true_and, implies_true, List.length_map, List.length_cons, List.length_nil, dArr, cl_arr, tyCs]
          repeat' (first | exact trivial | exact ty_F m4 | refine And.intro ?_ ?_ | intro _ | assumption | rfl | omega | (rw [Bool.not_eq_true']; assumption) | (simp; done) | (simp only [decide_eq_true_eq] at *; omega) | (simp_all; done))
        (repeat (first | (with_reducible first | refine na ?_ | refine nb ?_ | refine nc ?_ | refine nd ?_ | refine ne ?_ | refine nf ?_ | refine ng ?_ | refine nh ?_ | refine ni ?_ | refine nj ?_ | refine nk ?_ | refine nl ?_ | refine nm (by decide) ?_ | refine nn ?_) | refine TO_go (wr := false) 400 (by simp only [kB, kG, kS, kM, k27, Nat.reduceAdd, Nat.reduceLT, Nat.reduceEqDiff, ↓reduceIte, reduceCtorEq]; first | done | rfl) (by first | exact trivial | (simp only [kO]; omega) | (simp [All, InR]; first | done | omega) | (simp +contextual [All, InR]; first | done | grind)) ?_))
        refine ⟨(some (kF g4, (false, [.v (.bool true)])), xs ++ ys, addS m4 g4), ?_, by simp, ?_⟩
        · intro i
          rw [← h4 i, mem_addS]
          simp only [List.mem_append, List.mem_cons]
          constructor
          · rintro ((h | rfl) | ⟨h | h, g⟩)
            · exact .inl h
            · exact .inr ⟨.inr (.inl rfl), hk'⟩
            · exact .inr ⟨.inl h, g⟩
            · exact .inr ⟨.inr (.inr h), g⟩
          · rintro (h | ⟨h | h | h, g⟩)
            · exact .inl (.inl h)
            · exact .inr ⟨.inl h, g⟩
            · exact .inl (.inr h)
            · exact .inr ⟨.inr h, g⟩
        · (refine Ent_sub (fun i => i) rfl ?_ ⟨?_, ?_, ?_, keepI hx (by simp [domOf, Ab.get])⟩ <;> first | (simp only [kE, dArr, ↓reduceIte, Nat.reduceEqDiff, reduceCtorEq, fileOf]; done) | simp [renAV_id, renAO_id, flat_up, Ab.get, clAV, clC, clCs, clAO, cl_f1, cl_s1, cl_f2, cl_s2, cl_a1, domOf, List.flatten, fileOf])
      · intro hh; cases hh
    | some x0 =>
      (repeat (first | (with_reducible first | refine na ?_ | refine nb ?_ | refine nc ?_ | refine nd ?_ | refine ne ?_ | refine nf ?_ | refine ng ?_ | refine nh ?_ | refine ni ?_ | refine nj ?_ | refine nk ?_ | refine nl ?_ | refine nm (by decide) ?_ | refine nn ?_) | refine TO_go (wr := false) 400 (by simp only [kB, kG, kS, kM, k27, Nat.reduceAdd, Nat.reduceLT, Nat.reduceEqDiff, ↓reduceIte, reduceCtorEq]; first | done | rfl) (by first | exact trivial | (simp only [kO]; omega) | (simp [All, InR]; first | done | omega) | (simp +contextual [All, InR]; first | done | grind)) ?_))
      refine T_loop (ι := Option EntD × List Fil × List Fil) (I := fun i => ⟨164, [(1, .c (.ptr 1 0)), (3, .c (.mp 17)), (6, .c (.ptr 6 0)), (7, .c (.ptr 7 0)), (9, .c (.ptr 9 0)), (19, aRevs d.revs), (20, I .i64 d.revs.length), (21, I .i64 k), (146, .c (.ptr 146 0))],
        [(1, .box ((encDep d).map C.d)), (17, .map ((mEnt kF vSV A).map upE)), (6, .box ((encFil (fileOf v)).map C.d)), (34, uMap kF i.2.2), (35, uMap kF r4), (7, .box [.d (.v (.bool og)), .d (.pm (sEnt kF c4)), .mp 34, .mp 35]), (9, bef9 (some x0)), (146, .iter i.1 (sEnt kF i.2.1))]⟩)
        (Inv := fun i => ∀ g, (g ∈ i.2.2 ∨ g ∈ i.2.1 ∧ ¬ g ∈ Option.getD (Option.map SV.car (some x0)) []) ↔ (g ∈ c4 ∧ ¬ g ∈ Option.getD (Option.map SV.car (some x0)) [])) (μ := fun i => i.2.1.length) (none, c4, []) (by simp) ?_ ?_
      · (refine Ent_sub (fun i => i) rfl ?_ ⟨?_, ?_, ?_, keepI hx (by simp [domOf, Ab.get])⟩ <;> first | (simp only [kE, dArr, ↓reduceIte, Nat.reduceEqDiff, reduceCtorEq, fileOf]; done) | simp [renAV_id, renAO_id, flat_up, Ab.get, clAV, clC, clCs, clAO, cl_f1, cl_s1, cl_f2, cl_s2, cl_a1, domOf, List.flatten, fileOf])
      rintro ⟨cur, rest, m4⟩ h4
      simp only at h4 ⊢
      (repeat (with_reducible first | refine na ?_ | refine nb ?_ | refine nc ?_ | refine nd ?_ | refine ne ?_ | refine nf ?_ | refine ng ?_ | refine nh ?_ | refine ni ?_ | refine nj ?_ | refine nk ?_ | refine nl ?_ | refine nm (by decide) ?_ | refine nn ?_))
      refine TO_next (id := 146) (by simp) (by simp only [kV, ↓reduceIte, Nat.reduceEqDiff, reduceCtorEq]; first | done | rfl) rfl ?_ ?_
      · intro h0
        have : rest = [] := by simpa [sEnt] using h0
        subst this
        simp only [Ab.put, Nat.reduceEqDiff, ↓reduceIte, reduceCtorEq, if_false, if_true]
        (repeat (first | (with_reducible first | refine na ?_ | refine nb ?_ | refine nc ?_ | refine nd ?_ | refine ne ?_ | refine nf ?_ | refine ng ?_ | refine nh ?_ | refine ni ?_ | refine nj ?_ | refine nk ?_ | refine nl ?_ | refine nm (by decide) ?_ | refine nn ?_) | refine TO_go (wr := false) 400 (by simp only [kB, kG, kS, kM, k27, Nat.reduceAdd, Nat.reduceLT, Nat.reduceEqDiff, ↓reduceIte, reduceCtorEq]; first | done | rfl) (by first | exact trivial | (simp only [kO]; omega) | (simp [All, InR]; first | done | omega) | (simp +contextual [All, InR]; first | done | grind)) ?_))
        refine T_cond (by simp only [kV, ↓reduceIte, Nat.reduceEqDiff, reduceCtorEq]; first | done | rfl) ?_ ?_
        · intro hh; cases hh
        intro _
        (repeat (with_reducible first | refine na ?_ | refine nb ?_ | refine nc ?_ | refine nd ?_ | refine ne ?_ | refine nf ?_ | refine ng ?_ | refine nh ?_ | refine ni ?_ | refine nj ?_ | refine nk ?_ | refine nl ?_ | refine nm (by decide) ?_ | refine nn ?_))
        refine TO_ent (Ent_frzMapCell (bid := 7) (id := 34) (j := 2) (es := sEnt kF m4) (by decide) rfl rfl rfl) ?_
        simp only [Ab.put, Nat.reduceEqDiff, ↓reduceIte, reduceCtorEq, if_false, if_true]
        refine TO_ent (Ent_frzMapCell (bid := 7) (id := 35) (j := 3) (es := sEnt kF r4) (by decide) rfl rfl rfl) ?_
        simp only [Ab.put, Nat.reduceEqDiff, ↓reduceIte, reduceCtorEq, if_false, if_true]
        refine TO_go (wr := false) 400 (by simp only [kB, kG, kS, kM, k27, Nat.reduceAdd, Nat.reduceLT, Nat.reduceEqDiff, ↓reduceIte, reduceCtorEq, ins_SV]; first | done | rfl) ?_ ?_
        · simp only [All, List.cons_append, List.nil_append, InR, List.mem_cons, List.not_mem_nil, or_false, forall_eq_or_imp, forall_eq, clAV, clCs, clC, and_true, true_and, implies_true, List.length_map, List.length_cons, List.length_nil, dArr, cl_arr, tyCs]
          repeat' (first | exact trivial | exact ty_SV A | refine And.intro ?_ ?_ | intro _ | assumption | rfl | omega | (rw [Bool.not_eq_true']; assumption) | (simp; done) | (simp only [decide_eq_true_eq] at *; omega) | (simp_all; done))
        (repeat (first | (with_reducible first | refine na ?_ | refine nb ?_ | refine nc ?_ | refine nd ?_ | refine ne ?_ | refine nf ?_ | refine ng ?_ | refine nh ?_ | refine ni ?_ | refine nj ?_ | refine nk ?_ | refine nl ?_ | refine nm (by decide) ?_ | refine nn ?_) | refine TO_go (wr := false) 400 (by simp only [kB, kG, kS, kM, k27, Nat.reduceAdd, Nat.reduceLT, Nat.reduceEqDiff, ↓reduceIte, reduceCtorEq]; first | done | rfl) (by first | exact trivial | (simp only [kO]; omega) | (simp [All, InR]; first | done | omega) | (simp +contextual [All, InR]; first | done | grind)) ?_))
        refine ⟨(k + 1, aput A (fileOf v) ⟨og, c4, m4, r4⟩), ⟨hlt', hA.step hv h5' ⟨og, c4, m4, r4⟩ hc4 (fun g => ?_) (fun g => ?_), hD.memb hv _⟩, by simp; omega, ?_⟩
        · simp only; rw [ho g, ← h4 g]; simp
        · simp only; rw [hr4 g, hR.cre g]; rfl
        · (refine Ent_sub (fun i => i) rfl ?_ ⟨?_, ?_, ?_, keepI hx (by simp [domOf, Ab.get])⟩ <;> first | (simp only [kE, dArr, ↓reduceIte, Nat.reduceEqDiff, reduceCtorEq, fileOf]; done) | simp [renAV_id, renAO_id, flat_up, Ab.get, clAV, clC, clCs, clAO, cl_f1, cl_s1, cl_f2, cl_s2, cl_a1, domOf, List.flatten, fileOf])
      intro l1 e l2 hsp
      obtain ⟨xs, g4, ys, rfl, rfl, rfl, rfl⟩ := sEnt_split hsp
      simp only [Ab.put, Nat.reduceEqDiff, ↓reduceIte, reduceCtorEq, if_false, if_true]
      (repeat (first | (with_reducible first | refine na ?_ | refine nb ?_ | refine nc ?_ | refine nd ?_ | refine ne ?_ | refine nf ?_ | refine ng ?_ | refine nh ?_ | refine ni ?_ | refine nj ?_ | refine nk ?_ | refine nl ?_ | refine nm (by decide) ?_ | refine nn ?_) | refine TO_go (wr := false) 400 (by simp only [kB, kG, kS, kM, k27, Nat.reduceAdd, Nat.reduceLT, Nat.reduceEqDiff, ↓reduceIte, reduceCtorEq, upD]; first | done | rfl) (by first | exact trivial | (simp only [kO]; omega) | (simp [All, InR]; first | done | omega) | (simp +contextual [All, InR]; first | done | grind)) ?_))
      refine T_cond (by simp only [kV, ↓reduceIte, Nat.reduceEqDiff, reduceCtorEq]; first | done | rfl) ?_ ?_
      rotate_left
      · intro hh; cases hh
      intro _
      (repeat (first | (with_reducible first | refine na ?_ | refine nb ?_ | refine nc ?_ | refine nd ?_ | refine ne ?_ | refine nf ?_ | refine ng ?_ | refine nh ?_ | refine ni ?_ | refine nj ?_ | refine nk ?_ | refine nl ?_ | refine nm (by decide) ?_ | refine nn ?_) | refine TO_go (wr := false) 400 (by simp only [kB, kG, kS, kM, k27, Nat.reduceAdd, Nat.reduceLT, Nat.reduceEqDiff, ↓reduceIte, reduceCtorEq, upD]; first | done | rfl) (by first | exact trivial | (simp only [kO]; omega) | (simp [All, InR]; first | done | omega) | (simp +contextual [All, InR]; first | done | grind)) ?_))
      refine TO_go (wr := false) 400 (by simp only [kB, kG, kS, kM, k27, Nat.reduceAdd, Nat.reduceLT, Nat.reduceEqDiff, ↓reduceIte, reduceCtorEq, look_F]; first | done | rfl) ?_ ?_
      · simp only [All, List.cons_append, List.nil_append, InR, List.mem_cons, List.not_mem_nil, or_false, forall_eq_or_imp, forall_eq, clAV, clCs, clC, and_true, true_and, implies_true, List.length_map, List.length_cons, List.length_nil, dArr, cl_arr, tyCs]
        repeat' (first | exact trivial | exact ty_F x0.car | refine And.intro ?_ ?_ | intro _ | assumption | rfl | omega | (rw [Bool.not_eq_true']; assumption) | (simp; done) | (simp only [decide_eq_true_eq] at *; omega) | (simp_all; done))
      (repeat (with_reducible first | refine na ?_ | refine nb ?_ | refine nc ?_ | refine nd ?_ | refine ne ?_ | refine nf ?_ | refine ng ?_ | refine nh ?_ | refine ni ?_ | refine nj ?_ | refine nk ?_ | refine nl ?_ | refine nm (by decide) ?_ | refine nn ?_))
      refine T_cond (by simp only [kV, ↓reduceIte, Nat.reduceEqDiff, reduceCtorEq]; first | done | rfl) ?_ ?_
      · intro hk
        have hk' : ¬ g4 ∈ Option.getD (Option.map SV.car (some x0)) [] := by simpa using hk
        (repeat (first | (with_reducible first | refine na ?_ | refine nb ?_ | refine nc ?_ | refine nd ?_ | refine ne ?_ | refine nf ?_ | refine ng ?_ | refine nh ?_ | refine ni ?_ | refine nj ?_ | refine nk ?_ | refine nl ?_ | refine nm (by decide) ?_ | refine nn ?_) | refine TO_go (wr := false) 400 (by simp only [kB, kG, kS, kM, k27, Nat.reduceAdd, Nat.reduceLT, Nat.reduceEqDiff, ↓reduceIte, reduceCtorEq]; first | done | rfl) (by first | exact trivial | (simp only [kO]; omega) | (simp [All, InR]; first | done | omega) | (simp +contextual [All, InR]; first | done | grind)) ?_))
        refine TO_go (wr := false) 400 (by simp only [kB, kG, kS, kM, k27, Nat.reduceAdd, Nat.reduceLT, Nat.reduceEqDiff, ↓reduceIte, reduceCtorEq, ins_F]; first | done | rfl) ?_ ?_
        · simp only [All, List.cons_append, List.nil_append, InR, List.mem_cons, List.not_mem_nil, or_false, forall_eq_or_imp, forall_eq, clAV, clCs, clC, and_true, true_and, implies_true, List.length_map, List.length_cons, List.length_nil, dArr, cl_arr, tyCs]
          repeat' (first | exact trivial | exact ty_F m4 | refine And.intro ?_ ?_ | intro _ | assumption | rfl | omega | (rw [Bool.not_eq_true']; assumption) | (simp; done) | (simp only [decide_eq_true_eq] at *; omega) | (simp_all; done))
        (repeat (first | (with_reducible first | refine na ?_ | refine nb ?_ | refine nc ?_ | refine nd ?_ | refine ne ?_ | refine nf ?_ | refine ng ?_ | refine nh ?_ | refine ni ?_ | refine nj ?_ | refine nk ?_ | refine nl ?_ | refine nm (by decide) ?_ | refine nn ?_) | refine TO_go (wr := false) 400 (by simp only [kB, kG, kS, kM, k27, Nat.reduceAdd, Nat.reduceLT, Nat.reduceEqDiff, ↓reduceIte, reduceCtorEq]; first | done | rfl) (by first | exact trivial | (simp only [kO]; omega) | (simp [All, InR]; first | done | omega) | (simp +contextual [All, InR]; first | done | grind)) ?_))
        refine ⟨(some (kF g4, (false, [.v (.bool true)])), xs ++ ys, addS m4 g4), ?_, by simp, ?_⟩
        · intro i
          rw [← h4 i, mem_addS]
          simp only [List.mem_append, List.mem_cons]
          constructor
          · rintro ((h | rfl) | ⟨h | h, g⟩)
            · exact .inl h
            · exact .inr ⟨.inr (.inl rfl), hk'⟩
            · exact .inr ⟨.inl h, g⟩
            · exact .inr ⟨.inr (.inr h), g⟩
          · rintro (h | ⟨h | h | h, g⟩)
            · exact .inl (.inl h)
            · exact .inr ⟨.inl h, g⟩
            · exact .inl (.inr h)
            · exact .inr ⟨.inr h, g⟩
        · (refine Ent_sub (fun i => i) rfl ?_ ⟨?_, ?_, ?_, keepI hx (by simp [domOf, Ab.get])⟩ <;> first | (simp only [kE, dArr, ↓reduceIte, Nat.reduceEqDiff, reduceCtorEq, fileOf]; done) | simp [renAV_id, renAO_id, flat_up, Ab.get, clAV, clC, clCs, clAO, cl_f1, cl_s1, cl_f2, cl_s2, cl_a1, domOf, List.flatten, fileOf])
      · intro hk
        have hk' : g4 ∈ Option.getD (Option.map SV.car (some x0)) [] := by simpa using hk
        (repeat (first | (with_reducible first | refine na ?_ | refine nb ?_ | refine nc ?_ | refine nd ?_ | refine ne ?_ | refine nf ?_ | refine ng ?_ | refine nh ?_ | refine ni ?_ | refine nj ?_ | refine nk ?_ | refine nl ?_ | refine nm (by decide) ?_ | refine nn ?_) | refine TO_go (wr := false) 400 (by simp only [kB, kG, kS, kM, k27, Nat.reduceAdd, Nat.reduceLT, Nat.reduceEqDiff, ↓reduceIte, reduceCtorEq]; first | done | rfl) (by first | exact trivial | (simp only [kO]; omega) | (simp [All, InR]; first | done | omega) | (simp +contextual [All, InR]; first | done | grind)) ?_))
        refine ⟨(some (kF g4, (false, [.v (.bool true)])), xs ++ ys, m4), ?_, by simp, ?_⟩
        · intro i
          rw [← h4 i]
          simp only [List.mem_append, List.mem_cons]
          constructor
          · rintro (h | ⟨h | h, g⟩)
            · exact .inl h
            · exact .inr ⟨.inl h, g⟩
            · exact .inr ⟨.inr (.inr h), g⟩
          · rintro (h | ⟨h | rfl | h, g⟩)
            · exact .inl h
            · exact .inr ⟨.inl h, g⟩
            · exact absurd hk' g
            · exact .inr ⟨.inr h, g⟩
        · (refine Ent_sub (fun i => i) rfl ?_ ⟨?_, ?_, ?_, keepI hx (by simp [domOf, Ab.get])⟩ <;> first | (simp only [kE, dArr, ↓reduceIte, Nat.reduceEqDiff, reduceCtorEq, fileOf]; done) | simp [renAV_id, renAO_id, flat_up, Ab.get, clAV, clC, clCs, clAO, cl_f1, cl_s1, cl_f2, cl_s2, cl_a1, domOf, List.flatten, fileOf])
  intro hge
  have hge' : k = d.revs.length := by have : ¬ k < d.revs.length := by simpa using hge
                                      omega
  rw [hge'] at hA hD
  (repeat (with_reducible first | refine na ?_ | refine nb ?_ | refine nc ?_ | refine nd ?_ | refine ne ?_ | refine nf ?_ | refine ng ?_ | refine nh ?_ | refine ni ?_ | refine nj ?_ | refine nk ?_ | refine nl ?_ | refine nm (by decide) ?_ | refine nn ?_))
  refine TO_ent (Ent_frzMapSlot (i := 3) (id := 17) (es := mEnt kF vSV A) rfl rfl) ?_
  simp only [Ab.put, Nat.reduceEqDiff, ↓reduceIte, reduceCtorEq, if_false, if_true]
  (repeat (first | (with_reducible first | refine na ?_ | refine nb ?_ | refine nc ?_ | refine nd ?_ | refine ne ?_ | refine nf ?_ | refine ng ?_ | refine nh ?_ | refine ni ?_ | refine nj ?_ | refine nk ?_ | refine nl ?_ | refine nm (by decide) ?_ | refine nn ?_) | refine TO_go (wr := false) 400 (by simp only [kB, kG, kS, kM, k27, Nat.reduceAdd, Nat.reduceLT, Nat.reduceEqDiff, ↓reduceIte, reduceCtorEq]; first | done | rfl) (by first | exact trivial | (simp only [kO]; omega) | (simp [All, InR]; first | done | omega) | (simp +contextual [All, InR]; first | done | grind)) ?_))
  refine RetQ_intro (by simp only [kR, Tryd.results27, ↓reduceIte, Nat.reduceEqDiff, reduceCtorEq]; first | done | rfl) (by first | exact trivial | (simp only [kO]; omega) | (simp [All, InR]; first | done | omega) | (simp +contextual [All, InR]; first | done | grind)) [] ⟨by simp [Ab.get, renAO_id], by simp, by simp [clAO, cl_f1, cl_s1, cl_f2, cl_s2, cl_a1, flat_up, clCs, clC, domOf, Ab.get], keepI hx (by simp [domOf, Ab.get])⟩ (by simp [clAV, clPs, clCs, clC, domOf, Ab.get]) ⟨?_, rfl⟩
  exact ⟨A, hA, hD, rfl⟩
end Go.Proofs.YtmlhfnodnnbbnaaDoor

/- A part of the proof. -/
import Derived.Test.YtbllfnmabmamfaaGreatDoorRBd2
import Derived.Test.YtbllfnmabmamfaaGreatDoorRG4
set_option linter.all false
namespace Go.Proofs.YtbllfnmabmamfaaGreatDoor
open Go.Ab Tys
def k105 := And.intro @Tryz.ntmps105 <| And.intro @bld76 <| And.intro @fld76_0 <| And.intro @fld76_1 <| And.intro @fld76_3 <| And.intro @fld76_4 <| And.intro @ti3 <| And.intro @ti76 <| @ti9
theorem v105H1 {G G' : Prop} (g : G') (h : Hid G' → G := by intro h9; (first | refine nvB ?_ | refine goA (wr := false) (by simp only [kB, k105, Nat.reduceAdd, Nat.reduceLT, Nat.reduceEqDiff, ↓reduceIte, reduceCtorEq]; first | done | rfl) ?_); (repeat (first | refine nvB ?_ | refine goA (wr := false) (by simp only [kB, k105, Nat.reduceAdd, Nat.reduceLT, Nat.reduceEqDiff, ↓reduceIte, reduceCtorEq]; first | done | rfl) ?_)); exact h9.out) : G := h ⟨g⟩
set_option maxRecDepth 100000 in
set_option maxHeartbeats 4000000 in
theorem before_ac (a b : Rcd) (ha : rOK a) (hb : rOK b) : AC Tryz.prog 105 [aRcd a, aRcd b] [] (fun r st => r = B (before a b) ∧ st = []) := by
  refine AC_enter Tryz.func105 rfl rfl (by simp only [Tryz.ntmps105, List.length]; omega) ?_
  intro x hx
  simp only [List.range, List.range.loop, List.length, List.zip, List.zipWith, Nat.reduceAdd, Tryz.ntmps105]
  (repeat (first | refine v105H1 ?_ | (refine caA [] (ord_ac _ _ ha.2 hb.2) ?_; rintro r st' ⟨rfl, rfl⟩; refine frA ?_)))
  refine ifA ?_ ?_
  · intro h
    have h' : ord a.to b.to ≠ 0 := by simpa using h
    try refine v105H1 ?_
    refine rtA (by simp only [kR, Tryz.results105, ↓reduceIte, Nat.reduceEqDiff, reduceCtorEq]; first | done | rfl) ([]) ?_
    refine ⟨?_, rfl⟩
    rw [before, if_pos h']
  · intro h
    have h' : ¬ ord a.to b.to ≠ 0 := by simpa using h
    try refine v105H1 ?_
    refine ifA ?_ ?_
    · intro h2
      have h2' : a.num ≠ b.num := by simpa using h2
      try refine v105H1 ?_
      refine rtA (by simp only [kR, Tryz.results105, ↓reduceIte, Nat.reduceEqDiff, reduceCtorEq]; first | done | rfl) ([]) ?_
      refine ⟨?_, rfl⟩
      rw [before, if_neg h', if_pos h2']
    · intro h2
      have h2' : ¬ a.num ≠ b.num := by simpa using h2
      (repeat (first | refine v105H1 ?_ | (refine caA [] (ord_ac _ _ ha.1 hb.1) ?_; rintro r st' ⟨rfl, rfl⟩; refine frA ?_)))
      refine ifA ?_ ?_
      · intro h3
        have h3' : ord a.frm b.frm ≠ 0 := by simpa using h3
        try refine v105H1 ?_
        refine rtA (by simp only [kR, Tryz.results105, ↓reduceIte, Nat.reduceEqDiff, reduceCtorEq]; first | done | rfl) ([]) ?_
        refine ⟨?_, rfl⟩
        rw [before, if_neg h', if_neg h2', if_pos h3']
      · intro h3
        have h3' : ¬ ord a.frm b.frm ≠ 0 := by simpa using h3
        try refine v105H1 ?_
        refine rtA (by simp only [kR, Tryz.results105, ↓reduceIte, Nat.reduceEqDiff, reduceCtorEq]; first | done | rfl) ([]) ?_
        refine ⟨?_, rfl⟩
        rw [before, if_neg h', if_neg h2', if_neg h3']
def k59 := And.intro @Tryz.ntmps59 <| And.intro @Tryz.underlying28 <| And.intro @bld76 <| And.intro @elt28 <| And.intro @ti28 <| @ti76
theorem v59H1 {G G' : Prop} (g : G') (h : Hid G' → G := by intro h9; (first | refine nvB ?_ | refine goA (wr := false) (by simp only [kB, kG, k59, Nat.reduceAdd, Nat.reduceLT, Nat.reduceEqDiff, ↓reduceIte, reduceCtorEq]; first | done | rfl) ?_); (repeat (first | refine nvB ?_ | refine goA (wr := false) (by simp only [kB, kG, k59, Nat.reduceAdd, Nat.reduceLT, Nat.reduceEqDiff, ↓reduceIte, reduceCtorEq]; first | done | rfl) ?_)); exact h9.out) : G := h ⟨g⟩
set_option maxRecDepth 100000 in
set_option maxHeartbeats 8000000 in
theorem sorted_ac (l : List Rcd) (hl : l.length ≤ 1000000) (hok : ∀ r ∈ l, rOK r) : AC Tryz.prog 59 [.c (.ms 46 6 0 l.length)] [(46, dArr 6 (l.map encRcd))] (fun r st => r = .c (.d (.ps 6 ((sortR l).map encRcd))) ∧ st = [(46, .dead)]) := by
  refine AC_enter Tryz.func59 rfl rfl (by simp only [Tryz.ntmps59, List.length]; omega) ?_
  intro x hx
  simp only [List.range, List.range.loop, List.length, List.zip, List.zipWith, Nat.reduceAdd, Tryz.ntmps59]
  try refine v59H1 ?_
  refine T_loop (ι := Nat × List Rcd) (I := fun i => ⟨45, [(0, .c (.ms 46 6 0 l.length)), (6, I .i64 l.length), (7, I .i64 i.1)], [(46, dArr 6 (i.2.map encRcd))]⟩)
    (Inv := fun i => i.1 ≤ l.length ∧ i.2.length = l.length ∧ (∀ r ∈ i.2, rOK r) ∧ i.2 = sortN l i.1) (μ := fun i => l.length - i.1) (0, l) ⟨by simp, rfl, hok, rfl⟩ ?_ ?_
  · exact enA
  · rintro ⟨k, m⟩ ⟨h1, h2, h3, h4⟩
    simp only at h1 h2 h3 h4 ⊢
    try refine v59H1 ?_
    refine ifA ?_ ?_
    · intro hlt
      have hlt' : k < l.length := by simpa using hlt
      try refine v59H1 ?_
      refine T_loop (ι := Nat × List Rcd) (I := fun i => ⟨45, [(0, .c (.ms 46 6 0 l.length)), (4, I .i64 i.1), (6, I .i64 l.length), (7, I .i64 k)], [(46, dArr 6 (i.2.map encRcd))]⟩)
        (Inv := fun i => i.1 ≤ k ∧ i.2.length = l.length ∧ (∀ r ∈ i.2, rOK r) ∧ sinkF i.1 i.2 = sortN l (k + 1)) (μ := fun i => i.1) (k, m) ⟨by simp, h2, h3, by rw [h4]; rfl⟩ ?_ ?_
      · exact enA
      · rintro ⟨j, t⟩ ⟨g1, g2, g3, g4⟩
        simp only at g1 g2 g3 g4 ⊢
        have hj1 : ((j : Int) - 1).toNat = j - 1 := by omega
        have hjt : j < t.length := by omega
        have hjt2 : j - 1 < t.length := by omega
        have e1 := uGet encRcd t j zRcd hjt
        have e2 := uGet encRcd t (j - 1) zRcd hjt2
        have m1 : t.getD j zRcd ∈ t := by rw [List.getD_eq_getElem?_getD, List.getElem?_eq_getElem hjt]; simp
        have m2 : t.getD (j - 1) zRcd ∈ t := by rw [List.getD_eq_getElem?_getD, List.getElem?_eq_getElem hjt2]; simp
        generalize hv : t.getD j zRcd = v at e1 m1
        generalize hw : t.getD (j - 1) zRcd = w at e2 m2
        refine nvA ?_
        refine drA (wr := false) ([(23, B (before v w))] : List (Nat × AV)) (by simp only [kD, kB, kG, k59, Nat.reduceAdd, Nat.reduceLT, Nat.reduceEqDiff, ↓reduceIte, reduceCtorEq, hj1, e1, e2]; first | done | rfl) ?_ ?_
        · simp only [All, List.cons_append, List.nil_append, InR, List.mem_cons, List.not_mem_nil, or_false, forall_eq_or_imp, forall_eq, clAV, clCs, clC, clCaps, clCap, and_true, true_and, implies_true, List.length_map, List.length_cons, List.length_nil, dArr, cl_arr, tyCs]
          repeat' (first | exact trivial | exact before_ac _ _ (g3 _ m1) (g3 _ m2) | refine And.intro ?_ ?_ | intro _ | assumption | rfl | omega | (rw [Bool.not_eq_true']; assumption) | (simp; done) | (simp only [decide_eq_true_eq] at *; omega) | (simp_all; done))
        refine nvA ?_
        refine ifA ?_ ?_
        · intro hc
          have hc' : 0 < j ∧ before v w = true := by
            cases j with
            | zero => exact absurd hc (by simp)
            | succ j => exact ⟨by omega, by simpa using hc⟩
          obtain ⟨hj, hb⟩ := hc'
          have hjn : j - 1 ≠ j := by omega
          have e3 := uGet encRcd (t.set j w) (j - 1) zRcd (by simp; omega)
          refine nvA ?_
          refine T_draw (wr := false) ([] : List (Nat × AV)) (by kernel_rfl) (by simp only [kD, kB, kG, k59, Nat.reduceAdd, Nat.reduceLT, Nat.reduceEqDiff, ↓reduceIte, reduceCtorEq, hj1, e1, e2, set_R, set_R2]; first | done | rfl) (by first | exact trivial | (simp only [kO]; omega) | (simp [All, InR]; first | done | omega) | (simp +contextual [All, InR]; first | done | grind)) (by kernel_rfl) ?_
          try refine v59H1 ?_
          have hlen : ((t.set j w).set (j - 1) v).length = l.length := by simp [g2]
          refine ⟨(j - 1, (t.set j w).set (j - 1) v), ⟨by simp; omega, hlen, swap_mem m1 m2 g3, ?_⟩, by simp; omega, ?_⟩
          · rw [← g4]
            obtain ⟨i, rfl⟩ : ∃ i, j = i + 1 := ⟨j - 1, by omega⟩
            have e0 : i + 1 - 1 = i := by omega
            rw [e0] at hw
            conv => rhs; rw [sinkF]
            rw [hv, hw, if_pos hb]; rfl
          · have hcast : ((j - 1 : Nat) : Int) = (j : Int) - 1 := by omega
            (refine Ent_sub (fun i => i) rfl ?_ ⟨?_, ?_, ?_, keepI hx (by simp [domOf, Ab.get])⟩ <;> first | (simp only [kE, dArr, ↓reduceIte, Nat.reduceEqDiff, reduceCtorEq, hcast]; done) | simp [renAV_id, renAO_id, flat_up, Ab.get, clAV, clC, clCs, clAO, cl_f1, cl_s1, cl_f2, cl_s2, cl_a1, domOf, List.flatten, hcast])
        · intro hc
          try refine v59H1 ?_
          refine ⟨(k + 1, t), ⟨by simp; omega, g2, g3, ?_⟩, by simp; omega, ?_⟩
          · rw [← g4]
            cases j with
            | zero => rfl
            | succ i =>
              have hb : before v w = false := by simpa using hc
              have e0 : i + 1 - 1 = i := by omega
              rw [e0] at hw
              simp only
              rw [sinkF, hv, hw, hb]; rfl
          · exact enA
    · intro hge
      have hge' : k = l.length := by have : ¬ k < l.length := by simpa using hge
                                     omega
      refine nvA ?_
      refine TO_ent (Ent_frzSlot (i := 0) (id := 46) (ys := m.map encRcd) rfl rfl (by simp [h2])) ?_
      refine fzA ?_
      try refine v59H1 ?_
      refine rtA (by simp only [kR, Tryz.results59, ↓reduceIte, Nat.reduceEqDiff, reduceCtorEq]; first | done | rfl) ([(46, .dead)]) ?_
      refine ⟨?_, rfl⟩
      rw [h4, hge']; rfl
def k140 := And.intro @Tryz.ntmps140 <| And.intro @bld41 <| And.intro @fld41_0 <| And.intro @fld41_1 <| And.intro @fld41_3 <| And.intro @ti3 <| And.intro @ti4 <| @ti41
theorem v140H1 {G G' : Prop} (g : G') (h : Hid G' → G := by intro h9; (first | refine nvB ?_ | refine goA (wr := false) (by simp only [kB, kG, k140, Nat.reduceAdd, Nat.reduceLT, Nat.reduceEqDiff, ↓reduceIte, reduceCtorEq]; first | done | rfl) ?_); (repeat (first | refine nvB ?_ | refine goA (wr := false) (by simp only [kB, kG, k140, Nat.reduceAdd, Nat.reduceLT, Nat.reduceEqDiff, ↓reduceIte, reduceCtorEq]; first | done | rfl) ?_)); exact h9.out) : G := h ⟨g⟩
set_option maxRecDepth 100000 in
set_option maxHeartbeats 4000000 in
theorem type_ac (base : Int) (kw ex xe : Bool) : AC Tryz.prog 140 [.agg [.d (.v (.int .i64 base)), .d (.v (.bool kw)), .d (.v (.bool ex)), .d (.v (.bool xe))]] [] (fun r st => r = I .i64 (if typBad base kw xe then 90 else 0) ∧ st = []) := by
  refine AC_enter Tryz.func140 rfl rfl (by simp only [Tryz.ntmps140, List.length]; omega) ?_
  intro x hx
  simp only [List.range, List.range.loop, List.length, List.zip, List.zipWith, Nat.reduceAdd, Tryz.ntmps140]
  try refine v140H1 ?_
  refine ifA ?_ ?_
  · intro h
    try refine v140H1 ?_
    refine rtA (by simp only [kR, Tryz.results140, ↓reduceIte, Nat.reduceEqDiff, reduceCtorEq]; first | done | rfl) ([]) ?_
    refine ⟨?_, rfl⟩
    have : typBad base kw xe = true := by rw [← h]; simp only [typBad]; cases decide (base < 1) <;> cases decide (3 < base) <;> cases kw <;> cases xe <;> cases decide (base = 1) <;> cases decide (base = 3) <;> rfl
    rw [this]; rfl
  · intro h
    try refine v140H1 ?_
    refine rtA (by simp only [kR, Tryz.results140, ↓reduceIte, Nat.reduceEqDiff, reduceCtorEq]; first | done | rfl) ([]) ?_
    refine ⟨?_, rfl⟩
    have : typBad base kw xe = false := by rw [← h]; simp only [typBad]; cases decide (base < 1) <;> cases decide (3 < base) <;> cases kw <;> cases xe <;> cases decide (base = 1) <;> cases decide (base = 3) <;> rfl
    rw [this]; rfl
end Go.Proofs.YtbllfnmabmamfaaGreatDoor

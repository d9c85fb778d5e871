/- Regions that draw their order and end with a chain of operations behind all others; arrays that are lent to a contract over persistent data. -/
import Derived.Test.YtmlhfnodnnbbnaaDoorQAbCl
set_option linter.all false

namespace Go.Ab
section
variable {P : Program} {x : X}
theorem seq_any {l : List Oper} {Q : Exit → Act → World → Prop} {m : Nat} (back : ∀ (i : Nat) (o : Oper) (e : Edge), l.toArray[i]? = some o → e ∈ o.after → Region.binds .any e = true → e.on < i)
    (hch : ∀ i, m ≤ i → i < l.length → ∀ k, k < i → Reach l.toArray k i) : ∀ (fuel j : Nat) (L : Array Bool) (a : Act) (w : World), m ≤ j → j ≤ l.length → L.size = l.toArray.size → Closed l.toArray L →
      (∀ k, L.getD k false = decide (k < j)) → l.length - j ≤ fuel → wpList P l.toArray Q (l.drop j) a w → wpAny P .any l.toArray Q fuel L a w := by
  intro fuel
  have hend : ∀ (L : Array Bool), L.size = l.toArray.size → (∀ k, L.getD k false = decide (k < l.length)) → Region.ready .any l.toArray L = [] := by
    intro L hsz hL
    apply List.eq_nil_iff_forall_not_mem.2
    intro k hk
    obtain ⟨b1, b2, _⟩ := mem_ready hk
    rw [getD_in (by omega) true false, hL k] at b2
    simp at b1 b2; omega
  induction fuel with
  | zero =>
    intro j L a w hm hj hsz hcl hL hf hw
    obtain rfl : j = l.length := by omega
    rw [List.drop_length] at hw
    exact ⟨hend L hsz hL, hw⟩
  | succ fuel ih =>
    intro j L a w hm hj hsz hcl hL hf hw
    rcases Nat.lt_or_ge j l.length with hlt | hge
    · refine ⟨fun hr => ?_, ?_⟩
      · have := ready_all back hsz hr j (by simpa using hlt)
        rw [hL j] at this; simp at this
      · intro i hi
        obtain ⟨g1, g2, o, hoi, hpre⟩ := mem_ready hi
        obtain ⟨n1, n2, n3⟩ := draw_next hsz hcl hi
        have hij : i = j := by
          rw [getD_in (by omega) true false, hL i] at g2
          have h1 : j ≤ i := by simpa using g2
          rcases Nat.lt_or_ge j i with h | h
          · have := ready_reach hcl hsz hi (hch i (by omega) (by simpa using g1) j h)
            rw [hL j] at this; simp at this
          · omega
        subst hij
        unfold wpOp
        simp only [hoi]
        rw [List.drop_eq_getElem_cons hlt] at hw
        have ho : l[i] = o := by
          have : l[i]? = some o := by simpa using hoi
          rw [List.getElem?_eq_getElem hlt] at this; simpa using this
        rw [ho] at hw
        simp only [wpList] at hw
        have hk : ∀ a w, wpList P l.toArray Q (l.drop (i + 1)) a w → wpAny P .any l.toArray Q fuel (L.setIfInBounds i true) a w := by
          intro a w h
          refine ih (i + 1) _ a w (by omega) (by omega) n1 n2 ?_ (by omega) h
          intro k
          rw [set_get (by omega), hL k]
          by_cases e : k = i
          · subst e; simp
          · rw [if_neg e]; congr 1; apply propext; omega
        split
        · rename_i hwn; rw [if_pos hwn] at hw; exact hw.imp (Oper.wp_mono hk) id
        · rename_i hwn; rw [if_neg hwn] at hw; exact hk _ _ hw
    · obtain rfl : j = l.length := by omega
      rw [List.drop_length] at hw
      have he := hend L hsz hL
      exact ⟨fun _ => hw, fun i hi => (by rw [he] at hi; cases hi)⟩
theorem stAt_rep {As : List A1} {n : Nat} {s : S} : ∀ {i : Nat}, i ≤ As.length → stAt (As ++ List.replicate n A0) s i = stAt As s i
  | 0, _ => rfl
  | i + 1, h => by
    simp only [stAt]
    rw [List.getElem?_append_left (by omega), stAt_rep (i := i) (by omega)]
theorem T_drawk {wr : Bool} {id : Nat} {l : List Oper} {s s1 : S} {Q : Exit → S → Prop} (m : Nat) (cs : List (Nat × AV)) {As : List A1} {ps : List Prop}
    (hm : P.follows .mixedOrders = true) (h : runD P wr l cs (l.take m) s = some (As, ps, s1)) (ho : All ps) (hml : m ≤ l.length) (hc : drawOK l (As ++ List.replicate (l.length - m) A0) = true)
    (hall : ((List.range l.length).all fun i => decide (i < m) || (List.range i).all fun k => ((ancs l []).getD i []).contains k) = true)
    (hk : TO P x l (l.drop m) s1 Q) : T P x (.region id l.toArray true) s Q := by
  obtain ⟨h1, h2, h3, h4⟩ := runD_ok (x := x) h ho
  have hlm : (l.take m).length = m := by simp; omega
  rw [hlm] at h1 h2
  have hord : Order l.toArray (As ++ List.replicate (l.length - m) A0) s := order_of (by simp [h1]; omega) (by
    intro i A hA
    rcases Nat.lt_or_ge i As.length with hi | hi
    · rw [List.getElem?_append_left hi] at hA
      rw [stAt_rep (by omega)]
      exact h3 i A hA
    · rw [List.getElem?_append_right hi] at hA
      have : A = A0 := (List.mem_replicate.1 (List.mem_of_getElem? hA)).2
      subst this
      intro p hp; simp [A0] at hp) hc
  have hchain : ∀ i, m ≤ i → i < l.length → ∀ k, k < i → Reach l.toArray k i := by
    intro i hi hil k hki
    have := List.all_eq_true.1 hall i (List.mem_range.2 hil)
    rw [Bool.or_eq_true] at this
    rcases this with h | h
    · simp at h; omega
    · exact ancs_ok l (l := l) (acc := []) (by simp) (by simp) i k (by simpa using List.all_eq_true.1 h k (List.mem_range.2 hki))
  have key : ∀ (fuel : Nat) (L : Array Bool) (s2 : S) (a : Act) (w : World), L.size = l.toArray.size → Closed l.toArray L → s2.n = s.n → (∀ r, look s2 r = cont (As ++ List.replicate (l.length - m) A0) s (fun i => L.getD i false) r l.toArray.size) →
      ((List.range l.toArray.size).filter fun i => !L.getD i false).length ≤ fuel → (∀ k, m ≤ k → L.getD k false = false) → Sat x s2 a w → wpAny P .any l.toArray (Lift x Q) fuel L a w := by
    intro fuel
    have fin : ∀ (fuel : Nat) (L : Array Bool) (s2 : S) (a : Act) (w : World), L.size = l.toArray.size → Closed l.toArray L → s2.n = s.n → (∀ r, look s2 r = cont (As ++ List.replicate (l.length - m) A0) s (fun i => L.getD i false) r l.toArray.size) →
      ((List.range l.toArray.size).filter fun i => !L.getD i false).length ≤ fuel → (∀ k, m ≤ k → L.getD k false = false) → Sat x s2 a w → (∀ k, k < m → L.getD k false = true) → wpAny P .any l.toArray (Lift x Q) fuel L a w := by
      intro fuel L s2 a w hsz hcl hn hlook hf hj hs hdone
      have hsat1 : Sat x s1 a w := by
        refine Sat.congr (s := s2) ?_ ?_ hs
        · rw [hn, ← h2, stAt_n]
        · intro r
          rw [hlook r, cont_stop (m := m) (by simpa using hml) (fun i hi _ _ => hj i hi), cont_text hord.nodup r hdone, stAt_rep (by omega), h2]
      refine seq_any hord.back hchain fuel m L a w (Nat.le_refl _) hml hsz hcl ?_ ?_ (hk a w hsat1)
      · intro k
        rcases Nat.lt_or_ge k m with h | h
        · rw [hdone k h]; simp [h]
        · rw [hj k h]; symm; simp; omega
      · refine Nat.le_trans ?_ hf
        have : (List.range' m (l.length - m)).Sublist ((List.range l.toArray.size).filter fun i => !L.getD i false) := by
          have e : (List.range' m (l.length - m)).filter (fun i => !L.getD i false) = List.range' m (l.length - m) := by
            rw [List.filter_eq_self]
            intro k hk'
            rw [hj k (by simp [List.mem_range'_1] at hk'; omega)]; rfl
          rw [← e]
          apply List.Sublist.filter
          rw [List.range_eq_range', show l.toArray.size = m + (l.length - m) by simp; omega, ← List.range'_append_1, Nat.zero_add]
          exact List.sublist_append_right ..
        simpa using this.length_le
    induction fuel with
    | zero =>
      intro L s2 a w hsz hcl hn hlook hf hj hs
      obtain ⟨g1, g2⟩ := none_ready hsz hf
      exact fin 0 L s2 a w hsz hcl hn hlook hf hj hs fun k hk' => g2 k (by simp; omega)
    | succ fuel ih =>
      intro L s2 a w hsz hcl hn hlook hf hj hs
      by_cases hd : ∀ k, k < m → L.getD k false = true
      · exact fin _ L s2 a w hsz hcl hn hlook hf hj hs hd
      refine ⟨fun hr => (hd fun k hk' => ready_all hord.back hsz hr k (by simp; omega)).elim, ?_⟩
      intro i hi
      obtain ⟨g1, g2, o, hoi, hpre⟩ := mem_ready hi
      obtain ⟨n1, n2, n3⟩ := draw_next hsz hcl hi
      have him : i < m := by
        rcases Nat.lt_or_ge i m with h | h
        · exact h
        · exact (hd fun k hk' => ready_reach hcl hsz hi (hchain i h (by simpa using g1) k (by omega))).elim
      unfold wpOp
      simp only [hoi]
      obtain ⟨A, hA⟩ : ∃ A, As[i]? = some A := ⟨As[i]'(by omega), by simp⟩
      have hA' : (As ++ List.replicate (l.length - m) A0)[i]? = some A := by rw [List.getElem?_append_left (by omega)]; exact hA
      obtain ⟨hfits, hlook'⟩ := draw_step hord hsz hcl hi hA' hlook
      have hoi' : (l.take m)[i]? = some o := by
        have : l[i]? = some o := by simpa using hoi
        rw [List.getElem?_take, if_pos him]; exact this
      have hstep := h4 i o A hoi' hA s2 a w hn hs hfits (wpAny P .any l.toArray (Lift x Q) fuel (L.setIfInBounds i true)) (Lift x Q) ?_
      · split
        · rename_i hw; rw [if_pos hw] at hstep; exact .inl hstep
        · rename_i hw; rw [if_neg hw] at hstep; exact hstep
      intro a' w' hs'
      exact ih _ (A.app s2) a' w' n1 n2 hn hlook' (by omega) (fun k hk' => by rw [set_get (by omega), if_neg (by omega)]; exact hj k hk') hs'
  intro a w hs
  refine wp_region_any hm ?_
  refine key _ _ s a _ (by simp) ?_ rfl ?_ filter_len (fun k _ => by simp [Array.getD]) (hs.drew _)
  · intro i o e hi hL he hb
    have hlt : i < l.length := by simpa using (Array.getElem?_eq_some_iff.1 hi).1
    rw [getD_in (by simpa using hlt) true false] at hL
    simp [Array.getD, hlt] at hL
  · intro r
    have hz : ∀ i, (Array.replicate l.toArray.size false).getD i false = false := by
      intro i; simp [Array.getD]
    have : cont (As ++ List.replicate (l.length - m) A0) s (fun i => (Array.replicate l.toArray.size false).getD i false) r l.toArray.size = cont (As ++ List.replicate (l.length - m) A0) s (fun i => (Array.replicate l.toArray.size false).getD i false) r 0 :=
      cont_stop (Nat.zero_le _) (fun i _ _ _ => hz i)
    rw [this]; rfl
def flC : C → Bool
  | .d (.v _) => true
  | _ => false
def flAV : AV → Bool
  | .c x => flC x
  | .agg cs => cs.all flC
  | .tup ps => ps.all fun p => p.2.all flC
  | .cond _ _ => false
theorem flC_rep {k k' : K} {c : C} {v : Value} (h : flC c = true) (hr : RepC k c v) : RepC k' c v := by
  cases c with
  | d x =>
    cases x with
    | v y => cases hr with | v _ h => exact .v _ h
    | ps => cases h
    | pm => cases h
  | _ => cases h
theorem flCs_rep {k k' : K} {cs : List C} {vs : List Value} (h : cs.all flC = true) (hr : All2 (RepC k) cs vs) : All2 (RepC k') cs vs := by
  induction hr with
  | nil => exact .nil
  | cons h1 _ ih =>
    rw [List.all_cons, Bool.and_eq_true] at h
    exact .cons (flC_rep h.1 h1) (ih h.2)
theorem flAV_rep {k k' : K} {r : AV} {v : Value} (h : flAV r = true) (hr : RepAV k r v) : RepAV k' r v := by
  cases r with
  | c x => exact flC_rep h hr
  | agg cs => obtain ⟨vs, e, h2⟩ := hr; exact ⟨vs, e, flCs_rep h h2⟩
  | tup ps =>
    obtain ⟨vs, e, h2⟩ := hr
    refine ⟨vs, e, ?_⟩
    simp only [flAV] at h
    clear e
    induction h2 with
    | nil => exact .nil
    | cons h1 _ ih =>
      rw [List.all_cons, Bool.and_eq_true] at h
      refine .cons ?_ (ih h.2)
      unfold RepB at h1 ⊢
      split
      · rename_i hp; rw [if_pos hp] at h1; obtain ⟨us, e, h3⟩ := h1; exact ⟨us, e, flCs_rep h.1 h3⟩
      · rename_i hp; rw [if_neg hp] at h1; obtain ⟨⟨y, e, h3⟩, hn⟩ := h1
        refine ⟨⟨y, e, flC_rep ?_ h3⟩, hn⟩
        have := h.1; rw [e] at this; simpa using this
  | cond b y => cases h
theorem AC_lend {f : FuncId} {id sz : Nat} {ys : List (List D)} {a0 : AV} {pre post : List D} {R : AV → Prop} (h0 : clAV (fun _ => false) a0) (hR : ∀ r, R r → clAV (fun _ => false) r)
    (h : AC P f [a0, .agg (pre.map C.d ++ .d (.ps sz ys) :: post.map C.d)] [] (fun r st => R r ∧ st = [])) :
    AC P f [a0, .agg (pre.map C.d ++ .ms id sz 0 ys.length :: post.map C.d)] [(id, .arr sz (ys.map fun l => l.map C.d))] (fun r st => R r ∧ st = [(id, if flAV r then .arr sz (ys.map fun l => l.map C.d) else .dead)]) := by
  refine ⟨h.1, ?_⟩
  intro bl cap F w us hs hargs
  have hid : get [(id, AO.arr sz (ys.map fun l => l.map C.d))] id = some (.arr sz (ys.map fun l => l.map C.d)) := by simp [get]
  have hputd : put [(id, AO.arr sz (ys.map fun l => l.map C.d))] id .dead = [(id, AO.dead)] := by simp [put]
  cases hargs with
  | @cons _ u0 _ _ hv0 ht =>
  cases ht with
  | @cons _ u1 _ _ hv ht =>
  cases ht
  have hMd : ∀ (bl : Nat → List Nat) b, ¬ MM bl [(id, AO.dead)] b := by
    rintro bl b ⟨i, o, ho, hl, _⟩
    simp only [get] at ho
    split at ho
    · cases ho; cases hl
    · cases ho
  have hM0 : ∀ (bl : Nat → List Nat) b, ¬ MM bl [] b := by
    rintro bl b ⟨i, o, ho, _⟩
    simp [get] at ho
  have hs0 : SatS (X.start bl cap F [] w) bl cap [] w := {
    objs := fun i o ho => by simp [get] at ho
    disj := fun i i' o o' b ho => by simp [get] at ho
    nodup := fun i o ho => by simp [get] at ho
    new := fun b hb => absurd hb (hM0 _ b)
    lt := fun b hb => absurd hb (hM0 _ b)
    fr := ⟨Nat.le_refl _, fun _ _ _ => rfl, rfl, rfl, rfl⟩
    keep := fun i hi => by simp [X.start, get] at hi
    xok := ⟨fun b hb => hs.xok.lt b hb, fun b hb => hM0 _ b⟩ }
  have hst : ∀ c u, RepD (mkK (X.start bl cap F [(id, AO.arr sz (ys.map fun l => l.map C.d))] w) bl cap [(id, AO.arr sz (ys.map fun l => l.map C.d))] w).M w c u → RepD (mkK (X.start bl cap F [] w) bl cap [] w).M w c u := fun c u hr =>
    RepD.stable hr (fun _ _ _ => rfl) (fun b hb => by
      rcases hb with hb | hb
      · exact absurd hb (hM0 _ b)
      · exact .inl (.inr hb))
  have hrep0 : RepAV (mkK (X.start bl cap F [] w) bl cap [] w) a0 u0 :=
    repAV_ren (k := mkK (X.start bl cap F [(id, AO.arr sz (ys.map fun l => l.map C.d))] w) bl cap [(id, AO.arr sz (ys.map fun l => l.map C.d))] w) (ρ := fun i => i) (dom := fun _ => false)
      (fun c u hcl hc => repC_ren (k := mkK (X.start bl cap F [(id, AO.arr sz (ys.map fun l => l.map C.d))] w) bl cap [(id, AO.arr sz (ys.map fun l => l.map C.d))] w) (k' := mkK (X.start bl cap F [] w) bl cap [] w) (ρ := fun i => i) (dom := fun _ => false) (by simp) (by simp) (by simp) rfl
        (fun b hb => by
          rcases hb with hb | hb
          · exact absurd hb (hM0 _ b)
          · exact .inr hb) hcl hc) h0 (by rw [renAV_id]; exact hv0)
  have hrep1 : RepAV (mkK (X.start bl cap F [] w) bl cap [] w) (.agg (pre.map C.d ++ .d (.ps sz ys) :: post.map C.d)) u1 := by
    obtain ⟨vs, e, h2⟩ := hv
    refine ⟨vs, e, ?_⟩
    clear e h
    induction pre generalizing vs with
    | nil =>
      cases h2 with
      | cons h3 h4 =>
        refine .cons ?_ ?_
        · have := frzArr_rep hs hid h3
          rw [hputd] at this
          exact RepD.stable this (fun _ _ _ => rfl) (fun b hb => by
            rcases hb with hb | hb
            · exact absurd hb (hM0 _ b)
            · exact .inl (.inr hb))
        · rw [All2.map_left] at h4 ⊢
          exact h4.mono fun c u hr => hst c u hr
    | cons p pre ih =>
      cases h2 with
      | cons h3 h4 => exact .cons (hst _ _ h3) (ih _ h4)
  refine (h.2 bl cap F w _ hs0 (.cons hrep0 (.cons hrep1 .nil))).mono ?_
  rintro e w' ⟨r, st', bl', cap', v, he, ⟨hr, rfl⟩, _, hs', hv'⟩
  have hheap : ∀ b, b < w.heap.size → w'.heap[b]? = w.heap[b]? := fun b hb => hs'.fr.heap b hb (hM0 _ b)
  by_cases hfl : flAV r = true
  · refine ⟨r, [(id, .arr sz (ys.map fun l => l.map C.d))], bl, cap, v, he, ⟨hr, by rw [if_pos hfl]⟩, by simp, ?_, flAV_rep hfl hv'⟩
    have hle : (mkK (X.start bl cap F [(id, AO.arr sz (ys.map fun l => l.map C.d))] w) bl cap [(id, AO.arr sz (ys.map fun l => l.map C.d))] w).le (mkK (X.start bl cap F [(id, AO.arr sz (ys.map fun l => l.map C.d))] w) bl cap [(id, AO.arr sz (ys.map fun l => l.map C.d))] w') :=
      ⟨fun _ h => h, fun _ _ => rfl, fun _ _ => rfl, fun b _ hb => hheap b hb, fun _ h => .inl h⟩
    exact {
      objs := fun i o ho => (hs.objs i o ho).le hle (by simp only [mkK]; rw [ho]; rfl) (fun b hb => hheap b (hs.lt b ⟨i, o, ho, (by
        simp only [get] at ho
        split at ho
        · cases ho; rfl
        · cases ho), hb⟩))
      disj := hs.disj
      nodup := hs.nodup
      new := hs.new
      lt := fun b hb => Nat.lt_of_lt_of_le (hs.lt b hb) hs'.fr.size
      fr := ⟨hs'.fr.size, fun b hb _ => hheap b hb, hs'.fr.os, hs'.fr.output, hs'.fr.tape⟩
      keep := hs.keep
      xok := hs.xok }
  · refine ⟨r, [(id, .dead)], bl, cap, v, he, ⟨hr, by rw [if_neg hfl]⟩, by simp, ?_, ?_⟩
    · exact {
        objs := fun i o ho => by
          simp only [get] at ho
          split at ho
          · cases ho; trivial
          · cases ho
        disj := fun i i' o o' b ho ho' hl hl' => by
          simp only [get] at ho
          split at ho
          · cases ho; cases hl
          · cases ho
        nodup := fun i o ho hl => by
          simp only [get] at ho
          split at ho
          · cases ho; cases hl
          · cases ho
        new := fun b hb => absurd hb (hMd _ b)
        lt := fun b hb => absurd hb (hMd _ b)
        fr := ⟨hs'.fr.size, fun b hb _ => hheap b hb, hs'.fr.os, hs'.fr.output, hs'.fr.tape⟩
        keep := fun i hi => by
          refine ⟨?_, rfl, rfl⟩
          simp only [X.start, get] at hi ⊢
          split at hi
          · rename_i e; simp [e]
          · cases hi
        xok := hs.xok }
    · refine repAV_ren (k := mkK (X.start bl cap F [] w) bl' cap' [] w') (ρ := fun i => i) (dom := fun _ => false) ?_ (hR r hr) (by rw [renAV_id]; exact hv')
      intro c u hcl hc
      refine repC_ren (k := mkK (X.start bl cap F [] w) bl' cap' [] w') (k' := mkK (X.start bl cap F [(id, AO.arr sz (ys.map fun l => l.map C.d))] w) bl cap [(id, AO.dead)] w') (ρ := fun i => i) (dom := fun _ => false) (by simp) (by simp) (by simp) rfl ?_ hcl hc
      intro b hb
      rcases hb with hb | hb
      · exact absurd hb (hMd _ b)
      · exact .inr hb
end
end Go.Ab

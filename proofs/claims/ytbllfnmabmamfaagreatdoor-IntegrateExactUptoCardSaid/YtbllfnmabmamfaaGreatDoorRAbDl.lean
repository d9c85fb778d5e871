/- A part of the proof. -/
import Derived.Test.YtbllfnmabmamfaaGreatDoorQAbCk
import Derived.RangeFuncCalls
import Derived.RangeFuncLeaves
import Derived.RangeFuncIn
import Derived.TacticsIn
import Derived.Below
set_option linter.all false
namespace Go.Ab
section
variable {P : Program} {x : X}
theorem lend {s : S} {args : List AV} {st0 : List (Nat × AO)} {bl : Nat → List Nat} {cap : Nat → Nat} {w : World} {us : List Value} (hs : SatS x bl cap s.st w) (hl : Lent s args st0)
    (hargs : All2 (RepAV (mkK x bl cap s.st w)) args us) :
    ∃ F0 : Nat → Prop, SatS (X.start bl cap F0 st0 w) bl cap st0 w ∧ All2 (RepAV (mkK (X.start bl cap F0 st0 w) bl cap st0 w)) args us ∧
      ∀ (st' : List (Nat × AO)) (bl' : Nat → List Nat) (cap' : Nat → Nat) (w' : World), (st'.map (·.1)).Nodup → Fresh s st0 st' → SatS (X.start bl cap F0 st0 w) bl' cap' st' w' →
        ∃ bl'' cap'', SatS x bl'' cap'' (putAll s.st st') w' ∧ (mkK x bl cap s.st w).le (mkK x bl'' cap'' (putAll s.st st') w') ∧
          (mkK (X.start bl cap F0 st0 w) bl' cap' st' w').le (mkK x bl'' cap'' (putAll s.st st') w') := by
  have hsub : ∀ b, MM bl st0 b → MM bl s.st b := by
    rintro b ⟨id, o, h1, h2, h3⟩
    exact ⟨id, o, hl.mem _ (get_mem h1), h2, h3⟩
  let F0 : Nat → Prop := fun b => (MM bl s.st b ∨ x.F b) ∧ ¬ MM bl st0 b
  have hM0 : ∀ b, (mkK (X.start bl cap F0 st0 w) bl cap st0 w).M b → (mkK x bl cap s.st w).M b := by
    rintro b (hb | hb)
    · exact .inl (hsub b hb)
    · exact hb.1
  have hR : ∀ c v, clC (domOf st0) c → RepC (mkK x bl cap s.st w) (renC (fun i => i) c) v → RepC (mkK (X.start bl cap F0 st0 w) bl cap st0 w) c v := fun c v hcl hr =>
    repC_ren (k := mkK x bl cap s.st w) (ρ := fun i => i) (k' := mkK (X.start bl cap F0 st0 w) bl cap st0 w) (dom := domOf st0) (fun id hid => hid) (fun id _ => rfl) (fun id _ => rfl) rfl hM0 hcl hr
  refine ⟨F0, ?_, ?_, fun st' bl' cap' w' hn hfr hs' => call_back hs hl (fun b => Iff.rfl) hn hfr hs'⟩
  · refine ⟨?_, ?_, ?_, fun b hb => .inl hb, fun b hb => hs.lt b (hsub b hb), ⟨Nat.le_refl _, fun _ _ _ => rfl, rfl, rfl, rfl, Nat.le_refl _⟩, fun id hid => ⟨hid, rfl, rfl⟩, ⟨?_, fun b hb => hb.2⟩⟩
    · intro id o ho
      exact repAO_ren (ρ := fun i => i) hR rfl hM0 rfl rfl (hl.cl _ (get_mem ho)) (by rw [renAO_id]; exact hs.objs id o (hl.mem _ (get_mem ho)))
    · intro i j p q b hi hj hp hq hbi hbj
      exact hs.disj i j p q b (hl.mem _ (get_mem hi)) (hl.mem _ (get_mem hj)) hp hq hbi hbj
    · intro id o ho hlv
      exact hs.nodup id o (hl.mem _ (get_mem ho)) hlv
    · rintro b ⟨hb | hb, _⟩
      · exact hs.lt b hb
      · have := hs.xok.lt b hb; have := hs.fr.size; simp only [X.start]; omega
  · have hcl := hl.args
    clear hl
    induction hargs with
    | nil => exact .nil
    | cons h _ ih => exact .cons (repAV_ren (ρ := fun i => i) hR (hcl _ (by simp)) (by rw [renAV_id]; exact h)) (ih fun a ha => hcl a (by simp [ha]))
theorem rowsIn_of {F : Fence} (hF : ∀ m, Machine.fenced P F m) {n : Nat} {row : String} {args : Array Value} {w : World} {R : Value → World → Prop} (h : Rows P row args w R) : RowsIn F n P row args w R :=
  fun c cs _ => let ⟨v, w', r, s⟩ := h c cs; ⟨v, w', r, (StepsIn.of_steps s).mono fun m _ => hF m⟩
theorem callsIn_of {F : Fence} (hF : ∀ m, Machine.fenced P F m) (hf : ∀ f, F.fn f) {n : Nat} {f : FuncId} {args : Array Value} {w : World} {R : Ending → World → Prop} (h : Calls P f args w R) : CallsIn F n P f args w R :=
  ⟨hf f, fun cs _ => let ⟨e, w', fr, r, s, x⟩ := h cs
    ⟨e, w', fr, r, by
      cases e with
      | returned v => exact (StepsIn.of_steps (show Steps P _ _ from s)).mono fun m _ => hF m
      | panicked c => exact (StepsIn.of_steps (show Steps P _ _ from s)).mono fun m _ => hF m
      | outgrown => exact s, x⟩⟩
structure Open (P : Program) (F : Fence) : Prop where
  all : ∀ m, Machine.fenced P F m
  fn : ∀ f, F.fn f
  depth : F.depth = none
theorem open_wide : Open P Fence.wide := ⟨fenced_wide P, fun _ => trivial, rfl⟩
theorem open_round (l : Nat) : Open P (Fence.wide.inRound l) := ⟨fenced_wide P, fun _ => trivial, rfl⟩
def noDefer (o : Oper) : Bool := match o.op with | .defer _ => false | _ => true
theorem opIn_of {F : Fence} (hF : Open P F) {n : Nat} {o : Oper} (hd : noDefer o = true) {a : Act} {w : World} {N N' : Act → World → Prop} {Q : Exit → Act → World → Prop} (hN : ∀ a w, N a w → N' a w)
    (h : o.wp P a w N Q) : o.wpIn F n P a w N' Q := by
  refine ⟨fun f _ => hF.fn f, ?_⟩
  have e : o.semAt F.round a.eval = execOp a.eval o := by
    cases F.round with
    | none => exact Oper.semAt_none _ _
    | some l => exact Oper.semAt_some l a.eval o (fun c hc => by simp [noDefer, hc] at hd)
  rw [e]
  unfold Oper.wp at h
  have h1 : F.depth.isSome = true → 1 ≤ n := by rw [hF.depth]; intro h; cases h
  revert h
  generalize (execOp a.eval o).run P w = r
  intro h
  cases r with
  | ok v w' =>
    cases v with
    | value v => exact hN _ _ h
    | skip => exact hN _ _ h
    | «defer» d => exact hN _ _ h
    | enter f args =>
      refine ⟨h1, callsIn_of hF.all hF.fn (Calls.mono h ?_)⟩
      intro e w'' hq
      cases e with
      | returned v => exact hN _ _ hq
      | panicked c => exact hq
      | outgrown => exact hq
    | row row args => exact ⟨h1, rowsIn_of hF.all (Rows.mono h fun v w'' hq => hN _ _ hq)⟩
    | _ => exact h.elim
  | halt s w' =>
    cases s with
    | panic v => exact h
    | _ => exact h.elim
def TJ (P : Program) (F : Fence) (x : X) (ops l : List Oper) (s : S) (Q : Exit → S → Prop) : Prop := ∀ a w, Sat x s a w → wpListIn F 1 P ops.toArray (Lift x Q) l a w
def TR (P : Program) (x : X) (r : Nat) (c : Code) (s : S) (Q : Exit → S → Prop) : Prop := ∀ a w, Sat x s a w → c.wpIn (Fence.wide.inRound r) 1 P (Lift x Q) a w
variable {Q : Exit → S → Prop} {s s' : S} {F : Fence}
theorem TJ_nil {ops : List Oper} (h : Q .normal s) : TJ P F x ops [] s Q := fun _ _ hs => ⟨s, h, hs⟩
theorem TJ_step (hF : Open P F) {wr : Bool} {ops l : List Oper} {o : Oper} {obl : List Prop} (hn : noDefer o = true) (hd : dstOK o s.n = true) (h : step1 P wr ops o s = some (s', obl)) (ho : All obl) (hk : TJ P F x ops l s' Q) :
    TJ P F x ops (o :: l) s Q := by
  intro a w hs
  refine wpListIn_step fun K hK => ?_
  have hdst : ∀ i, o.dst = some i → i < s.n := by
    intro i hi
    simpa [dstOK, hi] using hd
  have := step1_ok (K := K) (Q := Lift x Q) h ho hdst hs fun a w hs' => hK a w (hk a w hs')
  split
  · rename_i hw
    rw [if_pos hw] at this
    exact opIn_of hF hn (fun _ _ h => h) this
  · rename_i hw
    rw [if_neg hw] at this
    exact ⟨fun f _ => hF.fn f, this⟩
theorem T_regionI {id : Nat} {l : List Oper} (h : TJ P Fence.wide x l l s Q) : T P x (.region id l.toArray false) s Q :=
  fun a w hs => (wpIn_wide (n := 1)).1 (wpIn_region_lit (h a w hs))
theorem TR_region {r id : Nat} {l : List Oper} (h : TJ P (Fence.wide.inRound r) x l l s Q) : TR P x r (.region id l.toArray false) s Q := fun a w hs => wpIn_region_lit (h a w hs)
theorem TR_block {r id : Nat} {c : Code} (h : TR P x r c s (InB id Q)) : TR P x r (.block id c) s Q := fun a w hs =>
  wpIn_block (wpIn_mono (h a w hs) fun e a w ⟨s, hQ, hs⟩ => by
    cases e with
    | exit j =>
      simp only [Exit.inBlock, InB] at *
      split
      · rename_i e; rw [if_pos e] at hQ; exact ⟨s, hQ, hs⟩
      · rename_i e; rw [if_neg e] at hQ; exact ⟨s, hQ, hs⟩
    | _ => exact ⟨s, hQ, hs⟩)
def AR (P : Program) (L : Nat) (r : Loop) (args : List AV) (st : List (Nat × AO)) (R : List (Nat × AO) → Prop) : Prop :=
  ∀ bl cap F w us, SatS (X.start bl cap F st w) bl cap st w → All2 (RepAV (mkK (X.start bl cap F st w) bl cap st w)) args us →
    RoundIn Fence.wide 0 P L r.fn ((r.params.zip us.toArray).foldl (fun tmps (t, a) => tmps.setIfInBounds t a) r.tmps) r.assign r.body w fun e w' => ∃ st' bl' cap', e = .returned (.bool true) ∧ R st' ∧ (st'.map (·.1)).Nodup ∧
      SatS (X.start bl cap F st w) bl' cap' st' w'
theorem envOK_round {k : K} : ∀ {ps : List Tmp} {args : List AV} {us : List Value} {env : List (Nat × AV)} {tm : Array Value}, ps.length = args.length → (∀ p ∈ ps, p < tm.size) → All2 (RepAV k) args us → EnvOK k env tm →
    EnvOK k ((ps.zip args).foldl (fun e p => put e p.1 p.2) env) ((ps.toArray.zip us.toArray).foldl (fun tmps (t, a) => tmps.setIfInBounds t a) tm) ∧
      ((ps.toArray.zip us.toArray).foldl (fun tmps (t, a) => tmps.setIfInBounds t a) tm).size = tm.size := by
  have e : ∀ (ps : List Tmp) (us : List Value) (tm : Array Value), (ps.toArray.zip us.toArray).foldl (fun tmps (t, a) => tmps.setIfInBounds t a) tm = (ps.zip us).foldl (fun tmps (p : Tmp × Value) => tmps.setIfInBounds p.1 p.2) tm := by
    intro ps us tm; simp [List.zip_toArray]
  simp only [e]
  intro ps
  induction ps with
  | nil =>
    intro args us env tm hl _ ha he
    cases args with
    | nil => cases ha; exact ⟨he, rfl⟩
    | cons _ _ => simp at hl
  | cons p ps ih =>
    intro args us env tm hl hp ha he
    cases ha with
    | nil => simp at hl
    | cons h t =>
      rename_i a u as us
      simp only [List.zip_cons_cons, List.foldl_cons]
      have h0 := hp p (by simp)
      have he' : EnvOK k (put env p a) (tm.setIfInBounds p u) := by
        intro i v hv
        rw [get_put] at hv
        by_cases e : p = i
        · subst e; simp at hv; subst hv
          exact ⟨u, by simp [Array.getElem?_setIfInBounds, h0], h⟩
        · simp only [e, if_false] at hv
          obtain ⟨u', hu', hr'⟩ := he i v hv
          exact ⟨u', by rw [Array.getElem?_setIfInBounds]; simp [e, hu'], hr'⟩
      obtain ⟨i1, i2⟩ := ih (args := as) (us := us) (env := put env p a) (tm := tm.setIfInBounds p u) (by simpa using hl) (fun q hq => by rw [Array.size_setIfInBounds]; exact hp q (by simp [hq])) t he'
      exact ⟨i1, by rw [i2, Array.size_setIfInBounds]⟩
theorem AR_enter {L id D : Nat} {env : List (Nat × AV)} {r : Loop} {ps : List Tmp} {args : List AV} {st : List (Nat × AO)} {R : List (Nat × AO) → Prop} {A B : Code} {n : Nat} (hA : r.assign = A) (hB : r.body = B) (hn : r.tmps.size = n) (hid : get st id = some (.loop L D env r)) (hps : r.params = ps.toArray) (hst : r.state = .ready)
    (hpl : ps.length = args.length) (hpt : ∀ p ∈ ps, p < n)
    (h : ∀ x : X, (∀ i, x.d0 i → domOf st i = true) → TR P x L A ⟨n, (ps.zip args).foldl (fun e p => put e p.1 p.2) env, st⟩ (fun e s1 => e = .normal ∧ get s1.st id = some (.loop L D env r) ∧
      TR P x L B ⟨s1.n, s1.env, put s1.st id (.loop L D env { r with state := .busy })⟩ (fun e s2 => e = .normal ∧ get s2.st id = some (.loop L D env { r with state := .busy }) ∧
        ∃ st', Sub x (fun i => i) (put s2.st id (.loop L D env { r with state := .ready, pending := none })) st' ∧ R st'))) : AR P L r args st R := by
  subst hA hB hn
  intro bl cap F w us hs hargs
  have hpL : ∀ {bl : Nat → List Nat} {cap : Nat → Nat} {st1 : List (Nat × AO)} {w1 : World} {r1 : Loop} {x : X}, SatS x bl cap st1 w1 → get st1 id = some (.loop L D env r1) → ∀ r2 : Loop, r2.tmps = r1.tmps →
      SatS x bl cap (put st1 id (.loop L D env r2)) (w1.putObj L (.loop r2)) ∧ (mkK x bl cap st1 w1).le (mkK x bl cap (put st1 id (.loop L D env r2)) (w1.putObj L (.loop r2))) := by
    intro bl cap st1 w1 r1 x hs1 hg r2 he
    obtain ⟨h1, h2, h3, h4⟩ := hs1.objs id _ hg
    have hlt := lt_of_heap h2
    have hne : L ≠ D := by
      have := hs1.nodup id _ hg rfl
      simp only [mkK] at h1
      rw [h1] at this; simp at this; exact this
    have hon : OnlyAt (bl id) w1 (w1.putObj L (.loop r2)) := by
      refine ⟨by simp [World.putObj], fun b hb => ?_, rfl, rfl, rfl, Nat.le_refl _⟩
      simp only [mkK] at h1
      exact World.putObj_heap_other (fun e => hb (by rw [h1, e]; simp))
    have hle := le_upd (x := x) (cap := cap) (o' := .loop L D env r2) hg rfl hon
    refine ⟨hs1.upd hg rfl hon ⟨h1, World.putObj_heap_same hlt, (World.putObj_heap_other (Ne.symm hne)).trans h3, fun i v hv => ?_⟩, hle⟩
    obtain ⟨u, hu, hr⟩ := h4 i v hv
    exact ⟨u, by rw [he]; exact hu, hr.le hle⟩
  obtain ⟨b1, b2, b3, b4⟩ := hs.objs id _ hid
  have henv : EnvOK (mkK (X.start bl cap F st w) bl cap st w) env r.tmps := b4
  obtain ⟨e1, e2⟩ := envOK_round hpl hpt hargs henv
  rw [hps]
  refine roundIn_of_wpIn (n := 0) trivial ?_
  have h0 := h (X.start bl cap F st w) (fun i h => h) { tmps := (ps.toArray.zip us.toArray).foldl (fun tmps (t, a) => tmps.setIfInBounds t a) r.tmps, defers := [] } w ⟨bl, cap, hs, e1, .nil _ _, e2⟩
  have hw0 : ∀ {c : Code} {Q : Exit → Act → World → Prop} {a : Act} {w : World}, c.wpIn (Fence.wide.inRound L) 1 P Q a w → c.wpIn (Fence.wide.inRound L) 0 P Q a w := fun h b k cs hro hb _ => h b k cs hro hb (fun _ h => by cases h)
  refine wpIn_mono (hw0 h0) ?_
  rintro e a1 w1 ⟨s1, ⟨rfl, g1, h1⟩, bl1, cap1, hs1, henv1, hdf1, hsz1⟩
  obtain ⟨hs1', hle1⟩ := hpL hs1 g1 { r with state := .busy } rfl
  obtain ⟨_, hL1, _, _⟩ := hs1.objs id _ g1
  refine ⟨_, run_beginRound hL1 hst, ?_⟩
  refine wpIn_mono (hw0 (h1 a1 _ ⟨bl1, cap1, hs1', henv1.le hle1, hdf1.le hle1, hsz1⟩)) ?_
  rintro e a2 w2 ⟨s2, ⟨rfl, g2, st', hsub, hR⟩, bl2, cap2, hs2, _, _, _⟩
  obtain ⟨hs2', _⟩ := hpL hs2 g2 { r with state := .ready, pending := none } rfl
  obtain ⟨_, hL2, _, _⟩ := hs2.objs id _ g2
  have hend := run_endRound (P := P) none hL2
  refine ⟨_, _, hend, st', _, _, rfl, hR, hsub.inj, (hs2'.sub hsub).1⟩
theorem TJ_yield {ops l : List Oper} {dst : Option Tmp} {g : Operand} {as : List Operand} {ats : Array TypeId} {ty : TypeId} {pos : String} {after : Array Edge} {L D id : Nat} {env : List (Nat × AV)} {r : Loop}
    {args : List AV} (st0 : List (Nat × AO)) {R : List (Nat × AO) → Prop} (hd : ∀ i, dst = some i → i < s.n) (hg : ev s g = some (.c (.d (.v (.func (.yield L) #[] #[]))))) (he : evAll s as = some args)
    (hid : get st0 id = some (.loop L D env r)) (hpl : args.length = r.params.size) (hl : Lent s args st0) (hc : AR P L r args st0 R)
    (hk : ∀ st', R st' → Fresh s st0 st' ∧ TJ P Fence.wide x ops l ⟨s.n, putD s.env dst (.c (.d (.v (.bool true)))), putAll s.st st'⟩ Q) :
    TJ P Fence.wide x ops (⟨dst, .call { callee := .value g, args := as.toArray, argTypes := ats }, ty, pos, after, none⟩ :: l) s Q := by
  rintro a w ⟨bl, cap, hs, henv, hdf, hsz⟩
  refine wpListIn_plain rfl fun K hK => ?_
  have hgv : a.eval g = .func (.yield L) #[] #[] := rep_v (ev_rep henv hg)
  obtain ⟨F0, hs0, ha0, hback⟩ := lend hs hl (evAll_rep henv he)
  obtain ⟨_, hL, _, _⟩ := hs.objs id _ (hl.mem _ (get_mem hid))
  have hy := run_yield (P := P) (args := (as.map a.eval).toArray) hL (by have := (evAll_rep henv he).length; simp at this ⊢; omega)
  refine ⟨fun f _ => trivial, ?_⟩
  have hsem : ∀ o : Oper, o.semAt Fence.wide.round a.eval = execOp a.eval o := fun o => Oper.semAt_none _ _
  rw [hsem]
  have hrun : (execOp a.eval ⟨dst, .call { callee := .value g, args := as.toArray, argTypes := ats }, ty, pos, after, none⟩).run P w =
      .ok (.round L r.fn ((r.params.zip (as.map a.eval).toArray).foldl (fun tmps (t, a) => tmps.setIfInBounds t a) r.tmps) r.assign r.body) w := by
    have e : (execOp a.eval ⟨dst, .call { callee := .value g, args := as.toArray, argTypes := ats }, ty, pos, after, none⟩).run P w = (Instr.yield L (as.map a.eval).toArray).run P w := by
      simp [execOp, resolve, hgv, Deferred.ofValue, invoke]
    rw [e]; exact hy
  rw [hrun]
  refine ⟨fun h => by simp [Fence.wide] at h, ?_⟩
  refine (hc bl cap F0 w _ hs0 ha0).mono ?_
  rintro e w' ⟨st', bl', cap', rfl, hR, hnd, hs'⟩
  obtain ⟨hfr, hto⟩ := hk st' hR
  obtain ⟨bl'', cap'', g1, g2, g3⟩ := hback st' bl' cap' w' hnd hfr hs'
  exact hK _ _ (hto _ _ ⟨bl'', cap'', g1, (henv.le g2).putD (fun i hi => by rw [hsz]; exact hd i hi) (.v _ rfl), by rw [Act.put_defers]; exact hdf.le g2, by rw [Act.put_size]; exact hsz⟩)
theorem T_rangeFunc {g : Operand} {ps : Array Tmp} {assign body : Code} {vg : AV} {f : FuncId} {cs : List AV} {env0 : List (Nat × AV)} (id : Nat) (st0 : List (Nat × AO)) {R : Nat → Nat → Loop → AV → List (Nat × AO) → Prop} (hrf : x.rf = true)
    (hg : ev s g = some vg) (hf : fnOf vg = some (f, cs)) (hid : get s.st id = none) (hm : ∀ p ∈ st0, get s.st p.1 = some p.2)
    (hcl : ∀ p ∈ st0, clAO (fun i => decide (i = id) || domOf st0 i) p.2) (hca : ∀ a ∈ cs, clAV (fun i => decide (i = id) || domOf st0 i) a) (hce : clEnv (fun i => decide (i = id) || domOf st0 i) env0) (he0 : ∀ i v, get env0 i = some v → get s.env i = some v)
    (hc : ∀ L D r, r.state = .ready → r.pending = none → r.tmps.size = s.n → r.params = ps → r.assign = assign → r.body = body →
      AC P f (.c (.d (.v (.func (.yield L) #[] #[]))) :: cs) ((id, .loop L D env0 r) :: st0) (R L D r))
    (hk : ∀ L D r v st', R L D r v st' → (∀ p ∈ st', p.1 = id ∨ domOf st0 p.1 = true ∨ get s.st p.1 = none) ∧ (∃ r', get st' id = some (.loop L D env0 r') ∧ r'.state ≠ .busy ∧ r'.pending = none) ∧
      Q .normal ⟨s.n, s.env, put (putAll (put s.st id (.loop L D env0 r)) st') id .dead⟩) : T P x (.rangeFunc g ps assign body) s Q := by
  rintro a w ⟨bl, cap, hs, henv, hdf, hsz⟩
  refine (wpIn_wide (n := 1)).1 (wpIn_rangeFunc ?_)
  intro fn _
  obtain ⟨fs, hgv, hfs⟩ := fnOf_rep hf (ev_rep henv hg)
  obtain ⟨rec, hrec⟩ : ∃ rec : Loop, rec = { state := .ready, pending := none, fn, tmps := a.tmps, params := ps, assign, body, defers := w.heap.size } := ⟨_, rfl⟩
  obtain ⟨W1, hW1⟩ : ∃ W1, (w.alloc (.deferred (some []))).alloc (.loop rec) = W1 := ⟨_, rfl⟩
  have hL1 : W1.heap[w.heap.size + 1]? = some (.loop rec) := by
    rw [← hW1]; have := World.alloc_heap_new (w.alloc (.deferred (some []))) (.loop rec); rwa [World.size_alloc] at this
  have hK1 : W1.heap[w.heap.size]? = some (.deferred (some [])) := by
    rw [← hW1]; exact (Go.RowKit.Below.heap_alloc _ _ _ (by simp)).trans (World.alloc_heap_new w _)
  have hsz1 : W1.heap.size = w.heap.size + 2 := by rw [← hW1]; simp
  have hgrew : Grew w W1 := by
    refine ⟨by omega, fun b hb => ?_, by rw [← hW1]; rfl, by rw [← hW1]; rfl, by rw [← hW1]; rfl, by rw [← hW1]; exact Nat.le_refl _⟩
    rw [← hW1]; exact (Go.RowKit.Below.heap_alloc _ _ _ (by simp; omega)).trans (Go.RowKit.Below.heap_alloc _ _ _ hb)
  obtain ⟨⟨fn', hfn', hname, hbody⟩, hcalls⟩ := hc (w.heap.size + 1) w.heap.size rec (by rw [hrec]) (by rw [hrec]) (by rw [hrec]; exact hsz) (by rw [hrec]) (by rw [hrec]) (by rw [hrec])
  have hnb : ¬ fn'.body = none := by intro h; rw [h] at hbody; cases hbody
  have hnn : ¬ fn'.name = "runtime.NumGoroutine" := by simpa using hname
  have hle1 := le_new (x := x) (bl := bl) (cap := cap) (st := s.st) (id := id) (o := .loop (w.heap.size + 1) w.heap.size env0 rec) (w' := W1) (bs := [w.heap.size + 1, w.heap.size]) (c := 0) hid hgrew.heap (by simp)
  have hs1 : SatS x (fu bl id [w.heap.size + 1, w.heap.size]) (fu cap id 0) (put s.st id (.loop (w.heap.size + 1) w.heap.size env0 rec)) W1 := by
    refine hs.alloc hid hgrew (by simp; omega) (by simp) ⟨by simp [mkK], hL1, hK1, fun i v hv => ?_⟩
    obtain ⟨u, hu, hr⟩ := henv i v (he0 i v hv)
    exact ⟨u, by rw [hrec]; exact hu, hr.le hle1⟩
  have hdom : ∀ {o : AO} (i : Nat), domOf ((id, o) :: st0) i = (decide (i = id) || domOf st0 i) := by
    intro o i
    simp only [domOf, get]
    by_cases e : id = i
    · subst e; simp
    · simp [e, Ne.symm e]
  have hdomf : ∀ {o : AO}, domOf ((id, o) :: st0) = fun i => (decide (i = id) || domOf st0 i) := funext fun i => hdom i
  have hlent : Lent ⟨s.n, s.env, put s.st id (.loop (w.heap.size + 1) w.heap.size env0 rec)⟩ (.c (.d (.v (.func (.yield (w.heap.size + 1)) #[] #[]))) :: cs) ((id, .loop (w.heap.size + 1) w.heap.size env0 rec) :: st0) := by
    refine ⟨?_, ?_, ?_⟩
    · intro p hp
      rcases List.mem_cons.1 hp with rfl | hp
      · exact get_put_same _ _ _
      · have := hm p hp
        show get (put _ _ _) _ = _
        rw [get_put_other (fun e => by rw [← e, hid] at this; cases this)]; exact this
    · intro p hp
      rw [hdomf]
      rcases List.mem_cons.1 hp with rfl | hp
      · exact hce
      · exact hcl p hp
    · intro p hp
      rw [hdomf]
      rcases List.mem_cons.1 hp with rfl | hp
      · trivial
      · exact hca p hp
  have hargs : All2 (RepAV (mkK x (fu bl id [w.heap.size + 1, w.heap.size]) (fu cap id 0) (put s.st id (.loop (w.heap.size + 1) w.heap.size env0 rec)) W1)) (.c (.d (.v (.func (.yield (w.heap.size + 1)) #[] #[]))) :: cs)
      (.func (.yield (w.heap.size + 1)) #[] #[] :: fs) := .cons (.v _ rfl) (hfs.mono fun _ _ h => RepAV.le hle1 h)
  obtain ⟨F0, hs0, ha0, hback⟩ := lend hs1 hlent hargs
  refine ⟨w.heap.size + 1, [{ target := .collected w.heap.size, args := #[] }], W1, { target := .fn (.func f) ⟨fs⟩, args := #[.func (.yield (w.heap.size + 1)) #[] #[]] }, W1, f,
    #[.func (.yield (w.heap.size + 1)) #[] #[]] ++ ⟨fs⟩, W1, ?_, ?_, ?_, ?_, fun h => by simp [Fence.wide] at h, ?_⟩
  · rw [← hW1, hrec]; exact run_enterLoop_outer _ _ _ _ _
  · simp only [resolve, hgv]
    simp [go_sem]
  · intro f' _; trivial
  · simp [invoke, callFunc, hfn', hnn, hnb]
  · refine callsIn_wide.2 ?_
    have e0 : (#[.func (.yield (w.heap.size + 1)) #[] #[]] ++ (⟨fs⟩ : Array Value) : Array Value) = (.func (.yield (w.heap.size + 1)) #[] #[] :: fs).toArray := by simp
    rw [e0]
    refine (hcalls _ _ F0 W1 _ hs0 ha0).mono ?_
    rintro e w3 ⟨v, st', bl', cap', u, rfl, hR, hnd, hs', hrv⟩
    obtain ⟨hfr, ⟨r', hr', hb', hp'⟩, hQ⟩ := hk _ _ _ v st' hR
    obtain ⟨bl3, cap3, hs3, le2, _⟩ := hback st' bl' cap' w3 hnd (fun p hp => by
      rw [hdom]
      rcases hfr p hp with h | h | h
      · exact .inl (by simp [h])
      · exact .inl (by simp [h])
      · by_cases e : id = p.1
        · exact .inl (by simp [e])
        · right; show get (put _ _ _) _ = none; rw [get_put_other e]; exact h) hs'
    have hg3 : get (putAll (put s.st id (.loop (w.heap.size + 1) w.heap.size env0 rec)) st') id = some (.loop (w.heap.size + 1) w.heap.size env0 r') := by rw [get_putAll hnd, hr']; rfl
    obtain ⟨c1, c2, c3, c4⟩ := hs3.objs id _ hg3
    have hlt3 := lt_of_heap c2
    have hon : OnlyAt (bl3 id) w3 (w3.putObj (w.heap.size + 1) (.loop { r' with state := .exhausted })) := by
      refine ⟨by simp [World.putObj], fun b hb => ?_, rfl, rfl, rfl, Nat.le_refl _⟩
      simp only [mkK] at c1
      exact World.putObj_heap_other (fun e => hb (by rw [c1, e]; simp))
    have le3 := le_upd (x := x) (cap := cap3) (o' := .loop (w.heap.size + 1) w.heap.size env0 { r' with state := .exhausted }) hg3 rfl hon
    have hD4 : (w3.putObj (w.heap.size + 1) (.loop { r' with state := .exhausted })).heap[w.heap.size]? = some (.deferred (some [])) := (World.putObj_heap_other (by omega)).trans c3
    have hs4 := hs3.upd hg3 rfl hon (o' := .loop (w.heap.size + 1) w.heap.size env0 { r' with state := .exhausted }) ⟨c1, World.putObj_heap_same hlt3, hD4, fun i v hv => let ⟨u, hu, hr⟩ := c4 i v hv; ⟨u, hu, hr.le le3⟩⟩
    have hg4 := get_put_same (putAll (put s.st id (.loop (w.heap.size + 1) w.heap.size env0 rec)) st') id (AO.loop (w.heap.size + 1) w.heap.size env0 { r' with state := .exhausted })
    have le4 := le_kill (x := x) (bl := bl3) (cap := cap3) (w := w3.putObj (w.heap.size + 1) (.loop { r' with state := .exhausted })) hg4
    have hs5 := hs4.kill hg4
    have eput : put (put (putAll (put s.st id (.loop (w.heap.size + 1) w.heap.size env0 rec)) st') id (.loop (w.heap.size + 1) w.heap.size env0 { r' with state := .exhausted })) id .dead = put (putAll (put s.st id (.loop (w.heap.size + 1) w.heap.size env0 rec)) st') id .dead := by
      generalize putAll (put s.st id (.loop (w.heap.size + 1) w.heap.size env0 rec)) st' = l
      induction l with
      | nil => simp [put]
      | cons p l ih =>
        obtain ⟨i, o⟩ := p
        simp only [put]
        by_cases e : i = id
        · simp [e, put]
        · simp [e, put, ih]
    have hMD : ¬ (mkK x bl3 cap3 (put (put (putAll (put s.st id (.loop (w.heap.size + 1) w.heap.size env0 rec)) st') id (.loop (w.heap.size + 1) w.heap.size env0 { r' with state := .exhausted })) id .dead) (w3.putObj (w.heap.size + 1) (.loop { r' with state := .exhausted }))).M w.heap.size :=
      not_MM_kill hs4 hg4 rfl (by simp only [mkK] at c1; rw [c1]; simp)
    rw [eput] at hs5 le4 hMD
    refine ⟨r'.pending, _, run_endLoop (P := P) c2 hb', ?_⟩
    split
    rotate_left
    · rename_i heq; rw [hp'] at heq; cases heq
    refine ⟨_, hQ, bl3, cap3, hs5, (((henv.le hle1).le le2).le le3).le le4, ?_, hsz⟩
    obtain ⟨Ds, d0, d1, d2, d3⟩ := ((((show DefsOK x (mkK x bl cap s.st w) a.defers from hdf).le hle1).le le2).le le3).le le4
    obtain ⟨Ds', d0', _, _, d3'⟩ := hdf
    have eDs : Ds = Ds' := by
      rw [d0] at d0'
      have : ∀ {l m : List Nat}, l.map (fun D => ({ target := .collected D, args := #[] } : Deferred)) = m.map (fun D => { target := .collected D, args := #[] }) → l = m := by
        intro l
        induction l with
        | nil => intro m h; cases m with | nil => rfl | cons _ _ => simp at h
        | cons y l ih =>
          intro m h
          cases m with
          | nil => simp at h
          | cons z m => simp at h; obtain ⟨rfl, h⟩ := h; rw [ih (by simpa using h)]
      exact this d0'
    refine ⟨w.heap.size :: Ds, by simp [d0], fun (h : x.rf = false) => by (rw [hrf] at h; cases h), ?_, ?_⟩
    · refine List.nodup_cons.2 ⟨fun hm => ?_, d2⟩
      rw [eDs] at hm
      have := lt_of_heap (d3' _ hm).2.2
      simp only [mkK] at this; omega
    · intro D hD
      rcases List.mem_cons.1 hD with rfl | hD
      · exact ⟨hMD, hs.fr.size, hD4⟩
      · exact d3 D hD
def wfC : C → Bool
  | .d (.v _) | .ptr _ _ | .ep _ _ _ _ | .ms _ _ _ _ | .mp _ => true
  | _ => false
def wfAV : AV → Bool
  | .c x => wfC x
  | .agg cs => cs.all wfC
  | _ => false
def wfO : AO → Bool
  | .box cs => cs.all wfC
  | .dead => true
  | _ => false
theorem wfC_rep {k k' : K} (hb : k'.bl = k.bl) (hc : k'.cap = k.cap) (hd : k'.dom = k.dom) {c : C} {v : Value} (h : wfC c = true) (hr : RepC k c v) : RepC k' c v := by
  cases c with
  | d y =>
    cases y with
    | v z => have : v = z := rep_vv hr; subst this; exact .v _ hr.one
    | _ => simp [wfC] at h
  | ptr id off => simp only [RepC, hb, hd] at hr ⊢; exact hr
  | ep id sz i off => simp only [RepC, hb, hd] at hr ⊢; exact hr
  | ms id sz off len => simp only [RepC, hb, hd, hc] at hr ⊢; exact hr
  | mp id => simp only [RepC, hb, hd] at hr ⊢; exact hr
  | pp cs => simp [wfC] at h
  | fn f caps => simp [wfC] at h
theorem wfCs_rep {k k' : K} (hb : k'.bl = k.bl) (hc : k'.cap = k.cap) (hd : k'.dom = k.dom) {cs : List C} {vs : List Value} (h : cs.all wfC = true) (hr : All2 (RepC k) cs vs) : All2 (RepC k') cs vs := by
  induction hr with
  | nil => exact .nil
  | cons h1 _ ih =>
    simp only [List.all_cons, Bool.and_eq_true] at h
    exact .cons (wfC_rep hb hc hd h.1 h1) (ih h.2)
theorem wfAV_rep {k k' : K} (hb : k'.bl = k.bl) (hc : k'.cap = k.cap) (hd : k'.dom = k.dom) {a : AV} {v : Value} (h : wfAV a = true) (hr : RepAV k a v) : RepAV k' a v := by
  cases a with
  | c y => exact wfC_rep hb hc hd h hr
  | agg cs => obtain ⟨vs, e, hr⟩ := hr; exact ⟨vs, e, wfCs_rep hb hc hd h hr⟩
  | tup ps => simp [wfAV] at h
  | cond b y => simp [wfAV] at h
theorem SatS.shut {bl : Nat → List Nat} {cap : Nat → Nat} {st : List (Nat × AO)} {w : World} {D : Nat} (hs : SatS x bl cap st w) (hf : ∀ id o, get st id = some o → wfO o = true) (hM : ¬ (mkK x bl cap st w).M D) (hD : x.w0.heap.size ≤ D) (o : Obj) : SatS x bl cap st (w.putObj D o) := by
  refine ⟨?_, hs.disj, hs.nodup, hs.new, fun b hb => by simp only [World.putObj]; simp; exact hs.lt b hb, ?_, hs.keep, hs.xok⟩
  · intro id ob ho
    have h0 := hs.objs id ob ho
    have hw := hf id ob ho
    cases ob with
    | box cs =>
      obtain ⟨b, T, vs, h1, h2, h3⟩ := h0
      simp only [mkK] at h1
      refine ⟨b, T, vs, h1, ?_, wfCs_rep (k := mkK x bl cap st w) (k' := mkK x bl cap st (w.putObj D o)) rfl rfl rfl hw h3⟩
      exact (World.putObj_heap_other (fun e => hM (.inl ⟨id, _, ho, rfl, by rw [h1, e]; simp⟩))).trans h2
    | dead => trivial
    | _ => simp [wfO] at hw
  · refine ⟨by simp only [World.putObj]; simp; exact hs.fr.size, fun b hb hm => ?_, hs.fr.os, hs.fr.output, hs.fr.tape, hs.fr.drawn⟩
    rw [World.putObj_heap_other (by omega)]
    exact hs.fr.heap b hb hm
def RetM (P : Program) (rs : List ResultVar) (x : X) (R : AV → Prop) : Exit → S → Prop := fun e s =>
  (e = .ret ∨ e = .normal) ∧ ∃ s1, Ent x s s1 ∧ (∀ id o, get s1.st id = some o → wfO o = true) ∧ (∀ i v, get s1.env i = some v → wfAV v = true) ∧ ∃ r obl, retV P rs s1 = some (r, obl) ∧ All obl ∧ flAV r = true ∧ R r
theorem AC_enterM {f : FuncId} {fn : Func} {c : Code} {args : List AV} {R : AV → Prop} (hf : P.funcs[f]? = some fn) (hb : fn.body = some c)
    (hname : (fn.name == "runtime.NumGoroutine") = false) (hlen : args.length ≤ fn.ntmps)
    (h : ∀ x : X, x.rf = true → (∀ id, ¬ x.d0 id) → T P x c ⟨fn.ntmps, (List.range args.length).zip args, []⟩ (RetM P fn.results.toList x R)) : AC P f args [] (fun r st => R r ∧ st = []) := by
  refine ⟨⟨fn, hf, hname, by rw [hb]; rfl⟩, fun bl cap F w us hs ha => ?_⟩
  refine callsIn_wide.1 (callsIn_of_wp_marks (n := 1) hf hb trivial (wpIn_wide.2 ?_))
  have hx := h { X.start bl cap F [] w with rf := true } rfl (fun id h => by simp [X.start, get] at h)
  have hl := ha.length
  have hsx : SatS { X.start bl cap F [] w with rf := true } bl cap [] w := ⟨hs.objs, hs.disj, hs.nodup, hs.new, hs.lt, ⟨hs.fr.size, hs.fr.heap, hs.fr.os, hs.fr.output, hs.fr.tape, hs.fr.drawn⟩, hs.keep, ⟨hs.xok.lt, hs.xok.dis⟩⟩
  refine wp_mono (hx _ w ⟨bl, cap, hsx, ?_, .nil _ _, ?_⟩) ?_
  · intro i v hv
    have hm := get_mem hv
    obtain ⟨j, hj, e⟩ := List.mem_iff_getElem.1 hm
    simp only [List.getElem_zip, List.getElem_range, Prod.mk.injEq] at e
    obtain ⟨rfl, rfl⟩ := e
    simp at hj
    obtain ⟨u, hu, hr⟩ := ha.get (i := j) (a := args[j]) (by simp [hj])
    refine ⟨u, ?_, hr⟩
    have hj' : j < us.length := by omega
    rw [Array.getElem?_append_left (by simpa using hj')]
    simpa using hu
  · simp; omega
  · rintro e a w' ⟨s', ⟨he, s1, hent, hws, hwe, r, obl, hret, hobl, hfl, hR⟩, hsat⟩
    obtain ⟨bl', cap', hs', henv, ⟨Ds, d0, _, d2, d3⟩, _⟩ := hent _ _ hsat
    have leave : ∀ (Ds : List Nat) (w2 : World), Ds.Nodup → (∀ D ∈ Ds, ¬ (mkK { X.start bl cap F [] w with rf := true } bl' cap' s1.st w2).M D ∧ w.heap.size ≤ D ∧ w2.heap[D]? = some (.deferred (some []))) →
        SatS { X.start bl cap F [] w with rf := true } bl' cap' s1.st w2 → EnvOK (mkK { X.start bl cap F [] w with rf := true } bl' cap' s1.st w2) s1.env a.tmps →
        LeavesInM Fence.wide 1 P fn a.tmps (fun e w' => ∃ r st' bl' cap' v, e = .returned v ∧ (R r ∧ st' = []) ∧ (st'.map (·.1)).Nodup ∧ SatS (X.start bl cap F [] w) bl' cap' st' w' ∧ RepAV (mkK (X.start bl cap F [] w) bl' cap' st' w') r v)
          (Ds.map fun D => { target := .collected D, args := #[] }) .returning w2 := by
      intro Ds
      induction Ds with
      | nil =>
        intro w2 _ _ hs2 he2
        obtain ⟨v, hv, hrv⟩ := retV_ok hs2 he2 hret hobl
        refine ⟨v, hv, r, [], bl, cap, v, rfl, ⟨hR, rfl⟩, .nil, ⟨?_, ?_, ?_, ?_, ?_, ⟨hs2.fr.size, hs2.fr.heap, hs2.fr.os, hs2.fr.output, hs2.fr.tape, hs2.fr.drawn⟩, ?_, hs.xok⟩, flAV_rep hfl hrv⟩
        · intro id o h; cases h
        · intro i j p q b h; cases h
        · intro i o h; cases h
        · rintro b ⟨i, o, h, _⟩; cases h
        · rintro b ⟨i, o, h, _⟩; cases h
        · intro id h; simp [X.start, get] at h
      | cons D Ds ih =>
        intro w2 hnd hD hs2 he2
        obtain ⟨hnm, hnd⟩ := List.nodup_cons.1 hnd
        obtain ⟨hD0, hD1, hD2⟩ := hD D (by simp)
        refine ⟨by simp, .inl ⟨D, _, rfl, run_takeDeferred hD2, ih _ hnd ?_ (hs2.shut hws hD0 hD1 _) ?_⟩⟩
        · intro D' hD'
          obtain ⟨h0, h1, h2⟩ := hD D' (by simp [hD'])
          exact ⟨h0, h1, (World.putObj_heap_other (fun e => hnm (by rw [← e]; exact hD'))).trans h2⟩
        · intro i v hv
          obtain ⟨u, hu, hr⟩ := he2 i v hv
          exact ⟨u, hu, wfAV_rep (k := mkK { X.start bl cap F [] w with rf := true } bl' cap' s1.st w2) (k' := mkK { X.start bl cap F [] w with rf := true } bl' cap' s1.st (w2.putObj D (Obj.deferred none))) rfl rfl rfl (hwe i v hv) hr⟩
    have := leave Ds w' d2 (fun D hD => d3 D hD) hs' henv
    rw [← d0] at this
    rcases he with rfl | rfl <;> exact this
end
theorem RetQ_any {P : Program} {rs : List ResultVar} {x : X} {R : AV → List (Nat × AO) → Prop} {s : S} {r : AV} {obl : List Prop} {e : Exit} (he : e = .ret ∨ e = .normal) (h : retV P rs s = some (r, obl)) (ho : All obl)
    (st' : List (Nat × AO)) (hsub : Sub x (fun i => i) s.st st') (hcl : clAV (domOf st') r) (hR : R r st') : RetQ P rs x R e s := ⟨he, r, obl, h, ho, st', hsub, hcl, hR⟩
end Go.Ab
namespace Go.Ab
section
variable {P : Program} {x : X}
theorem op_weak {o : Oper} {a : Act} {w : World} {N N' : Act → World → Prop} {Q Q' : Exit → Act → World → Prop} (hN : ∀ a w, N a w → N' a w) (hP : ∀ c a w, Q (.panic c) a w → Q' (.panic c) a w) (hL : LetsOut Q → LetsOut Q')
    (h : o.wp P a w N Q) : o.wp P a w N' Q' := by
  unfold Oper.wp at h ⊢
  revert h
  generalize (execOp a.eval o).run P w = r
  intro h
  cases r with
  | ok v w' =>
    cases v with
    | value v => exact hN _ _ h
    | skip => exact hN _ _ h
    | «defer» d => exact hN _ _ h
    | enter f args =>
      refine Calls.mono h ?_
      intro e w'' hq
      cases e with
      | returned v => exact hN _ _ hq
      | panicked c => exact hP _ _ _ hq
      | outgrown => exact hL hq
    | row row args => exact Rows.mono h fun v w'' hq => hN _ _ hq
    | _ => exact h.elim
  | halt s w' =>
    cases s with
    | panic v => exact hP _ _ _ h
    | _ => exact h.elim
def TA (P : Program) (x : X) (l : List Oper) (D : List Nat) (s : S) (Q : Exit → S → Prop) : Prop :=
  ∀ (fuel : Nat) (L : Array Bool) (a : Act) (w : World), L.size = l.toArray.size → Closed l.toArray L → (∀ k, L.getD k false = decide (k ∈ D)) → l.length - D.length ≤ fuel → Sat x s a w → wpAny P .any l.toArray (Lift x Q) fuel L a w
def readyB (l : List Oper) (D : List Nat) : List Nat :=
  (List.range l.length).filter fun i => !D.contains i && match l[i]? with | some o => o.after.toList.all fun e => !(Region.binds .any e) || D.contains e.on | none => false
def backA (l : List Oper) : Bool := (List.range l.length).all fun i => match l[i]? with | some o => o.after.toList.all fun e => !(Region.binds .any e) || decide (e.on < i) | none => true
theorem backA_ok {l : List Oper} (h : backA l = true) : ∀ (i : Nat) (o : Oper) (e : Edge), l.toArray[i]? = some o → e ∈ o.after → Region.binds .any e = true → e.on < i := by
  intro i o e hi he hb
  have hi' : l[i]? = some o := by simpa using hi
  have := List.all_eq_true.1 h i (List.mem_range.2 (List.getElem?_eq_some_iff.1 hi').1)
  rw [hi'] at this
  have := List.all_eq_true.1 this e (by simpa using he)
  simp [hb] at this; exact this
theorem mem_readyB {l : List Oper} {D : List Nat} {L : Array Bool} (hL : ∀ k, L.getD k false = decide (k ∈ D)) (hsz : L.size = l.toArray.size) {i : Nat} (h : i ∈ Region.ready .any l.toArray L) : i ∈ readyB l D := by
  obtain ⟨h1, h2, o, ho, hp⟩ := mem_ready h
  have ho' : l[i]? = some o := by simpa using ho
  rw [getD_in (by omega) true false, hL i] at h2
  simp only [decide_eq_false_iff_not] at h2
  refine List.mem_filter.2 ⟨List.mem_range.2 (by simpa using h1), ?_⟩
  rw [ho']
  simp only [Bool.and_eq_true, Bool.not_eq_true', List.all_eq_true, Bool.or_eq_true]
  refine ⟨by simpa using h2, fun e he => ?_⟩
  cases hb : Region.binds .any e with
  | false => left; rfl
  | true =>
    right
    have := hp e (by simpa using he) hb
    rw [hL] at this
    simpa using this
theorem TA_end {l : List Oper} {D : List Nat} {s : S} {Q : Exit → S → Prop} (hD : (List.range l.length).all (fun j => D.contains j) = true) (h : Q .normal s) : TA P x l D s Q := by
  intro fuel L a w hsz hcl hL _ hs
  have he : Region.ready .any l.toArray L = [] := by
    apply List.eq_nil_iff_forall_not_mem.2
    intro k hk
    obtain ⟨b1, b2, _⟩ := mem_ready hk
    rw [getD_in (by omega) true false, hL k] at b2
    have := List.all_eq_true.1 hD k (List.mem_range.2 (by simpa using b1))
    simp at b2 this; exact b2 this
  cases fuel with
  | zero => exact ⟨he, s, h, hs⟩
  | succ fuel => exact ⟨fun _ => ⟨s, h, hs⟩, fun i hi => by rw [he] at hi; cases hi⟩
theorem TA_step {l : List Oper} {D : List Nat} {s : S} {Q : Exit → S → Prop} (rs : List Nat) (j : Nat) (hb : backA l = true) (hr : readyB l D = rs) (hj : j < l.length) (hjD : D.contains j = false) (hlen : D.length < l.length)
    (h : ∀ i ∈ rs, ∃ o, l[i]? = some o ∧ TO P x l [o] s (fun e s' => e = .normal ∧ TA P x l (i :: D) s' Q)) : TA P x l D s Q := by
  intro fuel L a w hsz hcl hL hf hs
  cases fuel with
  | zero => omega
  | succ fuel =>
    refine ⟨fun he => ?_, fun i hi => ?_⟩
    · have := ready_all (backA_ok hb) hsz he j (by simpa using hj)
      rw [hL j] at this
      simp at this hjD; exact absurd this hjD
    · obtain ⟨n1, n2, n3⟩ := draw_next hsz hcl hi
      have hi' := mem_readyB hL hsz hi
      have hiD : i ∉ D := by have := (List.mem_filter.1 hi').2; simp only [Bool.and_eq_true] at this; simpa using this.1
      rw [hr] at hi'
      obtain ⟨o, ho, hto⟩ := h i hi'
      obtain ⟨g1, _⟩ := mem_ready hi
      unfold wpOp
      have ho' : l.toArray[i]? = some o := by simpa using ho
      simp only [ho']
      have hw := hto a w hs
      have hK : ∀ a w, Lift x (fun e s' => e = .normal ∧ TA P x l (i :: D) s' Q) .normal a w → wpAny P .any l.toArray (Lift x Q) fuel (L.setIfInBounds i true) a w := by
        rintro a w ⟨s', ⟨_, hta⟩, hs'⟩
        refine hta fuel _ a w n1 n2 ?_ (by simp only [List.length_cons]; omega) hs'
        intro k
        rw [set_get (by omega), hL k]
        by_cases e : k = i
        · subst e; simp
        · simp [e]
      simp only [wpList] at hw
      split
      · rename_i hwn
        rw [if_pos hwn] at hw
        rcases hw with hw | ⟨_, a', w', s', ⟨he, _⟩, _⟩
        · left
          exact op_weak hK (fun c a w ⟨s', ⟨he, _⟩, _⟩ => by cases he) (fun h => by obtain ⟨a', w', s', ⟨he, _⟩, _⟩ := h; cases he) hw
        · cases he
      · rename_i hwn
        rw [if_neg hwn] at hw
        exact hK _ _ hw
theorem T_drawa {wr : Bool} {id : Nat} {l : List Oper} {s s1 : S} {Q : Exit → S → Prop} (m : Nat) (cs : List (Nat × AV)) {As : List A1} {ps : List Prop}
    (hm : P.follows .mixedOrders = true) (h : runD P wr l cs (l.take m) s = some (As, ps, s1)) (ho : All ps) (hml : m ≤ l.length) (hc : drawOK l (As ++ List.replicate (l.length - m) A0) = true)
    (hall : ((List.range l.length).all fun i => decide (i < m) || (List.range m).all fun k => ((ancs l []).getD i []).contains k) = true)
    (hk : TA P x l (List.range m) s1 Q) : T P x (.region id l.toArray true) s Q := by
  obtain ⟨h1, h2, h3, h4⟩ := runD_ok (x := x) h ho
  have hlm : (l.take m).length = m := by simp; omega
  rw [hlm] at h1 h2
  have hord : Order l.toArray (As ++ List.replicate (l.length - m) A0) s := order_of (by simp [h1]; omega) (by
    intro i A hA
    rcases Nat.lt_or_ge i As.length with hi | hi
    · rw [List.getElem?_append_left hi] at hA
      rw [stAt_rep (by omega)]
      exact h3 i A hA
    · rw [List.getElem?_append_right hi] at hA
      have : A = A0 := (List.mem_replicate.1 (List.mem_of_getElem? hA)).2
      subst this
      intro p hp; simp [A0] at hp) hc
  have hchain : ∀ i, m ≤ i → i < l.length → ∀ k, k < m → Reach l.toArray k i := by
    intro i hi hil k hki
    have := List.all_eq_true.1 hall i (List.mem_range.2 hil)
    rw [Bool.or_eq_true] at this
    rcases this with h | h
    · simp at h; omega
    · exact ancs_ok l (l := l) (acc := []) (by simp) (by simp) i k (by simpa using List.all_eq_true.1 h k (List.mem_range.2 hki))
  have key : ∀ (fuel : Nat) (L : Array Bool) (s2 : S) (a : Act) (w : World), L.size = l.toArray.size → Closed l.toArray L → s2.n = s.n → (∀ r, look s2 r = cont (As ++ List.replicate (l.length - m) A0) s (fun i => L.getD i false) r l.toArray.size) →
      ((List.range l.toArray.size).filter fun i => !L.getD i false).length ≤ fuel → (∀ k, m ≤ k → L.getD k false = false) → Sat x s2 a w → wpAny P .any l.toArray (Lift x Q) fuel L a w := by
    intro fuel
    have fin : ∀ (fuel : Nat) (L : Array Bool) (s2 : S) (a : Act) (w : World), L.size = l.toArray.size → Closed l.toArray L → s2.n = s.n → (∀ r, look s2 r = cont (As ++ List.replicate (l.length - m) A0) s (fun i => L.getD i false) r l.toArray.size) →
      ((List.range l.toArray.size).filter fun i => !L.getD i false).length ≤ fuel → (∀ k, m ≤ k → L.getD k false = false) → Sat x s2 a w → (∀ k, k < m → L.getD k false = true) → wpAny P .any l.toArray (Lift x Q) fuel L a w := by
      intro fuel L s2 a w hsz hcl hn hlook hf hj hs hdone
      have hsat1 : Sat x s1 a w := by
        refine Sat.congr (s := s2) ?_ ?_ hs
        · rw [hn, ← h2, stAt_n]
        · intro r
          rw [hlook r, cont_stop (m := m) (by simpa using hml) (fun i hi _ _ => hj i hi), cont_text hord.nodup r hdone, stAt_rep (by omega), h2]
      refine hk fuel L a w hsz hcl ?_ ?_ hsat1
      · intro k
        rcases Nat.lt_or_ge k m with h | h
        · rw [hdone k h]; simp [h]
        · rw [hj k h]; symm; simp; omega
      · rw [List.length_range]
        refine Nat.le_trans ?_ hf
        have : (List.range' m (l.length - m)).Sublist ((List.range l.toArray.size).filter fun i => !L.getD i false) := by
          have e : (List.range' m (l.length - m)).filter (fun i => !L.getD i false) = List.range' m (l.length - m) := by
            rw [List.filter_eq_self]
            intro k hk'
            rw [hj k (by simp [List.mem_range'_1] at hk'; omega)]; rfl
          rw [← e]
          apply List.Sublist.filter
          rw [List.range_eq_range', show l.toArray.size = m + (l.length - m) by simp; omega, ← List.range'_append_1, Nat.zero_add]
          exact List.sublist_append_right ..
        simpa using this.length_le
    induction fuel with
    | zero =>
      intro L s2 a w hsz hcl hn hlook hf hj hs
      obtain ⟨g1, g2⟩ := none_ready hsz hf
      exact fin 0 L s2 a w hsz hcl hn hlook hf hj hs fun k hk' => g2 k (by simp; omega)
    | succ fuel ih =>
      intro L s2 a w hsz hcl hn hlook hf hj hs
      by_cases hd : ∀ k, k < m → L.getD k false = true
      · exact fin _ L s2 a w hsz hcl hn hlook hf hj hs hd
      refine ⟨fun hr => (hd fun k hk' => ready_all hord.back hsz hr k (by simp; omega)).elim, ?_⟩
      intro i hi
      obtain ⟨g1, g2, o, hoi, hpre⟩ := mem_ready hi
      obtain ⟨n1, n2, n3⟩ := draw_next hsz hcl hi
      have him : i < m := by
        rcases Nat.lt_or_ge i m with h | h
        · exact h
        · exact (hd fun k hk' => ready_reach hcl hsz hi (hchain i h (by simpa using g1) k hk')).elim
      unfold wpOp
      simp only [hoi]
      obtain ⟨A, hA⟩ : ∃ A, As[i]? = some A := ⟨As[i]'(by omega), by simp⟩
      have hA' : (As ++ List.replicate (l.length - m) A0)[i]? = some A := by rw [List.getElem?_append_left (by omega)]; exact hA
      obtain ⟨hfits, hlook'⟩ := draw_step hord hsz hcl hi hA' hlook
      have hoi' : (l.take m)[i]? = some o := by
        have : l[i]? = some o := by simpa using hoi
        rw [List.getElem?_take, if_pos him]; exact this
      have hstep := h4 i o A hoi' hA s2 a w hn hs hfits (wpAny P .any l.toArray (Lift x Q) fuel (L.setIfInBounds i true)) (Lift x Q) ?_
      · split
        · rename_i hw; rw [if_pos hw] at hstep; exact .inl hstep
        · rename_i hw; rw [if_neg hw] at hstep; exact hstep
      intro a' w' hs'
      exact ih _ (A.app s2) a' w' n1 n2 hn hlook' (by omega) (fun k hk' => by rw [set_get (by omega), if_neg (by omega)]; exact hj k hk') hs'
  intro a w hs
  refine wp_region_any hm ?_
  refine key _ _ s a _ (by simp) ?_ rfl ?_ filter_len (fun k _ => by simp [Array.getD]) (hs.drew _ (by first | exact Nat.le_succ _ | exact Nat.le_add_right _ _ | (simp; done) | omega))
  · intro i o e hi hL he hb
    have hlt : i < l.length := by simpa using (Array.getElem?_eq_some_iff.1 hi).1
    rw [getD_in (by simpa using hlt) true false] at hL
    simp [Array.getD, hlt] at hL
  · intro r
    have hz : ∀ i, (Array.replicate l.toArray.size false).getD i false = false := by
      intro i; simp [Array.getD]
    have : cont (As ++ List.replicate (l.length - m) A0) s (fun i => (Array.replicate l.toArray.size false).getD i false) r l.toArray.size = cont (As ++ List.replicate (l.length - m) A0) s (fun i => (Array.replicate l.toArray.size false).getD i false) r 0 :=
      cont_stop (Nat.zero_le _) (fun i _ _ _ => hz i)
    rw [this]; rfl
end
end Go.Ab

/- Maps of slices that grow: taking one out, putting it back, at the end. -/
import Derived.Test.YtmlhfnodnnbbnaaDoorQT5
set_option linter.all false

namespace Go.Proofs.YtmlhfnodnnbbnaaDoor
open Go.Ab
@[reducible] def vV {β : Type} (g : Value × List β) : Bool × List D := (false, [.v g.1])
def unV {κ β : Type} (G : List (κ × (Value × List β))) : List (κ × List β) := G.map fun g => (g.1, g.2.2)
def poolOf {κ β : Type} (enc : β → List D) (G : List (κ × (Value × List β))) : List (Value × List (List D)) := G.map fun g => (g.2.1, g.2.2.map enc)
theorem alook_unV {κ β : Type} [DecidableEq κ] (G : List (κ × (Value × List β))) (k : κ) : alook (unV G) k = (alook G k).map (·.2) := by
  induction G with
  | nil => rfl
  | cons g G ih => simp only [unV, List.map_cons, alook] at ih ⊢; split <;> simp_all
theorem aput_unV {κ β : Type} [DecidableEq κ] (G : List (κ × (Value × List β))) (k : κ) (v : Value) (ys : List β) : unV (aput G k (v, ys)) = aput (unV G) k ys := by
  induction G with
  | nil => rfl
  | cons g G ih => simp only [unV, List.map_cons, aput] at ih ⊢; split <;> simp_all
theorem alook_split {κ ν : Type} [DecidableEq κ] : ∀ {m : List (κ × ν)} {k : κ} {v : ν}, alook m k = some v → ∃ A B, m = A ++ (k, v) :: B ∧ ∀ p ∈ A, p.1 ≠ k
  | [], _, _, h => by simp [alook] at h
  | (a, b) :: m, k, v, h => by
    simp only [alook] at h
    split at h
    · rename_i e; cases h; subst e; exact ⟨[], m, rfl, by simp⟩
    · rename_i e
      obtain ⟨A, B, rfl, hA⟩ := alook_split h
      refine ⟨(a, b) :: A, B, rfl, ?_⟩
      intro p hp
      rcases List.mem_cons.1 hp with rfl | hp
      · exact fun h => e h.symm
      · exact hA p hp
theorem aput_split {κ ν : Type} [DecidableEq κ] : ∀ {A B : List (κ × ν)} {k : κ} {v x : ν}, (∀ p ∈ A, p.1 ≠ k) → aput (A ++ (k, v) :: B) k x = A ++ (k, x) :: B
  | [], B, k, v, x, _ => by simp [aput]
  | (a, b) :: A, B, k, v, x, h => by
    simp only [List.cons_append, aput]
    rw [if_neg (fun e => h (a, b) List.mem_cons_self e.symm), aput_split (fun p hp => h p (List.mem_cons_of_mem _ hp))]
theorem aput_none {κ ν : Type} [DecidableEq κ] : ∀ {m : List (κ × ν)} {k : κ} {x : ν}, alook m k = none → aput m k x = m ++ [(k, x)]
  | [], _, _, _ => rfl
  | (a, b) :: m, k, x, h => by
    simp only [alook] at h
    split at h
    · cases h
    · rename_i e; simp only [aput]; rw [if_neg e, aput_none h]; rfl
theorem perm_old {κ β : Type} [DecidableEq κ] (enc : β → List D) {G : List (κ × (Value × List β))} {k : κ} {v x : Value} {ys zs : List β} {ps ps' : List (Value × List (List D))} (h : alook G k = some (v, ys)) (hp : ps.Perm (poolOf enc G)) (hp' : ((v, ys.map enc) :: ps').Perm ps) :
    ((x, zs.map enc) :: ps').Perm (poolOf enc (aput G k (x, zs))) := by
  obtain ⟨A, B, rfl, hA⟩ := alook_split h
  rw [aput_split hA]
  have h1 := hp'.trans hp
  simp only [poolOf, List.map_append, List.map_cons] at h1 ⊢
  have h2 : ((v, ys.map enc) :: ps').Perm ((v, ys.map enc) :: (A.map (fun g => (g.2.1, g.2.2.map enc)) ++ B.map (fun g => (g.2.1, g.2.2.map enc)))) := h1.trans List.perm_middle
  exact ((List.Perm.cons_inv h2).cons _).trans List.perm_middle.symm
theorem perm_new {κ β : Type} [DecidableEq κ] (enc : β → List D) {G : List (κ × (Value × List β))} {k : κ} {x : Value} {zs : List β} {ps : List (Value × List (List D))} (h : alook G k = none) (hp : ps.Perm (poolOf enc G)) :
    ((x, zs.map enc) :: ps).Perm (poolOf enc (aput G k (x, zs))) := by
  rw [aput_none h]
  simp only [poolOf, List.map_append, List.map_cons, List.map_nil]
  exact (hp.cons _).trans (List.perm_append_comm (l₁ := [(x, zs.map enc)]))
section
variable {x : X} {κ β : Type} [DecidableEq κ] {ke : κ → Bool × List D} (hk : ∀ a b, keyB ((ke a).2.map C.d) ((ke b).2.map C.d) = decide (a = b))
include hk
theorem insE_split (w : Bool × List C) (v : Value × List β) (k : κ) : ∀ {A B : List (κ × (Value × List β))}, (∀ p ∈ A, p.1 ≠ k) → insE (upD (ke k)) w ((mEnt ke vV (A ++ (k, v) :: B)).map upE) = ((mEnt ke vV (A ++ (k, v) :: B)).map upE).set A.length (upD (ke k), w)
  | [], B, _ => by
    have : keyB (upD (ke k)).2 (upD (ke k)).2 = decide (k = k) := hk _ _
    simp only [List.nil_append, mEnt, List.map_cons, insE, upE, this]; simp
  | a :: A, B, h => by
    have : keyB (upD (ke k)).2 (upD (ke a.1)).2 = decide (k = a.1) := hk _ _
    have hne : ¬ k = a.1 := fun e => h a List.mem_cons_self e.symm
    simp only [List.cons_append, mEnt, List.map_cons, insE, upE, this, hne, decide_false, Bool.false_eq_true, if_false, List.length_cons, List.set_cons_succ]
    congr 1
    exact insE_split w v k (fun p hp => h p (List.mem_cons_of_mem _ hp))
theorem Ent_take (enc : β → List D) {s : S} {mid pid pid' aid sz : Nat} {G : List (κ × (Value × List β))} {k : κ} {v : Value} {ys : List β} {ps : List (Value × List (List D))} (hm : get s.st mid = some (.map ((mEnt ke vV G).map upE)))
    (hp : get s.st pid = some (.pool sz ps)) (hpm : ps.Perm (poolOf enc G)) (hkG : alook G k = some (v, ys)) (hp' : get s.st pid' = none) (ha : get s.st aid = none) (hne : pid' ≠ aid) :
    ∃ ps', ((v, ys.map enc) :: ps').Perm ps ∧ Ent x s ⟨s.n, s.env, put (put (put (put s.st pid .dead) pid' (.pool sz ps')) aid (.arr sz ((ys.map enc).map fun l => l.map C.d))) mid (.map (insE (upD (ke k)) (false, [.ms aid sz 0 ys.length]) ((mEnt ke vV G).map upE)))⟩ := by
  obtain ⟨A, B, rfl, hA⟩ := alook_split hkG
  have hin : (v, ys.map enc) ∈ ps := hpm.mem_iff.2 (by simp [poolOf])
  obtain ⟨i, hi⟩ := List.getElem?_of_mem hin
  have hil := (List.getElem?_eq_some_iff.1 hi).1
  have hpe : ((v, ys.map enc) :: ps.eraseIdx i).Perm ps := by
    have h0 : ps[i] = (v, ys.map enc) := (List.getElem?_eq_some_iff.1 hi).2
    have e : ps = ps.take i ++ (v, ys.map enc) :: ps.drop (i + 1) := by
      conv => lhs; rw [← List.take_append_drop i ps, List.drop_eq_getElem_cons hil, h0]
    rw [List.eraseIdx_eq_take_drop_succ]
    conv => rhs; rw [e]
    exact List.perm_middle.symm
  have hj : ((mEnt ke vV (A ++ (k, (v, ys)) :: B)).map upE)[A.length]? = some (upD (ke k), (false, [.d (.v v)])) := by
    simp [mEnt, upE, upD]
  have := Ent_detach (x := x) (s := s) (pid' := pid') (aid := aid) hm hj hp hi hp' ha hne
  rw [← insE_split hk] at this
  · refine ⟨_, hpe, ?_⟩
    simpa using this
  · exact hA
theorem TO_take {P : Program} {ops l : List Oper} {Q : Exit → S → Prop} (enc : β → List D) {s : S} {mid pid pid' aid sz : Nat} {G : List (κ × (Value × List β))} {k : κ} {v : Value} {ys : List β} {ps : List (Value × List (List D))} (hm : get s.st mid = some (.map ((mEnt ke vV G).map upE)))
    (hp : get s.st pid = some (.pool sz ps)) (hpm : ps.Perm (poolOf enc G)) (hkG : alook G k = some (v, ys)) (hp' : get s.st pid' = none) (ha : get s.st aid = none) (hne : pid' ≠ aid)
    (h : ∀ ps', ((v, ys.map enc) :: ps').Perm ps → TO P x ops l ⟨s.n, s.env, put (put (put (put s.st pid .dead) pid' (.pool sz ps')) aid (.arr sz ((ys.map enc).map fun l => l.map C.d))) mid (.map (insE (upD (ke k)) (false, [.ms aid sz 0 ys.length]) ((mEnt ke vV G).map upE)))⟩ Q) : TO P x ops l s Q := by
  obtain ⟨ps', h1, h2⟩ := Ent_take (x := x) hk enc hm hp hpm hkG hp' ha hne
  exact TO_ent h2 (h ps' h1)
theorem put_back (enc : β → List D) {s : S} {mid pid pid' aid sz n : Nat} {G : List (κ × (Value × List β))} {k : κ} {ys : List β} {ps : List (Value × List (List D))} (hm : get s.st mid = some (.map (insE (upD (ke k)) (false, [.ms aid sz 0 n]) ((mEnt ke vV G).map upE))))
    (hp : get s.st pid = some (.pool sz ps)) (ha : get s.st aid = some (.arr sz ((ys.map enc).map fun l => l.map C.d))) (hn : n = ys.length) (hy : ys ≠ []) (hp' : get s.st pid' = none) :
    ∀ a w, Sat x s a w → ∃ v, Sat x ⟨s.n, s.env, put (put (put (put s.st pid .dead) aid .dead) pid' (.pool sz ((v, ys.map enc) :: ps))) mid (.map ((mEnt ke vV (aput G k (v, ys))).map upE))⟩ a w := by
  intro a w hs
  obtain ⟨v, h⟩ := Ent_attach (x := x) (pid' := pid') hm (insE_idx _ _ _) hp ha (by simpa using hn) (by simpa using hy) hp' hs
  rw [Ab.insE_set, show ((false, [C.d (.v v)]) : Bool × List C) = upD (vV (v, ys)) from rfl, insE_ent hk] at h
  exact ⟨v, h⟩
end
theorem tyF_ins (p : ByteArray) (n : Int) (w : Bool × List C) : ∀ es : List Ent1, (∀ e ∈ es, e.1.1 = true ∧ tyCs [.str, .int .i64] e.1.2) → ∀ e ∈ insE (true, [C.d (.v (.string p)), C.d (.v (.int .i64 n))]) w es, e.1.1 = true ∧ tyCs [.str, .int .i64] e.1.2
  | [], _ => by intro e he; simp [insE] at he; subst he; simp [tyCs]
  | a :: es, h => by
    intro e he
    simp only [insE] at he
    split at he
    · rcases List.mem_cons.1 he with rfl | he
      · simp [tyCs]
      · exact h e (List.mem_cons_of_mem _ he)
    · rcases List.mem_cons.1 he with rfl | he
      · exact h _ List.mem_cons_self
      · exact tyF_ins p n w es (fun e he => h e (List.mem_cons_of_mem _ he)) e he
theorem frz_form {κ β : Type} {ke : κ → Bool × List D} (enc : β → List D) (sz : Nat) (G : List (κ × (Value × List β))) :
    ((mEnt ke vV G).map upE) = ((G.map fun g => (ke g.1, g.2.1, g.2.2.map enc)).map fun g => (upD g.1, (false, [C.d (.v g.2.1)]))) ∧
    ((G.map fun g => (ke g.1, g.2.1, g.2.2.map enc)).map fun g => (g.1, (false, [D.ps sz g.2.2]))) = mEnt ke (fun l => (false, [.ps sz (l.map enc)])) (unV G) := by
  constructor
  · simp only [mEnt, List.map_map]; exact List.map_congr_left fun g _ => rfl
  · simp only [mEnt, unV, List.map_map]; exact List.map_congr_left fun g _ => rfl
theorem frz_mem {κ β : Type} {ke : κ → Bool × List D} (enc : β → List D) {G : List (κ × (Value × List β))} {ps : List (Value × List (List D))} (hp : ps.Perm (poolOf enc G)) : ∀ g ∈ (G.map fun g => (ke g.1, g.2.1, g.2.2.map enc)), g.2 ∈ ps := by
  intro g hg
  obtain ⟨a, ha, rfl⟩ := List.mem_map.1 hg
  exact hp.mem_iff.2 (List.mem_map.2 ⟨a, ha, rfl⟩)
end Go.Proofs.YtmlhfnodnnbbnaaDoor

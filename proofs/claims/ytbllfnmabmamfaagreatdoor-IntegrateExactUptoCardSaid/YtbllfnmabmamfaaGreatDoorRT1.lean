/- A part of the proof. -/
import Derived.Test.YtbllfnmabmamfaaGreatDoorRBd2
import Derived.Test.YtbllfnmabmamfaaGreatDoorQP0
import Derived.Test.YtbllfnmabmamfaaGreatDoorQPD
set_option linter.all false
namespace Go.Proofs.YtbllfnmabmamfaaGreatDoor
open Go.Ab Tys
def Plus {κ : Type} (a b c : List κ) : Prop := ∀ k, k ∈ a ↔ k ∈ b ∨ k ∈ c
theorem Plus.nil {κ : Type} {a b : List κ} (h : Plus a b []) : ∀ k, k ∈ a ↔ k ∈ b := fun k => by rw [h k]; simp
end Go.Proofs.YtbllfnmabmamfaaGreatDoor
namespace Go.Proofs.YtbllfnmabmamfaaGreatDoor
open Go.Ab
@[reducible] def vV {β : Type} (g : Value × List β) : Bool × List D := (false, [.v g.1])
def unV {κ β : Type} (G : List (κ × (Value × List β))) : List (κ × List β) := G.map fun g => (g.1, g.2.2)
def poolOf {κ β : Type} (enc : β → List D) (G : List (κ × (Value × List β))) : List (Value × List (List D)) := G.map fun g => (g.2.1, g.2.2.map enc)
theorem alook_unV {κ β : Type} [DecidableEq κ] (G : List (κ × (Value × List β))) (k : κ) : alook (unV G) k = (alook G k).map (·.2) := by
  induction G with
  | nil => rfl
  | cons g G ih => simp only [unV, List.map_cons, alook] at ih ⊢; split <;> simp_all
theorem aput_unV {κ β : Type} [DecidableEq κ] (G : List (κ × (Value × List β))) (k : κ) (v : Value) (ys : List β) : unV (aput G k (v, ys)) = aput (unV G) k ys := by
  induction G with
  | nil => rfl
  | cons g G ih => simp only [unV, List.map_cons, aput] at ih ⊢; split <;> simp_all
theorem alook_split {κ ν : Type} [DecidableEq κ] : ∀ {m : List (κ × ν)} {k : κ} {v : ν}, alook m k = some v → ∃ A B, m = A ++ (k, v) :: B ∧ ∀ p ∈ A, p.1 ≠ k
  | [], _, _, h => by simp [alook] at h
  | (a, b) :: m, k, v, h => by
    simp only [alook] at h
    split at h
    · rename_i e; cases h; subst e; exact ⟨[], m, rfl, by simp⟩
    · rename_i e
      obtain ⟨A, B, rfl, hA⟩ := alook_split h
      refine ⟨(a, b) :: A, B, rfl, ?_⟩
      intro p hp
      rcases List.mem_cons.1 hp with rfl | hp
      · exact fun h => e h.symm
      · exact hA p hp
theorem aput_split {κ ν : Type} [DecidableEq κ] : ∀ {A B : List (κ × ν)} {k : κ} {v x : ν}, (∀ p ∈ A, p.1 ≠ k) → aput (A ++ (k, v) :: B) k x = A ++ (k, x) :: B
  | [], B, k, v, x, _ => by simp [aput]
  | (a, b) :: A, B, k, v, x, h => by
    simp only [List.cons_append, aput]
    rw [if_neg (fun e => h (a, b) List.mem_cons_self e.symm), aput_split (fun p hp => h p (List.mem_cons_of_mem _ hp))]
theorem aput_none {κ ν : Type} [DecidableEq κ] : ∀ {m : List (κ × ν)} {k : κ} {x : ν}, alook m k = none → aput m k x = m ++ [(k, x)]
  | [], _, _, _ => rfl
  | (a, b) :: m, k, x, h => by
    simp only [alook] at h
    split at h
    · cases h
    · rename_i e; simp only [aput]; rw [if_neg e, aput_none h]; rfl
theorem perm_old {κ β : Type} [DecidableEq κ] (enc : β → List D) {G : List (κ × (Value × List β))} {k : κ} {v x : Value} {ys zs : List β} {ps ps' : List (Value × List (List D))} (h : alook G k = some (v, ys)) (hp : ps.Perm (poolOf enc G)) (hp' : ((v, ys.map enc) :: ps').Perm ps) :
    ((x, zs.map enc) :: ps').Perm (poolOf enc (aput G k (x, zs))) := by
  obtain ⟨A, B, rfl, hA⟩ := alook_split h
  rw [aput_split hA]
  have h1 := hp'.trans hp
  simp only [poolOf, List.map_append, List.map_cons] at h1 ⊢
  have h2 : ((v, ys.map enc) :: ps').Perm ((v, ys.map enc) :: (A.map (fun g => (g.2.1, g.2.2.map enc)) ++ B.map (fun g => (g.2.1, g.2.2.map enc)))) := h1.trans List.perm_middle
  exact ((List.Perm.cons_inv h2).cons _).trans List.perm_middle.symm
theorem perm_new {κ β : Type} [DecidableEq κ] (enc : β → List D) {G : List (κ × (Value × List β))} {k : κ} {x : Value} {zs : List β} {ps : List (Value × List (List D))} (h : alook G k = none) (hp : ps.Perm (poolOf enc G)) :
    ((x, zs.map enc) :: ps).Perm (poolOf enc (aput G k (x, zs))) := by
  rw [aput_none h]
  simp only [poolOf, List.map_append, List.map_cons, List.map_nil]
  exact (hp.cons _).trans (List.perm_append_comm (l₁ := [(x, zs.map enc)]))
section
variable {x : X} {κ β : Type} [DecidableEq κ] {ke : κ → Bool × List D} (hk : ∀ a b, keyB ((ke a).2.map C.d) ((ke b).2.map C.d) = decide (a = b))
include hk
theorem insE_split (w : Bool × List C) (v : Value × List β) (k : κ) : ∀ {A B : List (κ × (Value × List β))}, (∀ p ∈ A, p.1 ≠ k) → insE (upD (ke k)) w ((mEnt ke vV (A ++ (k, v) :: B)).map upE) = ((mEnt ke vV (A ++ (k, v) :: B)).map upE).set A.length (upD (ke k), w)
  | [], B, _ => by
    have : keyB (upD (ke k)).2 (upD (ke k)).2 = decide (k = k) := hk _ _
    simp only [List.nil_append, mEnt, List.map_cons, insE, upE, this]; simp
  | a :: A, B, h => by
    have : keyB (upD (ke k)).2 (upD (ke a.1)).2 = decide (k = a.1) := hk _ _
    have hne : ¬ k = a.1 := fun e => h a List.mem_cons_self e.symm
    simp only [List.cons_append, mEnt, List.map_cons, insE, upE, this, hne, decide_false, Bool.false_eq_true, if_false, List.length_cons, List.set_cons_succ]
    congr 1
    exact insE_split w v k (fun p hp => h p (List.mem_cons_of_mem _ hp))
theorem Ent_take (enc : β → List D) {s : S} {mid pid pid' aid sz : Nat} {G : List (κ × (Value × List β))} {k : κ} {v : Value} {ys : List β} {ps : List (Value × List (List D))} (hm : get s.st mid = some (.map ((mEnt ke vV G).map upE)))
    (hp : get s.st pid = some (.pool sz ps)) (hpm : ps.Perm (poolOf enc G)) (hkG : alook G k = some (v, ys)) (hp' : get s.st pid' = none) (ha : get s.st aid = none) (hne : pid' ≠ aid) :
    ∃ ps', ((v, ys.map enc) :: ps').Perm ps ∧ Ent x s ⟨s.n, s.env, put (put (put (put s.st pid .dead) pid' (.pool sz ps')) aid (.arr sz ((ys.map enc).map fun l => l.map C.d))) mid (.map (insE (upD (ke k)) (false, [.ms aid sz 0 ys.length]) ((mEnt ke vV G).map upE)))⟩ := by
  obtain ⟨A, B, rfl, hA⟩ := alook_split hkG
  have hin : (v, ys.map enc) ∈ ps := hpm.mem_iff.2 (by simp [poolOf])
  obtain ⟨i, hi⟩ := List.getElem?_of_mem hin
  have hil := (List.getElem?_eq_some_iff.1 hi).1
  have hpe : ((v, ys.map enc) :: ps.eraseIdx i).Perm ps := by
    have h0 : ps[i] = (v, ys.map enc) := (List.getElem?_eq_some_iff.1 hi).2
    have e : ps = ps.take i ++ (v, ys.map enc) :: ps.drop (i + 1) := by
      conv => lhs; rw [← List.take_append_drop i ps, List.drop_eq_getElem_cons hil, h0]
    rw [List.eraseIdx_eq_take_drop_succ]
    conv => rhs; rw [e]
    exact List.perm_middle.symm
  have hj : ((mEnt ke vV (A ++ (k, (v, ys)) :: B)).map upE)[A.length]? = some (upD (ke k), (false, [.d (.v v)])) := by
    simp [mEnt, upE, upD]
  have := Ent_detach (x := x) (s := s) (pid' := pid') (aid := aid) hm hj hp hi hp' ha hne
  rw [← insE_split hk] at this
  · refine ⟨_, hpe, ?_⟩
    simpa using this
  · exact hA
theorem TO_take {P : Program} {ops l : List Oper} {Q : Exit → S → Prop} (enc : β → List D) {s : S} {mid pid pid' aid sz : Nat} {G : List (κ × (Value × List β))} {k : κ} {v : Value} {ys : List β} {ps : List (Value × List (List D))} (hm : get s.st mid = some (.map ((mEnt ke vV G).map upE)))
    (hp : get s.st pid = some (.pool sz ps)) (hpm : ps.Perm (poolOf enc G)) (hkG : alook G k = some (v, ys)) (hp' : get s.st pid' = none) (ha : get s.st aid = none) (hne : pid' ≠ aid)
    (h : ∀ ps', ((v, ys.map enc) :: ps').Perm ps → TO P x ops l ⟨s.n, s.env, put (put (put (put s.st pid .dead) pid' (.pool sz ps')) aid (.arr sz ((ys.map enc).map fun l => l.map C.d))) mid (.map (insE (upD (ke k)) (false, [.ms aid sz 0 ys.length]) ((mEnt ke vV G).map upE)))⟩ Q) : TO P x ops l s Q := by
  obtain ⟨ps', h1, h2⟩ := Ent_take (x := x) hk enc hm hp hpm hkG hp' ha hne
  exact TO_ent h2 (h ps' h1)
theorem put_back (enc : β → List D) {s : S} {mid pid pid' aid sz n : Nat} {G : List (κ × (Value × List β))} {k : κ} {ys : List β} {ps : List (Value × List (List D))} (hm : get s.st mid = some (.map (insE (upD (ke k)) (false, [.ms aid sz 0 n]) ((mEnt ke vV G).map upE))))
    (hp : get s.st pid = some (.pool sz ps)) (ha : get s.st aid = some (.arr sz ((ys.map enc).map fun l => l.map C.d))) (hn : n = ys.length) (hy : ys ≠ []) (hp' : get s.st pid' = none) :
    ∀ a w, Sat x s a w → ∃ v, Sat x ⟨s.n, s.env, put (put (put (put s.st pid .dead) aid .dead) pid' (.pool sz ((v, ys.map enc) :: ps))) mid (.map ((mEnt ke vV (aput G k (v, ys))).map upE))⟩ a w := by
  intro a w hs
  obtain ⟨v, h⟩ := Ent_attach (x := x) (pid' := pid') hm (insE_idx _ _ _) hp ha (by simpa using hn) (by simpa using hy) hp' hs
  rw [Ab.insE_set, show ((false, [C.d (.v v)]) : Bool × List C) = upD (vV (v, ys)) from rfl, insE_ent hk] at h
  exact ⟨v, h⟩
end
theorem tyF_ins (p : ByteArray) (n : Int) (w : Bool × List C) : ∀ es : List Ent1, (∀ e ∈ es, e.1.1 = true ∧ tyCs [.str, .int .i64] e.1.2) → ∀ e ∈ insE (true, [C.d (.v (.string p)), C.d (.v (.int .i64 n))]) w es, e.1.1 = true ∧ tyCs [.str, .int .i64] e.1.2
  | [], _ => by intro e he; simp [insE] at he; subst he; simp [tyCs]
  | a :: es, h => by
    intro e he
    simp only [insE] at he
    split at he
    · rcases List.mem_cons.1 he with rfl | he
      · simp [tyCs]
      · exact h e (List.mem_cons_of_mem _ he)
    · rcases List.mem_cons.1 he with rfl | he
      · exact h _ List.mem_cons_self
      · exact tyF_ins p n w es (fun e he => h e (List.mem_cons_of_mem _ he)) e he
theorem frz_form {κ β : Type} {ke : κ → Bool × List D} (enc : β → List D) (sz : Nat) (G : List (κ × (Value × List β))) :
    ((mEnt ke vV G).map upE) = ((G.map fun g => (ke g.1, g.2.1, g.2.2.map enc)).map fun g => (upD g.1, (false, [C.d (.v g.2.1)]))) ∧
    ((G.map fun g => (ke g.1, g.2.1, g.2.2.map enc)).map fun g => (g.1, (false, [D.ps sz g.2.2]))) = mEnt ke (fun l => (false, [.ps sz (l.map enc)])) (unV G) := by
  constructor
  · simp only [mEnt, List.map_map]; exact List.map_congr_left fun g _ => rfl
  · simp only [mEnt, unV, List.map_map]; exact List.map_congr_left fun g _ => rfl
theorem frz_mem {κ β : Type} {ke : κ → Bool × List D} (enc : β → List D) {G : List (κ × (Value × List β))} {ps : List (Value × List (List D))} (hp : ps.Perm (poolOf enc G)) : ∀ g ∈ (G.map fun g => (ke g.1, g.2.1, g.2.2.map enc)), g.2 ∈ ps := by
  intro g hg
  obtain ⟨a, ha, rfl⟩ := List.mem_map.1 hg
  exact hp.mem_iff.2 (List.mem_map.2 ⟨a, ha, rfl⟩)
end Go.Proofs.YtbllfnmabmamfaaGreatDoor
namespace Go.Proofs.YtbllfnmabmamfaaGreatDoor
open Go.Ab Tys
@[reducible] def ledBox (L : Led) : AO := .box [.d (.ps 12 (L.revs.map encRev)), .mp 1001, .mp 1002, .ms 1003 1 0 L.revs.length, .ms 1004 1 0 L.revs.length, .mp 1005, .ms 1006 1 0 L.revs.length, .ms 1007 1 0 L.revs.length, .ms 1008 1 0 L.revs.length]
@[reducible] def ledSt (L : Led) (el em : List EntD) : List (Nat × AO) :=
  [(1000, ledBox L), (1001, .map ((mEnt kF vI L.index).map upE)), (1002, .map (el.map upE)), (1003, dArr 1 (L.prev.map eI)), (1004, dArr 1 (L.fst.map eI)), (1005, .map (em.map upE)), (1006, dArr 1 (L.car.map eSet)), (1007, dArr 1 (L.con.map eSet)), (1008, dArr 1 (L.cre.map eSet))]
theorem look_I (m : List (Fil × Int)) (p : ByteArray) (n : Int) : findE [C.d (.v (.string p)), C.d (.v (.int .i64 n))] ((mEnt kF vI m).map upE) = (alook m ⟨p, n⟩).map fun v => (false, [C.d (.v (.int .i64 v))]) :=
  findE_ent (ve := vI) kF_eq m ⟨p, n⟩
theorem ty_I (m : List (Fil × Int)) : ∀ e ∈ (mEnt kF vI m).map upE, e.1.1 = true ∧ tyCs [.str, .int .i64] e.1.2 := by
  intro e he
  simp only [mEnt, List.mem_map] at he
  obtain ⟨_, ⟨f, _, rfl⟩, rfl⟩ := he
  exact ⟨rfl, by simp [upE, upD, tyCs]⟩
def k137 := And.intro @Tryz.ntmps137 <| And.intro @Tryz.underlying137 <| And.intro @bld139 <| And.intro @bld37 <| And.intro @bld76 <| And.intro @elt137 <| And.intro @fld139_1 <| And.intro @fld139_7 <| And.intro @fld37_0 <| And.intro @fld37_1 <| And.intro @fld76_0 <| And.intro @fld76_1 <| And.intro @fld76_2 <| And.intro @kyt37 <| And.intro @mpt134 <| And.intro @ti134 <| And.intro @ti137 <| And.intro @ti139 <| And.intro @ti191 <| And.intro @ti3 <| And.intro @ti37 <| And.intro @ti76 <| @ti9
theorem v137T1 {G G' : Prop} (g : G') (h : Hid G' → G := by intro h9; (first | refine nvB ?_ | refine goA (wr := false) (by simp only [kB, kS, kM, k137, Nat.reduceAdd, Nat.reduceLT, Nat.reduceEqDiff, ↓reduceIte, reduceCtorEq]; first | done | rfl) ?_); (repeat (first | refine nvB ?_ | refine goA (wr := false) (by simp only [kB, kS, kM, k137, Nat.reduceAdd, Nat.reduceLT, Nat.reduceEqDiff, ↓reduceIte, reduceCtorEq]; first | done | rfl) ?_)); exact h9.out) : G := h ⟨g⟩
set_option maxRecDepth 100000 in
set_option maxHeartbeats 8000000 in
theorem contributions_ac (L : Led) (hL : LedOK L) (el em : List EntD) (r : Rcd) :
    AC Tryz.prog 137 [.c (.ptr 1000 0), aRcd r] (ledSt L el em) (fun r' st => r' = .c (.d (.ps 1 ((conts L r).map eSet))) ∧ st = ledSt L el em) := by
  have hN := hL.n
  refine AC_enter Tryz.func137 rfl rfl (by simp only [Tryz.ntmps137, List.length]; omega) ?_
  intro x hx
  simp only [List.range, List.range.loop, List.length, List.zip, List.zipWith, Nat.reduceAdd, Tryz.ntmps137]
  try refine v137T1 ?_
  refine T_ent (Ent_adopt (i := 5) (id := 100) (sz := 1) rfl rfl (by omega)) ?_
  refine fzA ?_
  refine T_loop (ι := Int × List (Option (List Int))) (I := fun i => ⟨43, [(0, .c (.ptr 1000 0)), (3, .c (.ptr 3 0)), (5, .c (.ms 100 1 0 i.2.length)), (6, I .i64 i.1)], ledSt L el em ++ [(3, .box ((encRcd r).map C.d)), (100, dArr 1 (i.2.map eSet))]⟩)
    (Inv := fun i => max r.first 1 ≤ i.1 ∧ i.2.length ≤ 512 ∧ i.2.length ≤ i.1 - 1 ∧ i.2 ++ contsF L r.frm i.1 (min r.last 512 - i.1 + 1).toNat = conts L r) (μ := fun i => (min r.last 512 - i.1 + 1).toNat) (max r.first 1, []) ⟨by simp, by simp, by simp; omega, by simp [conts]⟩ ?_ ?_
  · exact enA
  rintro ⟨n, l⟩ ⟨h1, h2, h3, h4⟩
  simp only at h1 h2 h3 h4 ⊢
  try refine v137T1 ?_
  refine ifA ?_ ?_
  · intro hlt
    have hlt' : n ≤ min r.last 512 := by simpa using hlt
    have hn1 : n ≤ 512 := by omega
    obtain ⟨q, hq⟩ : ∃ q, (min r.last 512 - n + 1).toNat = q + 1 := ⟨(min r.last 512 - n).toNat, by omega⟩
    have hq2 : (min r.last 512 - (n + 1) + 1).toNat = q := by omega
    rw [hq, contsF] at h4
    cases hk : alook L.index ⟨r.frm, n⟩ with
    | none =>
      rw [hk] at h4
      simp only [List.nil_append] at h4
      refine nvA ?_
      refine drA (wr := false) ([] : List (Nat × AV)) (by simp only [kD, kB, kS, kM, k137, Nat.reduceAdd, Nat.reduceLT, Nat.reduceEqDiff, ↓reduceIte, reduceCtorEq, look_I, hk, Option.map_none, Option.isSome]; first | done | rfl) ?_ ?_
      · exact obF ty_I
      try refine v137T1 ?_
      refine ifA ?_ ?_
      · intro h; cases h
      intro _
      try refine v137T1 ?_
      refine ⟨(n + 1, l), ⟨by simp; omega, h2, by simp; omega, by rw [hq2]; exact h4⟩, by simp; omega, ?_⟩
      exact enA
    | some i =>
      rw [hk] at h4
      simp only at h4
      obtain ⟨i1, i2⟩ := hL.ix _ _ hk
      have hcl := hL.con
      have hil : i.toNat < L.con.length := by omega
      have hi2 : i < (L.con.length : Int) := by omega
      have eg := uG eSet L.con i.toNat none hil
      generalize hoo : L.con.getD i.toNat none = o at eg h4
      refine nvA ?_
      refine drA (wr := false) ([] : List (Nat × AV)) (by simp only [kD, kB, kS, kM, k137, Nat.reduceAdd, Nat.reduceLT, Nat.reduceEqDiff, ↓reduceIte, reduceCtorEq, look_I, hk, Option.isSome]; first | done | rfl) ?_ ?_
      · exact obF ty_I
      try refine v137T1 ?_
      refine ifA ?_ ?_
      rotate_left
      · intro h; cases h
      intro _
      (repeat (first | refine nvB ?_ | refine goA (wr := false) (by simp only [kB, kS, kM, k137, Nat.reduceAdd, Nat.reduceLT, Nat.reduceEqDiff, ↓reduceIte, reduceCtorEq, eg, Nat.zero_add]; first | done | rfl) ?_))
      refine ⟨(n + 1, l ++ [o]), ⟨by simp; omega, by simp; omega, by simp; omega, by rw [hq2]; simpa using h4⟩, by simp; omega, ?_⟩
      exact enR (fun i => if i = 100 then 41 else i)
  intro hge
  have hge' : ¬ n ≤ min r.last 512 := by simpa using hge
  have hz : (min r.last 512 - n + 1).toNat = 0 := by omega
  rw [hz, contsF, List.append_nil] at h4
  refine nvA ?_
  refine TO_ent (Ent_frzSlot (i := 5) (id := 100) (ys := l.map eSet) rfl rfl (by simp)) ?_
  refine fzA ?_
  try refine v137T1 ?_
  refine rtA (by simp only [kR, Tryz.results137, ↓reduceIte, Nat.reduceEqDiff, reduceCtorEq]; first | done | rfl) ((ledSt L el em)) ?_
  refine ⟨?_, rfl⟩
  rw [h4]
end Go.Proofs.YtbllfnmabmamfaaGreatDoor

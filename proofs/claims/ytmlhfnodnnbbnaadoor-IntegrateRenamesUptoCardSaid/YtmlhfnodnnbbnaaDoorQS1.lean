/- Sets as maps, and maps as lists of pairs. -/
import Derived.Test.YtmlhfnodnnbbnaaDoorQBd
set_option linter.all false

namespace Go.Proofs.YtmlhfnodnnbbnaaDoor
open Go.Ab
def alook {κ ν : Type} [DecidableEq κ] : List (κ × ν) → κ → Option ν
  | [], _ => none
  | (a, b) :: m, k => if k = a then some b else alook m k
def aput {κ ν : Type} [DecidableEq κ] : List (κ × ν) → κ → ν → List (κ × ν)
  | [], k, v => [(k, v)]
  | (a, b) :: m, k, v => if k = a then (k, v) :: m else (a, b) :: aput m k v
theorem alook_aput {κ ν : Type} [DecidableEq κ] (m : List (κ × ν)) (k : κ) (v : ν) (j : κ) : alook (aput m k v) j = if j = k then some v else alook m j := by
  induction m with
  | nil => simp [aput, alook]
  | cons p m ih =>
    obtain ⟨a, b⟩ := p
    simp only [aput]
    split
    · rename_i e; subst e
      simp only [alook]
      split <;> simp_all
    · rename_i e
      simp only [alook]
      rw [ih]
      split
      · rename_i e2; subst e2
        rw [if_neg (fun h => e h.symm)]
      · rfl
@[reducible] def mEnt {κ ν : Type} (ke : κ → Bool × List D) (ve : ν → Bool × List D) (m : List (κ × ν)) : List EntD := m.map fun p => (ke p.1, ve p.2)
section
variable {κ ν : Type} [DecidableEq κ] {ke : κ → Bool × List D} {ve : ν → Bool × List D} (hk : ∀ a b, keyB ((ke a).2.map C.d) ((ke b).2.map C.d) = decide (a = b))
include hk
theorem findE_ent (m : List (κ × ν)) (k : κ) : findE ((ke k).2.map C.d) ((mEnt ke ve m).map upE) = (alook m k).map fun v => upD (ve v) := by
  induction m with
  | nil => rfl
  | cons p m ih =>
    simp only [mEnt, List.map_cons, findE, upE, upD] at ih ⊢
    rw [hk]
    simp only [alook]
    by_cases e : k = p.1
    · simp [e, upD]
    · simp only [e, decide_false, Bool.false_eq_true, if_false]; exact ih
theorem insE_ent (m : List (κ × ν)) (k : κ) (v : ν) : insE (upD (ke k)) (upD (ve v)) ((mEnt ke ve m).map upE) = (mEnt ke ve (aput m k v)).map upE := by
  induction m with
  | nil => rfl
  | cons p m ih =>
    simp only [mEnt, List.map_cons, insE, upE, aput]
    have : keyB (upD (ke k)).2 (upD (ke p.1)).2 = decide (k = p.1) := hk _ _
    rw [this]
    by_cases e : k = p.1
    · simp [e, upE]
    · simp only [e, decide_false, Bool.false_eq_true, if_false, List.map_cons, upE]
      rw [← ih]
end
@[reducible] def kF (f : Fil) : Bool × List D := (true, encFil f)
@[reducible] def kN (i : Int) : Bool × List D := (false, [.v (.int .i64 i)])
@[reducible] def kS' (s : ByteArray) : Bool × List D := (false, [.v (.string s)])
@[reducible] def vT (_ : Unit) : Bool × List D := (false, [.v (.bool true)])
@[reducible] def vI (i : Int) : Bool × List D := (false, [.v (.int .i64 i)])
theorem kF_eq (a b : Fil) : keyB ((kF a).2.map C.d) ((kF b).2.map C.d) = decide (a = b) := by
  cases a; cases b; simp [kF, keyB, eqC, Bool.decide_and]
theorem kN_eq (a b : Int) : keyB ((kN a).2.map C.d) ((kN b).2.map C.d) = decide (a = b) := by
  simp [kN, keyB, eqC]
theorem kS_eq (a b : ByteArray) : keyB ((kS' a).2.map C.d) ((kS' b).2.map C.d) = decide (a = b) := by
  simp [kS', keyB, eqC]
@[reducible] def sEnt {κ : Type} (ke : κ → Bool × List D) (l : List κ) : List EntD := l.map fun k => (ke k, (false, [.v (.bool true)]))
def addS {κ : Type} [DecidableEq κ] (l : List κ) (k : κ) : List κ := if k ∈ l then l else l ++ [k]
theorem mem_addS {κ : Type} [DecidableEq κ] (l : List κ) (k j : κ) : j ∈ addS l k ↔ j ∈ l ∨ j = k := by
  unfold addS
  split
  · constructor
    · exact .inl
    · rintro (h | rfl) <;> assumption
  · simp
section
variable {κ : Type} [DecidableEq κ] {ke : κ → Bool × List D} (hk : ∀ a b, keyB ((ke a).2.map C.d) ((ke b).2.map C.d) = decide (a = b))
include hk
theorem findE_set (l : List κ) (k : κ) : findE ((ke k).2.map C.d) ((sEnt ke l).map upE) = if k ∈ l then some (false, [.d (.v (.bool true))]) else none := by
  induction l with
  | nil => simp [findE]
  | cons a l ih =>
    simp only [sEnt, List.map_cons, findE, upE, upD, List.mem_cons] at ih ⊢
    rw [hk]
    by_cases e : k = a
    · simp [e]
    · simp only [e, decide_false, Bool.false_eq_true, if_false, false_or]; exact ih
theorem insE_set (l : List κ) (k : κ) : insE (upD (ke k)) (false, [.d (.v (.bool true))]) ((sEnt ke l).map upE) = (sEnt ke (addS l k)).map upE := by
  induction l with
  | nil => simp [addS, insE, upE, upD]
  | cons a l ih =>
    simp only [sEnt, List.map_cons, insE, upE] at ih ⊢
    have : keyB (upD (ke k)).2 (upD (ke a)).2 = decide (k = a) := hk _ _
    rw [this]
    by_cases e : k = a
    · subst e; simp [addS, upE, upD]
    · simp only [e, decide_false, Bool.false_eq_true, if_false]
      rw [ih]
      unfold addS
      simp only [List.mem_cons, e, false_or]
      split <;> simp [upE]
end
theorem look_F (l : List Fil) (p : ByteArray) (n : Int) : (findE [C.d (.v (.string p)), C.d (.v (.int .i64 n))] ((sEnt kF l).map upE)).getD (false, [C.d (.v (.bool false))]) = (false, [C.d (.v (.bool (decide ((⟨p, n⟩ : Fil) ∈ l))))]) := by
  have := findE_set kF_eq l ⟨p, n⟩
  rw [show ((kF ⟨p, n⟩).2.map C.d) = [C.d (.v (.string p)), C.d (.v (.int .i64 n))] from rfl] at this
  rw [this]
  by_cases h : (⟨p, n⟩ : Fil) ∈ l <;> simp [h]
theorem look_N (l : List Int) (n : Int) : (findE [C.d (.v (.int .i64 n))] ((sEnt kN l).map upE)).getD (false, [C.d (.v (.bool false))]) = (false, [C.d (.v (.bool (decide (n ∈ l))))]) := by
  have := findE_set kN_eq l n
  rw [show ((kN n).2.map C.d) = [C.d (.v (.int .i64 n))] from rfl] at this
  rw [this]
  by_cases h : n ∈ l <;> simp [h]
theorem ins_F (l : List Fil) (p : ByteArray) (n : Int) : insE (true, [C.d (.v (.string p)), C.d (.v (.int .i64 n))]) (false, [C.d (.v (.bool true))]) ((sEnt kF l).map upE) = (sEnt kF (addS l ⟨p, n⟩)).map upE := insE_set kF_eq l ⟨p, n⟩
theorem ins_N (l : List Int) (n : Int) : insE (false, [C.d (.v (.int .i64 n))]) (false, [C.d (.v (.bool true))]) ((sEnt kN l).map upE) = (sEnt kN (addS l n)).map upE := insE_set kN_eq l n
theorem sEnt_split {κ : Type} {ke : κ → Bool × List D} {l : List κ} {a : List EntD} {e : EntD} {b : List EntD} (h : sEnt ke l = a ++ e :: b) : ∃ x k y, l = x ++ k :: y ∧ a = sEnt ke x ∧ e = (ke k, (false, [.v (.bool true)])) ∧ b = sEnt ke y := by
  obtain ⟨x, r, rfl, rfl, h2⟩ := List.map_eq_append_iff.1 h
  obtain ⟨k, y, rfl, rfl, rfl⟩ := List.map_eq_cons_iff.1 h2
  exact ⟨x, k, y, rfl, rfl, rfl, rfl⟩
@[reducible] def dSet {κ : Type} (ke : κ → Bool × List D) : Option (List κ) → D
  | none => .v (.map none)
  | some l => .pm (sEnt ke l)
theorem ty_F (l : List Fil) : ∀ e ∈ (sEnt kF l).map upE, e.1.1 = true ∧ tyCs [.str, .int .i64] e.1.2 := by
  intro e he
  simp only [sEnt, List.mem_map] at he
  obtain ⟨_, ⟨f, _, rfl⟩, rfl⟩ := he
  exact ⟨rfl, by simp [upE, upD, tyCs]⟩
theorem ty_N (l : List Int) : ∀ e ∈ (sEnt kN l).map upE, e.1.1 = false ∧ tyCs [.int .i64] e.1.2 := by
  intro e he
  simp only [sEnt, List.mem_map] at he
  obtain ⟨_, ⟨f, _, rfl⟩, rfl⟩ := he
  exact ⟨rfl, by simp [upE, upD, tyCs]⟩
end Go.Proofs.YtmlhfnodnnbbnaaDoor

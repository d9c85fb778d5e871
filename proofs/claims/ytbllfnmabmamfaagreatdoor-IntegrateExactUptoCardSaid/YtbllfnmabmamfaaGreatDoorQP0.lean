/- Sets as maps, and maps as lists of pairs. -/
import Derived.Test.YtbllfnmabmamfaaGreatDoorQBd
set_option linter.all false

namespace Go.Proofs.YtbllfnmabmamfaaGreatDoor
open Go.Ab
def alook {κ ν : Type} [DecidableEq κ] : List (κ × ν) → κ → Option ν
  | [], _ => none
  | (a, b) :: m, k => if k = a then some b else alook m k
def aput {κ ν : Type} [DecidableEq κ] : List (κ × ν) → κ → ν → List (κ × ν)
  | [], k, v => [(k, v)]
  | (a, b) :: m, k, v => if k = a then (k, v) :: m else (a, b) :: aput m k v
theorem alook_aput {κ ν : Type} [DecidableEq κ] (m : List (κ × ν)) (k : κ) (v : ν) (j : κ) : alook (aput m k v) j = if j = k then some v else alook m j := by
  induction m with
  | nil => simp [aput, alook]
  | cons p m ih =>
    obtain ⟨a, b⟩ := p
    simp only [aput]
    split
    · rename_i e; subst e
      simp only [alook]
      split <;> simp_all
    · rename_i e
      simp only [alook]
      rw [ih]
      split
      · rename_i e2; subst e2
        rw [if_neg (fun h => e h.symm)]
      · rfl
@[reducible] def mEnt {κ ν : Type} (ke : κ → Bool × List D) (ve : ν → Bool × List D) (m : List (κ × ν)) : List EntD := m.map fun p => (ke p.1, ve p.2)
section
variable {κ ν : Type} [DecidableEq κ] {ke : κ → Bool × List D} {ve : ν → Bool × List D} (hk : ∀ a b, keyB ((ke a).2.map C.d) ((ke b).2.map C.d) = decide (a = b))
include hk
theorem findE_ent (m : List (κ × ν)) (k : κ) : findE ((ke k).2.map C.d) ((mEnt ke ve m).map upE) = (alook m k).map fun v => upD (ve v) := by
  induction m with
  | nil => rfl
  | cons p m ih =>
    simp only [mEnt, List.map_cons, findE, upE, upD] at ih ⊢
    rw [hk]
    simp only [alook]
    by_cases e : k = p.1
    · simp [e, upD]
    · simp only [e, decide_false, Bool.false_eq_true, if_false]; exact ih
theorem insE_ent (m : List (κ × ν)) (k : κ) (v : ν) : insE (upD (ke k)) (upD (ve v)) ((mEnt ke ve m).map upE) = (mEnt ke ve (aput m k v)).map upE := by
  induction m with
  | nil => rfl
  | cons p m ih =>
    simp only [mEnt, List.map_cons, insE, upE, aput]
    have : keyB (upD (ke k)).2 (upD (ke p.1)).2 = decide (k = p.1) := hk _ _
    rw [this]
    by_cases e : k = p.1
    · simp [e, upE]
    · simp only [e, decide_false, Bool.false_eq_true, if_false, List.map_cons, upE]
      rw [← ih]
end
@[reducible] def kF (f : Fil) : Bool × List D := (true, encFil f)
@[reducible] def kN (i : Int) : Bool × List D := (false, [.v (.int .i64 i)])
@[reducible] def kS' (s : ByteArray) : Bool × List D := (false, [.v (.string s)])
@[reducible] def vT (_ : Unit) : Bool × List D := (false, [.v (.bool true)])
@[reducible] def vI (i : Int) : Bool × List D := (false, [.v (.int .i64 i)])
theorem kF_eq (a b : Fil) : keyB ((kF a).2.map C.d) ((kF b).2.map C.d) = decide (a = b) := by
  cases a; cases b; simp [kF, keyB, eqC, Bool.decide_and]
theorem kN_eq (a b : Int) : keyB ((kN a).2.map C.d) ((kN b).2.map C.d) = decide (a = b) := by
  simp [kN, keyB, eqC]
theorem kS_eq (a b : ByteArray) : keyB ((kS' a).2.map C.d) ((kS' b).2.map C.d) = decide (a = b) := by
  simp [kS', keyB, eqC]
@[reducible] def sEnt {κ : Type} (ke : κ → Bool × List D) (l : List κ) : List EntD := l.map fun k => (ke k, (false, [.v (.bool true)]))
def addS {κ : Type} [DecidableEq κ] (l : List κ) (k : κ) : List κ := if k ∈ l then l else l ++ [k]
theorem mem_addS {κ : Type} [DecidableEq κ] (l : List κ) (k j : κ) : j ∈ addS l k ↔ j ∈ l ∨ j = k := by
  unfold addS
  split
  · constructor
    · exact .inl
    · rintro (h | rfl) <;> assumption
  · simp
section
variable {κ : Type} [DecidableEq κ] {ke : κ → Bool × List D} (hk : ∀ a b, keyB ((ke a).2.map C.d) ((ke b).2.map C.d) = decide (a = b))
include hk
theorem findE_set (l : List κ) (k : κ) : findE ((ke k).2.map C.d) ((sEnt ke l).map upE) = if k ∈ l then some (false, [.d (.v (.bool true))]) else none := by
  induction l with
  | nil => simp [findE]
  | cons a l ih =>
    simp only [sEnt, List.map_cons, findE, upE, upD, List.mem_cons] at ih ⊢
    rw [hk]
    by_cases e : k = a
    · simp [e]
    · simp only [e, decide_false, Bool.false_eq_true, if_false, false_or]; exact ih
theorem insE_set (l : List κ) (k : κ) : insE (upD (ke k)) (false, [.d (.v (.bool true))]) ((sEnt ke l).map upE) = (sEnt ke (addS l k)).map upE := by
  induction l with
  | nil => simp [addS, insE, upE, upD]
  | cons a l ih =>
    simp only [sEnt, List.map_cons, insE, upE] at ih ⊢
    have : keyB (upD (ke k)).2 (upD (ke a)).2 = decide (k = a) := hk _ _
    rw [this]
    by_cases e : k = a
    · subst e; simp [addS, upE, upD]
    · simp only [e, decide_false, Bool.false_eq_true, if_false]
      rw [ih]
      unfold addS
      simp only [List.mem_cons, e, false_or]
      split <;> simp [upE]
end
theorem look_F (l : List Fil) (p : ByteArray) (n : Int) : (findE [C.d (.v (.string p)), C.d (.v (.int .i64 n))] ((sEnt kF l).map upE)).getD (false, [C.d (.v (.bool false))]) = (false, [C.d (.v (.bool (decide ((⟨p, n⟩ : Fil) ∈ l))))]) := by
  have := findE_set kF_eq l ⟨p, n⟩
  rw [show ((kF ⟨p, n⟩).2.map C.d) = [C.d (.v (.string p)), C.d (.v (.int .i64 n))] from rfl] at this
  rw [this]
  by_cases h : (⟨p, n⟩ : Fil) ∈ l <;> simp [h]
theorem look_N (l : List Int) (n : Int) : (findE [C.d (.v (.int .i64 n))] ((sEnt kN l).map upE)).getD (false, [C.d (.v (.bool false))]) = (false, [C.d (.v (.bool (decide (n ∈ l))))]) := by
  have := findE_set kN_eq l n
  rw [show ((kN n).2.map C.d) = [C.d (.v (.int .i64 n))] from rfl] at this
  rw [this]
  by_cases h : n ∈ l <;> simp [h]
theorem ins_F (l : List Fil) (p : ByteArray) (n : Int) : insE (true, [C.d (.v (.string p)), C.d (.v (.int .i64 n))]) (false, [C.d (.v (.bool true))]) ((sEnt kF l).map upE) = (sEnt kF (addS l ⟨p, n⟩)).map upE := insE_set kF_eq l ⟨p, n⟩
theorem ins_N (l : List Int) (n : Int) : insE (false, [C.d (.v (.int .i64 n))]) (false, [C.d (.v (.bool true))]) ((sEnt kN l).map upE) = (sEnt kN (addS l n)).map upE := insE_set kN_eq l n
theorem sEnt_split {κ : Type} {ke : κ → Bool × List D} {l : List κ} {a : List EntD} {e : EntD} {b : List EntD} (h : sEnt ke l = a ++ e :: b) : ∃ x k y, l = x ++ k :: y ∧ a = sEnt ke x ∧ e = (ke k, (false, [.v (.bool true)])) ∧ b = sEnt ke y := by
  obtain ⟨x, r, rfl, rfl, h2⟩ := List.map_eq_append_iff.1 h
  obtain ⟨k, y, rfl, rfl, rfl⟩ := List.map_eq_cons_iff.1 h2
  exact ⟨x, k, y, rfl, rfl, rfl, rfl⟩
@[reducible] def dSet {κ : Type} (ke : κ → Bool × List D) : Option (List κ) → D
  | none => .v (.map none)
  | some l => .pm (sEnt ke l)
theorem ty_F (l : List Fil) : ∀ e ∈ (sEnt kF l).map upE, e.1.1 = true ∧ tyCs [.str, .int .i64] e.1.2 := by
  intro e he
  simp only [sEnt, List.mem_map] at he
  obtain ⟨_, ⟨f, _, rfl⟩, rfl⟩ := he
  exact ⟨rfl, by simp [upE, upD, tyCs]⟩
theorem ty_N (l : List Int) : ∀ e ∈ (sEnt kN l).map upE, e.1.1 = false ∧ tyCs [.int .i64] e.1.2 := by
  intro e he
  simp only [sEnt, List.mem_map] at he
  obtain ⟨_, ⟨f, _, rfl⟩, rfl⟩ := he
  exact ⟨rfl, by simp [upE, upD, tyCs]⟩
@[reducible] def uMap {κ : Type} (ke : κ → Bool × List D) (l : List κ) : AO := .map ((sEnt ke l).map upE)
def subB {κ : Type} [DecidableEq κ] (s t : List κ) : Bool := s.all fun k => decide (k ∈ t)
@[reducible] def eSet (o : Option (List Int)) : List D := [dSet kN o]
end Go.Proofs.YtbllfnmabmamfaaGreatDoor

/- The ledger of a depot, plain: its parts, and what is computed of them. -/
namespace Go.Proofs.YtbllfnmabmamfaaGreatDoor
open Go.Ab
structure Led where
  revs : List Rev
  index : List (Fil × Int)
  prev : List Int
  fst : List Int
  car : List (Option (List Int))
  con : List (Option (List Int))
  cre : List (Option (List Int))
@[reducible] def eI (i : Int) : List D := [.v (.int .i64 i)]
structure LedOK (L : Led) : Prop where
  n : L.revs.length ≤ 512
  prev : L.prev.length = L.revs.length
  fst : L.fst.length = L.revs.length
  car : L.car.length = L.revs.length
  con : L.con.length = L.revs.length
  cre : L.cre.length = L.revs.length
  ix : ∀ p k, alook L.index p = some k → 0 ≤ k ∧ k < L.revs.length
def contsF (L : Led) (f : ByteArray) (n : Int) : Nat → List (Option (List Int))
  | 0 => []
  | k + 1 => (match alook L.index ⟨f, n⟩ with | some i => [L.con.getD i.toNat none] | none => []) ++ contsF L f (n + 1) k
def conts (L : Led) (r : Rcd) : List (Option (List Int)) := contsF L r.frm (max r.first 1) (min r.last 512 - max r.first 1 + 1).toNat
theorem contsF_len (L : Led) (f : ByteArray) : ∀ (k : Nat) (n : Int), (contsF L f n k).length ≤ k
  | 0, n => by simp [contsF]
  | k + 1, n => by
    have := contsF_len L f k (n + 1)
    simp only [contsF]
    split <;> simp <;> omega
theorem uG {α : Type} (e : α → List D) (l : List α) (k : Nat) (z : α) (h : k < l.length) : ((l.map e).map fun l => l.map C.d).getD k [] = (e (l.getD k z)).map C.d := by
  simp [List.getD, h]
def memB (L : Led) (f : Fil) : Option Int := match alook L.index f with | some i => if 0 ≤ L.fst.getD i.toNat 0 then some i else none | none => none
def upto (l : List Int) (s : Int) : List Int := match l with | [] => [] | a :: l => if a = s then [a] else a :: upto l s
theorem upto_hit : ∀ {l : List Int} {k : Nat} {s : Int}, ¬ s ∈ l.take k → l[k]? = some s → upto l s = l.take (k + 1)
  | [], k, s, _, h => by simp at h
  | a :: l, 0, s, _, h => by simp at h; subst h; simp [upto]
  | a :: l, k + 1, s, hn, h => by
    simp only [List.take_succ_cons, List.mem_cons, not_or] at hn
    simp only [upto]
    rw [if_neg (fun e => hn.1 e.symm), upto_hit hn.2 (by simpa using h)]
    simp
theorem upto_miss : ∀ {l : List Int} {s : Int}, ¬ s ∈ l → upto l s = l
  | [], s, _ => rfl
  | a :: l, s, hn => by
    simp only [List.mem_cons, not_or] at hn
    simp only [upto]
    rw [if_neg (fun e => hn.1 e.symm), upto_miss hn.2]
def openB (L : Led) (t : Int) (i : Int) : Bool := !subB ((L.con.getD i.toNat none).getD []) ((L.cre.getD t.toNat none).getD [])
def befF (v : Rev) : Fil := if v.act = 1 then zFil else if v.act = 4 then ⟨v.frm, v.fnum⟩ else ⟨v.path, v.num - 1⟩
def lineOf (L : Led) (i : Nat) (v : Rev) : Int := match memB L (befF v) with | some u => L.fst.getD u.toNat 0 | none => i
def prevOf (L : Led) (v : Rev) : Int := match memB L (befF v) with | some u => u | none => -1
def enterL (L : Led) (i : Nat) (v : Rev) : Led := { L with prev := L.prev.set i (if v.act = 5 then -1 else prevOf L v), fst := L.fst.set i (if v.act = 5 then -1 else lineOf L i v) }
structure Acc where
  car : List (Option (List Int))
  ign : List (Option (List Int))
  orig : Bool
def accStep (L : Led) (a : Acc) (r : Rcd) : Acc :=
  if r.how = 1 then (match alook L.index ⟨r.frm, r.last⟩ with | some k => ⟨a.car ++ [L.car.getD k.toNat none], a.ign, a.orig⟩ | none => a)
  else if r.how = 3 then ⟨a.car, a.ign ++ conts L r, a.orig⟩
  else ⟨a.car ++ conts L r, a.ign, a.orig || decide (r.how = 4)⟩
def befS (L : Led) (i : Nat) : Option (List Int) := if 0 ≤ L.prev.getD i 0 then L.car.getD (L.prev.getD i 0).toNat none else none
def knoS (L : Led) (i : Nat) : Option (List Int) := if 0 ≤ L.prev.getD i 0 then L.cre.getD (L.prev.getD i 0).toNat none else none
def acc0 (L : Led) (i : Nat) (b : Bool) : Acc := ⟨[befS L i], [knoS L i], b⟩
def accAll (L : Led) (i : Nat) (rs : List Rcd) : Acc := rs.foldl (accStep L) (acc0 L i (decide ((rs.length : Int) = 0)))
def accK (L : Led) (i : Nat) (rs : List Rcd) (k : Nat) : Acc := (rs.take k).foldl (accStep L) (acc0 L i (decide ((rs.length : Int) = 0)))
def accCar (L : Led) (i : Nat) (rs : List Rcd) : List (Option (List Int)) := (accAll L i rs).car ++ (if (accAll L i rs).orig then [some [(i : Int)]] else [])
def Uni (l : List Int) (s : List (Option (List Int))) : Prop := ∀ k, k ∈ l ↔ ∃ o ∈ s, k ∈ o.getD []
structure AccR (L : Led) (i : Nat) (rs : List Rcd) (c k cr : List Int) : Prop where
  car : Uni c (accCar L i rs)
  con : ∀ x, x ∈ k ↔ x ∈ c ∧ ¬ x ∈ (befS L i).getD []
  cre : Uni cr ((accAll L i rs).ign ++ [some c])
def setL (L : Led) (i : Nat) (c k cr : List Int) : Led := { L with car := L.car.set i (some c), con := L.con.set i (some k), cre := L.cre.set i (some cr) }
theorem conts_len (L : Led) (r : Rcd) : (conts L r).length ≤ 512 := by
  have := contsF_len L r.frm (min r.last 512 - max r.first 1 + 1).toNat (max r.first 1)
  simp only [conts]; omega
theorem accStep_len (L : Led) (a : Acc) (r : Rcd) : (accStep L a r).car.length ≤ a.car.length + 512 ∧ (accStep L a r).ign.length ≤ a.ign.length + 512 := by
  have := conts_len L r
  unfold accStep
  split
  · split <;> simp
  · split <;> simp <;> omega
theorem acc_len (L : Led) : ∀ (rs : List Rcd) (a : Acc), (rs.foldl (accStep L) a).car.length ≤ a.car.length + 512 * rs.length ∧ (rs.foldl (accStep L) a).ign.length ≤ a.ign.length + 512 * rs.length
  | [], a => by simp
  | r :: rs, a => by
    have h1 := accStep_len L a r
    have h2 := acc_len L rs (accStep L a r)
    simp only [List.foldl_cons, List.length_cons]; omega
end Go.Proofs.YtbllfnmabmamfaaGreatDoor

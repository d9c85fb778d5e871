/- From a contract over abstract states to a row's statement. -/
import Derived.Test.YtmlhfnodnnbbnaaDoorQC2
import Derived.Test.YtmlhfnodnnbbnaaDoorQAbV
import Derived.Test.YtmlhfnodnnbbnaaDoorCards
import Derived.Test.YtmlhfnodnnbbnaaDoorTie
import Derived.WalkKit
import Derived.ProofKit
import Derived.OpenShut
import Derived.Carry
import Derived.Deep.DeepHandedRow
import Derived.Lib.LaidTab
set_option linter.all false

namespace Go.Proofs.YtmlhfnodnnbbnaaDoor
open Go.Ab Go.ChangeShapes Go.WideShapes Go.ChangeAt Go.RowKit
theorem own : ownKnob Tryd.prog.godebug = none := by kernel_rfl
theorem laidOut : laidOutB Tryd.prog = true := by kernel_rfl
@[reducible] def bl0 : Nat → List Nat := fun _ => []
@[reducible] def cap0 : Nat → Nat := fun _ => 0
theorem noMM (b : Nat) : ¬ MM bl0 [] b := by
  rintro ⟨id, o, h, _⟩; simp [Ab.get] at h
theorem start_sat (W : World) : SatS (X.start bl0 cap0 noM [] W) bl0 cap0 [] W := by
  refine ⟨?_, ?_, ?_, ?_, ?_, ?_, ?_, ?_⟩
  · intro id o h; simp [Ab.get] at h
  · intro id id' o o' b h; simp [Ab.get] at h
  · intro id o h; simp [Ab.get] at h
  · intro b h; exact absurd h (noMM b)
  · intro b h; exact absurd h (noMM b)
  · exact ⟨Nat.le_refl _, fun _ _ _ => rfl, rfl, rfl, rfl⟩
  · intro id h; simp [X.start, Ab.get] at h
  · exact ⟨fun b h => False.elim h, fun b h => False.elim h⟩
theorem rep_start {W : World} {x : D} {v : Value} (h : RepD noM W x v) : RepD (mkK (X.start bl0 cap0 noM [] W) bl0 cap0 [] W).M W x v :=
  h.stable (fun _ _ _ => rfl) (fun b hb => by
    rcases hb with hb | hb
    · exact absurd hb (noMM b)
    · exact False.elim hb)
theorem repAgg {W : World} {xs : List D} {vs : List Value} (h : All2 (RepD noM W) xs vs) : RepAV (mkK (X.start bl0 cap0 noM [] W) bl0 cap0 [] W) (.agg (xs.map C.d)) (.agg vs.toArray) :=
  ⟨vs, rfl, All2.map_left.2 (h.mono fun _ _ h => rep_start h)⟩
theorem below_of {W W' : World} {bl' : Nat → List Nat} {cap' : Nat → Nat} (h : SatS (X.start bl0 cap0 noM [] W) bl' cap' [] W') : Below W.heap.size W W' :=
  ⟨h.fr.os, h.fr.tape, h.fr.output, h.fr.size, fun k hk => h.fr.heap k hk (noMM k)⟩
theorem calls_true {f : FuncId} {args : List AV} {us : List Value} {W : World} (h : AC Tryd.prog f args [] (fun r st => r = B true ∧ st = [])) (ha : All2 (RepAV (mkK (X.start bl0 cap0 noM [] W) bl0 cap0 [] W)) args us) :
    Calls Tryd.prog f us.toArray W fun e W' => e = .returned (.bool true) ∧ Below W.heap.size W W' :=
  (h.2 bl0 cap0 noM W us (start_sat W) ha).mono fun e W' ⟨r, st', bl', cap', v, he, ⟨hr, hst⟩, _, hs, hv⟩ => by
    subst hr hst
    have : v = .bool true := rep_v hv
    subst this
    exact ⟨he, below_of hs⟩
set_option maxRecDepth 100000 in
theorem okSlice {W : World} {base : Nat} {t e : TypeId} {v : Value} (hu : Tryd.prog.underlying t = some (.slice e)) (h : Value.okWide Tryd.prog W .any base t v) : v.cells.toList = [v] := by
  simp only [Value.okWide, hu, Cell.okWide] at h
  cases v <;> first | rfl | (simp [Cell.ok, hu] at h)
set_option maxRecDepth 100000 in
theorem okInt {W : World} {base : Nat} {t : TypeId} {k : IntKind} {v : Value} (hu : Tryd.prog.underlying t = some (.int k)) (h : Value.okWide Tryd.prog W .any base t v) : v.cells.toList = [v] := by
  simp only [Value.okWide, hu, Cell.okWide] at h
  cases v <;> first | rfl | (simp [Cell.ok, hu] at h)
set_option maxRecDepth 100000 in
theorem okBool {W : World} {base : Nat} {t : TypeId} {v : Value} (hu : Tryd.prog.underlying t = some .bool) (h : Value.okWide Tryd.prog W .any base t v) : v.cells.toList = [v] := by
  simp only [Value.okWide, hu, Cell.okWide] at h
  cases v <;> first | rfl | (simp [Cell.ok, hu] at h)
set_option maxRecDepth 100000 in
theorem okStr {W : World} {base : Nat} {t : TypeId} {v : Value} (hu : Tryd.prog.underlying t = some .string) (h : Value.okWide Tryd.prog W .any base t v) : v.cells.toList = [v] := by
  simp only [Value.okWide, hu, Cell.okWide] at h
  cases v <;> first | rfl | (simp [Cell.ok, hu] at h)
set_option maxRecDepth 100000 in
theorem okAgg {W : World} {base : Nat} {t : TypeId} {fs : Array Field} {v : Value} (hu : Tryd.prog.underlying t = some (.struct fs)) (h : Value.okWide Tryd.prog W .any base t v) : v = .agg v.cells := by
  simp only [Value.okWide, hu] at h
  obtain ⟨cs, rfl, _⟩ := h
  rfl
set_option maxRecDepth 100000 in
theorem arg_chgs {H : Type} {enc : TypeId × Value → H} {W : World} {base : Nat} {v : Value} {d : DataW H} {p : List MemPlace} (h : DataW.Trod enc Tryd.prog W 0 (fun _ => true) true 22 v d p) (ok : Value.okWide Tryd.prog W .any base 22 v) :
    ∃ l : List Chg, RepAV (mkK (X.start bl0 cap0 noM [] W) bl0 cap0 [] W) (.c (.d (.ps 5 (l.map encChg)))) v ∧ (l.map fun c => mC c + 1).sum + 1 ≤ Rows.uptoBulk d := by
  obtain ⟨fuel, h⟩ := h
  obtain ⟨l, w0, e0, rep0, k0⟩ := tr_chgs h
  rw [okSlice Tryd.underlying22 ok] at e0
  simp only [List.cons.injEq, and_true] at e0
  subst e0
  exact ⟨l, rep_start rep0, k0⟩
set_option maxRecDepth 100000 in
theorem arg_fil {H : Type} {enc : TypeId × Value → H} {W : World} {base : Nat} {v : Value} {d : DataW H} {p : List MemPlace} (h : DataW.Trod enc Tryd.prog W 0 (fun _ => true) true 24 v d p) (ok : Value.okWide Tryd.prog W .any base 24 v) :
    ∃ s : Fil, RepAV (mkK (X.start bl0 cap0 noM [] W) bl0 cap0 [] W) (.agg ((encFil s).map C.d)) v ∧ s.path.size ≤ Rows.uptoBulk d := by
  obtain ⟨fuel, h⟩ := h
  obtain ⟨s, rep, k⟩ := tr_fil h
  refine ⟨s, ?_, k⟩
  rw [okAgg Tryd.underlying24 ok]
  have := repAgg rep
  simpa using this
end Go.Proofs.YtmlhfnodnnbbnaaDoor

/- A world that holds the laid tables, for the witnesses of the rows. -/
namespace Go.Proofs.YtmlhfnodnnbbnaaDoor
open Go.Ab Go.ChangeShapes Go.WideShapes Go.ChangeAt Go.RowKit
noncomputable def firstCells : Array Value := (Go.Pinned.utf8FirstZ.map fun n : Nat => Value.int .u8 (n : Int)).toArray
def acceptCells : Array Value := ([128, 191, 160, 191, 128, 159, 144, 191, 128, 143, 0, 0, 0, 0, 0, 0, 0, 0, 0, 0, 0, 0, 0, 0, 0, 0, 0, 0, 0, 0, 0, 0].map fun n : Nat => Value.int .u8 (n : Int)).toArray
def lay (c : Array Value) : Obj → Obj
  | .cells _ t frozen => .cells c t frozen
  | o => o
noncomputable def laidWorld (os : Os) : World :=
  { World.holding Tryd.prog os ⟨#[], #[], []⟩ with heap := ((World.holding Tryd.prog os ⟨#[], #[], []⟩).heap.modify 1 (lay firstCells)).modify 2 (lay acceptCells) }
@[reducible] def zF : Value := .agg #[.string ⟨#[]⟩, .int .i64 0]
end Go.Proofs.YtmlhfnodnnbbnaaDoor

/- Arguments that are numbers, truth values or strings. -/
namespace Go.Proofs.YtmlhfnodnnbbnaaDoor
open Go.Ab Go.ChangeShapes Go.WideShapes Go.ChangeAt Go.RowKit
set_option maxRecDepth 100000 in
theorem arg_int {H : Type} {enc : TypeId × Value → H} {W : World} {base : Nat} {v : Value} {d : DataW H} {p : List MemPlace} (h : DataW.Trod enc Tryd.prog W 0 (fun _ => true) true 3 v d p) (ok : Value.okWide Tryd.prog W .any base 3 v) :
    ∃ n : Int, RepAV (mkK (X.start bl0 cap0 noM [] W) bl0 cap0 [] W) (I .i64 n) v := by
  obtain ⟨fuel, h⟩ := h
  obtain ⟨n, e⟩ := tr_int Tryd.underlying3 h
  rw [okInt Tryd.underlying3 ok] at e
  simp only [List.cons.injEq, and_true] at e
  subst e
  exact ⟨n, rep_start (.v _ rfl)⟩
set_option maxRecDepth 100000 in
theorem arg_bool {H : Type} {enc : TypeId × Value → H} {W : World} {base : Nat} {v : Value} {d : DataW H} {p : List MemPlace} (h : DataW.Trod enc Tryd.prog W 0 (fun _ => true) true 4 v d p) (ok : Value.okWide Tryd.prog W .any base 4 v) :
    ∃ b : Bool, RepAV (mkK (X.start bl0 cap0 noM [] W) bl0 cap0 [] W) (B b) v := by
  obtain ⟨fuel, h⟩ := h
  obtain ⟨n, e⟩ := tr_bool Tryd.underlying4 h
  rw [okBool Tryd.underlying4 ok] at e
  simp only [List.cons.injEq, and_true] at e
  subst e
  exact ⟨n, rep_start (.v _ rfl)⟩
set_option maxRecDepth 100000 in
theorem arg_str {H : Type} {enc : TypeId × Value → H} {W : World} {base : Nat} {v : Value} {d : DataW H} {p : List MemPlace} (h : DataW.Trod enc Tryd.prog W 0 (fun _ => true) true 9 v d p) (ok : Value.okWide Tryd.prog W .any base 9 v) :
    ∃ s : ByteArray, RepAV (mkK (X.start bl0 cap0 noM [] W) bl0 cap0 [] W) (Str s) v ∧ s.size ≤ Rows.uptoBulk d := by
  obtain ⟨fuel, h⟩ := h
  obtain ⟨n, e, k⟩ := tr_str Tryd.underlying9 h
  rw [okStr Tryd.underlying9 ok] at e
  simp only [List.cons.injEq, and_true] at e
  subst e
  exact ⟨n, rep_start (.v _ rfl), by omega⟩
end Go.Proofs.YtmlhfnodnnbbnaaDoor

/- From a contract over abstract states to a row's statement. -/
import Derived.Test.YtbllfnmabmamfaaGreatDoorQC2
import Derived.Test.YtbllfnmabmamfaaGreatDoorQAbV
import Derived.Test.YtbllfnmabmamfaaGreatDoorCards
import Derived.Test.YtbllfnmabmamfaaGreatDoorTie
import Derived.WalkKit
import Derived.ProofKit
import Derived.OpenShut
import Derived.Carry
import Derived.Deep.DeepHandedRow
import Derived.Lib.LaidTab
import Derived.Test.YtbllfnmabmamfaaGreatDoorQU11
set_option linter.all false

namespace Go.Proofs.YtbllfnmabmamfaaGreatDoor
open Go.Ab Go.ChangeShapes Go.WideShapes Go.ChangeAt Go.RowKit
theorem own : ownKnob Tryz.prog.godebug = none := by kernel_rfl
theorem laidOut : laidOutB Tryz.prog = true := by kernel_rfl
@[reducible] def bl0 : Nat → List Nat := fun _ => []
@[reducible] def cap0 : Nat → Nat := fun _ => 0
theorem noMM (b : Nat) : ¬ MM bl0 [] b := by
  rintro ⟨id, o, h, _⟩; simp [Ab.get] at h
theorem start_sat (W : World) : SatS (X.start bl0 cap0 noM [] W) bl0 cap0 [] W := by
  refine ⟨?_, ?_, ?_, ?_, ?_, ?_, ?_, ?_⟩
  · intro id o h; simp [Ab.get] at h
  · intro id id' o o' b h; simp [Ab.get] at h
  · intro id o h; simp [Ab.get] at h
  · intro b h; exact absurd h (noMM b)
  · intro b h; exact absurd h (noMM b)
  · exact ⟨Nat.le_refl _, fun _ _ _ => rfl, rfl, rfl, rfl, Nat.le_refl _⟩
  · intro id h; simp [X.start, Ab.get] at h
  · exact ⟨fun b h => False.elim h, fun b h => False.elim h⟩
theorem rep_start {W : World} {x : D} {v : Value} (h : RepD noM W x v) : RepD (mkK (X.start bl0 cap0 noM [] W) bl0 cap0 [] W).M W x v :=
  h.stable (fun _ _ _ => rfl) (fun b hb => by
    rcases hb with hb | hb
    · exact absurd hb (noMM b)
    · exact False.elim hb)
theorem repAgg {W : World} {xs : List D} {vs : List Value} (h : All2 (RepD noM W) xs vs) : RepAV (mkK (X.start bl0 cap0 noM [] W) bl0 cap0 [] W) (.agg (xs.map C.d)) (.agg vs.toArray) :=
  ⟨vs, rfl, All2.map_left.2 (h.mono fun _ _ h => rep_start h)⟩
theorem below_of {W W' : World} {bl' : Nat → List Nat} {cap' : Nat → Nat} (h : SatS (X.start bl0 cap0 noM [] W) bl' cap' [] W') : Below W.heap.size W W' :=
  ⟨h.fr.os, h.fr.tape, h.fr.output, h.fr.size, fun k hk => h.fr.heap k hk (noMM k)⟩
theorem calls_true {f : FuncId} {args : List AV} {us : List Value} {W : World} (h : AC Tryz.prog f args [] (fun r st => r = B true ∧ st = [])) (ha : All2 (RepAV (mkK (X.start bl0 cap0 noM [] W) bl0 cap0 [] W)) args us) :
    Calls Tryz.prog f us.toArray W fun e W' => e = .returned (.bool true) ∧ Below W.heap.size W W' :=
  (h.2 bl0 cap0 noM W us (start_sat W) ha).mono fun e W' ⟨r, st', bl', cap', v, he, ⟨hr, hst⟩, _, hs, hv⟩ => by
    subst hr hst
    have : v = .bool true := rep_v hv
    subst this
    exact ⟨he, below_of hs⟩
set_option maxRecDepth 100000 in
theorem okSlice {W : World} {base : Nat} {t e : TypeId} {v : Value} (hu : Tryz.prog.underlying t = some (.slice e)) (h : Value.okWide Tryz.prog W .any base t v) : v.cells.toList = [v] := by
  simp only [Value.okWide, hu, Cell.okWide] at h
  cases v <;> first | rfl | (simp [Cell.ok, hu] at h)
set_option maxRecDepth 100000 in
theorem okInt {W : World} {base : Nat} {t : TypeId} {k : IntKind} {v : Value} (hu : Tryz.prog.underlying t = some (.int k)) (h : Value.okWide Tryz.prog W .any base t v) : v.cells.toList = [v] := by
  simp only [Value.okWide, hu, Cell.okWide] at h
  cases v <;> first | rfl | (simp [Cell.ok, hu] at h)
set_option maxRecDepth 100000 in
theorem okBool {W : World} {base : Nat} {t : TypeId} {v : Value} (hu : Tryz.prog.underlying t = some .bool) (h : Value.okWide Tryz.prog W .any base t v) : v.cells.toList = [v] := by
  simp only [Value.okWide, hu, Cell.okWide] at h
  cases v <;> first | rfl | (simp [Cell.ok, hu] at h)
set_option maxRecDepth 100000 in
theorem okStr {W : World} {base : Nat} {t : TypeId} {v : Value} (hu : Tryz.prog.underlying t = some .string) (h : Value.okWide Tryz.prog W .any base t v) : v.cells.toList = [v] := by
  simp only [Value.okWide, hu, Cell.okWide] at h
  cases v <;> first | rfl | (simp [Cell.ok, hu] at h)
set_option maxRecDepth 100000 in
theorem okAgg {W : World} {base : Nat} {t : TypeId} {fs : Array Field} {v : Value} (hu : Tryz.prog.underlying t = some (.struct fs)) (h : Value.okWide Tryz.prog W .any base t v) : v = .agg v.cells := by
  simp only [Value.okWide, hu] at h
  obtain ⟨cs, rfl, _⟩ := h
  rfl
set_option maxRecDepth 100000 in
theorem arg_chgs {H : Type} {enc : TypeId × Value → H} {W : World} {base : Nat} {v : Value} {d : DataW H} {p : List MemPlace} (h : DataW.Trod enc Tryz.prog W 0 (fun _ => true) true 22 v d p) (ok : Value.okWide Tryz.prog W .any base 22 v) :
    ∃ l : List Chg, RepAV (mkK (X.start bl0 cap0 noM [] W) bl0 cap0 [] W) (.c (.d (.ps 5 (l.map encChg)))) v ∧ (l.map fun c => mC c + 1).sum + 1 ≤ Rows.uptoBulk d := by
  obtain ⟨fuel, h⟩ := h
  obtain ⟨l, w0, e0, rep0, k0⟩ := tr_chgs h
  rw [okSlice Tryz.underlying22 ok] at e0
  simp only [List.cons.injEq, and_true] at e0
  subst e0
  exact ⟨l, rep_start rep0, k0⟩
set_option maxRecDepth 100000 in
theorem arg_fil {H : Type} {enc : TypeId × Value → H} {W : World} {base : Nat} {v : Value} {d : DataW H} {p : List MemPlace} (h : DataW.Trod enc Tryz.prog W 0 (fun _ => true) true 37 v d p) (ok : Value.okWide Tryz.prog W .any base 37 v) :
    ∃ s : Fil, RepAV (mkK (X.start bl0 cap0 noM [] W) bl0 cap0 [] W) (.agg ((encFil s).map C.d)) v ∧ s.path.size ≤ Rows.uptoBulk d := by
  obtain ⟨fuel, h⟩ := h
  obtain ⟨s, rep, k⟩ := tr_fil h
  refine ⟨s, ?_, k⟩
  rw [okAgg Tryz.underlying37 ok]
  have := repAgg rep
  simpa using this
end Go.Proofs.YtbllfnmabmamfaaGreatDoor

/- A world that holds the laid tables, for the witnesses of the rows. -/
namespace Go.Proofs.YtbllfnmabmamfaaGreatDoor
open Go.Ab Go.ChangeShapes Go.WideShapes Go.ChangeAt Go.RowKit
noncomputable def firstCells : Array Value := (Go.Pinned.utf8FirstZ.map fun n : Nat => Value.int .u8 (n : Int)).toArray
def acceptCells : Array Value := ([128, 191, 160, 191, 128, 159, 144, 191, 128, 143, 0, 0, 0, 0, 0, 0, 0, 0, 0, 0, 0, 0, 0, 0, 0, 0, 0, 0, 0, 0, 0, 0].map fun n : Nat => Value.int .u8 (n : Int)).toArray
def lay (c : Array Value) : Obj → Obj
  | .cells _ t frozen => .cells c t frozen
  | o => o
noncomputable def laidWorld (os : Os) : World :=
  { World.holding Tryz.prog os ⟨#[], #[], []⟩ with heap := ((World.holding Tryz.prog os ⟨#[], #[], []⟩).heap.modify 1 (lay firstCells)).modify 2 (lay acceptCells) }
@[reducible] def zF : Value := .agg #[.string ⟨#[]⟩, .int .i64 0]
end Go.Proofs.YtbllfnmabmamfaaGreatDoor

/- Arguments that are numbers, truth values or strings. -/
namespace Go.Proofs.YtbllfnmabmamfaaGreatDoor
open Go.Ab Go.ChangeShapes Go.WideShapes Go.ChangeAt Go.RowKit
set_option maxRecDepth 100000 in
theorem arg_int {H : Type} {enc : TypeId × Value → H} {W : World} {base : Nat} {v : Value} {d : DataW H} {p : List MemPlace} (h : DataW.Trod enc Tryz.prog W 0 (fun _ => true) true 3 v d p) (ok : Value.okWide Tryz.prog W .any base 3 v) :
    ∃ n : Int, RepAV (mkK (X.start bl0 cap0 noM [] W) bl0 cap0 [] W) (I .i64 n) v := by
  obtain ⟨fuel, h⟩ := h
  obtain ⟨n, e⟩ := tr_int Tryz.underlying3 h
  rw [okInt Tryz.underlying3 ok] at e
  simp only [List.cons.injEq, and_true] at e
  subst e
  exact ⟨n, rep_start (.v _ rfl)⟩
set_option maxRecDepth 100000 in
theorem arg_bool {H : Type} {enc : TypeId × Value → H} {W : World} {base : Nat} {v : Value} {d : DataW H} {p : List MemPlace} (h : DataW.Trod enc Tryz.prog W 0 (fun _ => true) true 4 v d p) (ok : Value.okWide Tryz.prog W .any base 4 v) :
    ∃ b : Bool, RepAV (mkK (X.start bl0 cap0 noM [] W) bl0 cap0 [] W) (B b) v := by
  obtain ⟨fuel, h⟩ := h
  obtain ⟨n, e⟩ := tr_bool Tryz.underlying4 h
  rw [okBool Tryz.underlying4 ok] at e
  simp only [List.cons.injEq, and_true] at e
  subst e
  exact ⟨n, rep_start (.v _ rfl)⟩
set_option maxRecDepth 100000 in
theorem arg_str {H : Type} {enc : TypeId × Value → H} {W : World} {base : Nat} {v : Value} {d : DataW H} {p : List MemPlace} (h : DataW.Trod enc Tryz.prog W 0 (fun _ => true) true 9 v d p) (ok : Value.okWide Tryz.prog W .any base 9 v) :
    ∃ s : ByteArray, RepAV (mkK (X.start bl0 cap0 noM [] W) bl0 cap0 [] W) (Str s) v ∧ s.size ≤ Rows.uptoBulk d := by
  obtain ⟨fuel, h⟩ := h
  obtain ⟨n, e, k⟩ := tr_str Tryz.underlying9 h
  rw [okStr Tryz.underlying9 ok] at e
  simp only [List.cons.injEq, and_true] at e
  subst e
  exact ⟨n, rep_start (.v _ rfl), by omega⟩
end Go.Proofs.YtbllfnmabmamfaaGreatDoor

/- The readings of tasks and resolutions, as abstract data (laid by mkC2.py). -/
namespace Go.Proofs.YtbllfnmabmamfaaGreatDoor
open Go.Ab Go.ChangeShapes Go.WideShapes Go.ChangeAt Go.RowKit
theorem tr_filv {H : Type} {enc : TypeId × Value → H} {w : World} {fuel : Nat} {cs : List Value} {d : DataW H} {p : List MemPlace} (h : tr enc w fuel 37 cs = some (d, p)) : ∃ (s : ByteArray) (n : Int), cs = [.string s, .int .i64 n] ∧ s.size ≤ Rows.uptoBulk d := by
  obtain ⟨hl, f, xs, hm, rfl⟩ := tr_struct Tryz.underlying37 h
  rw [show Tryz.prog.cellsOf 37 = 2 by kernel_rfl] at hl
  obtain ⟨c0, c1, rfl⟩ : ∃ c0 c1, cs = [c0, c1] := by
    rcases cs with _ | ⟨a0, _ | ⟨a1, _ | ⟨az, cs⟩⟩⟩
    all_goals simp at hl
    exact ⟨_, _, rfl⟩
  obtain ⟨_, hg⟩ := mapM_get hm
  obtain ⟨b0, g0, e0⟩ := hg 0 _ rfl
  rw [show (([c0, c1] : List Value).drop 0).take (Tryz.prog.cellsOf 9) = [c0] by rw [show Tryz.prog.cellsOf 9 = 1 by kernel_rfl]; rfl] at e0
  obtain ⟨b1, g1, e1⟩ := hg 1 _ rfl
  rw [show (([c0, c1] : List Value).drop 1).take (Tryz.prog.cellsOf 3) = [c1] by rw [show Tryz.prog.cellsOf 3 = 1 by kernel_rfl]; rfl] at e1
  obtain ⟨s, h0, q0⟩ := tr_str Tryz.underlying9 e0
  simp only [List.cons.injEq, and_true] at h0; subst h0
  have r0 := bulk_part g0
  obtain ⟨n, h1⟩ := tr_int Tryz.underlying3 e1
  simp only [List.cons.injEq, and_true] at h1; subst h1
  exact ⟨s, n, rfl, by simp only [Rows.uptoBulk]; omega⟩
theorem tr_tsk {H : Type} {enc : TypeId × Value → H} {w : World} {fuel : Nat} {cs : List Value} {d : DataW H} {p : List MemPlace} (h : tr enc w fuel 39 cs = some (d, p)) : ∃ x : Tsk, All2 (RepD noM w) (encTsk x) cs ∧ x.frm.size ≤ Rows.uptoBulk d ∧ x.to.size ≤ Rows.uptoBulk d ∧ x.move.size ≤ Rows.uptoBulk d ∧ x.lpath.size ≤ Rows.uptoBulk d ∧ x.bpath.size ≤ Rows.uptoBulk d := by
  obtain ⟨hl, f, xs, hm, rfl⟩ := tr_struct Tryz.underlying39 h
  rw [show Tryz.prog.cellsOf 39 = 11 by kernel_rfl] at hl
  obtain ⟨c0, c1, c2, c3, c4, c5, c6, c7, c8, c9, c10, rfl⟩ : ∃ c0 c1 c2 c3 c4 c5 c6 c7 c8 c9 c10, cs = [c0, c1, c2, c3, c4, c5, c6, c7, c8, c9, c10] := by
    rcases cs with _ | ⟨a0, _ | ⟨a1, _ | ⟨a2, _ | ⟨a3, _ | ⟨a4, _ | ⟨a5, _ | ⟨a6, _ | ⟨a7, _ | ⟨a8, _ | ⟨a9, _ | ⟨a10, _ | ⟨az, cs⟩⟩⟩⟩⟩⟩⟩⟩⟩⟩⟩⟩
    all_goals simp at hl
    exact ⟨_, _, _, _, _, _, _, _, _, _, _, rfl⟩
  obtain ⟨_, hg⟩ := mapM_get hm
  obtain ⟨b0, g0, e0⟩ := hg 0 _ rfl
  rw [show (([c0, c1, c2, c3, c4, c5, c6, c7, c8, c9, c10] : List Value).drop 0).take (Tryz.prog.cellsOf 3) = [c0] by rw [show Tryz.prog.cellsOf 3 = 1 by kernel_rfl]; rfl] at e0
  obtain ⟨b1, g1, e1⟩ := hg 1 _ rfl
  rw [show (([c0, c1, c2, c3, c4, c5, c6, c7, c8, c9, c10] : List Value).drop 1).take (Tryz.prog.cellsOf 37) = [c1, c2] by rw [show Tryz.prog.cellsOf 37 = 2 by kernel_rfl]; rfl] at e1
  obtain ⟨b2, g2, e2⟩ := hg 2 _ rfl
  rw [show (([c0, c1, c2, c3, c4, c5, c6, c7, c8, c9, c10] : List Value).drop 3).take (Tryz.prog.cellsOf 9) = [c3] by rw [show Tryz.prog.cellsOf 9 = 1 by kernel_rfl]; rfl] at e2
  obtain ⟨b3, g3, e3⟩ := hg 3 _ rfl
  rw [show (([c0, c1, c2, c3, c4, c5, c6, c7, c8, c9, c10] : List Value).drop 4).take (Tryz.prog.cellsOf 3) = [c4] by rw [show Tryz.prog.cellsOf 3 = 1 by kernel_rfl]; rfl] at e3
  obtain ⟨b4, g4, e4⟩ := hg 4 _ rfl
  rw [show (([c0, c1, c2, c3, c4, c5, c6, c7, c8, c9, c10] : List Value).drop 5).take (Tryz.prog.cellsOf 3) = [c5] by rw [show Tryz.prog.cellsOf 3 = 1 by kernel_rfl]; rfl] at e4
  obtain ⟨b5, g5, e5⟩ := hg 5 _ rfl
  rw [show (([c0, c1, c2, c3, c4, c5, c6, c7, c8, c9, c10] : List Value).drop 6).take (Tryz.prog.cellsOf 9) = [c6] by rw [show Tryz.prog.cellsOf 9 = 1 by kernel_rfl]; rfl] at e5
  obtain ⟨b6, g6, e6⟩ := hg 6 _ rfl
  rw [show (([c0, c1, c2, c3, c4, c5, c6, c7, c8, c9, c10] : List Value).drop 7).take (Tryz.prog.cellsOf 3) = [c7] by rw [show Tryz.prog.cellsOf 3 = 1 by kernel_rfl]; rfl] at e6
  obtain ⟨b7, g7, e7⟩ := hg 7 _ rfl
  rw [show (([c0, c1, c2, c3, c4, c5, c6, c7, c8, c9, c10] : List Value).drop 8).take (Tryz.prog.cellsOf 37) = [c8, c9] by rw [show Tryz.prog.cellsOf 37 = 2 by kernel_rfl]; rfl] at e7
  obtain ⟨b8, g8, e8⟩ := hg 8 _ rfl
  rw [show (([c0, c1, c2, c3, c4, c5, c6, c7, c8, c9, c10] : List Value).drop 10).take (Tryz.prog.cellsOf 9) = [c10] by rw [show Tryz.prog.cellsOf 9 = 1 by kernel_rfl]; rfl] at e8
  obtain ⟨kd, h0⟩ := tr_int Tryz.underlying3 e0
  simp only [List.cons.injEq, and_true] at h0; subst h0
  obtain ⟨lf, lfn, h1, k1⟩ := tr_filv e1
  simp only [List.cons.injEq, and_true] at h1; obtain ⟨rfl, rfl⟩ := h1
  have r1 := bulk_part g1
  obtain ⟨fr, h2, q2⟩ := tr_str Tryz.underlying9 e2
  simp only [List.cons.injEq, and_true] at h2; subst h2
  have r2 := bulk_part g2
  obtain ⟨fi, h3⟩ := tr_int Tryz.underlying3 e3
  simp only [List.cons.injEq, and_true] at h3; subst h3
  obtain ⟨la, h4⟩ := tr_int Tryz.underlying3 e4
  simp only [List.cons.injEq, and_true] at h4; subst h4
  obtain ⟨to, h5, q5⟩ := tr_str Tryz.underlying9 e5
  simp only [List.cons.injEq, and_true] at h5; subst h5
  have r5 := bulk_part g5
  obtain ⟨he, h6⟩ := tr_int Tryz.underlying3 e6
  simp only [List.cons.injEq, and_true] at h6; subst h6
  obtain ⟨bf, bfn, h7, k7⟩ := tr_filv e7
  simp only [List.cons.injEq, and_true] at h7; obtain ⟨rfl, rfl⟩ := h7
  have r7 := bulk_part g7
  obtain ⟨mo, h8, q8⟩ := tr_str Tryz.underlying9 e8
  simp only [List.cons.injEq, and_true] at h8; subst h8
  have r8 := bulk_part g8
  exact ⟨⟨kd, lf, lfn, fr, fi, la, to, he, bf, bfn, mo⟩, .cons (.v _ rfl) (.cons (.v _ rfl) (.cons (.v _ rfl) (.cons (.v _ rfl) (.cons (.v _ rfl) (.cons (.v _ rfl) (.cons (.v _ rfl) (.cons (.v _ rfl) (.cons (.v _ rfl) (.cons (.v _ rfl) (.cons (.v _ rfl) (.nil))))))))))), by simp only [Rows.uptoBulk]; omega, by simp only [Rows.uptoBulk]; omega, by simp only [Rows.uptoBulk]; omega, by simp only [Rows.uptoBulk]; omega, by simp only [Rows.uptoBulk]; omega⟩
theorem tr_rsn {H : Type} {enc : TypeId × Value → H} {w : World} {fuel : Nat} {cs : List Value} {d : DataW H} {p : List MemPlace} (h : tr enc w fuel 54 cs = some (d, p)) : ∃ x : Rsn, All2 (RepD noM w) (encRsn x) cs := by
  obtain ⟨hl, f, xs, hm, rfl⟩ := tr_struct Tryz.underlying54 h
  rw [show Tryz.prog.cellsOf 54 = 7 by kernel_rfl] at hl
  obtain ⟨c0, c1, c2, c3, c4, c5, c6, rfl⟩ : ∃ c0 c1 c2 c3 c4 c5 c6, cs = [c0, c1, c2, c3, c4, c5, c6] := by
    rcases cs with _ | ⟨a0, _ | ⟨a1, _ | ⟨a2, _ | ⟨a3, _ | ⟨a4, _ | ⟨a5, _ | ⟨a6, _ | ⟨az, cs⟩⟩⟩⟩⟩⟩⟩⟩
    all_goals simp at hl
    exact ⟨_, _, _, _, _, _, _, rfl⟩
  obtain ⟨_, hg⟩ := mapM_get hm
  obtain ⟨b0, g0, e0⟩ := hg 0 _ rfl
  rw [show (([c0, c1, c2, c3, c4, c5, c6] : List Value).drop 0).take (Tryz.prog.cellsOf 41) = [c0, c1, c2, c3] by rw [show Tryz.prog.cellsOf 41 = 4 by kernel_rfl]; rfl] at e0
  obtain ⟨b1, g1, e1⟩ := hg 1 _ rfl
  rw [show (([c0, c1, c2, c3, c4, c5, c6] : List Value).drop 4).take (Tryz.prog.cellsOf 44) = [c4, c5] by rw [show Tryz.prog.cellsOf 44 = 2 by kernel_rfl]; rfl] at e1
  obtain ⟨b2, g2, e2⟩ := hg 2 _ rfl
  rw [show (([c0, c1, c2, c3, c4, c5, c6] : List Value).drop 6).take (Tryz.prog.cellsOf 4) = [c6] by rw [show Tryz.prog.cellsOf 4 = 1 by kernel_rfl]; rfl] at e2
  obtain ⟨vb, vk, ve, vx, h0⟩ := tr_typ e0
  simp only [List.cons.injEq, and_true] at h0; obtain ⟨rfl, rfl, rfl, rfl⟩ := h0
  obtain ⟨vs, vz, h1⟩ := tr_con e1
  simp only [List.cons.injEq, and_true] at h1; obtain ⟨rfl, rfl⟩ := h1
  obtain ⟨mv, h2⟩ := tr_bool Tryz.underlying4 e2
  simp only [List.cons.injEq, and_true] at h2; subst h2
  exact ⟨⟨vb, vk, ve, vx, vs, vz, mv⟩, .cons (.v _ rfl) (.cons (.v _ rfl) (.cons (.v _ rfl) (.cons (.v _ rfl) (.cons (.v _ rfl) (.cons (.v _ rfl) (.cons (.v _ rfl) (.nil)))))))⟩
set_option maxRecDepth 100000 in
theorem arg_tsk {H : Type} {enc : TypeId × Value → H} {W : World} {base : Nat} {v : Value} {d : DataW H} {p : List MemPlace} (h : DataW.Trod enc Tryz.prog W 0 (fun _ => true) true 39 v d p) (ok : Value.okWide Tryz.prog W .any base 39 v) :
    ∃ s : Tsk, RepAV (mkK (X.start bl0 cap0 noM [] W) bl0 cap0 [] W) (.agg ((encTsk s).map C.d)) v ∧ s.frm.size ≤ Rows.uptoBulk d ∧ s.to.size ≤ Rows.uptoBulk d ∧ s.move.size ≤ Rows.uptoBulk d ∧ s.lpath.size ≤ Rows.uptoBulk d ∧ s.bpath.size ≤ Rows.uptoBulk d := by
  obtain ⟨fuel, h⟩ := h
  obtain ⟨s, rep, k⟩ := tr_tsk h
  refine ⟨s, ?_, k⟩
  rw [okAgg Tryz.underlying39 ok]
  have := repAgg rep
  simpa using this
set_option maxRecDepth 100000 in
theorem arg_rsn {H : Type} {enc : TypeId × Value → H} {W : World} {base : Nat} {v : Value} {d : DataW H} {p : List MemPlace} (h : DataW.Trod enc Tryz.prog W 0 (fun _ => true) true 54 v d p) (ok : Value.okWide Tryz.prog W .any base 54 v) :
    ∃ s : Rsn, RepAV (mkK (X.start bl0 cap0 noM [] W) bl0 cap0 [] W) (.agg ((encRsn s).map C.d)) v := by
  obtain ⟨fuel, h⟩ := h
  obtain ⟨s, rep⟩ := tr_rsn h
  refine ⟨s, ?_⟩
  rw [okAgg Tryz.underlying54 ok]
  have := repAgg rep
  simpa using this
end Go.Proofs.YtbllfnmabmamfaaGreatDoor

/-
  NARROWER THAN 'FOR EVERY INPUT', by the rows' own cells (each row's printed sentence says how): IntegrateRemains: laid · IntegrateTakes: laid · IntegrateBack: laid · IntegrateRenames: laid · ResolveMakes: laid.
  DERIVED. THE GIVEN ROWS OF THIS SEAT. 5 by the template 'for every input the law returns true; each argument reads behind the call as it read before'; 0 by the template 'total and deterministic' (their statements: YtmlhfnodnnbbnaaDoorTotals.lean).
  GIVEN WITH THE SEED: the statements are not yours to turn. If you find one false, say at which input.
  Laid BY PROGRAM, IN A SANDBOX (cutbox-rows.mjs): the forced cells as the released guide's own fill.sh prints them over the translation 7d7a46c70ef899f4… (all of the seat's roots in one cut). By AI agents, Wed Nov 11 2026. No macro, syntax, notation, axiom, sorry.
-/
import Derived.Test.YtmlhfnodnnbbnaaDoorChecked
import GoSem.PinnedTables
import GoSem.Claim
import GoSem.ClaimJoined
import GoSem.ClaimMapViews
import Derived.JoinedTies
import Derived.KernelRfl
namespace Go.Proofs.YtmlhfnodnnbbnaaDoor
/- THE CELL 'sum', in the pinned program and in every row, IS THE sha256 OF THE DUMP (.gsa) THAT YtmlhfnodnnbbnaaDoorProg.lean LOADS. Nothing in Lean hashes anything: it is a label: what it is worth is what the hold of that sum in a sandbox is worth. -/
noncomputable def Tryd.pinned : Pinned := { name := "ytmlhfnodnnbbnaadoor", sum := "7d7a46c70ef899f4fd204b9c8c2a98da2f27f7810bc7507755993507f69057dd", checked := Tryd.checked }
namespace Rows
def none {H : Type} : Left H := { results := [], args := [] }

/- WHAT THE LISTED PACKAGE-LEVEL VARIABLES READ AS WHEN THE CALL BEGINS. Each datum BY PROGRAM (the guide's laid-datum.mjs) off the statement by which the dump's own 'gosem.cut.vars' lays the variable. In a bare row this is a premise. The card (YtmlhfnodnnbbnaaDoorCards.lean) ties it to the program's text. -/
def laid_unicode_utf8_acceptRanges {H : Type} : DataW H := .agg [.agg [.lit (.int .u8 128), .lit (.int .u8 191)], .agg [.lit (.int .u8 160), .lit (.int .u8 191)], .agg [.lit (.int .u8 128), .lit (.int .u8 159)], .agg [.lit (.int .u8 144), .lit (.int .u8 191)], .agg [.lit (.int .u8 128), .lit (.int .u8 143)], .agg [.lit (.int .u8 0), .lit (.int .u8 0)], .agg [.lit (.int .u8 0), .lit (.int .u8 0)], .agg [.lit (.int .u8 0), .lit (.int .u8 0)], .agg [.lit (.int .u8 0), .lit (.int .u8 0)], .agg [.lit (.int .u8 0), .lit (.int .u8 0)], .agg [.lit (.int .u8 0), .lit (.int .u8 0)], .agg [.lit (.int .u8 0), .lit (.int .u8 0)], .agg [.lit (.int .u8 0), .lit (.int .u8 0)], .agg [.lit (.int .u8 0), .lit (.int .u8 0)], .agg [.lit (.int .u8 0), .lit (.int .u8 0)], .agg [.lit (.int .u8 0), .lit (.int .u8 0)]]
/-- One of Go's own tables, pinned by name: the form's constant. -/
def laid_unicode_utf8_first : DataW Unit := Go.Pinned.utf8First

/-- 'stockyardlaw15.IntegrateRemains': WHATEVER THE INPUT: true; the input reads as it did. -/
def integrateRemainsSpec : ChangeSpec := { name := "integrateRemains", fn := fun _ => fun
  | [d1, d2, d3] => { results := [.lit (.bool true)], args := [d1, d2, d3] }
  | _ => none }
def integrateRemainsRow : OpenClaim := { program := "ytmlhfnodnnbbnaadoor", sum := "7d7a46c70ef899f4fd204b9c8c2a98da2f27f7810bc7507755993507f69057dd", func := "stockyard/stockyardlaw15.IntegrateRemains", spec := "integrateRemains", inPlace := ["internal/bytealg.CountString", "internal/bytealg.IndexByteString", "internal/bytealg.IndexString", "internal/bytealg.abigen_runtime_cmpstring"], named := ["unicode/utf8.first", "unicode/utf8.acceptRanges", "internal/bytealg.MaxLen"], plainKeys := false, apart := false, laid := [("unicode/utf8.acceptRanges", laid_unicode_utf8_acceptRanges), ("unicode/utf8.first", laid_unicode_utf8_first)] }
def IntegrateRemainsSaid : Prop := integrateRemainsRow.holds Tryd.pinned (OpenSpec.ofChange integrateRemainsSpec)

/-- ITS FALSE NEIGHBOUR: 'it returns false'. Refute it at one input. -/
def integrateRemainsWrong : ChangeSpec := { name := "integrateRemains", fn := fun _ => fun
  | [d1, d2, d3] => { results := [.lit (.bool false)], args := [d1, d2, d3] }
  | _ => none }
def IntegrateRemainsWrongFalsely : Prop := integrateRemainsRow.holds Tryd.pinned (OpenSpec.ofChange integrateRemainsWrong)

/-- 'stockyardlaw15.IntegrateTakes': WHATEVER THE INPUT: true; the input reads as it did. -/
def integrateTakesSpec : ChangeSpec := { name := "integrateTakes", fn := fun _ => fun
  | [d1, d2, d3, d4, d5] => { results := [.lit (.bool true)], args := [d1, d2, d3, d4, d5] }
  | _ => none }
def integrateTakesRow : OpenClaim := { program := "ytmlhfnodnnbbnaadoor", sum := "7d7a46c70ef899f4fd204b9c8c2a98da2f27f7810bc7507755993507f69057dd", func := "stockyard/stockyardlaw15.IntegrateTakes", spec := "integrateTakes", inPlace := ["internal/bytealg.CountString", "internal/bytealg.IndexByteString", "internal/bytealg.IndexString", "internal/bytealg.abigen_runtime_cmpstring"], named := ["unicode/utf8.first", "unicode/utf8.acceptRanges", "internal/bytealg.MaxLen"], plainKeys := false, apart := false, laid := [("unicode/utf8.acceptRanges", laid_unicode_utf8_acceptRanges), ("unicode/utf8.first", laid_unicode_utf8_first)] }
def IntegrateTakesSaid : Prop := integrateTakesRow.holds Tryd.pinned (OpenSpec.ofChange integrateTakesSpec)

/-- ITS FALSE NEIGHBOUR: 'it returns false'. Refute it at one input. -/
def integrateTakesWrong : ChangeSpec := { name := "integrateTakes", fn := fun _ => fun
  | [d1, d2, d3, d4, d5] => { results := [.lit (.bool false)], args := [d1, d2, d3, d4, d5] }
  | _ => none }
def IntegrateTakesWrongFalsely : Prop := integrateTakesRow.holds Tryd.pinned (OpenSpec.ofChange integrateTakesWrong)

/-- 'stockyardlaw15.IntegrateBack': WHATEVER THE INPUT: true; the input reads as it did. -/
def integrateBackSpec : ChangeSpec := { name := "integrateBack", fn := fun _ => fun
  | [d1, d2, d3, d4] => { results := [.lit (.bool true)], args := [d1, d2, d3, d4] }
  | _ => none }
def integrateBackRow : OpenClaim := { program := "ytmlhfnodnnbbnaadoor", sum := "7d7a46c70ef899f4fd204b9c8c2a98da2f27f7810bc7507755993507f69057dd", func := "stockyard/stockyardlaw15.IntegrateBack", spec := "integrateBack", inPlace := ["internal/bytealg.CountString", "internal/bytealg.IndexByteString", "internal/bytealg.IndexString", "internal/bytealg.abigen_runtime_cmpstring"], named := ["unicode/utf8.first", "unicode/utf8.acceptRanges", "internal/bytealg.MaxLen"], plainKeys := false, apart := false, laid := [("unicode/utf8.acceptRanges", laid_unicode_utf8_acceptRanges), ("unicode/utf8.first", laid_unicode_utf8_first)] }
def IntegrateBackSaid : Prop := integrateBackRow.holds Tryd.pinned (OpenSpec.ofChange integrateBackSpec)

/-- ITS FALSE NEIGHBOUR: 'it returns false'. Refute it at one input. -/
def integrateBackWrong : ChangeSpec := { name := "integrateBack", fn := fun _ => fun
  | [d1, d2, d3, d4] => { results := [.lit (.bool false)], args := [d1, d2, d3, d4] }
  | _ => none }
def IntegrateBackWrongFalsely : Prop := integrateBackRow.holds Tryd.pinned (OpenSpec.ofChange integrateBackWrong)

/-- 'stockyardlaw15.IntegrateRenames': WHATEVER THE INPUT: true; the input reads as it did. -/
def integrateRenamesSpec : ChangeSpec := { name := "integrateRenames", fn := fun _ => fun
  | [d1, d2, d3, d4, d5] => { results := [.lit (.bool true)], args := [d1, d2, d3, d4, d5] }
  | _ => none }
def integrateRenamesRow : OpenClaim := { program := "ytmlhfnodnnbbnaadoor", sum := "7d7a46c70ef899f4fd204b9c8c2a98da2f27f7810bc7507755993507f69057dd", func := "stockyard/stockyardlaw15.IntegrateRenames", spec := "integrateRenames", inPlace := ["internal/bytealg.CountString", "internal/bytealg.IndexByteString", "internal/bytealg.IndexString", "internal/bytealg.abigen_runtime_cmpstring"], named := ["unicode/utf8.first", "unicode/utf8.acceptRanges", "internal/bytealg.MaxLen"], plainKeys := false, apart := false, laid := [("unicode/utf8.acceptRanges", laid_unicode_utf8_acceptRanges), ("unicode/utf8.first", laid_unicode_utf8_first)] }
def IntegrateRenamesSaid : Prop := integrateRenamesRow.holds Tryd.pinned (OpenSpec.ofChange integrateRenamesSpec)

/-- ITS FALSE NEIGHBOUR: 'it returns false'. Refute it at one input. -/
def integrateRenamesWrong : ChangeSpec := { name := "integrateRenames", fn := fun _ => fun
  | [d1, d2, d3, d4, d5] => { results := [.lit (.bool false)], args := [d1, d2, d3, d4, d5] }
  | _ => none }
def IntegrateRenamesWrongFalsely : Prop := integrateRenamesRow.holds Tryd.pinned (OpenSpec.ofChange integrateRenamesWrong)

/-- 'stockyardlaw17.ResolveMakes': WHATEVER THE INPUT: true; the input reads as it did. -/
def resolveMakesSpec : ChangeSpec := { name := "resolveMakes", fn := fun _ => fun
  | [d1, d2, d3, d4] => { results := [.lit (.bool true)], args := [d1, d2, d3, d4] }
  | _ => none }
def resolveMakesRow : OpenClaim := { program := "ytmlhfnodnnbbnaadoor", sum := "7d7a46c70ef899f4fd204b9c8c2a98da2f27f7810bc7507755993507f69057dd", func := "stockyard/stockyardlaw17.ResolveMakes", spec := "resolveMakes", inPlace := ["internal/bytealg.CountString", "internal/bytealg.IndexByteString", "internal/bytealg.IndexString", "internal/bytealg.abigen_runtime_cmpstring"], unfollowed := true, recurses := true, named := ["unicode/utf8.first", "unicode/utf8.acceptRanges", "internal/bytealg.MaxLen"], plainKeys := false, apart := false, laid := [("unicode/utf8.acceptRanges", laid_unicode_utf8_acceptRanges), ("unicode/utf8.first", laid_unicode_utf8_first)] }
def ResolveMakesSaid : Prop := resolveMakesRow.holds Tryd.pinned (OpenSpec.ofChange resolveMakesSpec)

/-- ITS FALSE NEIGHBOUR: 'it returns false'. Refute it at one input. -/
def resolveMakesWrong : ChangeSpec := { name := "resolveMakes", fn := fun _ => fun
  | [d1, d2, d3, d4] => { results := [.lit (.bool false)], args := [d1, d2, d3, d4] }
  | _ => none }
def ResolveMakesWrongFalsely : Prop := resolveMakesRow.holds Tryd.pinned (OpenSpec.ofChange resolveMakesWrong)

/- THE SECOND FORM. 'bulk': how many values and letters a reading holds, each counted each time it is reached (what is shared counts as often as it is met; a slice's spare places count too). A statement '..UptoSaid' is the law's where the arguments, and the package variables that the reading takes, are together of bulk at most 1048576: NARROWER than '..Said'. Prove '..Said' where nothing that the law and all that it calls make is longer than what came in: it says more and counts as full. Else prove '..UptoSaid'. A law counts once. -/
mutual
def uptoBulk {H : Type} : DataW H → Nat
  | .lit (.string bytes) => bytes.length + 1
  | .lit _ => 1
  | .nil => 1
  | .ptr d => uptoBulk d + 1
  | .slice elems spare => uptoBulkAll elems + uptoBulkAll spare + 1
  | .agg parts => uptoBulkAll parts + 1
  | .iface _ d => uptoBulk d + 1
  | .map entries => uptoBulkEntries entries + 1
  | .held _ => 1
def uptoBulkAll {H : Type} : List (DataW H) → Nat
  | [] => 0
  | d :: r => uptoBulk d + uptoBulkAll r
def uptoBulkEntries {H : Type} : List (Lit × DataW H) → Nat
  | [] => 0
  | x :: r => uptoBulkEntry x + uptoBulkEntries r
def uptoBulkEntry {H : Type} : Lit × DataW H → Nat
  | (.string bytes, d) => bytes.length + uptoBulk d + 1
  | (_, d) => uptoBulk d + 1
 end
def uptoSmall : (H : Type) → List (DataW H) → Bool := fun _ ds => decide (uptoBulkAll ds ≤ 1048576)
def OpenSpec.upto (s : _root_.Go.ChangeSpec) : _root_.Go.OpenSpec := { _root_.Go.OpenSpec.ofChange s with cond := some uptoSmall }

/-- 'stockyardlaw15.IntegrateRemains', WHERE WHAT IT READS IS OF BULK AT MOST 1048576: true; the input reads as it did. -/
def integrateRemainsUptoRow : OpenClaim := { program := "ytmlhfnodnnbbnaadoor", sum := "7d7a46c70ef899f4fd204b9c8c2a98da2f27f7810bc7507755993507f69057dd", func := "stockyard/stockyardlaw15.IntegrateRemains", spec := "integrateRemains", inPlace := ["internal/bytealg.CountString", "internal/bytealg.IndexByteString", "internal/bytealg.IndexString", "internal/bytealg.abigen_runtime_cmpstring"], named := ["unicode/utf8.first", "unicode/utf8.acceptRanges", "internal/bytealg.MaxLen"], plainKeys := false, apart := false, laid := [("unicode/utf8.acceptRanges", laid_unicode_utf8_acceptRanges), ("unicode/utf8.first", laid_unicode_utf8_first)], narrowed := true }
def IntegrateRemainsUptoSaid : Prop := integrateRemainsUptoRow.holds Tryd.pinned (OpenSpec.upto integrateRemainsSpec)

/-- 'stockyardlaw15.IntegrateTakes', WHERE WHAT IT READS IS OF BULK AT MOST 1048576: true; the input reads as it did. -/
def integrateTakesUptoRow : OpenClaim := { program := "ytmlhfnodnnbbnaadoor", sum := "7d7a46c70ef899f4fd204b9c8c2a98da2f27f7810bc7507755993507f69057dd", func := "stockyard/stockyardlaw15.IntegrateTakes", spec := "integrateTakes", inPlace := ["internal/bytealg.CountString", "internal/bytealg.IndexByteString", "internal/bytealg.IndexString", "internal/bytealg.abigen_runtime_cmpstring"], named := ["unicode/utf8.first", "unicode/utf8.acceptRanges", "internal/bytealg.MaxLen"], plainKeys := false, apart := false, laid := [("unicode/utf8.acceptRanges", laid_unicode_utf8_acceptRanges), ("unicode/utf8.first", laid_unicode_utf8_first)], narrowed := true }
def IntegrateTakesUptoSaid : Prop := integrateTakesUptoRow.holds Tryd.pinned (OpenSpec.upto integrateTakesSpec)

/-- 'stockyardlaw15.IntegrateBack', WHERE WHAT IT READS IS OF BULK AT MOST 1048576: true; the input reads as it did. -/
def integrateBackUptoRow : OpenClaim := { program := "ytmlhfnodnnbbnaadoor", sum := "7d7a46c70ef899f4fd204b9c8c2a98da2f27f7810bc7507755993507f69057dd", func := "stockyard/stockyardlaw15.IntegrateBack", spec := "integrateBack", inPlace := ["internal/bytealg.CountString", "internal/bytealg.IndexByteString", "internal/bytealg.IndexString", "internal/bytealg.abigen_runtime_cmpstring"], named := ["unicode/utf8.first", "unicode/utf8.acceptRanges", "internal/bytealg.MaxLen"], plainKeys := false, apart := false, laid := [("unicode/utf8.acceptRanges", laid_unicode_utf8_acceptRanges), ("unicode/utf8.first", laid_unicode_utf8_first)], narrowed := true }
def IntegrateBackUptoSaid : Prop := integrateBackUptoRow.holds Tryd.pinned (OpenSpec.upto integrateBackSpec)

/-- 'stockyardlaw15.IntegrateRenames', WHERE WHAT IT READS IS OF BULK AT MOST 1048576: true; the input reads as it did. -/
def integrateRenamesUptoRow : OpenClaim := { program := "ytmlhfnodnnbbnaadoor", sum := "7d7a46c70ef899f4fd204b9c8c2a98da2f27f7810bc7507755993507f69057dd", func := "stockyard/stockyardlaw15.IntegrateRenames", spec := "integrateRenames", inPlace := ["internal/bytealg.CountString", "internal/bytealg.IndexByteString", "internal/bytealg.IndexString", "internal/bytealg.abigen_runtime_cmpstring"], named := ["unicode/utf8.first", "unicode/utf8.acceptRanges", "internal/bytealg.MaxLen"], plainKeys := false, apart := false, laid := [("unicode/utf8.acceptRanges", laid_unicode_utf8_acceptRanges), ("unicode/utf8.first", laid_unicode_utf8_first)], narrowed := true }
def IntegrateRenamesUptoSaid : Prop := integrateRenamesUptoRow.holds Tryd.pinned (OpenSpec.upto integrateRenamesSpec)

/-- 'stockyardlaw17.ResolveMakes', WHERE WHAT IT READS IS OF BULK AT MOST 1048576: true; the input reads as it did. -/
def resolveMakesUptoRow : OpenClaim := { program := "ytmlhfnodnnbbnaadoor", sum := "7d7a46c70ef899f4fd204b9c8c2a98da2f27f7810bc7507755993507f69057dd", func := "stockyard/stockyardlaw17.ResolveMakes", spec := "resolveMakes", inPlace := ["internal/bytealg.CountString", "internal/bytealg.IndexByteString", "internal/bytealg.IndexString", "internal/bytealg.abigen_runtime_cmpstring"], unfollowed := true, recurses := true, named := ["unicode/utf8.first", "unicode/utf8.acceptRanges", "internal/bytealg.MaxLen"], plainKeys := false, apart := false, laid := [("unicode/utf8.acceptRanges", laid_unicode_utf8_acceptRanges), ("unicode/utf8.first", laid_unicode_utf8_first)], narrowed := true }
def ResolveMakesUptoSaid : Prop := resolveMakesUptoRow.holds Tryd.pinned (OpenSpec.upto resolveMakesSpec)

end Rows
end Go.Proofs.YtmlhfnodnnbbnaaDoor

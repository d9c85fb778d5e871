/-
  NARROWER THAN 'FOR EVERY INPUT', by the rows' own cells (each row's printed sentence says how): IntegrateTasks: laid · IntegrateRuns: laid · ResolvePair: laid · ResolveFits: laid.
  DERIVED. THE GIVEN ROWS OF THIS SEAT. 4 by the template 'for every input the law returns true; each argument reads behind the call as it read before'; 0 by the template 'total and deterministic' (their statements: YtcpgicfphakdaaaGreatDoorTotals.lean).
  GIVEN WITH THE SEED: the statements are not yours to turn. If you find one false, say at which input.
  Laid BY PROGRAM, IN A SANDBOX (cutbox-rows.mjs): the forced cells as the released guide's own fill.sh prints them over the translation 5315fe35be3d5bca… (all of the seat's roots in one cut). By AI agents, Wed Nov 11 2026. No macro, syntax, notation, axiom, sorry.
-/
import Derived.Test.YtcpgicfphakdaaaGreatDoorChecked
import GoSem.PinnedTables
import GoSem.Claim
import GoSem.ClaimJoined
import GoSem.ClaimMapViews
import Derived.JoinedTies
import Derived.KernelRfl
namespace Go.Proofs.YtcpgicfphakdaaaGreatDoor
/- THE CELL 'sum', in the pinned program and in every row, IS THE sha256 OF THE DUMP (.gsa) THAT YtcpgicfphakdaaaGreatDoorProg.lean LOADS. Nothing in Lean hashes anything: it is a label: what it is worth is what the hold of that sum in a sandbox is worth. -/
noncomputable def Tryz.pinned : Pinned := { name := "ytcpgicfphakdaaagreatdoor", sum := "5315fe35be3d5bcaa40a604c5edbb9233dbd807984028206599bb173e7014c17", checked := Tryz.checked }
namespace Rows
def none {H : Type} : Left H := { results := [], args := [] }

/- WHAT THE LISTED PACKAGE-LEVEL VARIABLES READ AS WHEN THE CALL BEGINS. Each datum BY PROGRAM (the guide's laid-datum.mjs) off the statement by which the dump's own 'gosem.cut.vars' lays the variable. In a bare row this is a premise. The card (YtcpgicfphakdaaaGreatDoorCards.lean) ties it to the program's text. -/
def laid_unicode_utf8_acceptRanges {H : Type} : DataW H := .agg [.agg [.lit (.int .u8 128), .lit (.int .u8 191)], .agg [.lit (.int .u8 160), .lit (.int .u8 191)], .agg [.lit (.int .u8 128), .lit (.int .u8 159)], .agg [.lit (.int .u8 144), .lit (.int .u8 191)], .agg [.lit (.int .u8 128), .lit (.int .u8 143)], .agg [.lit (.int .u8 0), .lit (.int .u8 0)], .agg [.lit (.int .u8 0), .lit (.int .u8 0)], .agg [.lit (.int .u8 0), .lit (.int .u8 0)], .agg [.lit (.int .u8 0), .lit (.int .u8 0)], .agg [.lit (.int .u8 0), .lit (.int .u8 0)], .agg [.lit (.int .u8 0), .lit (.int .u8 0)], .agg [.lit (.int .u8 0), .lit (.int .u8 0)], .agg [.lit (.int .u8 0), .lit (.int .u8 0)], .agg [.lit (.int .u8 0), .lit (.int .u8 0)], .agg [.lit (.int .u8 0), .lit (.int .u8 0)], .agg [.lit (.int .u8 0), .lit (.int .u8 0)]]
/-- One of Go's own tables, pinned by name: the form's constant. -/
def laid_unicode_utf8_first : DataW Unit := Go.Pinned.utf8First

/-- 'stockyardlaw15.IntegrateTasks': WHATEVER THE INPUT: true; the input reads as it did. -/
def integrateTasksSpec : ChangeSpec := { name := "integrateTasks", fn := fun _ => fun
  | [d1, d2] => { results := [.lit (.bool true)], args := [d1, d2] }
  | _ => none }
def integrateTasksRow : OpenClaim := { program := "ytcpgicfphakdaaagreatdoor", sum := "5315fe35be3d5bcaa40a604c5edbb9233dbd807984028206599bb173e7014c17", func := "stockyard/stockyardlaw15.IntegrateTasks", spec := "integrateTasks", inPlace := ["internal/bytealg.CountString", "internal/bytealg.IndexByteString", "internal/bytealg.IndexString", "internal/bytealg.abigen_runtime_cmpstring", "internal/abi.NoEscape", "internal/bytealg.MakeNoZero"], unfollowed := true, recurses := true, named := ["unicode/utf8.first", "unicode/utf8.acceptRanges", "internal/bytealg.MaxLen"], plainKeys := false, apart := false, laid := [("unicode/utf8.acceptRanges", laid_unicode_utf8_acceptRanges), ("unicode/utf8.first", laid_unicode_utf8_first)] }
def IntegrateTasksSaid : Prop := integrateTasksRow.holds Tryz.pinned (OpenSpec.ofChange integrateTasksSpec)

/-- ITS FALSE NEIGHBOUR: 'it returns false'. Refute it at one input. -/
def integrateTasksWrong : ChangeSpec := { name := "integrateTasks", fn := fun _ => fun
  | [d1, d2] => { results := [.lit (.bool false)], args := [d1, d2] }
  | _ => none }
def IntegrateTasksWrongFalsely : Prop := integrateTasksRow.holds Tryz.pinned (OpenSpec.ofChange integrateTasksWrong)

/-- 'stockyardlaw15.IntegrateRuns': WHATEVER THE INPUT: true; the input reads as it did. -/
def integrateRunsSpec : ChangeSpec := { name := "integrateRuns", fn := fun _ => fun
  | [d1, d2] => { results := [.lit (.bool true)], args := [d1, d2] }
  | _ => none }
def integrateRunsRow : OpenClaim := { program := "ytcpgicfphakdaaagreatdoor", sum := "5315fe35be3d5bcaa40a604c5edbb9233dbd807984028206599bb173e7014c17", func := "stockyard/stockyardlaw15.IntegrateRuns", spec := "integrateRuns", inPlace := ["internal/bytealg.CountString", "internal/bytealg.IndexByteString", "internal/bytealg.IndexString", "internal/bytealg.abigen_runtime_cmpstring", "internal/abi.NoEscape", "internal/bytealg.MakeNoZero"], unfollowed := true, recurses := true, named := ["unicode/utf8.first", "unicode/utf8.acceptRanges", "internal/bytealg.MaxLen"], plainKeys := false, apart := false, laid := [("unicode/utf8.acceptRanges", laid_unicode_utf8_acceptRanges), ("unicode/utf8.first", laid_unicode_utf8_first)] }
def IntegrateRunsSaid : Prop := integrateRunsRow.holds Tryz.pinned (OpenSpec.ofChange integrateRunsSpec)

/-- ITS FALSE NEIGHBOUR: 'it returns false'. Refute it at one input. -/
def integrateRunsWrong : ChangeSpec := { name := "integrateRuns", fn := fun _ => fun
  | [d1, d2] => { results := [.lit (.bool false)], args := [d1, d2] }
  | _ => none }
def IntegrateRunsWrongFalsely : Prop := integrateRunsRow.holds Tryz.pinned (OpenSpec.ofChange integrateRunsWrong)

/-- 'stockyardlaw17.ResolvePair': WHATEVER THE INPUT: true; the input reads as it did. -/
def resolvePairSpec : ChangeSpec := { name := "resolvePair", fn := fun _ => fun
  | [d1, d2, d3, d4, d5] => { results := [.lit (.bool true)], args := [d1, d2, d3, d4, d5] }
  | _ => none }
def resolvePairRow : OpenClaim := { program := "ytcpgicfphakdaaagreatdoor", sum := "5315fe35be3d5bcaa40a604c5edbb9233dbd807984028206599bb173e7014c17", func := "stockyard/stockyardlaw17.ResolvePair", spec := "resolvePair", inPlace := ["internal/bytealg.CountString", "internal/bytealg.IndexByteString", "internal/bytealg.IndexString", "internal/bytealg.abigen_runtime_cmpstring", "internal/abi.NoEscape", "internal/bytealg.MakeNoZero"], unfollowed := true, recurses := true, named := ["unicode/utf8.first", "unicode/utf8.acceptRanges", "internal/bytealg.MaxLen"], plainKeys := false, apart := false, laid := [("unicode/utf8.acceptRanges", laid_unicode_utf8_acceptRanges), ("unicode/utf8.first", laid_unicode_utf8_first)] }
def ResolvePairSaid : Prop := resolvePairRow.holds Tryz.pinned (OpenSpec.ofChange resolvePairSpec)

/-- ITS FALSE NEIGHBOUR: 'it returns false'. Refute it at one input. -/
def resolvePairWrong : ChangeSpec := { name := "resolvePair", fn := fun _ => fun
  | [d1, d2, d3, d4, d5] => { results := [.lit (.bool false)], args := [d1, d2, d3, d4, d5] }
  | _ => none }
def ResolvePairWrongFalsely : Prop := resolvePairRow.holds Tryz.pinned (OpenSpec.ofChange resolvePairWrong)

/-- 'stockyardlaw17.ResolveFits': WHATEVER THE INPUT: true; the input reads as it did. -/
def resolveFitsSpec : ChangeSpec := { name := "resolveFits", fn := fun _ => fun
  | [d1, d2, d3, d4, d5] => { results := [.lit (.bool true)], args := [d1, d2, d3, d4, d5] }
  | _ => none }
def resolveFitsRow : OpenClaim := { program := "ytcpgicfphakdaaagreatdoor", sum := "5315fe35be3d5bcaa40a604c5edbb9233dbd807984028206599bb173e7014c17", func := "stockyard/stockyardlaw17.ResolveFits", spec := "resolveFits", inPlace := ["internal/bytealg.CountString", "internal/bytealg.IndexByteString", "internal/bytealg.IndexString", "internal/bytealg.abigen_runtime_cmpstring", "internal/abi.NoEscape", "internal/bytealg.MakeNoZero"], unfollowed := true, recurses := true, named := ["unicode/utf8.first", "unicode/utf8.acceptRanges", "internal/bytealg.MaxLen"], plainKeys := false, apart := false, laid := [("unicode/utf8.acceptRanges", laid_unicode_utf8_acceptRanges), ("unicode/utf8.first", laid_unicode_utf8_first)] }
def ResolveFitsSaid : Prop := resolveFitsRow.holds Tryz.pinned (OpenSpec.ofChange resolveFitsSpec)

/-- ITS FALSE NEIGHBOUR: 'it returns false'. Refute it at one input. -/
def resolveFitsWrong : ChangeSpec := { name := "resolveFits", fn := fun _ => fun
  | [d1, d2, d3, d4, d5] => { results := [.lit (.bool false)], args := [d1, d2, d3, d4, d5] }
  | _ => none }
def ResolveFitsWrongFalsely : Prop := resolveFitsRow.holds Tryz.pinned (OpenSpec.ofChange resolveFitsWrong)

/- THE SECOND FORM. 'bulk': how many values and letters a reading holds, each counted each time it is reached (what is shared counts as often as it is met; a slice's spare places count too). A statement '..UptoSaid' is the law's where the arguments, and the package variables that the reading takes, are together of bulk at most 1048576: NARROWER than '..Said'. Prove '..Said' where nothing that the law and all that it calls make is longer than what came in: it says more and counts as full. Else prove '..UptoSaid'. A law counts once. -/
mutual
def uptoBulk {H : Type} : DataW H → Nat
  | .lit (.string bytes) => bytes.length + 1
  | .lit _ => 1
  | .nil => 1
  | .ptr d => uptoBulk d + 1
  | .slice elems spare => uptoBulkAll elems + uptoBulkAll spare + 1
  | .agg parts => uptoBulkAll parts + 1
  | .iface _ d => uptoBulk d + 1
  | .map entries => uptoBulkEntries entries + 1
  | .held _ => 1
def uptoBulkAll {H : Type} : List (DataW H) → Nat
  | [] => 0
  | d :: r => uptoBulk d + uptoBulkAll r
def uptoBulkEntries {H : Type} : List (Lit × DataW H) → Nat
  | [] => 0
  | x :: r => uptoBulkEntry x + uptoBulkEntries r
def uptoBulkEntry {H : Type} : Lit × DataW H → Nat
  | (.string bytes, d) => bytes.length + uptoBulk d + 1
  | (_, d) => uptoBulk d + 1
 end
def uptoSmall : (H : Type) → List (DataW H) → Bool := fun _ ds => decide (uptoBulkAll ds ≤ 1048576)
def OpenSpec.upto (s : _root_.Go.ChangeSpec) : _root_.Go.OpenSpec := { _root_.Go.OpenSpec.ofChange s with cond := some uptoSmall }

/-- 'stockyardlaw15.IntegrateTasks', WHERE WHAT IT READS IS OF BULK AT MOST 1048576: true; the input reads as it did. -/
def integrateTasksUptoRow : OpenClaim := { program := "ytcpgicfphakdaaagreatdoor", sum := "5315fe35be3d5bcaa40a604c5edbb9233dbd807984028206599bb173e7014c17", func := "stockyard/stockyardlaw15.IntegrateTasks", spec := "integrateTasks", inPlace := ["internal/bytealg.CountString", "internal/bytealg.IndexByteString", "internal/bytealg.IndexString", "internal/bytealg.abigen_runtime_cmpstring", "internal/abi.NoEscape", "internal/bytealg.MakeNoZero"], unfollowed := true, recurses := true, named := ["unicode/utf8.first", "unicode/utf8.acceptRanges", "internal/bytealg.MaxLen"], plainKeys := false, apart := false, laid := [("unicode/utf8.acceptRanges", laid_unicode_utf8_acceptRanges), ("unicode/utf8.first", laid_unicode_utf8_first)], narrowed := true }
def IntegrateTasksUptoSaid : Prop := integrateTasksUptoRow.holds Tryz.pinned (OpenSpec.upto integrateTasksSpec)

/-- 'stockyardlaw15.IntegrateRuns', WHERE WHAT IT READS IS OF BULK AT MOST 1048576: true; the input reads as it did. -/
def integrateRunsUptoRow : OpenClaim := { program := "ytcpgicfphakdaaagreatdoor", sum := "5315fe35be3d5bcaa40a604c5edbb9233dbd807984028206599bb173e7014c17", func := "stockyard/stockyardlaw15.IntegrateRuns", spec := "integrateRuns", inPlace := ["internal/bytealg.CountString", "internal/bytealg.IndexByteString", "internal/bytealg.IndexString", "internal/bytealg.abigen_runtime_cmpstring", "internal/abi.NoEscape", "internal/bytealg.MakeNoZero"], unfollowed := true, recurses := true, named := ["unicode/utf8.first", "unicode/utf8.acceptRanges", "internal/bytealg.MaxLen"], plainKeys := false, apart := false, laid := [("unicode/utf8.acceptRanges", laid_unicode_utf8_acceptRanges), ("unicode/utf8.first", laid_unicode_utf8_first)], narrowed := true }
def IntegrateRunsUptoSaid : Prop := integrateRunsUptoRow.holds Tryz.pinned (OpenSpec.upto integrateRunsSpec)

/-- 'stockyardlaw17.ResolvePair', WHERE WHAT IT READS IS OF BULK AT MOST 1048576: true; the input reads as it did. -/
def resolvePairUptoRow : OpenClaim := { program := "ytcpgicfphakdaaagreatdoor", sum := "5315fe35be3d5bcaa40a604c5edbb9233dbd807984028206599bb173e7014c17", func := "stockyard/stockyardlaw17.ResolvePair", spec := "resolvePair", inPlace := ["internal/bytealg.CountString", "internal/bytealg.IndexByteString", "internal/bytealg.IndexString", "internal/bytealg.abigen_runtime_cmpstring", "internal/abi.NoEscape", "internal/bytealg.MakeNoZero"], unfollowed := true, recurses := true, named := ["unicode/utf8.first", "unicode/utf8.acceptRanges", "internal/bytealg.MaxLen"], plainKeys := false, apart := false, laid := [("unicode/utf8.acceptRanges", laid_unicode_utf8_acceptRanges), ("unicode/utf8.first", laid_unicode_utf8_first)], narrowed := true }
def ResolvePairUptoSaid : Prop := resolvePairUptoRow.holds Tryz.pinned (OpenSpec.upto resolvePairSpec)

/-- 'stockyardlaw17.ResolveFits', WHERE WHAT IT READS IS OF BULK AT MOST 1048576: true; the input reads as it did. -/
def resolveFitsUptoRow : OpenClaim := { program := "ytcpgicfphakdaaagreatdoor", sum := "5315fe35be3d5bcaa40a604c5edbb9233dbd807984028206599bb173e7014c17", func := "stockyard/stockyardlaw17.ResolveFits", spec := "resolveFits", inPlace := ["internal/bytealg.CountString", "internal/bytealg.IndexByteString", "internal/bytealg.IndexString", "internal/bytealg.abigen_runtime_cmpstring", "internal/abi.NoEscape", "internal/bytealg.MakeNoZero"], unfollowed := true, recurses := true, named := ["unicode/utf8.first", "unicode/utf8.acceptRanges", "internal/bytealg.MaxLen"], plainKeys := false, apart := false, laid := [("unicode/utf8.acceptRanges", laid_unicode_utf8_acceptRanges), ("unicode/utf8.first", laid_unicode_utf8_first)], narrowed := true }
def ResolveFitsUptoSaid : Prop := resolveFitsUptoRow.holds Tryz.pinned (OpenSpec.upto resolveFitsSpec)

end Rows
end Go.Proofs.YtcpgicfphakdaaaGreatDoor

/-
  DERIVED. GIVEN WITH THE SEED: THE CARDS: each row of YtmhboloicpieeaaGreatDoorRows.lean that lists a variable, with what it lists TIED to the program's text (the seventh form; the later family's looks); each row that meets fmt, with fmt's text TOLD by the authors' own Lean function (tested against real Go, not proved from fmt's source: count such statements apart). THE CARD IS WHAT COUNTS. Prove the row's statement (the work); the ties are given (YtmhboloicpieeaaGreatDoorTie.lean); close each card by the builder's one call (the guide's Derived/Test/ToyasCard.lean, 'card_holds'). Laid BY PROGRAM, IN A SANDBOX (cutbox-door.mjs). By AI agents, Wed Nov 11 2026. No macro, syntax, notation, axiom, sorry.
-/
import Derived.Test.YtmhboloicpieeaaGreatDoorRows
import GoSem.ClaimSeven
namespace Go.Proofs.YtmhboloicpieeaaGreatDoor
namespace Rows

/-- THE TIED CARD OF 'stockyardlaw17.ResolveKeeps'. -/
def resolveKeepsCard : Claim7 := { stood := { row := resolveKeepsRow, standIns := [], harness := (true, "9ce4f052c4663307bf6ca2c620fe01f76c6ec2bea009f17631e31d31896b0d06"), looks := false }, kinds := [], alts := [], laidByText := true, laidKinds := [.data, .pinned], laidTests := true, laidLooks := .later }
def ResolveKeepsCardSaid : Prop := Claim7.holds Tryz.pinned (.plain (OpenSpec.ofChange resolveKeepsSpec)) resolveKeepsCard

/-- THE TIED CARD OF 'stockyardlaw17.ResolveStale'. -/
def resolveStaleCard : Claim7 := { stood := { row := resolveStaleRow, standIns := [], harness := (true, "9ce4f052c4663307bf6ca2c620fe01f76c6ec2bea009f17631e31d31896b0d06"), looks := false }, kinds := [], alts := [], laidByText := true, laidKinds := [.data, .pinned], laidTests := true, laidLooks := .later }
def ResolveStaleCardSaid : Prop := Claim7.holds Tryz.pinned (.plain (OpenSpec.ofChange resolveStaleSpec)) resolveStaleCard

/-- THE TIED CARD OF 'stockyardlaw15.IntegrateTasks'. -/
def integrateTasksCard : Claim7 := { stood := { row := integrateTasksRow, standIns := [], harness := (true, "9ce4f052c4663307bf6ca2c620fe01f76c6ec2bea009f17631e31d31896b0d06"), looks := false }, kinds := [], alts := [], laidByText := true, laidKinds := [.data, .pinned], laidTests := true, laidLooks := .later }
def IntegrateTasksCardSaid : Prop := Claim7.holds Tryz.pinned (.plain (OpenSpec.ofChange integrateTasksSpec)) integrateTasksCard

/-- THE TIED CARD OF 'stockyardlaw15.IntegrateRuns'. -/
def integrateRunsCard : Claim7 := { stood := { row := integrateRunsRow, standIns := [], harness := (true, "9ce4f052c4663307bf6ca2c620fe01f76c6ec2bea009f17631e31d31896b0d06"), looks := false }, kinds := [], alts := [], laidByText := true, laidKinds := [.data, .pinned], laidTests := true, laidLooks := .later }
def IntegrateRunsCardSaid : Prop := Claim7.holds Tryz.pinned (.plain (OpenSpec.ofChange integrateRunsSpec)) integrateRunsCard

/-- THE SECOND FORM's CARD OF 'stockyardlaw17.ResolveKeeps'. -/
def resolveKeepsUptoCard : Claim7 := { stood := { row := resolveKeepsUptoRow, standIns := [], harness := (true, "9ce4f052c4663307bf6ca2c620fe01f76c6ec2bea009f17631e31d31896b0d06"), looks := false }, kinds := [], alts := [], laidByText := true, laidKinds := [.data, .pinned], laidTests := true, laidLooks := .later }
def ResolveKeepsUptoCardSaid : Prop := Claim7.holds Tryz.pinned (.plain (OpenSpec.upto resolveKeepsSpec)) resolveKeepsUptoCard

/-- THE SECOND FORM's CARD OF 'stockyardlaw17.ResolveStale'. -/
def resolveStaleUptoCard : Claim7 := { stood := { row := resolveStaleUptoRow, standIns := [], harness := (true, "9ce4f052c4663307bf6ca2c620fe01f76c6ec2bea009f17631e31d31896b0d06"), looks := false }, kinds := [], alts := [], laidByText := true, laidKinds := [.data, .pinned], laidTests := true, laidLooks := .later }
def ResolveStaleUptoCardSaid : Prop := Claim7.holds Tryz.pinned (.plain (OpenSpec.upto resolveStaleSpec)) resolveStaleUptoCard

/-- THE SECOND FORM's CARD OF 'stockyardlaw15.IntegrateTasks'. -/
def integrateTasksUptoCard : Claim7 := { stood := { row := integrateTasksUptoRow, standIns := [], harness := (true, "9ce4f052c4663307bf6ca2c620fe01f76c6ec2bea009f17631e31d31896b0d06"), looks := false }, kinds := [], alts := [], laidByText := true, laidKinds := [.data, .pinned], laidTests := true, laidLooks := .later }
def IntegrateTasksUptoCardSaid : Prop := Claim7.holds Tryz.pinned (.plain (OpenSpec.upto integrateTasksSpec)) integrateTasksUptoCard

/-- THE SECOND FORM's CARD OF 'stockyardlaw15.IntegrateRuns'. -/
def integrateRunsUptoCard : Claim7 := { stood := { row := integrateRunsUptoRow, standIns := [], harness := (true, "9ce4f052c4663307bf6ca2c620fe01f76c6ec2bea009f17631e31d31896b0d06"), looks := false }, kinds := [], alts := [], laidByText := true, laidKinds := [.data, .pinned], laidTests := true, laidLooks := .later }
def IntegrateRunsUptoCardSaid : Prop := Claim7.holds Tryz.pinned (.plain (OpenSpec.upto integrateRunsSpec)) integrateRunsUptoCard
end Rows
end Go.Proofs.YtmhboloicpieeaaGreatDoor

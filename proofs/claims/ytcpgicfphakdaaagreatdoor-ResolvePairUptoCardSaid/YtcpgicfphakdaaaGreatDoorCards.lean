/-
  DERIVED. GIVEN WITH THE SEED: THE CARDS: each row of YtcpgicfphakdaaaGreatDoorRows.lean that lists a variable, with what it lists TIED to the program's text (the seventh form; the later family's looks); each row that meets fmt, with fmt's text TOLD by the authors' own Lean function (tested against real Go, not proved from fmt's source: count such statements apart). THE CARD IS WHAT COUNTS. Prove the row's statement (the work); the ties are given (YtcpgicfphakdaaaGreatDoorTie.lean); close each card by the builder's one call (the guide's Derived/Test/ToyasCard.lean, 'card_holds'). Laid BY PROGRAM, IN A SANDBOX (cutbox-door.mjs). By AI agents, Wed Nov 11 2026. No macro, syntax, notation, axiom, sorry.
-/
import Derived.Test.YtcpgicfphakdaaaGreatDoorRows
import GoSem.ClaimSeven
namespace Go.Proofs.YtcpgicfphakdaaaGreatDoor
namespace Rows

/-- THE TIED CARD OF 'stockyardlaw15.IntegrateTasks'. -/
def integrateTasksCard : Claim7 := { stood := { row := integrateTasksRow, standIns := [], harness := (true, "8bd6407d51077e1bdddac0f4444de54ac1f10c36519e31ce47329cc89e2259be"), looks := false }, kinds := [], alts := [], laidByText := true, laidKinds := [.data, .pinned], laidTests := true, laidLooks := .later }
def IntegrateTasksCardSaid : Prop := Claim7.holds Tryz.pinned (.plain (OpenSpec.ofChange integrateTasksSpec)) integrateTasksCard

/-- THE TIED CARD OF 'stockyardlaw15.IntegrateRuns'. -/
def integrateRunsCard : Claim7 := { stood := { row := integrateRunsRow, standIns := [], harness := (true, "8bd6407d51077e1bdddac0f4444de54ac1f10c36519e31ce47329cc89e2259be"), looks := false }, kinds := [], alts := [], laidByText := true, laidKinds := [.data, .pinned], laidTests := true, laidLooks := .later }
def IntegrateRunsCardSaid : Prop := Claim7.holds Tryz.pinned (.plain (OpenSpec.ofChange integrateRunsSpec)) integrateRunsCard

/-- THE TIED CARD OF 'stockyardlaw17.ResolvePair'. -/
def resolvePairCard : Claim7 := { stood := { row := resolvePairRow, standIns := [], harness := (true, "8bd6407d51077e1bdddac0f4444de54ac1f10c36519e31ce47329cc89e2259be"), looks := false }, kinds := [], alts := [], laidByText := true, laidKinds := [.data, .pinned], laidTests := true, laidLooks := .later }
def ResolvePairCardSaid : Prop := Claim7.holds Tryz.pinned (.plain (OpenSpec.ofChange resolvePairSpec)) resolvePairCard

/-- THE TIED CARD OF 'stockyardlaw17.ResolveFits'. -/
def resolveFitsCard : Claim7 := { stood := { row := resolveFitsRow, standIns := [], harness := (true, "8bd6407d51077e1bdddac0f4444de54ac1f10c36519e31ce47329cc89e2259be"), looks := false }, kinds := [], alts := [], laidByText := true, laidKinds := [.data, .pinned], laidTests := true, laidLooks := .later }
def ResolveFitsCardSaid : Prop := Claim7.holds Tryz.pinned (.plain (OpenSpec.ofChange resolveFitsSpec)) resolveFitsCard

/-- THE SECOND FORM's CARD OF 'stockyardlaw15.IntegrateTasks'. -/
def integrateTasksUptoCard : Claim7 := { stood := { row := integrateTasksUptoRow, standIns := [], harness := (true, "8bd6407d51077e1bdddac0f4444de54ac1f10c36519e31ce47329cc89e2259be"), looks := false }, kinds := [], alts := [], laidByText := true, laidKinds := [.data, .pinned], laidTests := true, laidLooks := .later }
def IntegrateTasksUptoCardSaid : Prop := Claim7.holds Tryz.pinned (.plain (OpenSpec.upto integrateTasksSpec)) integrateTasksUptoCard

/-- THE SECOND FORM's CARD OF 'stockyardlaw15.IntegrateRuns'. -/
def integrateRunsUptoCard : Claim7 := { stood := { row := integrateRunsUptoRow, standIns := [], harness := (true, "8bd6407d51077e1bdddac0f4444de54ac1f10c36519e31ce47329cc89e2259be"), looks := false }, kinds := [], alts := [], laidByText := true, laidKinds := [.data, .pinned], laidTests := true, laidLooks := .later }
def IntegrateRunsUptoCardSaid : Prop := Claim7.holds Tryz.pinned (.plain (OpenSpec.upto integrateRunsSpec)) integrateRunsUptoCard

/-- THE SECOND FORM's CARD OF 'stockyardlaw17.ResolvePair'. -/
def resolvePairUptoCard : Claim7 := { stood := { row := resolvePairUptoRow, standIns := [], harness := (true, "8bd6407d51077e1bdddac0f4444de54ac1f10c36519e31ce47329cc89e2259be"), looks := false }, kinds := [], alts := [], laidByText := true, laidKinds := [.data, .pinned], laidTests := true, laidLooks := .later }
def ResolvePairUptoCardSaid : Prop := Claim7.holds Tryz.pinned (.plain (OpenSpec.upto resolvePairSpec)) resolvePairUptoCard

/-- THE SECOND FORM's CARD OF 'stockyardlaw17.ResolveFits'. -/
def resolveFitsUptoCard : Claim7 := { stood := { row := resolveFitsUptoRow, standIns := [], harness := (true, "8bd6407d51077e1bdddac0f4444de54ac1f10c36519e31ce47329cc89e2259be"), looks := false }, kinds := [], alts := [], laidByText := true, laidKinds := [.data, .pinned], laidTests := true, laidLooks := .later }
def ResolveFitsUptoCardSaid : Prop := Claim7.holds Tryz.pinned (.plain (OpenSpec.upto resolveFitsSpec)) resolveFitsUptoCard
end Rows
end Go.Proofs.YtcpgicfphakdaaaGreatDoor

/-
  DERIVED. GIVEN WITH THE SEED: THE CARDS: each row of YtbllfnmabmamfaaGreatDoorRows.lean that lists a variable, with what it lists TIED to the program's text (the seventh form; the later family's looks); each row that meets fmt, with fmt's text TOLD by the authors' own Lean function (tested against real Go, not proved from fmt's source: count such statements apart). THE CARD IS WHAT COUNTS. Prove the row's statement (the work); the ties are given (YtbllfnmabmamfaaGreatDoorTie.lean); close each card by the builder's one call (the guide's Derived/Test/ToyasCard.lean, 'card_holds'). Laid BY PROGRAM, IN A SANDBOX (cutbox-door.mjs). By AI agents, Wed Nov 11 2026. No macro, syntax, notation, axiom, sorry.
-/
import Derived.Test.YtbllfnmabmamfaaGreatDoorRows
import GoSem.ClaimSeven
namespace Go.Proofs.YtbllfnmabmamfaaGreatDoor
namespace Rows

/-- THE TIED CARD OF 'stockyardlaw17.ResolveKeeps'. -/
def resolveKeepsCard : Claim7 := { stood := { row := resolveKeepsRow, standIns := [], harness := (true, "fe89a05e7f42e89d144191199149fc54f494afee0d4c303ffb21e1893e414599"), looks := false }, kinds := [], alts := [], laidByText := true, laidKinds := [.data, .pinned], laidTests := true, laidLooks := .later }
def ResolveKeepsCardSaid : Prop := Claim7.holds Tryz.pinned (.plain (OpenSpec.ofChange resolveKeepsSpec)) resolveKeepsCard

/-- THE TIED CARD OF 'stockyardlaw17.ResolveChoices'. -/
def resolveChoicesCard : Claim7 := { stood := { row := resolveChoicesRow, standIns := [], harness := (true, "fe89a05e7f42e89d144191199149fc54f494afee0d4c303ffb21e1893e414599"), looks := false }, kinds := [], alts := [], laidByText := true, laidKinds := [.data, .pinned], laidTests := true, laidLooks := .later }
def ResolveChoicesCardSaid : Prop := Claim7.holds Tryz.pinned (.plain (OpenSpec.ofChange resolveChoicesSpec)) resolveChoicesCard

/-- THE TIED CARD OF 'stockyardlaw15.IntegrateChain'. -/
def integrateChainCard : Claim7 := { stood := { row := integrateChainRow, standIns := [], harness := (true, "fe89a05e7f42e89d144191199149fc54f494afee0d4c303ffb21e1893e414599"), looks := false }, kinds := [], alts := [], laidByText := true, laidKinds := [.data, .pinned], laidTests := true, laidLooks := .later }
def IntegrateChainCardSaid : Prop := Claim7.holds Tryz.pinned (.plain (OpenSpec.ofChange integrateChainSpec)) integrateChainCard

/-- THE TIED CARD OF 'stockyardlaw15.IntegrateExact'. -/
def integrateExactCard : Claim7 := { stood := { row := integrateExactRow, standIns := [], harness := (true, "fe89a05e7f42e89d144191199149fc54f494afee0d4c303ffb21e1893e414599"), looks := false }, kinds := [], alts := [], laidByText := true, laidKinds := [.data, .pinned], laidTests := true, laidLooks := .later }
def IntegrateExactCardSaid : Prop := Claim7.holds Tryz.pinned (.plain (OpenSpec.ofChange integrateExactSpec)) integrateExactCard

/-- THE SECOND FORM's CARD OF 'stockyardlaw17.ResolveKeeps'. -/
def resolveKeepsUptoCard : Claim7 := { stood := { row := resolveKeepsUptoRow, standIns := [], harness := (true, "fe89a05e7f42e89d144191199149fc54f494afee0d4c303ffb21e1893e414599"), looks := false }, kinds := [], alts := [], laidByText := true, laidKinds := [.data, .pinned], laidTests := true, laidLooks := .later }
def ResolveKeepsUptoCardSaid : Prop := Claim7.holds Tryz.pinned (.plain (OpenSpec.upto resolveKeepsSpec)) resolveKeepsUptoCard

/-- THE SECOND FORM's CARD OF 'stockyardlaw17.ResolveChoices'. -/
def resolveChoicesUptoCard : Claim7 := { stood := { row := resolveChoicesUptoRow, standIns := [], harness := (true, "fe89a05e7f42e89d144191199149fc54f494afee0d4c303ffb21e1893e414599"), looks := false }, kinds := [], alts := [], laidByText := true, laidKinds := [.data, .pinned], laidTests := true, laidLooks := .later }
def ResolveChoicesUptoCardSaid : Prop := Claim7.holds Tryz.pinned (.plain (OpenSpec.upto resolveChoicesSpec)) resolveChoicesUptoCard

/-- THE SECOND FORM's CARD OF 'stockyardlaw15.IntegrateChain'. -/
def integrateChainUptoCard : Claim7 := { stood := { row := integrateChainUptoRow, standIns := [], harness := (true, "fe89a05e7f42e89d144191199149fc54f494afee0d4c303ffb21e1893e414599"), looks := false }, kinds := [], alts := [], laidByText := true, laidKinds := [.data, .pinned], laidTests := true, laidLooks := .later }
def IntegrateChainUptoCardSaid : Prop := Claim7.holds Tryz.pinned (.plain (OpenSpec.upto integrateChainSpec)) integrateChainUptoCard

/-- THE SECOND FORM's CARD OF 'stockyardlaw15.IntegrateExact'. -/
def integrateExactUptoCard : Claim7 := { stood := { row := integrateExactUptoRow, standIns := [], harness := (true, "fe89a05e7f42e89d144191199149fc54f494afee0d4c303ffb21e1893e414599"), looks := false }, kinds := [], alts := [], laidByText := true, laidKinds := [.data, .pinned], laidTests := true, laidLooks := .later }
def IntegrateExactUptoCardSaid : Prop := Claim7.holds Tryz.pinned (.plain (OpenSpec.upto integrateExactSpec)) integrateExactUptoCard
end Rows
end Go.Proofs.YtbllfnmabmamfaaGreatDoor

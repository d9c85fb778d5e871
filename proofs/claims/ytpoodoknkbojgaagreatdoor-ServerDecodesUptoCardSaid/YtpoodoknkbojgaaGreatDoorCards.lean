/-
  DERIVED. GIVEN WITH THE SEED: THE CARDS: each row of YtpoodoknkbojgaaGreatDoorRows.lean that lists a variable, with what it lists TIED to the program's text (the seventh form; the later family's looks); each row that meets fmt, with fmt's text TOLD by the authors' own Lean function (tested against real Go, not proved from fmt's source: count such statements apart). THE CARD IS WHAT COUNTS. Prove the row's statement (the work); the ties are given (YtpoodoknkbojgaaGreatDoorTie.lean); close each card by the builder's one call (the guide's Derived/Test/ToyasCard.lean, 'card_holds'). Laid BY PROGRAM, IN A SANDBOX (cutbox-door.mjs). By AI agents, Wed Nov 11 2026. No macro, syntax, notation, axiom, sorry.
-/
import Derived.Test.YtpoodoknkbojgaaGreatDoorRows
import GoSem.ClaimSeven
namespace Go.Proofs.YtpoodoknkbojgaaGreatDoor
namespace Rows

/-- THE TIED CARD OF 'stockyardlaw21.ServerUnlike'. -/
def serverUnlikeCard : Claim7 := { stood := { row := serverUnlikeRow, standIns := [], harness := (true, "557a80c85bceaf08c144ecfe21c3096d7bb1f23bac7e206d26f035d9cc07dec0"), looks := false }, kinds := [], alts := [], laidByText := true, laidKinds := [.data, .pinned], laidTests := true, laidLooks := .later }
def ServerUnlikeCardSaid : Prop := Claim7.holds Tryz.pinned (.plain (OpenSpec.ofChange serverUnlikeSpec)) serverUnlikeCard

/-- THE TIED CARD OF 'stockyardlaw21.ServerDecodes'. -/
def serverDecodesCard : Claim7 := { stood := { row := serverDecodesRow, standIns := [], harness := (true, "557a80c85bceaf08c144ecfe21c3096d7bb1f23bac7e206d26f035d9cc07dec0"), looks := false }, kinds := [], alts := [], laidByText := true, laidKinds := [.data, .pinned], laidTests := true, laidLooks := .later }
def ServerDecodesCardSaid : Prop := Claim7.holds Tryz.pinned (.plain (OpenSpec.ofChange serverDecodesSpec)) serverDecodesCard

/-- THE TIED CARD OF 'stockyardlaw21.ServerCommands'. -/
def serverCommandsCard : Claim7 := { stood := { row := serverCommandsRow, standIns := [], harness := (true, "557a80c85bceaf08c144ecfe21c3096d7bb1f23bac7e206d26f035d9cc07dec0"), looks := false }, kinds := [], alts := [], laidByText := true, laidKinds := [.data, .pinned], laidTests := true, laidLooks := .later }
def ServerCommandsCardSaid : Prop := Claim7.holds Tryz.pinned (.plain (OpenSpec.ofChange serverCommandsSpec)) serverCommandsCard

/-- THE SECOND FORM's CARD OF 'stockyardlaw21.ServerUnlike'. -/
def serverUnlikeUptoCard : Claim7 := { stood := { row := serverUnlikeUptoRow, standIns := [], harness := (true, "557a80c85bceaf08c144ecfe21c3096d7bb1f23bac7e206d26f035d9cc07dec0"), looks := false }, kinds := [], alts := [], laidByText := true, laidKinds := [.data, .pinned], laidTests := true, laidLooks := .later }
def ServerUnlikeUptoCardSaid : Prop := Claim7.holds Tryz.pinned (.plain (OpenSpec.upto serverUnlikeSpec)) serverUnlikeUptoCard

/-- THE SECOND FORM's CARD OF 'stockyardlaw21.ServerDecodes'. -/
def serverDecodesUptoCard : Claim7 := { stood := { row := serverDecodesUptoRow, standIns := [], harness := (true, "557a80c85bceaf08c144ecfe21c3096d7bb1f23bac7e206d26f035d9cc07dec0"), looks := false }, kinds := [], alts := [], laidByText := true, laidKinds := [.data, .pinned], laidTests := true, laidLooks := .later }
def ServerDecodesUptoCardSaid : Prop := Claim7.holds Tryz.pinned (.plain (OpenSpec.upto serverDecodesSpec)) serverDecodesUptoCard

/-- THE SECOND FORM's CARD OF 'stockyardlaw21.ServerCommands'. -/
def serverCommandsUptoCard : Claim7 := { stood := { row := serverCommandsUptoRow, standIns := [], harness := (true, "557a80c85bceaf08c144ecfe21c3096d7bb1f23bac7e206d26f035d9cc07dec0"), looks := false }, kinds := [], alts := [], laidByText := true, laidKinds := [.data, .pinned], laidTests := true, laidLooks := .later }
def ServerCommandsUptoCardSaid : Prop := Claim7.holds Tryz.pinned (.plain (OpenSpec.upto serverCommandsSpec)) serverCommandsUptoCard
end Rows
end Go.Proofs.YtpoodoknkbojgaaGreatDoor

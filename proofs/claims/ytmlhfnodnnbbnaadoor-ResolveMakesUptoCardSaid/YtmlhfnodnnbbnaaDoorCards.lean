/-
  DERIVED. GIVEN WITH THE SEED: THE CARDS: each row of YtmlhfnodnnbbnaaDoorRows.lean that lists a variable, with what it lists TIED to the program's text (the seventh form; the later family's looks); each row that meets fmt, with fmt's text TOLD by the authors' own Lean function (tested against real Go, not proved from fmt's source: count such statements apart). THE CARD IS WHAT COUNTS. Prove the row's statement (the work); the ties are given (YtmlhfnodnnbbnaaDoorTie.lean); close each card by the builder's one call (the guide's Derived/Test/ToyasCard.lean, 'card_holds'). Laid BY PROGRAM, IN A SANDBOX (cutbox-door.mjs). By AI agents, Wed Nov 11 2026. No macro, syntax, notation, axiom, sorry.
-/
import Derived.Test.YtmlhfnodnnbbnaaDoorRows
import GoSem.ClaimSeven
namespace Go.Proofs.YtmlhfnodnnbbnaaDoor
namespace Rows

/-- THE TIED CARD OF 'stockyardlaw15.IntegrateRemains'. -/
def integrateRemainsCard : Claim7 := { stood := { row := integrateRemainsRow, standIns := [], harness := (true, "ab66a0c628e16be4a8290772daa694d17e6ac9386253b8defaef3398195f52c7"), looks := false }, kinds := [], alts := [], laidByText := true, laidKinds := [.data, .pinned], laidTests := true, laidLooks := .later }
def IntegrateRemainsCardSaid : Prop := Claim7.holds Tryd.pinned (.plain (OpenSpec.ofChange integrateRemainsSpec)) integrateRemainsCard

/-- THE TIED CARD OF 'stockyardlaw15.IntegrateTakes'. -/
def integrateTakesCard : Claim7 := { stood := { row := integrateTakesRow, standIns := [], harness := (true, "ab66a0c628e16be4a8290772daa694d17e6ac9386253b8defaef3398195f52c7"), looks := false }, kinds := [], alts := [], laidByText := true, laidKinds := [.data, .pinned], laidTests := true, laidLooks := .later }
def IntegrateTakesCardSaid : Prop := Claim7.holds Tryd.pinned (.plain (OpenSpec.ofChange integrateTakesSpec)) integrateTakesCard

/-- THE TIED CARD OF 'stockyardlaw15.IntegrateBack'. -/
def integrateBackCard : Claim7 := { stood := { row := integrateBackRow, standIns := [], harness := (true, "ab66a0c628e16be4a8290772daa694d17e6ac9386253b8defaef3398195f52c7"), looks := false }, kinds := [], alts := [], laidByText := true, laidKinds := [.data, .pinned], laidTests := true, laidLooks := .later }
def IntegrateBackCardSaid : Prop := Claim7.holds Tryd.pinned (.plain (OpenSpec.ofChange integrateBackSpec)) integrateBackCard

/-- THE TIED CARD OF 'stockyardlaw15.IntegrateRenames'. -/
def integrateRenamesCard : Claim7 := { stood := { row := integrateRenamesRow, standIns := [], harness := (true, "ab66a0c628e16be4a8290772daa694d17e6ac9386253b8defaef3398195f52c7"), looks := false }, kinds := [], alts := [], laidByText := true, laidKinds := [.data, .pinned], laidTests := true, laidLooks := .later }
def IntegrateRenamesCardSaid : Prop := Claim7.holds Tryd.pinned (.plain (OpenSpec.ofChange integrateRenamesSpec)) integrateRenamesCard

/-- THE TIED CARD OF 'stockyardlaw17.ResolveMakes'. -/
def resolveMakesCard : Claim7 := { stood := { row := resolveMakesRow, standIns := [], harness := (true, "ab66a0c628e16be4a8290772daa694d17e6ac9386253b8defaef3398195f52c7"), looks := false }, kinds := [], alts := [], laidByText := true, laidKinds := [.data, .pinned], laidTests := true, laidLooks := .later }
def ResolveMakesCardSaid : Prop := Claim7.holds Tryd.pinned (.plain (OpenSpec.ofChange resolveMakesSpec)) resolveMakesCard

/-- THE SECOND FORM's CARD OF 'stockyardlaw15.IntegrateRemains'. -/
def integrateRemainsUptoCard : Claim7 := { stood := { row := integrateRemainsUptoRow, standIns := [], harness := (true, "ab66a0c628e16be4a8290772daa694d17e6ac9386253b8defaef3398195f52c7"), looks := false }, kinds := [], alts := [], laidByText := true, laidKinds := [.data, .pinned], laidTests := true, laidLooks := .later }
def IntegrateRemainsUptoCardSaid : Prop := Claim7.holds Tryd.pinned (.plain (OpenSpec.upto integrateRemainsSpec)) integrateRemainsUptoCard

/-- THE SECOND FORM's CARD OF 'stockyardlaw15.IntegrateTakes'. -/
def integrateTakesUptoCard : Claim7 := { stood := { row := integrateTakesUptoRow, standIns := [], harness := (true, "ab66a0c628e16be4a8290772daa694d17e6ac9386253b8defaef3398195f52c7"), looks := false }, kinds := [], alts := [], laidByText := true, laidKinds := [.data, .pinned], laidTests := true, laidLooks := .later }
def IntegrateTakesUptoCardSaid : Prop := Claim7.holds Tryd.pinned (.plain (OpenSpec.upto integrateTakesSpec)) integrateTakesUptoCard

/-- THE SECOND FORM's CARD OF 'stockyardlaw15.IntegrateBack'. -/
def integrateBackUptoCard : Claim7 := { stood := { row := integrateBackUptoRow, standIns := [], harness := (true, "ab66a0c628e16be4a8290772daa694d17e6ac9386253b8defaef3398195f52c7"), looks := false }, kinds := [], alts := [], laidByText := true, laidKinds := [.data, .pinned], laidTests := true, laidLooks := .later }
def IntegrateBackUptoCardSaid : Prop := Claim7.holds Tryd.pinned (.plain (OpenSpec.upto integrateBackSpec)) integrateBackUptoCard

/-- THE SECOND FORM's CARD OF 'stockyardlaw15.IntegrateRenames'. -/
def integrateRenamesUptoCard : Claim7 := { stood := { row := integrateRenamesUptoRow, standIns := [], harness := (true, "ab66a0c628e16be4a8290772daa694d17e6ac9386253b8defaef3398195f52c7"), looks := false }, kinds := [], alts := [], laidByText := true, laidKinds := [.data, .pinned], laidTests := true, laidLooks := .later }
def IntegrateRenamesUptoCardSaid : Prop := Claim7.holds Tryd.pinned (.plain (OpenSpec.upto integrateRenamesSpec)) integrateRenamesUptoCard

/-- THE SECOND FORM's CARD OF 'stockyardlaw17.ResolveMakes'. -/
def resolveMakesUptoCard : Claim7 := { stood := { row := resolveMakesUptoRow, standIns := [], harness := (true, "ab66a0c628e16be4a8290772daa694d17e6ac9386253b8defaef3398195f52c7"), looks := false }, kinds := [], alts := [], laidByText := true, laidKinds := [.data, .pinned], laidTests := true, laidLooks := .later }
def ResolveMakesUptoCardSaid : Prop := Claim7.holds Tryd.pinned (.plain (OpenSpec.upto resolveMakesSpec)) resolveMakesUptoCard
end Rows
end Go.Proofs.YtmlhfnodnnbbnaaDoor

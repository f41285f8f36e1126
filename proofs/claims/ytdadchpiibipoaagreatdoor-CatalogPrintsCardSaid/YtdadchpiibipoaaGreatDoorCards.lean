/-
  DERIVED. GIVEN WITH THE SEED: THE CARDS: each row of YtdadchpiibipoaaGreatDoorRows.lean that lists a variable, with what it lists TIED to the program's text (the seventh form; the later family's looks); each row that meets fmt, with fmt's text TOLD by the authors' own Lean function (tested against real Go, not proved from fmt's source: count such statements apart). THE CARD IS WHAT COUNTS. Prove the row's statement (the work); the ties are given (YtdadchpiibipoaaGreatDoorTie.lean); close each card by the builder's one call (the guide's Derived/Test/ToyasCard.lean, 'card_holds'). Laid BY PROGRAM, IN A SANDBOX (cutbox-door.mjs). By AI agents, Wed Nov 11 2026. No macro, syntax, notation, axiom, sorry.
-/
import Derived.Test.YtdadchpiibipoaaGreatDoorRows
import GoSem.ClaimSeven
namespace Go.Proofs.YtdadchpiibipoaaGreatDoor
namespace Rows

/-- THE TIED CARD OF 'ordinallaw08.CatalogForms'. -/
def catalogFormsCard : Claim7 := { stood := { row := catalogFormsRow, standIns := [], harness := (true, "acd48cb383ab9802050779a8d9c46c12b3d8c4582a6e50f334e69e4214e7fbea"), looks := true }, kinds := [], alts := [], laidByText := true, laidKinds := [.data, .data, .data, .data, .sentinel, .sentinel, .pinned], laidTests := true, laidLooks := .later }
def CatalogFormsCardSaid : Prop := Claim7.holds Tryz.pinned (.plain (OpenSpec.ofChange catalogFormsSpec)) catalogFormsCard

/-- THE TIED CARD OF 'ordinallaw08.CatalogBatches'. -/
def catalogBatchesCard : Claim7 := { stood := { row := catalogBatchesRow, standIns := [], harness := (true, "acd48cb383ab9802050779a8d9c46c12b3d8c4582a6e50f334e69e4214e7fbea"), looks := true }, kinds := [], alts := [], laidByText := true, laidKinds := [.data, .data, .data, .data, .sentinel, .sentinel, .pinned], laidTests := true, laidLooks := .later }
def CatalogBatchesCardSaid : Prop := Claim7.holds Tryz.pinned (.plain (OpenSpec.ofChange catalogBatchesSpec)) catalogBatchesCard

/-- THE TIED CARD OF 'ordinallaw08.CatalogCommutes'. -/
def catalogCommutesCard : Claim7 := { stood := { row := catalogCommutesRow, standIns := [], harness := (true, "acd48cb383ab9802050779a8d9c46c12b3d8c4582a6e50f334e69e4214e7fbea"), looks := true }, kinds := [], alts := [], laidByText := true, laidKinds := [.data, .data, .data, .data, .sentinel, .sentinel, .pinned], laidTests := true, laidLooks := .later }
def CatalogCommutesCardSaid : Prop := Claim7.holds Tryz.pinned (.plain (OpenSpec.ofChange catalogCommutesSpec)) catalogCommutesCard

/-- THE TIED CARD OF 'ordinallaw08.CatalogNames'. -/
def catalogNamesCard : Claim7 := { stood := { row := catalogNamesRow, standIns := [], harness := (true, "acd48cb383ab9802050779a8d9c46c12b3d8c4582a6e50f334e69e4214e7fbea"), looks := true }, kinds := [], alts := [], laidByText := true, laidKinds := [.data, .data, .data, .data, .sentinel, .sentinel, .pinned], laidTests := true, laidLooks := .later }
def CatalogNamesCardSaid : Prop := Claim7.holds Tryz.pinned (.plain (OpenSpec.ofChange catalogNamesSpec)) catalogNamesCard

/-- THE TIED CARD OF 'ordinallaw08.CatalogPrints'. -/
def catalogPrintsCard : Claim7 := { stood := { row := catalogPrintsRow, standIns := [], harness := (true, "acd48cb383ab9802050779a8d9c46c12b3d8c4582a6e50f334e69e4214e7fbea"), looks := true }, kinds := [], alts := [], laidByText := true, laidKinds := [.data, .data, .data, .data, .sentinel, .sentinel, .pinned], laidTests := true, laidLooks := .later }
def CatalogPrintsCardSaid : Prop := Claim7.holds Tryz.pinned (.plain (OpenSpec.ofChange catalogPrintsSpec)) catalogPrintsCard

/-- THE TIED CARD OF 'ordinallaw08.CatalogApplies'. -/
def catalogAppliesCard : Claim7 := { stood := { row := catalogAppliesRow, standIns := [], harness := (true, "acd48cb383ab9802050779a8d9c46c12b3d8c4582a6e50f334e69e4214e7fbea"), looks := true }, kinds := [], alts := [], laidByText := true, laidKinds := [.data, .data, .data, .data, .sentinel, .sentinel, .pinned], laidTests := true, laidLooks := .later }
def CatalogAppliesCardSaid : Prop := Claim7.holds Tryz.pinned (.plain (OpenSpec.ofChange catalogAppliesSpec)) catalogAppliesCard

/-- THE TIED CARD OF 'ordinallaw08.CatalogDiffs'. -/
def catalogDiffsCard : Claim7 := { stood := { row := catalogDiffsRow, standIns := [], harness := (true, "acd48cb383ab9802050779a8d9c46c12b3d8c4582a6e50f334e69e4214e7fbea"), looks := true }, kinds := [], alts := [], laidByText := true, laidKinds := [.data, .data, .data, .data, .sentinel, .sentinel, .pinned], laidTests := true, laidLooks := .later }
def CatalogDiffsCardSaid : Prop := Claim7.holds Tryz.pinned (.plain (OpenSpec.ofChange catalogDiffsSpec)) catalogDiffsCard

/-- THE SECOND FORM's CARD OF 'ordinallaw08.CatalogForms'. -/
def catalogFormsUptoCard : Claim7 := { stood := { row := catalogFormsUptoRow, standIns := [], harness := (true, "acd48cb383ab9802050779a8d9c46c12b3d8c4582a6e50f334e69e4214e7fbea"), looks := true }, kinds := [], alts := [], laidByText := true, laidKinds := [.data, .data, .data, .data, .sentinel, .sentinel, .pinned], laidTests := true, laidLooks := .later }
def CatalogFormsUptoCardSaid : Prop := Claim7.holds Tryz.pinned (.plain (OpenSpec.upto catalogFormsSpec)) catalogFormsUptoCard

/-- THE SECOND FORM's CARD OF 'ordinallaw08.CatalogBatches'. -/
def catalogBatchesUptoCard : Claim7 := { stood := { row := catalogBatchesUptoRow, standIns := [], harness := (true, "acd48cb383ab9802050779a8d9c46c12b3d8c4582a6e50f334e69e4214e7fbea"), looks := true }, kinds := [], alts := [], laidByText := true, laidKinds := [.data, .data, .data, .data, .sentinel, .sentinel, .pinned], laidTests := true, laidLooks := .later }
def CatalogBatchesUptoCardSaid : Prop := Claim7.holds Tryz.pinned (.plain (OpenSpec.upto catalogBatchesSpec)) catalogBatchesUptoCard

/-- THE SECOND FORM's CARD OF 'ordinallaw08.CatalogCommutes'. -/
def catalogCommutesUptoCard : Claim7 := { stood := { row := catalogCommutesUptoRow, standIns := [], harness := (true, "acd48cb383ab9802050779a8d9c46c12b3d8c4582a6e50f334e69e4214e7fbea"), looks := true }, kinds := [], alts := [], laidByText := true, laidKinds := [.data, .data, .data, .data, .sentinel, .sentinel, .pinned], laidTests := true, laidLooks := .later }
def CatalogCommutesUptoCardSaid : Prop := Claim7.holds Tryz.pinned (.plain (OpenSpec.upto catalogCommutesSpec)) catalogCommutesUptoCard

/-- THE SECOND FORM's CARD OF 'ordinallaw08.CatalogNames'. -/
def catalogNamesUptoCard : Claim7 := { stood := { row := catalogNamesUptoRow, standIns := [], harness := (true, "acd48cb383ab9802050779a8d9c46c12b3d8c4582a6e50f334e69e4214e7fbea"), looks := true }, kinds := [], alts := [], laidByText := true, laidKinds := [.data, .data, .data, .data, .sentinel, .sentinel, .pinned], laidTests := true, laidLooks := .later }
def CatalogNamesUptoCardSaid : Prop := Claim7.holds Tryz.pinned (.plain (OpenSpec.upto catalogNamesSpec)) catalogNamesUptoCard

/-- THE SECOND FORM's CARD OF 'ordinallaw08.CatalogPrints'. -/
def catalogPrintsUptoCard : Claim7 := { stood := { row := catalogPrintsUptoRow, standIns := [], harness := (true, "acd48cb383ab9802050779a8d9c46c12b3d8c4582a6e50f334e69e4214e7fbea"), looks := true }, kinds := [], alts := [], laidByText := true, laidKinds := [.data, .data, .data, .data, .sentinel, .sentinel, .pinned], laidTests := true, laidLooks := .later }
def CatalogPrintsUptoCardSaid : Prop := Claim7.holds Tryz.pinned (.plain (OpenSpec.upto catalogPrintsSpec)) catalogPrintsUptoCard

/-- THE SECOND FORM's CARD OF 'ordinallaw08.CatalogApplies'. -/
def catalogAppliesUptoCard : Claim7 := { stood := { row := catalogAppliesUptoRow, standIns := [], harness := (true, "acd48cb383ab9802050779a8d9c46c12b3d8c4582a6e50f334e69e4214e7fbea"), looks := true }, kinds := [], alts := [], laidByText := true, laidKinds := [.data, .data, .data, .data, .sentinel, .sentinel, .pinned], laidTests := true, laidLooks := .later }
def CatalogAppliesUptoCardSaid : Prop := Claim7.holds Tryz.pinned (.plain (OpenSpec.upto catalogAppliesSpec)) catalogAppliesUptoCard

/-- THE SECOND FORM's CARD OF 'ordinallaw08.CatalogDiffs'. -/
def catalogDiffsUptoCard : Claim7 := { stood := { row := catalogDiffsUptoRow, standIns := [], harness := (true, "acd48cb383ab9802050779a8d9c46c12b3d8c4582a6e50f334e69e4214e7fbea"), looks := true }, kinds := [], alts := [], laidByText := true, laidKinds := [.data, .data, .data, .data, .sentinel, .sentinel, .pinned], laidTests := true, laidLooks := .later }
def CatalogDiffsUptoCardSaid : Prop := Claim7.holds Tryz.pinned (.plain (OpenSpec.upto catalogDiffsSpec)) catalogDiffsUptoCard
end Rows
end Go.Proofs.YtdadchpiibipoaaGreatDoor

/-
  DERIVED. GIVEN WITH THE SEED: THE CARDS: each row of YthgaflmldbgbnaaGreatDoorRows.lean that lists a variable, with what it lists TIED to the program's text (the seventh form; the later family's looks); each row that meets fmt, with fmt's text TOLD by the authors' own Lean function (tested against real Go, not proved from fmt's source: count such statements apart). THE CARD IS WHAT COUNTS. Prove the row's statement (the work); the ties are given (YthgaflmldbgbnaaGreatDoorTie.lean); close each card by the builder's one call (the guide's Derived/Test/ToyasCard.lean, 'card_holds'). Laid BY PROGRAM, IN A SANDBOX (cutbox-door.mjs). By AI agents, Wed Nov 11 2026. No macro, syntax, notation, axiom, sorry.
-/
import Derived.Test.YthgaflmldbgbnaaGreatDoorRows
import GoSem.ClaimSeven
namespace Go.Proofs.YthgaflmldbgbnaaGreatDoor
namespace Rows

/-- THE TIED CARD OF 'ordinallaw36.SemijoinPairs'. -/
def semijoinPairsCard : Claim7 := { stood := { row := semijoinPairsRow, standIns := [], harness := (true, "9ae853b474627d7b25b38540c624ba655cf9e421c07da08e7e80abccfc2fd9eb"), looks := false }, kinds := [], alts := [], laidByText := true, laidKinds := [.data, .data, .data], laidTests := true, laidLooks := .later }
def SemijoinPairsCardSaid : Prop := Claim7.holds Tryz.pinned (.plain (OpenSpec.ofChange semijoinPairsSpec)) semijoinPairsCard

/-- THE TIED CARD OF 'ordinallaw36.SemijoinReduces'. -/
def semijoinReducesCard : Claim7 := { stood := { row := semijoinReducesRow, standIns := [], harness := (true, "9ae853b474627d7b25b38540c624ba655cf9e421c07da08e7e80abccfc2fd9eb"), looks := false }, kinds := [], alts := [], laidByText := true, laidKinds := [.data, .data, .data], laidTests := true, laidLooks := .later }
def SemijoinReducesCardSaid : Prop := Claim7.holds Tryz.pinned (.plain (OpenSpec.ofChange semijoinReducesSpec)) semijoinReducesCard

/-- THE TIED CARD OF 'ordinallaw36.SemijoinTrees'. -/
def semijoinTreesCard : Claim7 := { stood := { row := semijoinTreesRow, standIns := [], harness := (true, "9ae853b474627d7b25b38540c624ba655cf9e421c07da08e7e80abccfc2fd9eb"), looks := false }, kinds := [], alts := [], laidByText := true, laidKinds := [.data, .data, .data], laidTests := true, laidLooks := .later }
def SemijoinTreesCardSaid : Prop := Claim7.holds Tryz.pinned (.plain (OpenSpec.ofChange semijoinTreesSpec)) semijoinTreesCard

/-- THE TIED CARD OF 'ordinallaw36.SemijoinEvaluates'. -/
def semijoinEvaluatesCard : Claim7 := { stood := { row := semijoinEvaluatesRow, standIns := [], harness := (true, "9ae853b474627d7b25b38540c624ba655cf9e421c07da08e7e80abccfc2fd9eb"), looks := false }, kinds := [], alts := [], laidByText := true, laidKinds := [.data, .data, .data], laidTests := true, laidLooks := .later }
def SemijoinEvaluatesCardSaid : Prop := Claim7.holds Tryz.pinned (.plain (OpenSpec.ofChange semijoinEvaluatesSpec)) semijoinEvaluatesCard

/-- THE SECOND FORM's CARD OF 'ordinallaw36.SemijoinPairs'. -/
def semijoinPairsUptoCard : Claim7 := { stood := { row := semijoinPairsUptoRow, standIns := [], harness := (true, "9ae853b474627d7b25b38540c624ba655cf9e421c07da08e7e80abccfc2fd9eb"), looks := false }, kinds := [], alts := [], laidByText := true, laidKinds := [.data, .data, .data], laidTests := true, laidLooks := .later }
def SemijoinPairsUptoCardSaid : Prop := Claim7.holds Tryz.pinned (.plain (OpenSpec.upto semijoinPairsSpec)) semijoinPairsUptoCard

/-- THE SECOND FORM's CARD OF 'ordinallaw36.SemijoinReduces'. -/
def semijoinReducesUptoCard : Claim7 := { stood := { row := semijoinReducesUptoRow, standIns := [], harness := (true, "9ae853b474627d7b25b38540c624ba655cf9e421c07da08e7e80abccfc2fd9eb"), looks := false }, kinds := [], alts := [], laidByText := true, laidKinds := [.data, .data, .data], laidTests := true, laidLooks := .later }
def SemijoinReducesUptoCardSaid : Prop := Claim7.holds Tryz.pinned (.plain (OpenSpec.upto semijoinReducesSpec)) semijoinReducesUptoCard

/-- THE SECOND FORM's CARD OF 'ordinallaw36.SemijoinTrees'. -/
def semijoinTreesUptoCard : Claim7 := { stood := { row := semijoinTreesUptoRow, standIns := [], harness := (true, "9ae853b474627d7b25b38540c624ba655cf9e421c07da08e7e80abccfc2fd9eb"), looks := false }, kinds := [], alts := [], laidByText := true, laidKinds := [.data, .data, .data], laidTests := true, laidLooks := .later }
def SemijoinTreesUptoCardSaid : Prop := Claim7.holds Tryz.pinned (.plain (OpenSpec.upto semijoinTreesSpec)) semijoinTreesUptoCard

/-- THE SECOND FORM's CARD OF 'ordinallaw36.SemijoinEvaluates'. -/
def semijoinEvaluatesUptoCard : Claim7 := { stood := { row := semijoinEvaluatesUptoRow, standIns := [], harness := (true, "9ae853b474627d7b25b38540c624ba655cf9e421c07da08e7e80abccfc2fd9eb"), looks := false }, kinds := [], alts := [], laidByText := true, laidKinds := [.data, .data, .data], laidTests := true, laidLooks := .later }
def SemijoinEvaluatesUptoCardSaid : Prop := Claim7.holds Tryz.pinned (.plain (OpenSpec.upto semijoinEvaluatesSpec)) semijoinEvaluatesUptoCard
end Rows
end Go.Proofs.YthgaflmldbgbnaaGreatDoor

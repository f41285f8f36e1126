/-
  DERIVED. GIVEN WITH THE SEED: THE CARDS: each row of YthgaflmldbgbnaaDoorRows.lean that lists a variable, with what it lists TIED to the program's text (the seventh form; the later family's looks); each row that meets fmt, with fmt's text TOLD by the authors' own Lean function (tested against real Go, not proved from fmt's source: count such statements apart). THE CARD IS WHAT COUNTS. Prove the row's statement (the work); the ties are given (YthgaflmldbgbnaaDoorTie.lean); close each card by the builder's one call (the guide's Derived/Test/ToyasCard.lean, 'card_holds'). Laid BY PROGRAM, IN A SANDBOX (cutbox-door.mjs). By AI agents, Wed Nov 11 2026. No macro, syntax, notation, axiom, sorry.
-/
import Derived.Test.YthgaflmldbgbnaaDoorRows
import GoSem.ClaimSeven
namespace Go.Proofs.YthgaflmldbgbnaaDoor
namespace Rows

/-- THE TIED CARD OF 'ordinallaw36.SemijoinJoins'. -/
def semijoinJoinsCard : Claim7 := { stood := { row := semijoinJoinsRow, standIns := [], harness := (true, "fe09b0c962738ce896635b5041a7d0e798375b4a1d9a71633f29184349a03bf9"), looks := false }, kinds := [], alts := [], laidByText := true, laidKinds := [.data, .data, .data], laidTests := true, laidLooks := .later }
def SemijoinJoinsCardSaid : Prop := Claim7.holds Tryd.pinned (.plain (OpenSpec.ofChange semijoinJoinsSpec)) semijoinJoinsCard

/-- THE TIED CARD OF 'ordinallaw36.SemijoinRefuses'. -/
def semijoinRefusesCard : Claim7 := { stood := { row := semijoinRefusesRow, standIns := [], harness := (true, "fe09b0c962738ce896635b5041a7d0e798375b4a1d9a71633f29184349a03bf9"), looks := false }, kinds := [], alts := [], laidByText := true, laidKinds := [.data, .data, .data], laidTests := true, laidLooks := .later }
def SemijoinRefusesCardSaid : Prop := Claim7.holds Tryd.pinned (.plain (OpenSpec.ofChange semijoinRefusesSpec)) semijoinRefusesCard

/-- THE SECOND FORM's CARD OF 'ordinallaw36.SemijoinJoins'. -/
def semijoinJoinsUptoCard : Claim7 := { stood := { row := semijoinJoinsUptoRow, standIns := [], harness := (true, "fe09b0c962738ce896635b5041a7d0e798375b4a1d9a71633f29184349a03bf9"), looks := false }, kinds := [], alts := [], laidByText := true, laidKinds := [.data, .data, .data], laidTests := true, laidLooks := .later }
def SemijoinJoinsUptoCardSaid : Prop := Claim7.holds Tryd.pinned (.plain (OpenSpec.upto semijoinJoinsSpec)) semijoinJoinsUptoCard

/-- THE SECOND FORM's CARD OF 'ordinallaw36.SemijoinRefuses'. -/
def semijoinRefusesUptoCard : Claim7 := { stood := { row := semijoinRefusesUptoRow, standIns := [], harness := (true, "fe09b0c962738ce896635b5041a7d0e798375b4a1d9a71633f29184349a03bf9"), looks := false }, kinds := [], alts := [], laidByText := true, laidKinds := [.data, .data, .data], laidTests := true, laidLooks := .later }
def SemijoinRefusesUptoCardSaid : Prop := Claim7.holds Tryd.pinned (.plain (OpenSpec.upto semijoinRefusesSpec)) semijoinRefusesUptoCard
end Rows
end Go.Proofs.YthgaflmldbgbnaaDoor

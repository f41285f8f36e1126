/-
  No cell of these rows narrows 'for every input' (looked for: loops, veiled, ifaces, maps, wideKeys, modest, calm, conditions, laid).
  DERIVED. THE GIVEN ROWS OF THIS SEAT. 9 by the template 'for every input the law returns true; each argument reads behind the call as it read before'; 0 by the template 'total and deterministic' (their statements: YtiopkooigeaneaaTotals.lean).
  GIVEN WITH THE SEED: the statements are not yours to turn. If you find one false, say at which input.
  Laid BY PROGRAM, IN A SANDBOX (cutbox-rows.mjs): the forced cells as the released guide's own fill.sh prints them over the translation a32486eb06ffdc94… (all of the seat's roots in one cut). By AI agents, Wed Nov 11 2026. No macro, syntax, notation, axiom, sorry.
-/
import Derived.Test.YtiopkooigeaneaaChecked
import GoSem.Claim
import GoSem.ClaimJoined
import GoSem.ClaimMapViews
import Derived.JoinedTies
import Derived.KernelRfl
namespace Go.Proofs.Ytiopkooigeaneaa
/- THE CELL 'sum', in the pinned program and in every row, IS THE sha256 OF THE DUMP (.gsa) THAT YtiopkooigeaneaaProg.lean LOADS. Nothing in Lean hashes anything: it is a label: what it is worth is what the hold of that sum in a sandbox is worth. -/
noncomputable def Try.pinned : Pinned := { name := "ytiopkooigeaneaa", sum := "a32486eb06ffdc94319d880ebab2a4f6f786047c569308e390a112f06130ebda", checked := Try.checked }
namespace Rows
def none {H : Type} : Left H := { results := [], args := [] }

/-- 'ordinallaw07.RelationFinds': WHATEVER THE INPUT: true; the input reads as it did. -/
def relationFindsSpec : ChangeSpec := { name := "relationFinds", fn := fun _ => fun
  | [d1, d2, d3] => { results := [.lit (.bool true)], args := [d1, d2, d3] }
  | _ => none }
def relationFindsRow : OpenClaim := { program := "ytiopkooigeaneaa", sum := "a32486eb06ffdc94319d880ebab2a4f6f786047c569308e390a112f06130ebda", func := "ordinal/ordinallaw07.RelationFinds", spec := "relationFinds", inPlace := ["internal/bytealg.abigen_runtime_cmpstring"], unfollowed := true, recurses := true, apart := false }
def RelationFindsSaid : Prop := relationFindsRow.holds Try.pinned (OpenSpec.ofChange relationFindsSpec)

/-- ITS FALSE NEIGHBOUR: 'it returns false'. Refute it at one input. -/
def relationFindsWrong : ChangeSpec := { name := "relationFinds", fn := fun _ => fun
  | [d1, d2, d3] => { results := [.lit (.bool false)], args := [d1, d2, d3] }
  | _ => none }
def RelationFindsWrongFalsely : Prop := relationFindsRow.holds Try.pinned (OpenSpec.ofChange relationFindsWrong)

/-- 'ordinallaw07.RelationMakes': WHATEVER THE INPUT: true; the input reads as it did. -/
def relationMakesSpec : ChangeSpec := { name := "relationMakes", fn := fun _ => fun
  | [d1, d2, d3] => { results := [.lit (.bool true)], args := [d1, d2, d3] }
  | _ => none }
def relationMakesRow : OpenClaim := { program := "ytiopkooigeaneaa", sum := "a32486eb06ffdc94319d880ebab2a4f6f786047c569308e390a112f06130ebda", func := "ordinal/ordinallaw07.RelationMakes", spec := "relationMakes", inPlace := ["internal/bytealg.abigen_runtime_cmpstring"], unfollowed := true, recurses := true, apart := false }
def RelationMakesSaid : Prop := relationMakesRow.holds Try.pinned (OpenSpec.ofChange relationMakesSpec)

/-- ITS FALSE NEIGHBOUR: 'it returns false'. Refute it at one input. -/
def relationMakesWrong : ChangeSpec := { name := "relationMakes", fn := fun _ => fun
  | [d1, d2, d3] => { results := [.lit (.bool false)], args := [d1, d2, d3] }
  | _ => none }
def RelationMakesWrongFalsely : Prop := relationMakesRow.holds Try.pinned (OpenSpec.ofChange relationMakesWrong)

/-- 'ordinallaw07.RelationProjects': WHATEVER THE INPUT: true; the input reads as it did. -/
def relationProjectsSpec : ChangeSpec := { name := "relationProjects", fn := fun _ => fun
  | [d1, d2, d3] => { results := [.lit (.bool true)], args := [d1, d2, d3] }
  | _ => none }
def relationProjectsRow : OpenClaim := { program := "ytiopkooigeaneaa", sum := "a32486eb06ffdc94319d880ebab2a4f6f786047c569308e390a112f06130ebda", func := "ordinal/ordinallaw07.RelationProjects", spec := "relationProjects", inPlace := ["internal/bytealg.abigen_runtime_cmpstring"], unfollowed := true, recurses := true, apart := false }
def RelationProjectsSaid : Prop := relationProjectsRow.holds Try.pinned (OpenSpec.ofChange relationProjectsSpec)

/-- ITS FALSE NEIGHBOUR: 'it returns false'. Refute it at one input. -/
def relationProjectsWrong : ChangeSpec := { name := "relationProjects", fn := fun _ => fun
  | [d1, d2, d3] => { results := [.lit (.bool false)], args := [d1, d2, d3] }
  | _ => none }
def RelationProjectsWrongFalsely : Prop := relationProjectsRow.holds Try.pinned (OpenSpec.ofChange relationProjectsWrong)

/-- 'ordinallaw07.RelationShares': WHATEVER THE INPUT: true; the input reads as it did. -/
def relationSharesSpec : ChangeSpec := { name := "relationShares", fn := fun _ => fun
  | [d] => { results := [.lit (.bool true)], args := [d] }
  | _ => none }
def relationSharesRow : OpenClaim := { program := "ytiopkooigeaneaa", sum := "a32486eb06ffdc94319d880ebab2a4f6f786047c569308e390a112f06130ebda", func := "ordinal/ordinallaw07.RelationShares", spec := "relationShares", inPlace := ["internal/bytealg.abigen_runtime_cmpstring"], unfollowed := true, recurses := true, apart := false }
def RelationSharesSaid : Prop := relationSharesRow.holds Try.pinned (OpenSpec.ofChange relationSharesSpec)

/-- ITS FALSE NEIGHBOUR: 'it returns false'. Refute it at one input. -/
def relationSharesWrong : ChangeSpec := { name := "relationShares", fn := fun _ => fun
  | [d] => { results := [.lit (.bool false)], args := [d] }
  | _ => none }
def RelationSharesWrongFalsely : Prop := relationSharesRow.holds Try.pinned (OpenSpec.ofChange relationSharesWrong)

/-- 'ordinallaw07.RelationParts': WHATEVER THE INPUT: true; the input reads as it did. -/
def relationPartsSpec : ChangeSpec := { name := "relationParts", fn := fun _ => fun
  | [d] => { results := [.lit (.bool true)], args := [d] }
  | _ => none }
def relationPartsRow : OpenClaim := { program := "ytiopkooigeaneaa", sum := "a32486eb06ffdc94319d880ebab2a4f6f786047c569308e390a112f06130ebda", func := "ordinal/ordinallaw07.RelationParts", spec := "relationParts", inPlace := ["internal/bytealg.abigen_runtime_cmpstring"], unfollowed := true, recurses := true, apart := false }
def RelationPartsSaid : Prop := relationPartsRow.holds Try.pinned (OpenSpec.ofChange relationPartsSpec)

/-- ITS FALSE NEIGHBOUR: 'it returns false'. Refute it at one input. -/
def relationPartsWrong : ChangeSpec := { name := "relationParts", fn := fun _ => fun
  | [d] => { results := [.lit (.bool false)], args := [d] }
  | _ => none }
def RelationPartsWrongFalsely : Prop := relationPartsRow.holds Try.pinned (OpenSpec.ofChange relationPartsWrong)

/-- 'ordinallaw07.RelationSelects': WHATEVER THE INPUT: true; the input reads as it did. -/
def relationSelectsSpec : ChangeSpec := { name := "relationSelects", fn := fun _ => fun
  | [d1, d2, d3] => { results := [.lit (.bool true)], args := [d1, d2, d3] }
  | _ => none }
def relationSelectsRow : OpenClaim := { program := "ytiopkooigeaneaa", sum := "a32486eb06ffdc94319d880ebab2a4f6f786047c569308e390a112f06130ebda", func := "ordinal/ordinallaw07.RelationSelects", spec := "relationSelects", inPlace := ["internal/bytealg.abigen_runtime_cmpstring"], unfollowed := true, recurses := true, apart := false }
def RelationSelectsSaid : Prop := relationSelectsRow.holds Try.pinned (OpenSpec.ofChange relationSelectsSpec)

/-- ITS FALSE NEIGHBOUR: 'it returns false'. Refute it at one input. -/
def relationSelectsWrong : ChangeSpec := { name := "relationSelects", fn := fun _ => fun
  | [d1, d2, d3] => { results := [.lit (.bool false)], args := [d1, d2, d3] }
  | _ => none }
def RelationSelectsWrongFalsely : Prop := relationSelectsRow.holds Try.pinned (OpenSpec.ofChange relationSelectsWrong)

/-- 'ordinallaw07.RelationChanges': WHATEVER THE INPUT: true; the input reads as it did. -/
def relationChangesSpec : ChangeSpec := { name := "relationChanges", fn := fun _ => fun
  | [d1, d2] => { results := [.lit (.bool true)], args := [d1, d2] }
  | _ => none }
def relationChangesRow : OpenClaim := { program := "ytiopkooigeaneaa", sum := "a32486eb06ffdc94319d880ebab2a4f6f786047c569308e390a112f06130ebda", func := "ordinal/ordinallaw07.RelationChanges", spec := "relationChanges", inPlace := ["internal/bytealg.abigen_runtime_cmpstring"], unfollowed := true, recurses := true, apart := false }
def RelationChangesSaid : Prop := relationChangesRow.holds Try.pinned (OpenSpec.ofChange relationChangesSpec)

/-- ITS FALSE NEIGHBOUR: 'it returns false'. Refute it at one input. -/
def relationChangesWrong : ChangeSpec := { name := "relationChanges", fn := fun _ => fun
  | [d1, d2] => { results := [.lit (.bool false)], args := [d1, d2] }
  | _ => none }
def RelationChangesWrongFalsely : Prop := relationChangesRow.holds Try.pinned (OpenSpec.ofChange relationChangesWrong)

/-- 'ordinallaw07.RelationLaws': WHATEVER THE INPUT: true; the input reads as it did. -/
def relationLawsSpec : ChangeSpec := { name := "relationLaws", fn := fun _ => fun
  | [d1, d2, d3] => { results := [.lit (.bool true)], args := [d1, d2, d3] }
  | _ => none }
def relationLawsRow : OpenClaim := { program := "ytiopkooigeaneaa", sum := "a32486eb06ffdc94319d880ebab2a4f6f786047c569308e390a112f06130ebda", func := "ordinal/ordinallaw07.RelationLaws", spec := "relationLaws", inPlace := ["internal/bytealg.abigen_runtime_cmpstring"], unfollowed := true, recurses := true, apart := false }
def RelationLawsSaid : Prop := relationLawsRow.holds Try.pinned (OpenSpec.ofChange relationLawsSpec)

/-- ITS FALSE NEIGHBOUR: 'it returns false'. Refute it at one input. -/
def relationLawsWrong : ChangeSpec := { name := "relationLaws", fn := fun _ => fun
  | [d1, d2, d3] => { results := [.lit (.bool false)], args := [d1, d2, d3] }
  | _ => none }
def RelationLawsWrongFalsely : Prop := relationLawsRow.holds Try.pinned (OpenSpec.ofChange relationLawsWrong)

/-- 'ordinallaw07.RelationSets': WHATEVER THE INPUT: true; the input reads as it did. -/
def relationSetsSpec : ChangeSpec := { name := "relationSets", fn := fun _ => fun
  | [d1, d2, d3] => { results := [.lit (.bool true)], args := [d1, d2, d3] }
  | _ => none }
def relationSetsRow : OpenClaim := { program := "ytiopkooigeaneaa", sum := "a32486eb06ffdc94319d880ebab2a4f6f786047c569308e390a112f06130ebda", func := "ordinal/ordinallaw07.RelationSets", spec := "relationSets", inPlace := ["internal/bytealg.abigen_runtime_cmpstring"], unfollowed := true, recurses := true, apart := false }
def RelationSetsSaid : Prop := relationSetsRow.holds Try.pinned (OpenSpec.ofChange relationSetsSpec)

/-- ITS FALSE NEIGHBOUR: 'it returns false'. Refute it at one input. -/
def relationSetsWrong : ChangeSpec := { name := "relationSets", fn := fun _ => fun
  | [d1, d2, d3] => { results := [.lit (.bool false)], args := [d1, d2, d3] }
  | _ => none }
def RelationSetsWrongFalsely : Prop := relationSetsRow.holds Try.pinned (OpenSpec.ofChange relationSetsWrong)

/- THE SECOND FORM. 'bulk': how many values and letters a reading holds, each counted each time it is reached (what is shared counts as often as it is met; a slice's spare places count too). A statement '..UptoSaid' is the law's where the arguments, and the package variables that the reading takes, are together of bulk at most 1048576: NARROWER than '..Said'. Prove '..Said' where nothing that the law and all that it calls make is longer than what came in: it says more and counts as full. Else prove '..UptoSaid'. A law counts once. -/
mutual
def uptoBulk {H : Type} : DataW H → Nat
  | .lit (.string bytes) => bytes.length + 1
  | .lit _ => 1
  | .nil => 1
  | .ptr d => uptoBulk d + 1
  | .slice elems spare => uptoBulkAll elems + uptoBulkAll spare + 1
  | .agg parts => uptoBulkAll parts + 1
  | .iface _ d => uptoBulk d + 1
  | .map entries => uptoBulkEntries entries + 1
  | .held _ => 1
def uptoBulkAll {H : Type} : List (DataW H) → Nat
  | [] => 0
  | d :: r => uptoBulk d + uptoBulkAll r
def uptoBulkEntries {H : Type} : List (Lit × DataW H) → Nat
  | [] => 0
  | x :: r => uptoBulkEntry x + uptoBulkEntries r
def uptoBulkEntry {H : Type} : Lit × DataW H → Nat
  | (.string bytes, d) => bytes.length + uptoBulk d + 1
  | (_, d) => uptoBulk d + 1
 end
def uptoSmall : (H : Type) → List (DataW H) → Bool := fun _ ds => decide (uptoBulkAll ds ≤ 1048576)
def OpenSpec.upto (s : _root_.Go.ChangeSpec) : _root_.Go.OpenSpec := { _root_.Go.OpenSpec.ofChange s with cond := some uptoSmall }

/-- 'ordinallaw07.RelationFinds', WHERE WHAT IT READS IS OF BULK AT MOST 1048576: true; the input reads as it did. -/
def relationFindsUptoRow : OpenClaim := { program := "ytiopkooigeaneaa", sum := "a32486eb06ffdc94319d880ebab2a4f6f786047c569308e390a112f06130ebda", func := "ordinal/ordinallaw07.RelationFinds", spec := "relationFinds", inPlace := ["internal/bytealg.abigen_runtime_cmpstring"], unfollowed := true, recurses := true, apart := false, narrowed := true }
def RelationFindsUptoSaid : Prop := relationFindsUptoRow.holds Try.pinned (OpenSpec.upto relationFindsSpec)

/-- 'ordinallaw07.RelationMakes', WHERE WHAT IT READS IS OF BULK AT MOST 1048576: true; the input reads as it did. -/
def relationMakesUptoRow : OpenClaim := { program := "ytiopkooigeaneaa", sum := "a32486eb06ffdc94319d880ebab2a4f6f786047c569308e390a112f06130ebda", func := "ordinal/ordinallaw07.RelationMakes", spec := "relationMakes", inPlace := ["internal/bytealg.abigen_runtime_cmpstring"], unfollowed := true, recurses := true, apart := false, narrowed := true }
def RelationMakesUptoSaid : Prop := relationMakesUptoRow.holds Try.pinned (OpenSpec.upto relationMakesSpec)

/-- 'ordinallaw07.RelationProjects', WHERE WHAT IT READS IS OF BULK AT MOST 1048576: true; the input reads as it did. -/
def relationProjectsUptoRow : OpenClaim := { program := "ytiopkooigeaneaa", sum := "a32486eb06ffdc94319d880ebab2a4f6f786047c569308e390a112f06130ebda", func := "ordinal/ordinallaw07.RelationProjects", spec := "relationProjects", inPlace := ["internal/bytealg.abigen_runtime_cmpstring"], unfollowed := true, recurses := true, apart := false, narrowed := true }
def RelationProjectsUptoSaid : Prop := relationProjectsUptoRow.holds Try.pinned (OpenSpec.upto relationProjectsSpec)

/-- 'ordinallaw07.RelationShares', WHERE WHAT IT READS IS OF BULK AT MOST 1048576: true; the input reads as it did. -/
def relationSharesUptoRow : OpenClaim := { program := "ytiopkooigeaneaa", sum := "a32486eb06ffdc94319d880ebab2a4f6f786047c569308e390a112f06130ebda", func := "ordinal/ordinallaw07.RelationShares", spec := "relationShares", inPlace := ["internal/bytealg.abigen_runtime_cmpstring"], unfollowed := true, recurses := true, apart := false, narrowed := true }
def RelationSharesUptoSaid : Prop := relationSharesUptoRow.holds Try.pinned (OpenSpec.upto relationSharesSpec)

/-- 'ordinallaw07.RelationParts', WHERE WHAT IT READS IS OF BULK AT MOST 1048576: true; the input reads as it did. -/
def relationPartsUptoRow : OpenClaim := { program := "ytiopkooigeaneaa", sum := "a32486eb06ffdc94319d880ebab2a4f6f786047c569308e390a112f06130ebda", func := "ordinal/ordinallaw07.RelationParts", spec := "relationParts", inPlace := ["internal/bytealg.abigen_runtime_cmpstring"], unfollowed := true, recurses := true, apart := false, narrowed := true }
def RelationPartsUptoSaid : Prop := relationPartsUptoRow.holds Try.pinned (OpenSpec.upto relationPartsSpec)

/-- 'ordinallaw07.RelationSelects', WHERE WHAT IT READS IS OF BULK AT MOST 1048576: true; the input reads as it did. -/
def relationSelectsUptoRow : OpenClaim := { program := "ytiopkooigeaneaa", sum := "a32486eb06ffdc94319d880ebab2a4f6f786047c569308e390a112f06130ebda", func := "ordinal/ordinallaw07.RelationSelects", spec := "relationSelects", inPlace := ["internal/bytealg.abigen_runtime_cmpstring"], unfollowed := true, recurses := true, apart := false, narrowed := true }
def RelationSelectsUptoSaid : Prop := relationSelectsUptoRow.holds Try.pinned (OpenSpec.upto relationSelectsSpec)

/-- 'ordinallaw07.RelationChanges', WHERE WHAT IT READS IS OF BULK AT MOST 1048576: true; the input reads as it did. -/
def relationChangesUptoRow : OpenClaim := { program := "ytiopkooigeaneaa", sum := "a32486eb06ffdc94319d880ebab2a4f6f786047c569308e390a112f06130ebda", func := "ordinal/ordinallaw07.RelationChanges", spec := "relationChanges", inPlace := ["internal/bytealg.abigen_runtime_cmpstring"], unfollowed := true, recurses := true, apart := false, narrowed := true }
def RelationChangesUptoSaid : Prop := relationChangesUptoRow.holds Try.pinned (OpenSpec.upto relationChangesSpec)

/-- 'ordinallaw07.RelationLaws', WHERE WHAT IT READS IS OF BULK AT MOST 1048576: true; the input reads as it did. -/
def relationLawsUptoRow : OpenClaim := { program := "ytiopkooigeaneaa", sum := "a32486eb06ffdc94319d880ebab2a4f6f786047c569308e390a112f06130ebda", func := "ordinal/ordinallaw07.RelationLaws", spec := "relationLaws", inPlace := ["internal/bytealg.abigen_runtime_cmpstring"], unfollowed := true, recurses := true, apart := false, narrowed := true }
def RelationLawsUptoSaid : Prop := relationLawsUptoRow.holds Try.pinned (OpenSpec.upto relationLawsSpec)

/-- 'ordinallaw07.RelationSets', WHERE WHAT IT READS IS OF BULK AT MOST 1048576: true; the input reads as it did. -/
def relationSetsUptoRow : OpenClaim := { program := "ytiopkooigeaneaa", sum := "a32486eb06ffdc94319d880ebab2a4f6f786047c569308e390a112f06130ebda", func := "ordinal/ordinallaw07.RelationSets", spec := "relationSets", inPlace := ["internal/bytealg.abigen_runtime_cmpstring"], unfollowed := true, recurses := true, apart := false, narrowed := true }
def RelationSetsUptoSaid : Prop := relationSetsUptoRow.holds Try.pinned (OpenSpec.upto relationSetsSpec)

end Rows
end Go.Proofs.Ytiopkooigeaneaa

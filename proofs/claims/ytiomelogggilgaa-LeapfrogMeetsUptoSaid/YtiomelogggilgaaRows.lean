/-
  No cell of these rows narrows 'for every input' (looked for: loops, veiled, ifaces, maps, wideKeys, modest, calm, conditions, laid).
  DERIVED. THE GIVEN ROWS OF THIS SEAT. 7 by the template 'for every input the law returns true; each argument reads behind the call as it read before'; 0 by the template 'total and deterministic' (their statements: YtiomelogggilgaaTotals.lean).
  GIVEN WITH THE SEED: the statements are not yours to turn. If you find one false, say at which input.
  Laid BY PROGRAM, IN A SANDBOX (cutbox-rows.mjs): the forced cells as the released guide's own fill.sh prints them over the translation 2110735b1a3c0444… (all of the seat's roots in one cut). By AI agents, Wed Nov 11 2026. No macro, syntax, notation, axiom, sorry.
-/
import Derived.Test.YtiomelogggilgaaChecked
import GoSem.Claim
import GoSem.ClaimJoined
import GoSem.ClaimMapViews
import Derived.JoinedTies
import Derived.KernelRfl
namespace Go.Proofs.Ytiomelogggilgaa
/- THE CELL 'sum', in the pinned program and in every row, IS THE sha256 OF THE DUMP (.gsa) THAT YtiomelogggilgaaProg.lean LOADS. Nothing in Lean hashes anything: it is a label: what it is worth is what the hold of that sum in a sandbox is worth. -/
noncomputable def Try.pinned : Pinned := { name := "ytiomelogggilgaa", sum := "2110735b1a3c0444dfdf293da01f09eee22ffc7847c77bd9a7cb73cd69befcf4", checked := Try.checked }
namespace Rows
def none {H : Type} : Left H := { results := [], args := [] }

/-- 'ordinallaw35.LeapfrogStops': WHATEVER THE INPUT: true; the input reads as it did. -/
def leapfrogStopsSpec : ChangeSpec := { name := "leapfrogStops", fn := fun _ => fun
  | [d1, d2, d3] => { results := [.lit (.bool true)], args := [d1, d2, d3] }
  | _ => none }
def leapfrogStopsRow : OpenClaim := { program := "ytiomelogggilgaa", sum := "2110735b1a3c0444dfdf293da01f09eee22ffc7847c77bd9a7cb73cd69befcf4", func := "ordinal/ordinallaw35.LeapfrogStops", spec := "leapfrogStops", inPlace := ["internal/bytealg.abigen_runtime_cmpstring"], unfollowed := true, recurses := true, apart := false }
def LeapfrogStopsSaid : Prop := leapfrogStopsRow.holds Try.pinned (OpenSpec.ofChange leapfrogStopsSpec)

/-- ITS FALSE NEIGHBOUR: 'it returns false'. Refute it at one input. -/
def leapfrogStopsWrong : ChangeSpec := { name := "leapfrogStops", fn := fun _ => fun
  | [d1, d2, d3] => { results := [.lit (.bool false)], args := [d1, d2, d3] }
  | _ => none }
def LeapfrogStopsWrongFalsely : Prop := leapfrogStopsRow.holds Try.pinned (OpenSpec.ofChange leapfrogStopsWrong)

/-- 'ordinallaw35.LeapfrogTurns': WHATEVER THE INPUT: true; the input reads as it did. -/
def leapfrogTurnsSpec : ChangeSpec := { name := "leapfrogTurns", fn := fun _ => fun
  | [d1, d2, d3] => { results := [.lit (.bool true)], args := [d1, d2, d3] }
  | _ => none }
def leapfrogTurnsRow : OpenClaim := { program := "ytiomelogggilgaa", sum := "2110735b1a3c0444dfdf293da01f09eee22ffc7847c77bd9a7cb73cd69befcf4", func := "ordinal/ordinallaw35.LeapfrogTurns", spec := "leapfrogTurns", inPlace := ["internal/bytealg.abigen_runtime_cmpstring"], unfollowed := true, recurses := true, apart := false }
def LeapfrogTurnsSaid : Prop := leapfrogTurnsRow.holds Try.pinned (OpenSpec.ofChange leapfrogTurnsSpec)

/-- ITS FALSE NEIGHBOUR: 'it returns false'. Refute it at one input. -/
def leapfrogTurnsWrong : ChangeSpec := { name := "leapfrogTurns", fn := fun _ => fun
  | [d1, d2, d3] => { results := [.lit (.bool false)], args := [d1, d2, d3] }
  | _ => none }
def LeapfrogTurnsWrongFalsely : Prop := leapfrogTurnsRow.holds Try.pinned (OpenSpec.ofChange leapfrogTurnsWrong)

/-- 'ordinallaw35.LeapfrogRestricts': WHATEVER THE INPUT: true; the input reads as it did. -/
def leapfrogRestrictsSpec : ChangeSpec := { name := "leapfrogRestricts", fn := fun _ => fun
  | [d1, d2, d3] => { results := [.lit (.bool true)], args := [d1, d2, d3] }
  | _ => none }
def leapfrogRestrictsRow : OpenClaim := { program := "ytiomelogggilgaa", sum := "2110735b1a3c0444dfdf293da01f09eee22ffc7847c77bd9a7cb73cd69befcf4", func := "ordinal/ordinallaw35.LeapfrogRestricts", spec := "leapfrogRestricts", inPlace := ["internal/bytealg.abigen_runtime_cmpstring"], unfollowed := true, recurses := true, apart := false }
def LeapfrogRestrictsSaid : Prop := leapfrogRestrictsRow.holds Try.pinned (OpenSpec.ofChange leapfrogRestrictsSpec)

/-- ITS FALSE NEIGHBOUR: 'it returns false'. Refute it at one input. -/
def leapfrogRestrictsWrong : ChangeSpec := { name := "leapfrogRestricts", fn := fun _ => fun
  | [d1, d2, d3] => { results := [.lit (.bool false)], args := [d1, d2, d3] }
  | _ => none }
def LeapfrogRestrictsWrongFalsely : Prop := leapfrogRestrictsRow.holds Try.pinned (OpenSpec.ofChange leapfrogRestrictsWrong)

/-- 'ordinallaw35.LeapfrogSatisfies': WHATEVER THE INPUT: true; the input reads as it did. -/
def leapfrogSatisfiesSpec : ChangeSpec := { name := "leapfrogSatisfies", fn := fun _ => fun
  | [d1, d2] => { results := [.lit (.bool true)], args := [d1, d2] }
  | _ => none }
def leapfrogSatisfiesRow : OpenClaim := { program := "ytiomelogggilgaa", sum := "2110735b1a3c0444dfdf293da01f09eee22ffc7847c77bd9a7cb73cd69befcf4", func := "ordinal/ordinallaw35.LeapfrogSatisfies", spec := "leapfrogSatisfies", inPlace := ["internal/bytealg.abigen_runtime_cmpstring"], unfollowed := true, recurses := true, apart := false }
def LeapfrogSatisfiesSaid : Prop := leapfrogSatisfiesRow.holds Try.pinned (OpenSpec.ofChange leapfrogSatisfiesSpec)

/-- ITS FALSE NEIGHBOUR: 'it returns false'. Refute it at one input. -/
def leapfrogSatisfiesWrong : ChangeSpec := { name := "leapfrogSatisfies", fn := fun _ => fun
  | [d1, d2] => { results := [.lit (.bool false)], args := [d1, d2] }
  | _ => none }
def LeapfrogSatisfiesWrongFalsely : Prop := leapfrogSatisfiesRow.holds Try.pinned (OpenSpec.ofChange leapfrogSatisfiesWrong)

/-- 'ordinallaw35.LeapfrogChecks': WHATEVER THE INPUT: true; the input reads as it did. -/
def leapfrogChecksSpec : ChangeSpec := { name := "leapfrogChecks", fn := fun _ => fun
  | [d1, d2] => { results := [.lit (.bool true)], args := [d1, d2] }
  | _ => none }
def leapfrogChecksRow : OpenClaim := { program := "ytiomelogggilgaa", sum := "2110735b1a3c0444dfdf293da01f09eee22ffc7847c77bd9a7cb73cd69befcf4", func := "ordinal/ordinallaw35.LeapfrogChecks", spec := "leapfrogChecks", inPlace := ["internal/bytealg.abigen_runtime_cmpstring"], unfollowed := true, recurses := true, apart := false }
def LeapfrogChecksSaid : Prop := leapfrogChecksRow.holds Try.pinned (OpenSpec.ofChange leapfrogChecksSpec)

/-- ITS FALSE NEIGHBOUR: 'it returns false'. Refute it at one input. -/
def leapfrogChecksWrong : ChangeSpec := { name := "leapfrogChecks", fn := fun _ => fun
  | [d1, d2] => { results := [.lit (.bool false)], args := [d1, d2] }
  | _ => none }
def LeapfrogChecksWrongFalsely : Prop := leapfrogChecksRow.holds Try.pinned (OpenSpec.ofChange leapfrogChecksWrong)

/-- 'ordinallaw35.LeapfrogJoins': WHATEVER THE INPUT: true; the input reads as it did. -/
def leapfrogJoinsSpec : ChangeSpec := { name := "leapfrogJoins", fn := fun _ => fun
  | [d1, d2] => { results := [.lit (.bool true)], args := [d1, d2] }
  | _ => none }
def leapfrogJoinsRow : OpenClaim := { program := "ytiomelogggilgaa", sum := "2110735b1a3c0444dfdf293da01f09eee22ffc7847c77bd9a7cb73cd69befcf4", func := "ordinal/ordinallaw35.LeapfrogJoins", spec := "leapfrogJoins", inPlace := ["internal/bytealg.abigen_runtime_cmpstring"], unfollowed := true, recurses := true, apart := false }
def LeapfrogJoinsSaid : Prop := leapfrogJoinsRow.holds Try.pinned (OpenSpec.ofChange leapfrogJoinsSpec)

/-- ITS FALSE NEIGHBOUR: 'it returns false'. Refute it at one input. -/
def leapfrogJoinsWrong : ChangeSpec := { name := "leapfrogJoins", fn := fun _ => fun
  | [d1, d2] => { results := [.lit (.bool false)], args := [d1, d2] }
  | _ => none }
def LeapfrogJoinsWrongFalsely : Prop := leapfrogJoinsRow.holds Try.pinned (OpenSpec.ofChange leapfrogJoinsWrong)

/-- 'ordinallaw35.LeapfrogMeets': WHATEVER THE INPUT: true; the input reads as it did. -/
def leapfrogMeetsSpec : ChangeSpec := { name := "leapfrogMeets", fn := fun _ => fun
  | [d1, d2, d3] => { results := [.lit (.bool true)], args := [d1, d2, d3] }
  | _ => none }
def leapfrogMeetsRow : OpenClaim := { program := "ytiomelogggilgaa", sum := "2110735b1a3c0444dfdf293da01f09eee22ffc7847c77bd9a7cb73cd69befcf4", func := "ordinal/ordinallaw35.LeapfrogMeets", spec := "leapfrogMeets", inPlace := ["internal/bytealg.abigen_runtime_cmpstring"], unfollowed := true, recurses := true, apart := false }
def LeapfrogMeetsSaid : Prop := leapfrogMeetsRow.holds Try.pinned (OpenSpec.ofChange leapfrogMeetsSpec)

/-- ITS FALSE NEIGHBOUR: 'it returns false'. Refute it at one input. -/
def leapfrogMeetsWrong : ChangeSpec := { name := "leapfrogMeets", fn := fun _ => fun
  | [d1, d2, d3] => { results := [.lit (.bool false)], args := [d1, d2, d3] }
  | _ => none }
def LeapfrogMeetsWrongFalsely : Prop := leapfrogMeetsRow.holds Try.pinned (OpenSpec.ofChange leapfrogMeetsWrong)

/- THE SECOND FORM. 'bulk': how many values and letters a reading holds, each counted each time it is reached (what is shared counts as often as it is met; a slice's spare places count too). A statement '..UptoSaid' is the law's where the arguments, and the package variables that the reading takes, are together of bulk at most 1048576: NARROWER than '..Said'. Prove '..Said' where nothing that the law and all that it calls make is longer than what came in: it says more and counts as full. Else prove '..UptoSaid'. A law counts once. -/
mutual
def uptoBulk {H : Type} : DataW H → Nat
  | .lit (.string bytes) => bytes.length + 1
  | .lit _ => 1
  | .nil => 1
  | .ptr d => uptoBulk d + 1
  | .slice elems spare => uptoBulkAll elems + uptoBulkAll spare + 1
  | .agg parts => uptoBulkAll parts + 1
  | .iface _ d => uptoBulk d + 1
  | .map entries => uptoBulkEntries entries + 1
  | .held _ => 1
def uptoBulkAll {H : Type} : List (DataW H) → Nat
  | [] => 0
  | d :: r => uptoBulk d + uptoBulkAll r
def uptoBulkEntries {H : Type} : List (Lit × DataW H) → Nat
  | [] => 0
  | x :: r => uptoBulkEntry x + uptoBulkEntries r
def uptoBulkEntry {H : Type} : Lit × DataW H → Nat
  | (.string bytes, d) => bytes.length + uptoBulk d + 1
  | (_, d) => uptoBulk d + 1
 end
def uptoSmall : (H : Type) → List (DataW H) → Bool := fun _ ds => decide (uptoBulkAll ds ≤ 1048576)
def OpenSpec.upto (s : _root_.Go.ChangeSpec) : _root_.Go.OpenSpec := { _root_.Go.OpenSpec.ofChange s with cond := some uptoSmall }

/-- 'ordinallaw35.LeapfrogStops', WHERE WHAT IT READS IS OF BULK AT MOST 1048576: true; the input reads as it did. -/
def leapfrogStopsUptoRow : OpenClaim := { program := "ytiomelogggilgaa", sum := "2110735b1a3c0444dfdf293da01f09eee22ffc7847c77bd9a7cb73cd69befcf4", func := "ordinal/ordinallaw35.LeapfrogStops", spec := "leapfrogStops", inPlace := ["internal/bytealg.abigen_runtime_cmpstring"], unfollowed := true, recurses := true, apart := false, narrowed := true }
def LeapfrogStopsUptoSaid : Prop := leapfrogStopsUptoRow.holds Try.pinned (OpenSpec.upto leapfrogStopsSpec)

/-- 'ordinallaw35.LeapfrogTurns', WHERE WHAT IT READS IS OF BULK AT MOST 1048576: true; the input reads as it did. -/
def leapfrogTurnsUptoRow : OpenClaim := { program := "ytiomelogggilgaa", sum := "2110735b1a3c0444dfdf293da01f09eee22ffc7847c77bd9a7cb73cd69befcf4", func := "ordinal/ordinallaw35.LeapfrogTurns", spec := "leapfrogTurns", inPlace := ["internal/bytealg.abigen_runtime_cmpstring"], unfollowed := true, recurses := true, apart := false, narrowed := true }
def LeapfrogTurnsUptoSaid : Prop := leapfrogTurnsUptoRow.holds Try.pinned (OpenSpec.upto leapfrogTurnsSpec)

/-- 'ordinallaw35.LeapfrogRestricts', WHERE WHAT IT READS IS OF BULK AT MOST 1048576: true; the input reads as it did. -/
def leapfrogRestrictsUptoRow : OpenClaim := { program := "ytiomelogggilgaa", sum := "2110735b1a3c0444dfdf293da01f09eee22ffc7847c77bd9a7cb73cd69befcf4", func := "ordinal/ordinallaw35.LeapfrogRestricts", spec := "leapfrogRestricts", inPlace := ["internal/bytealg.abigen_runtime_cmpstring"], unfollowed := true, recurses := true, apart := false, narrowed := true }
def LeapfrogRestrictsUptoSaid : Prop := leapfrogRestrictsUptoRow.holds Try.pinned (OpenSpec.upto leapfrogRestrictsSpec)

/-- 'ordinallaw35.LeapfrogSatisfies', WHERE WHAT IT READS IS OF BULK AT MOST 1048576: true; the input reads as it did. -/
def leapfrogSatisfiesUptoRow : OpenClaim := { program := "ytiomelogggilgaa", sum := "2110735b1a3c0444dfdf293da01f09eee22ffc7847c77bd9a7cb73cd69befcf4", func := "ordinal/ordinallaw35.LeapfrogSatisfies", spec := "leapfrogSatisfies", inPlace := ["internal/bytealg.abigen_runtime_cmpstring"], unfollowed := true, recurses := true, apart := false, narrowed := true }
def LeapfrogSatisfiesUptoSaid : Prop := leapfrogSatisfiesUptoRow.holds Try.pinned (OpenSpec.upto leapfrogSatisfiesSpec)

/-- 'ordinallaw35.LeapfrogChecks', WHERE WHAT IT READS IS OF BULK AT MOST 1048576: true; the input reads as it did. -/
def leapfrogChecksUptoRow : OpenClaim := { program := "ytiomelogggilgaa", sum := "2110735b1a3c0444dfdf293da01f09eee22ffc7847c77bd9a7cb73cd69befcf4", func := "ordinal/ordinallaw35.LeapfrogChecks", spec := "leapfrogChecks", inPlace := ["internal/bytealg.abigen_runtime_cmpstring"], unfollowed := true, recurses := true, apart := false, narrowed := true }
def LeapfrogChecksUptoSaid : Prop := leapfrogChecksUptoRow.holds Try.pinned (OpenSpec.upto leapfrogChecksSpec)

/-- 'ordinallaw35.LeapfrogJoins', WHERE WHAT IT READS IS OF BULK AT MOST 1048576: true; the input reads as it did. -/
def leapfrogJoinsUptoRow : OpenClaim := { program := "ytiomelogggilgaa", sum := "2110735b1a3c0444dfdf293da01f09eee22ffc7847c77bd9a7cb73cd69befcf4", func := "ordinal/ordinallaw35.LeapfrogJoins", spec := "leapfrogJoins", inPlace := ["internal/bytealg.abigen_runtime_cmpstring"], unfollowed := true, recurses := true, apart := false, narrowed := true }
def LeapfrogJoinsUptoSaid : Prop := leapfrogJoinsUptoRow.holds Try.pinned (OpenSpec.upto leapfrogJoinsSpec)

/-- 'ordinallaw35.LeapfrogMeets', WHERE WHAT IT READS IS OF BULK AT MOST 1048576: true; the input reads as it did. -/
def leapfrogMeetsUptoRow : OpenClaim := { program := "ytiomelogggilgaa", sum := "2110735b1a3c0444dfdf293da01f09eee22ffc7847c77bd9a7cb73cd69befcf4", func := "ordinal/ordinallaw35.LeapfrogMeets", spec := "leapfrogMeets", inPlace := ["internal/bytealg.abigen_runtime_cmpstring"], unfollowed := true, recurses := true, apart := false, narrowed := true }
def LeapfrogMeetsUptoSaid : Prop := leapfrogMeetsUptoRow.holds Try.pinned (OpenSpec.upto leapfrogMeetsSpec)

end Rows
end Go.Proofs.Ytiomelogggilgaa

/-
  No cell of these rows narrows 'for every input' (looked for: loops, veiled, ifaces, maps, wideKeys, modest, calm, conditions, laid).
  DERIVED. THE GIVEN ROWS OF THIS SEAT. 7 by the template 'for every input the law returns true; each argument reads behind the call as it read before'; 0 by the template 'total and deterministic' (their statements: YtfiegiifoekfmaaTotals.lean).
  GIVEN WITH THE SEED: the statements are not yours to turn. If you find one false, say at which input.
  Laid BY PROGRAM, IN A SANDBOX (cutbox-rows.mjs): the forced cells as the released guide's own fill.sh prints them over the translation d884f1e7915f7418… (all of the seat's roots in one cut). By AI agents, Wed Nov 11 2026. No macro, syntax, notation, axiom, sorry.
-/
import Derived.Test.YtfiegiifoekfmaaChecked
import GoSem.Claim
import GoSem.ClaimJoined
import GoSem.ClaimMapViews
import Derived.JoinedTies
import Derived.KernelRfl
namespace Go.Proofs.Ytfiegiifoekfmaa
/- THE CELL 'sum', in the pinned program and in every row, IS THE sha256 OF THE DUMP (.gsa) THAT YtfiegiifoekfmaaProg.lean LOADS. Nothing in Lean hashes anything: it is a label: what it is worth is what the hold of that sum in a sandbox is worth. -/
noncomputable def Try.pinned : Pinned := { name := "ytfiegiifoekfmaa", sum := "d884f1e7915f741870e82a007838c0b00f80e9337eb3c03c1c00a45054eb2b7e", checked := Try.checked }
namespace Rows
def none {H : Type} : Left H := { results := [], args := [] }

/-- 'ordinallaw27.JointreeChecks': WHATEVER THE INPUT: true; the input reads as it did. -/
def jointreeChecksSpec : ChangeSpec := { name := "jointreeChecks", fn := fun _ => fun
  | [d1, d2] => { results := [.lit (.bool true)], args := [d1, d2] }
  | _ => none }
def jointreeChecksRow : OpenClaim := { program := "ytfiegiifoekfmaa", sum := "d884f1e7915f741870e82a007838c0b00f80e9337eb3c03c1c00a45054eb2b7e", func := "ordinal/ordinallaw27.JointreeChecks", spec := "jointreeChecks", unfollowed := true, recurses := true, apart := false }
def JointreeChecksSaid : Prop := jointreeChecksRow.holds Try.pinned (OpenSpec.ofChange jointreeChecksSpec)

/-- ITS FALSE NEIGHBOUR: 'it returns false'. Refute it at one input. -/
def jointreeChecksWrong : ChangeSpec := { name := "jointreeChecks", fn := fun _ => fun
  | [d1, d2] => { results := [.lit (.bool false)], args := [d1, d2] }
  | _ => none }
def JointreeChecksWrongFalsely : Prop := jointreeChecksRow.holds Try.pinned (OpenSpec.ofChange jointreeChecksWrong)

/-- 'ordinallaw27.JointreeBuilds': WHATEVER THE INPUT: true; the input reads as it did. -/
def jointreeBuildsSpec : ChangeSpec := { name := "jointreeBuilds", fn := fun _ => fun
  | [d] => { results := [.lit (.bool true)], args := [d] }
  | _ => none }
def jointreeBuildsRow : OpenClaim := { program := "ytfiegiifoekfmaa", sum := "d884f1e7915f741870e82a007838c0b00f80e9337eb3c03c1c00a45054eb2b7e", func := "ordinal/ordinallaw27.JointreeBuilds", spec := "jointreeBuilds", unfollowed := true, recurses := true, apart := false }
def JointreeBuildsSaid : Prop := jointreeBuildsRow.holds Try.pinned (OpenSpec.ofChange jointreeBuildsSpec)

/-- ITS FALSE NEIGHBOUR: 'it returns false'. Refute it at one input. -/
def jointreeBuildsWrong : ChangeSpec := { name := "jointreeBuilds", fn := fun _ => fun
  | [d] => { results := [.lit (.bool false)], args := [d] }
  | _ => none }
def JointreeBuildsWrongFalsely : Prop := jointreeBuildsRow.holds Try.pinned (OpenSpec.ofChange jointreeBuildsWrong)

/-- 'ordinallaw27.JointreeNone': WHATEVER THE INPUT: true; the input reads as it did. -/
def jointreeNoneSpec : ChangeSpec := { name := "jointreeNone", fn := fun _ => fun
  | [d1, d2] => { results := [.lit (.bool true)], args := [d1, d2] }
  | _ => none }
def jointreeNoneRow : OpenClaim := { program := "ytfiegiifoekfmaa", sum := "d884f1e7915f741870e82a007838c0b00f80e9337eb3c03c1c00a45054eb2b7e", func := "ordinal/ordinallaw27.JointreeNone", spec := "jointreeNone", unfollowed := true, recurses := true, apart := false }
def JointreeNoneSaid : Prop := jointreeNoneRow.holds Try.pinned (OpenSpec.ofChange jointreeNoneSpec)

/-- ITS FALSE NEIGHBOUR: 'it returns false'. Refute it at one input. -/
def jointreeNoneWrong : ChangeSpec := { name := "jointreeNone", fn := fun _ => fun
  | [d1, d2] => { results := [.lit (.bool false)], args := [d1, d2] }
  | _ => none }
def JointreeNoneWrongFalsely : Prop := jointreeNoneRow.holds Try.pinned (OpenSpec.ofChange jointreeNoneWrong)

/-- 'ordinallaw27.JointreeOrders': WHATEVER THE INPUT: true; the input reads as it did. -/
def jointreeOrdersSpec : ChangeSpec := { name := "jointreeOrders", fn := fun _ => fun
  | [d] => { results := [.lit (.bool true)], args := [d] }
  | _ => none }
def jointreeOrdersRow : OpenClaim := { program := "ytfiegiifoekfmaa", sum := "d884f1e7915f741870e82a007838c0b00f80e9337eb3c03c1c00a45054eb2b7e", func := "ordinal/ordinallaw27.JointreeOrders", spec := "jointreeOrders", unfollowed := true, recurses := true, apart := false }
def JointreeOrdersSaid : Prop := jointreeOrdersRow.holds Try.pinned (OpenSpec.ofChange jointreeOrdersSpec)

/-- ITS FALSE NEIGHBOUR: 'it returns false'. Refute it at one input. -/
def jointreeOrdersWrong : ChangeSpec := { name := "jointreeOrders", fn := fun _ => fun
  | [d] => { results := [.lit (.bool false)], args := [d] }
  | _ => none }
def JointreeOrdersWrongFalsely : Prop := jointreeOrdersRow.holds Try.pinned (OpenSpec.ofChange jointreeOrdersWrong)

/-- 'ordinallaw27.JointreeGrows': WHATEVER THE INPUT: true; the input reads as it did. -/
def jointreeGrowsSpec : ChangeSpec := { name := "jointreeGrows", fn := fun _ => fun
  | [d1, d2, d3] => { results := [.lit (.bool true)], args := [d1, d2, d3] }
  | _ => none }
def jointreeGrowsRow : OpenClaim := { program := "ytfiegiifoekfmaa", sum := "d884f1e7915f741870e82a007838c0b00f80e9337eb3c03c1c00a45054eb2b7e", func := "ordinal/ordinallaw27.JointreeGrows", spec := "jointreeGrows", unfollowed := true, recurses := true, apart := false }
def JointreeGrowsSaid : Prop := jointreeGrowsRow.holds Try.pinned (OpenSpec.ofChange jointreeGrowsSpec)

/-- ITS FALSE NEIGHBOUR: 'it returns false'. Refute it at one input. -/
def jointreeGrowsWrong : ChangeSpec := { name := "jointreeGrows", fn := fun _ => fun
  | [d1, d2, d3] => { results := [.lit (.bool false)], args := [d1, d2, d3] }
  | _ => none }
def JointreeGrowsWrongFalsely : Prop := jointreeGrowsRow.holds Try.pinned (OpenSpec.ofChange jointreeGrowsWrong)

/-- 'ordinallaw27.JointreeReroots': WHATEVER THE INPUT: true; the input reads as it did. -/
def jointreeRerootsSpec : ChangeSpec := { name := "jointreeReroots", fn := fun _ => fun
  | [d1, d2] => { results := [.lit (.bool true)], args := [d1, d2] }
  | _ => none }
def jointreeRerootsRow : OpenClaim := { program := "ytfiegiifoekfmaa", sum := "d884f1e7915f741870e82a007838c0b00f80e9337eb3c03c1c00a45054eb2b7e", func := "ordinal/ordinallaw27.JointreeReroots", spec := "jointreeReroots", unfollowed := true, recurses := true, apart := false }
def JointreeRerootsSaid : Prop := jointreeRerootsRow.holds Try.pinned (OpenSpec.ofChange jointreeRerootsSpec)

/-- ITS FALSE NEIGHBOUR: 'it returns false'. Refute it at one input. -/
def jointreeRerootsWrong : ChangeSpec := { name := "jointreeReroots", fn := fun _ => fun
  | [d1, d2] => { results := [.lit (.bool false)], args := [d1, d2] }
  | _ => none }
def JointreeRerootsWrongFalsely : Prop := jointreeRerootsRow.holds Try.pinned (OpenSpec.ofChange jointreeRerootsWrong)

/-- 'ordinallaw27.JointreeSeparates': WHATEVER THE INPUT: true; the input reads as it did. -/
def jointreeSeparatesSpec : ChangeSpec := { name := "jointreeSeparates", fn := fun _ => fun
  | [d1, d2, d3] => { results := [.lit (.bool true)], args := [d1, d2, d3] }
  | _ => none }
def jointreeSeparatesRow : OpenClaim := { program := "ytfiegiifoekfmaa", sum := "d884f1e7915f741870e82a007838c0b00f80e9337eb3c03c1c00a45054eb2b7e", func := "ordinal/ordinallaw27.JointreeSeparates", spec := "jointreeSeparates", unfollowed := true, recurses := true, apart := false }
def JointreeSeparatesSaid : Prop := jointreeSeparatesRow.holds Try.pinned (OpenSpec.ofChange jointreeSeparatesSpec)

/-- ITS FALSE NEIGHBOUR: 'it returns false'. Refute it at one input. -/
def jointreeSeparatesWrong : ChangeSpec := { name := "jointreeSeparates", fn := fun _ => fun
  | [d1, d2, d3] => { results := [.lit (.bool false)], args := [d1, d2, d3] }
  | _ => none }
def JointreeSeparatesWrongFalsely : Prop := jointreeSeparatesRow.holds Try.pinned (OpenSpec.ofChange jointreeSeparatesWrong)

/- THE SECOND FORM. 'bulk': how many values and letters a reading holds, each counted each time it is reached (what is shared counts as often as it is met; a slice's spare places count too). A statement '..UptoSaid' is the law's where the arguments, and the package variables that the reading takes, are together of bulk at most 1048576: NARROWER than '..Said'. Prove '..Said' where nothing that the law and all that it calls make is longer than what came in: it says more and counts as full. Else prove '..UptoSaid'. A law counts once. -/
mutual
def uptoBulk {H : Type} : DataW H → Nat
  | .lit (.string bytes) => bytes.length + 1
  | .lit _ => 1
  | .nil => 1
  | .ptr d => uptoBulk d + 1
  | .slice elems spare => uptoBulkAll elems + uptoBulkAll spare + 1
  | .agg parts => uptoBulkAll parts + 1
  | .iface _ d => uptoBulk d + 1
  | .map entries => uptoBulkEntries entries + 1
  | .held _ => 1
def uptoBulkAll {H : Type} : List (DataW H) → Nat
  | [] => 0
  | d :: r => uptoBulk d + uptoBulkAll r
def uptoBulkEntries {H : Type} : List (Lit × DataW H) → Nat
  | [] => 0
  | x :: r => uptoBulkEntry x + uptoBulkEntries r
def uptoBulkEntry {H : Type} : Lit × DataW H → Nat
  | (.string bytes, d) => bytes.length + uptoBulk d + 1
  | (_, d) => uptoBulk d + 1
 end
def uptoSmall : (H : Type) → List (DataW H) → Bool := fun _ ds => decide (uptoBulkAll ds ≤ 1048576)
def OpenSpec.upto (s : _root_.Go.ChangeSpec) : _root_.Go.OpenSpec := { _root_.Go.OpenSpec.ofChange s with cond := some uptoSmall }

/-- 'ordinallaw27.JointreeChecks', WHERE WHAT IT READS IS OF BULK AT MOST 1048576: true; the input reads as it did. -/
def jointreeChecksUptoRow : OpenClaim := { program := "ytfiegiifoekfmaa", sum := "d884f1e7915f741870e82a007838c0b00f80e9337eb3c03c1c00a45054eb2b7e", func := "ordinal/ordinallaw27.JointreeChecks", spec := "jointreeChecks", unfollowed := true, recurses := true, apart := false, narrowed := true }
def JointreeChecksUptoSaid : Prop := jointreeChecksUptoRow.holds Try.pinned (OpenSpec.upto jointreeChecksSpec)

/-- 'ordinallaw27.JointreeBuilds', WHERE WHAT IT READS IS OF BULK AT MOST 1048576: true; the input reads as it did. -/
def jointreeBuildsUptoRow : OpenClaim := { program := "ytfiegiifoekfmaa", sum := "d884f1e7915f741870e82a007838c0b00f80e9337eb3c03c1c00a45054eb2b7e", func := "ordinal/ordinallaw27.JointreeBuilds", spec := "jointreeBuilds", unfollowed := true, recurses := true, apart := false, narrowed := true }
def JointreeBuildsUptoSaid : Prop := jointreeBuildsUptoRow.holds Try.pinned (OpenSpec.upto jointreeBuildsSpec)

/-- 'ordinallaw27.JointreeNone', WHERE WHAT IT READS IS OF BULK AT MOST 1048576: true; the input reads as it did. -/
def jointreeNoneUptoRow : OpenClaim := { program := "ytfiegiifoekfmaa", sum := "d884f1e7915f741870e82a007838c0b00f80e9337eb3c03c1c00a45054eb2b7e", func := "ordinal/ordinallaw27.JointreeNone", spec := "jointreeNone", unfollowed := true, recurses := true, apart := false, narrowed := true }
def JointreeNoneUptoSaid : Prop := jointreeNoneUptoRow.holds Try.pinned (OpenSpec.upto jointreeNoneSpec)

/-- 'ordinallaw27.JointreeOrders', WHERE WHAT IT READS IS OF BULK AT MOST 1048576: true; the input reads as it did. -/
def jointreeOrdersUptoRow : OpenClaim := { program := "ytfiegiifoekfmaa", sum := "d884f1e7915f741870e82a007838c0b00f80e9337eb3c03c1c00a45054eb2b7e", func := "ordinal/ordinallaw27.JointreeOrders", spec := "jointreeOrders", unfollowed := true, recurses := true, apart := false, narrowed := true }
def JointreeOrdersUptoSaid : Prop := jointreeOrdersUptoRow.holds Try.pinned (OpenSpec.upto jointreeOrdersSpec)

/-- 'ordinallaw27.JointreeGrows', WHERE WHAT IT READS IS OF BULK AT MOST 1048576: true; the input reads as it did. -/
def jointreeGrowsUptoRow : OpenClaim := { program := "ytfiegiifoekfmaa", sum := "d884f1e7915f741870e82a007838c0b00f80e9337eb3c03c1c00a45054eb2b7e", func := "ordinal/ordinallaw27.JointreeGrows", spec := "jointreeGrows", unfollowed := true, recurses := true, apart := false, narrowed := true }
def JointreeGrowsUptoSaid : Prop := jointreeGrowsUptoRow.holds Try.pinned (OpenSpec.upto jointreeGrowsSpec)

/-- 'ordinallaw27.JointreeReroots', WHERE WHAT IT READS IS OF BULK AT MOST 1048576: true; the input reads as it did. -/
def jointreeRerootsUptoRow : OpenClaim := { program := "ytfiegiifoekfmaa", sum := "d884f1e7915f741870e82a007838c0b00f80e9337eb3c03c1c00a45054eb2b7e", func := "ordinal/ordinallaw27.JointreeReroots", spec := "jointreeReroots", unfollowed := true, recurses := true, apart := false, narrowed := true }
def JointreeRerootsUptoSaid : Prop := jointreeRerootsUptoRow.holds Try.pinned (OpenSpec.upto jointreeRerootsSpec)

/-- 'ordinallaw27.JointreeSeparates', WHERE WHAT IT READS IS OF BULK AT MOST 1048576: true; the input reads as it did. -/
def jointreeSeparatesUptoRow : OpenClaim := { program := "ytfiegiifoekfmaa", sum := "d884f1e7915f741870e82a007838c0b00f80e9337eb3c03c1c00a45054eb2b7e", func := "ordinal/ordinallaw27.JointreeSeparates", spec := "jointreeSeparates", unfollowed := true, recurses := true, apart := false, narrowed := true }
def JointreeSeparatesUptoSaid : Prop := jointreeSeparatesUptoRow.holds Try.pinned (OpenSpec.upto jointreeSeparatesSpec)

end Rows
end Go.Proofs.Ytfiegiifoekfmaa

/-
  No cell of these rows narrows 'for every input' (looked for: loops, veiled, ifaces, maps, wideKeys, modest, calm, conditions, laid).
  DERIVED. THE GIVEN ROWS OF THIS SEAT. 5 by the template 'for every input the law returns true; each argument reads behind the call as it read before'; 0 by the template 'total and deterministic' (their statements: YtgaffbdcpkbdhaaTotals.lean).
  GIVEN WITH THE SEED: the statements are not yours to turn. If you find one false, say at which input.
  Laid BY PROGRAM, IN A SANDBOX (cutbox-rows.mjs): the forced cells as the released guide's own fill.sh prints them over the translation e0798b87aa50002a… (all of the seat's roots in one cut). By AI agents, Wed Nov 11 2026. No macro, syntax, notation, axiom, sorry.
-/
import Derived.Test.YtgaffbdcpkbdhaaChecked
import GoSem.Claim
import GoSem.ClaimJoined
import GoSem.ClaimMapViews
import Derived.JoinedTies
import Derived.KernelRfl
namespace Go.Proofs.Ytgaffbdcpkbdhaa
/- THE CELL 'sum', in the pinned program and in every row, IS THE sha256 OF THE DUMP (.gsa) THAT YtgaffbdcpkbdhaaProg.lean LOADS. Nothing in Lean hashes anything: it is a label: what it is worth is what the hold of that sum in a sandbox is worth. -/
noncomputable def Try.pinned : Pinned := { name := "ytgaffbdcpkbdhaa", sum := "e0798b87aa50002a1ea0a03da64cdc4e74405040c77094ec1e3aad98de0df2e5", checked := Try.checked }
namespace Rows
def none {H : Type} : Left H := { results := [], args := [] }

/-- 'ordinallaw16.SnapshotFills': WHATEVER THE INPUT: true; the input reads as it did. -/
def snapshotFillsSpec : ChangeSpec := { name := "snapshotFills", fn := fun _ => fun
  | [d1, d2] => { results := [.lit (.bool true)], args := [d1, d2] }
  | _ => none }
def snapshotFillsRow : OpenClaim := { program := "ytgaffbdcpkbdhaa", sum := "e0798b87aa50002a1ea0a03da64cdc4e74405040c77094ec1e3aad98de0df2e5", func := "ordinal/ordinallaw16.SnapshotFills", spec := "snapshotFills", inPlace := ["maps.clone", "internal/bytealg.abigen_runtime_cmpstring"], unfollowed := true, recurses := true, apart := false }
def SnapshotFillsSaid : Prop := snapshotFillsRow.holds Try.pinned (OpenSpec.ofChange snapshotFillsSpec)

/-- ITS FALSE NEIGHBOUR: 'it returns false'. Refute it at one input. -/
def snapshotFillsWrong : ChangeSpec := { name := "snapshotFills", fn := fun _ => fun
  | [d1, d2] => { results := [.lit (.bool false)], args := [d1, d2] }
  | _ => none }
def SnapshotFillsWrongFalsely : Prop := snapshotFillsRow.holds Try.pinned (OpenSpec.ofChange snapshotFillsWrong)

/-- 'ordinallaw16.SnapshotPins': WHATEVER THE INPUT: true; the input reads as it did. -/
def snapshotPinsSpec : ChangeSpec := { name := "snapshotPins", fn := fun _ => fun
  | [d] => { results := [.lit (.bool true)], args := [d] }
  | _ => none }
def snapshotPinsRow : OpenClaim := { program := "ytgaffbdcpkbdhaa", sum := "e0798b87aa50002a1ea0a03da64cdc4e74405040c77094ec1e3aad98de0df2e5", func := "ordinal/ordinallaw16.SnapshotPins", spec := "snapshotPins", inPlace := ["maps.clone", "internal/bytealg.abigen_runtime_cmpstring"], unfollowed := true, recurses := true, apart := false }
def SnapshotPinsSaid : Prop := snapshotPinsRow.holds Try.pinned (OpenSpec.ofChange snapshotPinsSpec)

/-- ITS FALSE NEIGHBOUR: 'it returns false'. Refute it at one input. -/
def snapshotPinsWrong : ChangeSpec := { name := "snapshotPins", fn := fun _ => fun
  | [d] => { results := [.lit (.bool false)], args := [d] }
  | _ => none }
def SnapshotPinsWrongFalsely : Prop := snapshotPinsRow.holds Try.pinned (OpenSpec.ofChange snapshotPinsWrong)

/-- 'ordinallaw16.SnapshotFails': WHATEVER THE INPUT: true; the input reads as it did. -/
def snapshotFailsSpec : ChangeSpec := { name := "snapshotFails", fn := fun _ => fun
  | [d1, d2, d3] => { results := [.lit (.bool true)], args := [d1, d2, d3] }
  | _ => none }
def snapshotFailsRow : OpenClaim := { program := "ytgaffbdcpkbdhaa", sum := "e0798b87aa50002a1ea0a03da64cdc4e74405040c77094ec1e3aad98de0df2e5", func := "ordinal/ordinallaw16.SnapshotFails", spec := "snapshotFails", inPlace := ["maps.clone", "internal/bytealg.abigen_runtime_cmpstring"], unfollowed := true, recurses := true, apart := false }
def SnapshotFailsSaid : Prop := snapshotFailsRow.holds Try.pinned (OpenSpec.ofChange snapshotFailsSpec)

/-- ITS FALSE NEIGHBOUR: 'it returns false'. Refute it at one input. -/
def snapshotFailsWrong : ChangeSpec := { name := "snapshotFails", fn := fun _ => fun
  | [d1, d2, d3] => { results := [.lit (.bool false)], args := [d1, d2, d3] }
  | _ => none }
def SnapshotFailsWrongFalsely : Prop := snapshotFailsRow.holds Try.pinned (OpenSpec.ofChange snapshotFailsWrong)

/-- 'ordinallaw16.SnapshotKeeps': WHATEVER THE INPUT: true; the input reads as it did. -/
def snapshotKeepsSpec : ChangeSpec := { name := "snapshotKeeps", fn := fun _ => fun
  | [d1, d2, d3] => { results := [.lit (.bool true)], args := [d1, d2, d3] }
  | _ => none }
def snapshotKeepsRow : OpenClaim := { program := "ytgaffbdcpkbdhaa", sum := "e0798b87aa50002a1ea0a03da64cdc4e74405040c77094ec1e3aad98de0df2e5", func := "ordinal/ordinallaw16.SnapshotKeeps", spec := "snapshotKeeps", inPlace := ["maps.clone", "internal/bytealg.abigen_runtime_cmpstring"], unfollowed := true, recurses := true, apart := false }
def SnapshotKeepsSaid : Prop := snapshotKeepsRow.holds Try.pinned (OpenSpec.ofChange snapshotKeepsSpec)

/-- ITS FALSE NEIGHBOUR: 'it returns false'. Refute it at one input. -/
def snapshotKeepsWrong : ChangeSpec := { name := "snapshotKeeps", fn := fun _ => fun
  | [d1, d2, d3] => { results := [.lit (.bool false)], args := [d1, d2, d3] }
  | _ => none }
def SnapshotKeepsWrongFalsely : Prop := snapshotKeepsRow.holds Try.pinned (OpenSpec.ofChange snapshotKeepsWrong)

/-- 'ordinallaw16.SnapshotPlays': WHATEVER THE INPUT: true; the input reads as it did. -/
def snapshotPlaysSpec : ChangeSpec := { name := "snapshotPlays", fn := fun _ => fun
  | [d1, d2, d3] => { results := [.lit (.bool true)], args := [d1, d2, d3] }
  | _ => none }
def snapshotPlaysRow : OpenClaim := { program := "ytgaffbdcpkbdhaa", sum := "e0798b87aa50002a1ea0a03da64cdc4e74405040c77094ec1e3aad98de0df2e5", func := "ordinal/ordinallaw16.SnapshotPlays", spec := "snapshotPlays", inPlace := ["maps.clone", "internal/bytealg.abigen_runtime_cmpstring"], unfollowed := true, recurses := true, apart := false }
def SnapshotPlaysSaid : Prop := snapshotPlaysRow.holds Try.pinned (OpenSpec.ofChange snapshotPlaysSpec)

/-- ITS FALSE NEIGHBOUR: 'it returns false'. Refute it at one input. -/
def snapshotPlaysWrong : ChangeSpec := { name := "snapshotPlays", fn := fun _ => fun
  | [d1, d2, d3] => { results := [.lit (.bool false)], args := [d1, d2, d3] }
  | _ => none }
def SnapshotPlaysWrongFalsely : Prop := snapshotPlaysRow.holds Try.pinned (OpenSpec.ofChange snapshotPlaysWrong)

/- THE SECOND FORM. 'bulk': how many values and letters a reading holds, each counted each time it is reached (what is shared counts as often as it is met; a slice's spare places count too). A statement '..UptoSaid' is the law's where the arguments, and the package variables that the reading takes, are together of bulk at most 1048576: NARROWER than '..Said'. Prove '..Said' where nothing that the law and all that it calls make is longer than what came in: it says more and counts as full. Else prove '..UptoSaid'. A law counts once. -/
mutual
def uptoBulk {H : Type} : DataW H → Nat
  | .lit (.string bytes) => bytes.length + 1
  | .lit _ => 1
  | .nil => 1
  | .ptr d => uptoBulk d + 1
  | .slice elems spare => uptoBulkAll elems + uptoBulkAll spare + 1
  | .agg parts => uptoBulkAll parts + 1
  | .iface _ d => uptoBulk d + 1
  | .map entries => uptoBulkEntries entries + 1
  | .held _ => 1
def uptoBulkAll {H : Type} : List (DataW H) → Nat
  | [] => 0
  | d :: r => uptoBulk d + uptoBulkAll r
def uptoBulkEntries {H : Type} : List (Lit × DataW H) → Nat
  | [] => 0
  | x :: r => uptoBulkEntry x + uptoBulkEntries r
def uptoBulkEntry {H : Type} : Lit × DataW H → Nat
  | (.string bytes, d) => bytes.length + uptoBulk d + 1
  | (_, d) => uptoBulk d + 1
 end
def uptoSmall : (H : Type) → List (DataW H) → Bool := fun _ ds => decide (uptoBulkAll ds ≤ 1048576)
def OpenSpec.upto (s : _root_.Go.ChangeSpec) : _root_.Go.OpenSpec := { _root_.Go.OpenSpec.ofChange s with cond := some uptoSmall }

/-- 'ordinallaw16.SnapshotFills', WHERE WHAT IT READS IS OF BULK AT MOST 1048576: true; the input reads as it did. -/
def snapshotFillsUptoRow : OpenClaim := { program := "ytgaffbdcpkbdhaa", sum := "e0798b87aa50002a1ea0a03da64cdc4e74405040c77094ec1e3aad98de0df2e5", func := "ordinal/ordinallaw16.SnapshotFills", spec := "snapshotFills", inPlace := ["maps.clone", "internal/bytealg.abigen_runtime_cmpstring"], unfollowed := true, recurses := true, apart := false, narrowed := true }
def SnapshotFillsUptoSaid : Prop := snapshotFillsUptoRow.holds Try.pinned (OpenSpec.upto snapshotFillsSpec)

/-- 'ordinallaw16.SnapshotPins', WHERE WHAT IT READS IS OF BULK AT MOST 1048576: true; the input reads as it did. -/
def snapshotPinsUptoRow : OpenClaim := { program := "ytgaffbdcpkbdhaa", sum := "e0798b87aa50002a1ea0a03da64cdc4e74405040c77094ec1e3aad98de0df2e5", func := "ordinal/ordinallaw16.SnapshotPins", spec := "snapshotPins", inPlace := ["maps.clone", "internal/bytealg.abigen_runtime_cmpstring"], unfollowed := true, recurses := true, apart := false, narrowed := true }
def SnapshotPinsUptoSaid : Prop := snapshotPinsUptoRow.holds Try.pinned (OpenSpec.upto snapshotPinsSpec)

/-- 'ordinallaw16.SnapshotFails', WHERE WHAT IT READS IS OF BULK AT MOST 1048576: true; the input reads as it did. -/
def snapshotFailsUptoRow : OpenClaim := { program := "ytgaffbdcpkbdhaa", sum := "e0798b87aa50002a1ea0a03da64cdc4e74405040c77094ec1e3aad98de0df2e5", func := "ordinal/ordinallaw16.SnapshotFails", spec := "snapshotFails", inPlace := ["maps.clone", "internal/bytealg.abigen_runtime_cmpstring"], unfollowed := true, recurses := true, apart := false, narrowed := true }
def SnapshotFailsUptoSaid : Prop := snapshotFailsUptoRow.holds Try.pinned (OpenSpec.upto snapshotFailsSpec)

/-- 'ordinallaw16.SnapshotKeeps', WHERE WHAT IT READS IS OF BULK AT MOST 1048576: true; the input reads as it did. -/
def snapshotKeepsUptoRow : OpenClaim := { program := "ytgaffbdcpkbdhaa", sum := "e0798b87aa50002a1ea0a03da64cdc4e74405040c77094ec1e3aad98de0df2e5", func := "ordinal/ordinallaw16.SnapshotKeeps", spec := "snapshotKeeps", inPlace := ["maps.clone", "internal/bytealg.abigen_runtime_cmpstring"], unfollowed := true, recurses := true, apart := false, narrowed := true }
def SnapshotKeepsUptoSaid : Prop := snapshotKeepsUptoRow.holds Try.pinned (OpenSpec.upto snapshotKeepsSpec)

/-- 'ordinallaw16.SnapshotPlays', WHERE WHAT IT READS IS OF BULK AT MOST 1048576: true; the input reads as it did. -/
def snapshotPlaysUptoRow : OpenClaim := { program := "ytgaffbdcpkbdhaa", sum := "e0798b87aa50002a1ea0a03da64cdc4e74405040c77094ec1e3aad98de0df2e5", func := "ordinal/ordinallaw16.SnapshotPlays", spec := "snapshotPlays", inPlace := ["maps.clone", "internal/bytealg.abigen_runtime_cmpstring"], unfollowed := true, recurses := true, apart := false, narrowed := true }
def SnapshotPlaysUptoSaid : Prop := snapshotPlaysUptoRow.holds Try.pinned (OpenSpec.upto snapshotPlaysSpec)

end Rows
end Go.Proofs.Ytgaffbdcpkbdhaa

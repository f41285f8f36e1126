/-
  No cell of these rows narrows 'for every input' (looked for: loops, veiled, ifaces, maps, wideKeys, modest, calm, conditions, laid).
  DERIVED. THE GIVEN ROWS OF THIS SEAT. 2 by the template 'for every input the law returns true; each argument reads behind the call as it read before'; 0 by the template 'total and deterministic' (their statements: YtgaffbdcpkbdhaaGreatTotals.lean).
  GIVEN WITH THE SEED: the statements are not yours to turn. If you find one false, say at which input.
  Laid BY PROGRAM, IN A SANDBOX (cutbox-rows.mjs): the forced cells as the released guide's own fill.sh prints them over the translation 0e62d6e9d3d6ba64… (all of the seat's roots in one cut). By AI agents, Wed Nov 11 2026. No macro, syntax, notation, axiom, sorry.
-/
import Derived.Test.YtgaffbdcpkbdhaaGreatChecked
import GoSem.Claim
import GoSem.ClaimJoined
import GoSem.ClaimMapViews
import Derived.JoinedTies
import Derived.KernelRfl
namespace Go.Proofs.YtgaffbdcpkbdhaaGreat
/- THE CELL 'sum', in the pinned program and in every row, IS THE sha256 OF THE DUMP (.gsa) THAT YtgaffbdcpkbdhaaGreatProg.lean LOADS. Nothing in Lean hashes anything: it is a label: what it is worth is what the hold of that sum in a sandbox is worth. -/
noncomputable def Tryz.pinned : Pinned := { name := "ytgaffbdcpkbdhaagreat", sum := "0e62d6e9d3d6ba640cbc892023bb9db281b684a66b74b46d4ca20a3a43dd4d41", checked := Tryz.checked }
namespace Rows
def none {H : Type} : Left H := { results := [], args := [] }

/-- 'ordinallaw16.SnapshotChanges': WHATEVER THE INPUT: true; the input reads as it did. -/
def snapshotChangesSpec : ChangeSpec := { name := "snapshotChanges", fn := fun _ => fun
  | [d1, d2, d3] => { results := [.lit (.bool true)], args := [d1, d2, d3] }
  | _ => none }
def snapshotChangesRow : OpenClaim := { program := "ytgaffbdcpkbdhaagreat", sum := "0e62d6e9d3d6ba640cbc892023bb9db281b684a66b74b46d4ca20a3a43dd4d41", func := "ordinal/ordinallaw16.SnapshotChanges", spec := "snapshotChanges", inPlace := ["maps.clone", "internal/bytealg.abigen_runtime_cmpstring"], unfollowed := true, recurses := true, apart := false }
def SnapshotChangesSaid : Prop := snapshotChangesRow.holds Tryz.pinned (OpenSpec.ofChange snapshotChangesSpec)

/-- ITS FALSE NEIGHBOUR: 'it returns false'. Refute it at one input. -/
def snapshotChangesWrong : ChangeSpec := { name := "snapshotChanges", fn := fun _ => fun
  | [d1, d2, d3] => { results := [.lit (.bool false)], args := [d1, d2, d3] }
  | _ => none }
def SnapshotChangesWrongFalsely : Prop := snapshotChangesRow.holds Tryz.pinned (OpenSpec.ofChange snapshotChangesWrong)

/-- 'ordinallaw16.SnapshotChains': WHATEVER THE INPUT: true; the input reads as it did. -/
def snapshotChainsSpec : ChangeSpec := { name := "snapshotChains", fn := fun _ => fun
  | [d1, d2, d3] => { results := [.lit (.bool true)], args := [d1, d2, d3] }
  | _ => none }
def snapshotChainsRow : OpenClaim := { program := "ytgaffbdcpkbdhaagreat", sum := "0e62d6e9d3d6ba640cbc892023bb9db281b684a66b74b46d4ca20a3a43dd4d41", func := "ordinal/ordinallaw16.SnapshotChains", spec := "snapshotChains", inPlace := ["maps.clone", "internal/bytealg.abigen_runtime_cmpstring"], unfollowed := true, recurses := true, apart := false }
def SnapshotChainsSaid : Prop := snapshotChainsRow.holds Tryz.pinned (OpenSpec.ofChange snapshotChainsSpec)

/-- ITS FALSE NEIGHBOUR: 'it returns false'. Refute it at one input. -/
def snapshotChainsWrong : ChangeSpec := { name := "snapshotChains", fn := fun _ => fun
  | [d1, d2, d3] => { results := [.lit (.bool false)], args := [d1, d2, d3] }
  | _ => none }
def SnapshotChainsWrongFalsely : Prop := snapshotChainsRow.holds Tryz.pinned (OpenSpec.ofChange snapshotChainsWrong)

/- THE SECOND FORM. 'bulk': how many values and letters a reading holds, each counted each time it is reached (what is shared counts as often as it is met; a slice's spare places count too). A statement '..UptoSaid' is the law's where the arguments, and the package variables that the reading takes, are together of bulk at most 1048576: NARROWER than '..Said'. Prove '..Said' where nothing that the law and all that it calls make is longer than what came in: it says more and counts as full. Else prove '..UptoSaid'. A law counts once. -/
mutual
def uptoBulk {H : Type} : DataW H → Nat
  | .lit (.string bytes) => bytes.length + 1
  | .lit _ => 1
  | .nil => 1
  | .ptr d => uptoBulk d + 1
  | .slice elems spare => uptoBulkAll elems + uptoBulkAll spare + 1
  | .agg parts => uptoBulkAll parts + 1
  | .iface _ d => uptoBulk d + 1
  | .map entries => uptoBulkEntries entries + 1
  | .held _ => 1
def uptoBulkAll {H : Type} : List (DataW H) → Nat
  | [] => 0
  | d :: r => uptoBulk d + uptoBulkAll r
def uptoBulkEntries {H : Type} : List (Lit × DataW H) → Nat
  | [] => 0
  | x :: r => uptoBulkEntry x + uptoBulkEntries r
def uptoBulkEntry {H : Type} : Lit × DataW H → Nat
  | (.string bytes, d) => bytes.length + uptoBulk d + 1
  | (_, d) => uptoBulk d + 1
 end
def uptoSmall : (H : Type) → List (DataW H) → Bool := fun _ ds => decide (uptoBulkAll ds ≤ 1048576)
def OpenSpec.upto (s : _root_.Go.ChangeSpec) : _root_.Go.OpenSpec := { _root_.Go.OpenSpec.ofChange s with cond := some uptoSmall }

/-- 'ordinallaw16.SnapshotChanges', WHERE WHAT IT READS IS OF BULK AT MOST 1048576: true; the input reads as it did. -/
def snapshotChangesUptoRow : OpenClaim := { program := "ytgaffbdcpkbdhaagreat", sum := "0e62d6e9d3d6ba640cbc892023bb9db281b684a66b74b46d4ca20a3a43dd4d41", func := "ordinal/ordinallaw16.SnapshotChanges", spec := "snapshotChanges", inPlace := ["maps.clone", "internal/bytealg.abigen_runtime_cmpstring"], unfollowed := true, recurses := true, apart := false, narrowed := true }
def SnapshotChangesUptoSaid : Prop := snapshotChangesUptoRow.holds Tryz.pinned (OpenSpec.upto snapshotChangesSpec)

/-- 'ordinallaw16.SnapshotChains', WHERE WHAT IT READS IS OF BULK AT MOST 1048576: true; the input reads as it did. -/
def snapshotChainsUptoRow : OpenClaim := { program := "ytgaffbdcpkbdhaagreat", sum := "0e62d6e9d3d6ba640cbc892023bb9db281b684a66b74b46d4ca20a3a43dd4d41", func := "ordinal/ordinallaw16.SnapshotChains", spec := "snapshotChains", inPlace := ["maps.clone", "internal/bytealg.abigen_runtime_cmpstring"], unfollowed := true, recurses := true, apart := false, narrowed := true }
def SnapshotChainsUptoSaid : Prop := snapshotChainsUptoRow.holds Tryz.pinned (OpenSpec.upto snapshotChainsSpec)

end Rows
end Go.Proofs.YtgaffbdcpkbdhaaGreat

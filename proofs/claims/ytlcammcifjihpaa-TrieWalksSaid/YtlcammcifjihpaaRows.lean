/-
  No cell of these rows narrows 'for every input' (looked for: loops, veiled, ifaces, maps, wideKeys, modest, calm, conditions, laid).
  DERIVED. THE GIVEN ROWS OF THIS SEAT. 5 by the template 'for every input the law returns true; each argument reads behind the call as it read before'; 0 by the template 'total and deterministic' (their statements: YtlcammcifjihpaaTotals.lean).
  GIVEN WITH THE SEED: the statements are not yours to turn. If you find one false, say at which input.
  Laid BY PROGRAM, IN A SANDBOX (cutbox-rows.mjs): the forced cells as the released guide's own fill.sh prints them over the translation 5c18c1062cfdc38e… (all of the seat's roots in one cut). By AI agents, Wed Nov 11 2026. No macro, syntax, notation, axiom, sorry.
-/
import Derived.Test.YtlcammcifjihpaaChecked
import GoSem.Claim
import GoSem.ClaimJoined
import GoSem.ClaimMapViews
import Derived.JoinedTies
import Derived.KernelRfl
namespace Go.Proofs.Ytlcammcifjihpaa
/- THE CELL 'sum', in the pinned program and in every row, IS THE sha256 OF THE DUMP (.gsa) THAT YtlcammcifjihpaaProg.lean LOADS. Nothing in Lean hashes anything: it is a label: what it is worth is what the hold of that sum in a sandbox is worth. -/
noncomputable def Try.pinned : Pinned := { name := "ytlcammcifjihpaa", sum := "5c18c1062cfdc38ece6447be56a30f30b177cd8de826d6619e8223ecb2d79fd5", checked := Try.checked }
namespace Rows
def none {H : Type} : Left H := { results := [], args := [] }

/-- 'ordinallaw34.TrieSeeks': WHATEVER THE INPUT: true; the input reads as it did. -/
def trieSeeksSpec : ChangeSpec := { name := "trieSeeks", fn := fun _ => fun
  | [d1, d2, d3] => { results := [.lit (.bool true)], args := [d1, d2, d3] }
  | _ => none }
def trieSeeksRow : OpenClaim := { program := "ytlcammcifjihpaa", sum := "5c18c1062cfdc38ece6447be56a30f30b177cd8de826d6619e8223ecb2d79fd5", func := "ordinal/ordinallaw34.TrieSeeks", spec := "trieSeeks", inPlace := ["internal/bytealg.abigen_runtime_cmpstring"], unfollowed := true, recurses := true, apart := false }
def TrieSeeksSaid : Prop := trieSeeksRow.holds Try.pinned (OpenSpec.ofChange trieSeeksSpec)

/-- ITS FALSE NEIGHBOUR: 'it returns false'. Refute it at one input. -/
def trieSeeksWrong : ChangeSpec := { name := "trieSeeks", fn := fun _ => fun
  | [d1, d2, d3] => { results := [.lit (.bool false)], args := [d1, d2, d3] }
  | _ => none }
def TrieSeeksWrongFalsely : Prop := trieSeeksRow.holds Try.pinned (OpenSpec.ofChange trieSeeksWrong)

/-- 'ordinallaw34.TrieMeets': WHATEVER THE INPUT: true; the input reads as it did. -/
def trieMeetsSpec : ChangeSpec := { name := "trieMeets", fn := fun _ => fun
  | [d1, d2] => { results := [.lit (.bool true)], args := [d1, d2] }
  | _ => none }
def trieMeetsRow : OpenClaim := { program := "ytlcammcifjihpaa", sum := "5c18c1062cfdc38ece6447be56a30f30b177cd8de826d6619e8223ecb2d79fd5", func := "ordinal/ordinallaw34.TrieMeets", spec := "trieMeets", inPlace := ["internal/bytealg.abigen_runtime_cmpstring"], unfollowed := true, recurses := true, apart := false }
def TrieMeetsSaid : Prop := trieMeetsRow.holds Try.pinned (OpenSpec.ofChange trieMeetsSpec)

/-- ITS FALSE NEIGHBOUR: 'it returns false'. Refute it at one input. -/
def trieMeetsWrong : ChangeSpec := { name := "trieMeets", fn := fun _ => fun
  | [d1, d2] => { results := [.lit (.bool false)], args := [d1, d2] }
  | _ => none }
def TrieMeetsWrongFalsely : Prop := trieMeetsRow.holds Try.pinned (OpenSpec.ofChange trieMeetsWrong)

/-- 'ordinallaw34.TrieNone': WHATEVER THE INPUT: true; the input reads as it did. -/
def trieNoneSpec : ChangeSpec := { name := "trieNone", fn := fun _ => fun
  | [d] => { results := [.lit (.bool true)], args := [d] }
  | _ => none }
def trieNoneRow : OpenClaim := { program := "ytlcammcifjihpaa", sum := "5c18c1062cfdc38ece6447be56a30f30b177cd8de826d6619e8223ecb2d79fd5", func := "ordinal/ordinallaw34.TrieNone", spec := "trieNone", inPlace := ["internal/bytealg.abigen_runtime_cmpstring"], unfollowed := true, recurses := true, apart := false }
def TrieNoneSaid : Prop := trieNoneRow.holds Try.pinned (OpenSpec.ofChange trieNoneSpec)

/-- ITS FALSE NEIGHBOUR: 'it returns false'. Refute it at one input. -/
def trieNoneWrong : ChangeSpec := { name := "trieNone", fn := fun _ => fun
  | [d] => { results := [.lit (.bool false)], args := [d] }
  | _ => none }
def TrieNoneWrongFalsely : Prop := trieNoneRow.holds Try.pinned (OpenSpec.ofChange trieNoneWrong)

/-- 'ordinallaw34.TrieChildren': WHATEVER THE INPUT: true; the input reads as it did. -/
def trieChildrenSpec : ChangeSpec := { name := "trieChildren", fn := fun _ => fun
  | [d1, d2, d3] => { results := [.lit (.bool true)], args := [d1, d2, d3] }
  | _ => none }
def trieChildrenRow : OpenClaim := { program := "ytlcammcifjihpaa", sum := "5c18c1062cfdc38ece6447be56a30f30b177cd8de826d6619e8223ecb2d79fd5", func := "ordinal/ordinallaw34.TrieChildren", spec := "trieChildren", inPlace := ["internal/bytealg.abigen_runtime_cmpstring"], unfollowed := true, recurses := true, apart := false }
def TrieChildrenSaid : Prop := trieChildrenRow.holds Try.pinned (OpenSpec.ofChange trieChildrenSpec)

/-- ITS FALSE NEIGHBOUR: 'it returns false'. Refute it at one input. -/
def trieChildrenWrong : ChangeSpec := { name := "trieChildren", fn := fun _ => fun
  | [d1, d2, d3] => { results := [.lit (.bool false)], args := [d1, d2, d3] }
  | _ => none }
def TrieChildrenWrongFalsely : Prop := trieChildrenRow.holds Try.pinned (OpenSpec.ofChange trieChildrenWrong)

/-- 'ordinallaw34.TrieWalks': WHATEVER THE INPUT: true; the input reads as it did. -/
def trieWalksSpec : ChangeSpec := { name := "trieWalks", fn := fun _ => fun
  | [d1, d2] => { results := [.lit (.bool true)], args := [d1, d2] }
  | _ => none }
def trieWalksRow : OpenClaim := { program := "ytlcammcifjihpaa", sum := "5c18c1062cfdc38ece6447be56a30f30b177cd8de826d6619e8223ecb2d79fd5", func := "ordinal/ordinallaw34.TrieWalks", spec := "trieWalks", inPlace := ["internal/bytealg.abigen_runtime_cmpstring"], unfollowed := true, recurses := true, apart := false }
def TrieWalksSaid : Prop := trieWalksRow.holds Try.pinned (OpenSpec.ofChange trieWalksSpec)

/-- ITS FALSE NEIGHBOUR: 'it returns false'. Refute it at one input. -/
def trieWalksWrong : ChangeSpec := { name := "trieWalks", fn := fun _ => fun
  | [d1, d2] => { results := [.lit (.bool false)], args := [d1, d2] }
  | _ => none }
def TrieWalksWrongFalsely : Prop := trieWalksRow.holds Try.pinned (OpenSpec.ofChange trieWalksWrong)

/- THE SECOND FORM. 'bulk': how many values and letters a reading holds, each counted each time it is reached (what is shared counts as often as it is met; a slice's spare places count too). A statement '..UptoSaid' is the law's where the arguments, and the package variables that the reading takes, are together of bulk at most 1048576: NARROWER than '..Said'. Prove '..Said' where nothing that the law and all that it calls make is longer than what came in: it says more and counts as full. Else prove '..UptoSaid'. A law counts once. -/
mutual
def uptoBulk {H : Type} : DataW H → Nat
  | .lit (.string bytes) => bytes.length + 1
  | .lit _ => 1
  | .nil => 1
  | .ptr d => uptoBulk d + 1
  | .slice elems spare => uptoBulkAll elems + uptoBulkAll spare + 1
  | .agg parts => uptoBulkAll parts + 1
  | .iface _ d => uptoBulk d + 1
  | .map entries => uptoBulkEntries entries + 1
  | .held _ => 1
def uptoBulkAll {H : Type} : List (DataW H) → Nat
  | [] => 0
  | d :: r => uptoBulk d + uptoBulkAll r
def uptoBulkEntries {H : Type} : List (Lit × DataW H) → Nat
  | [] => 0
  | x :: r => uptoBulkEntry x + uptoBulkEntries r
def uptoBulkEntry {H : Type} : Lit × DataW H → Nat
  | (.string bytes, d) => bytes.length + uptoBulk d + 1
  | (_, d) => uptoBulk d + 1
 end
def uptoSmall : (H : Type) → List (DataW H) → Bool := fun _ ds => decide (uptoBulkAll ds ≤ 1048576)
def OpenSpec.upto (s : _root_.Go.ChangeSpec) : _root_.Go.OpenSpec := { _root_.Go.OpenSpec.ofChange s with cond := some uptoSmall }

/-- 'ordinallaw34.TrieSeeks', WHERE WHAT IT READS IS OF BULK AT MOST 1048576: true; the input reads as it did. -/
def trieSeeksUptoRow : OpenClaim := { program := "ytlcammcifjihpaa", sum := "5c18c1062cfdc38ece6447be56a30f30b177cd8de826d6619e8223ecb2d79fd5", func := "ordinal/ordinallaw34.TrieSeeks", spec := "trieSeeks", inPlace := ["internal/bytealg.abigen_runtime_cmpstring"], unfollowed := true, recurses := true, apart := false, narrowed := true }
def TrieSeeksUptoSaid : Prop := trieSeeksUptoRow.holds Try.pinned (OpenSpec.upto trieSeeksSpec)

/-- 'ordinallaw34.TrieMeets', WHERE WHAT IT READS IS OF BULK AT MOST 1048576: true; the input reads as it did. -/
def trieMeetsUptoRow : OpenClaim := { program := "ytlcammcifjihpaa", sum := "5c18c1062cfdc38ece6447be56a30f30b177cd8de826d6619e8223ecb2d79fd5", func := "ordinal/ordinallaw34.TrieMeets", spec := "trieMeets", inPlace := ["internal/bytealg.abigen_runtime_cmpstring"], unfollowed := true, recurses := true, apart := false, narrowed := true }
def TrieMeetsUptoSaid : Prop := trieMeetsUptoRow.holds Try.pinned (OpenSpec.upto trieMeetsSpec)

/-- 'ordinallaw34.TrieNone', WHERE WHAT IT READS IS OF BULK AT MOST 1048576: true; the input reads as it did. -/
def trieNoneUptoRow : OpenClaim := { program := "ytlcammcifjihpaa", sum := "5c18c1062cfdc38ece6447be56a30f30b177cd8de826d6619e8223ecb2d79fd5", func := "ordinal/ordinallaw34.TrieNone", spec := "trieNone", inPlace := ["internal/bytealg.abigen_runtime_cmpstring"], unfollowed := true, recurses := true, apart := false, narrowed := true }
def TrieNoneUptoSaid : Prop := trieNoneUptoRow.holds Try.pinned (OpenSpec.upto trieNoneSpec)

/-- 'ordinallaw34.TrieChildren', WHERE WHAT IT READS IS OF BULK AT MOST 1048576: true; the input reads as it did. -/
def trieChildrenUptoRow : OpenClaim := { program := "ytlcammcifjihpaa", sum := "5c18c1062cfdc38ece6447be56a30f30b177cd8de826d6619e8223ecb2d79fd5", func := "ordinal/ordinallaw34.TrieChildren", spec := "trieChildren", inPlace := ["internal/bytealg.abigen_runtime_cmpstring"], unfollowed := true, recurses := true, apart := false, narrowed := true }
def TrieChildrenUptoSaid : Prop := trieChildrenUptoRow.holds Try.pinned (OpenSpec.upto trieChildrenSpec)

/-- 'ordinallaw34.TrieWalks', WHERE WHAT IT READS IS OF BULK AT MOST 1048576: true; the input reads as it did. -/
def trieWalksUptoRow : OpenClaim := { program := "ytlcammcifjihpaa", sum := "5c18c1062cfdc38ece6447be56a30f30b177cd8de826d6619e8223ecb2d79fd5", func := "ordinal/ordinallaw34.TrieWalks", spec := "trieWalks", inPlace := ["internal/bytealg.abigen_runtime_cmpstring"], unfollowed := true, recurses := true, apart := false, narrowed := true }
def TrieWalksUptoSaid : Prop := trieWalksUptoRow.holds Try.pinned (OpenSpec.upto trieWalksSpec)

end Rows
end Go.Proofs.Ytlcammcifjihpaa

/- Walk: relation's Delete. -/
import Derived.Test.YtiomelogggilgaaHV24
namespace Go.Proofs.Ytiomelogggilgaa
open Go.RowKit Go.Sort

/-- What relation's Delete leaves. -/
def DelPost (P : Nat → Prop) (w : World) (n : Int) (X : List RL.R) (x : RL.R) (e : Ending) (w' : World) : Prop :=
  (wrongF n x ≠ 0 → e = .returned (.tuple #[.agg #[.int .i64 0, .slice none 0 0], .bool false, .int .i64 (wrongF n x)])) ∧ (wrongF n x = 0 → ∃ v, e = .returned (.tuple #[v, .bool (decide (x ∈ X)), .int .i64 0]) ∧ RelP P w' n (RL.delF X x) v) ∧ Below w.heap.size w w'

end Go.Proofs.Ytiomelogggilgaa

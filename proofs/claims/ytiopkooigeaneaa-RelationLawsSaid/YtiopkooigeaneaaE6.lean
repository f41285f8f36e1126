/- Small words: blocks known whole and lists of rows, in later worlds. -/
import Derived.Test.YtiopkooigeaneaaV20
namespace Go.Proofs.Ytiopkooigeaneaa
open Go.RowKit Go.Sort

theorem Row.up {W W' : World} {g : Nat} {e : TypeId} {xs : List Value} (h : Row W g e xs) (hb : Below W.heap.size W W') : Row W' g e xs := h.below hb h.lt
theorem Row.set2 {w : World} {g : Nat} {e : TypeId} {a0 b0 : Value} (h : Row w g e [a0, b0]) (a b : Value) : Row ((w.setCell ⟨g, 0, none⟩ a).setCell ⟨g, 1, none⟩ b) g e [a, b] := (h.set 0 a).set 1 b
theorem map_snoc {α β : Type} (f : α → β) (l : List α) (k : Nat) (h : k < l.length) : (l.take (k + 1)).map f = (l.take k).map f ++ [f l[k]] := by
  rw [List.take_succ_eq_append_getElem h, List.map_append]; rfl
theorem SlRsP.upB {P : Nat → Prop} {w w' : World} {A : Option Addr} {X : List RL.R} (h : SlRsP P w.heap.size w A X) (hb : Below w.heap.size w w') : SlRsP P w'.heap.size w' A X := (h.keep (fun p hp _ => hb.cell hp)).more hb.size
theorem HR.upB {P : Nat → Prop} {w w' : World} {u : Value} {y : RL.R} (h : HR P w.heap.size w u y) (hb : Below w.heap.size w w') : HR P w'.heap.size w' u y := (h.keep (fun p hp _ => hb.cell hp)).more hb.size
theorem SlRsP.below {P : Nat → Prop} {B C : Nat} {w w' : World} {A : Option Addr} {X : List RL.R} (h : SlRsP P B w A X) (hb : Below C w w') (hC : B ≤ C) : SlRsP P B w' A X := h.keep (fun p hp _ => hb.cell (by omega))
theorem HR.below {P : Nat → Prop} {B C : Nat} {w w' : World} {u : Value} {y : RL.R} (h : HR P B w u y) (hb : Below C w w') (hC : B ≤ C) : HR P B w' u y := h.keep (fun p hp _ => hb.cell (by omega))

end Go.Proofs.Ytiopkooigeaneaa

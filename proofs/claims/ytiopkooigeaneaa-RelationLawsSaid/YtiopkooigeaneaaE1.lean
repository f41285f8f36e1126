/- Lists of rows in memory. -/
import Derived.Test.YtiopkooigeaneaaV3
namespace Go.Proofs.Ytiopkooigeaneaa
open Go.RowKit Go.Sort

/-- The slice at address A reads as the rows X. -/
def SlRs (B : Nat) (w : World) (A : Option Addr) (X : List RL.R) : Prop :=
  X ≠ [] → ∃ b o, A = some ⟨b, o, none⟩ ∧ b < B ∧ ∀ i (h : i < X.length), ∃ A' C', w.cell? ⟨b, o + i, none⟩ = some (.slice A' X[i].length C') ∧ X[i].length ≤ C' ∧ C' ≤ 9223372036854775807 ∧ SlR B w A' X[i]

section
variable {B C : Nat} {w w' : World} {A : Option Addr} {X : List RL.R}
theorem SlRs.nil : SlRs B w A [] := fun h => absurd rfl h
theorem SlRs.keep (h : SlRs B w A X) (hk : ∀ p : Addr, p.block < B → w'.cell? p = w.cell? p) : SlRs B w' A X := fun hn => by
  obtain ⟨b, o, e, hb, hc⟩ := h hn
  refine ⟨b, o, e, hb, fun i hi => ?_⟩
  obtain ⟨A', C', h1, h2, h2', h3⟩ := hc i hi
  exact ⟨A', C', (hk _ hb).trans h1, h2, h2', Sl.keep h3 hk⟩
theorem SlRs.below (h : SlRs B w A X) (hb : Below C w w') (hC : B ≤ C) : SlRs B w' A X := h.keep fun _ hp => hb.cell (by omega)
theorem SlRs.ext (h : SlRs B w A X) (hB : B ≤ w.heap.size) (he : Ext w w') : SlRs B w' A X := h.below he.below hB
theorem SlRs.more {B' : Nat} (h : SlRs B w A X) (hB : B ≤ B') : SlRs B' w A X := fun hn => by
  obtain ⟨b, o, e, hb, hc⟩ := h hn
  refine ⟨b, o, e, by omega, fun i hi => ?_⟩
  obtain ⟨A', C', h1, h2, h2', h3⟩ := hc i hi
  exact ⟨A', C', h1, h2, h2', h3.more hB⟩
theorem slRs_at (h : SlRs B w A X) {i : Nat} (hi : i < X.length) : ∃ b o A' C', A = some ⟨b, o, none⟩ ∧ b < B ∧ w.cell? ⟨b, o + i, none⟩ = some (.slice A' X[i].length C') ∧ X[i].length ≤ C' ∧ C' ≤ 9223372036854775807 ∧ SlR B w A' X[i] := by
  obtain ⟨b, o, e, hb, hc⟩ := h (by intro h0; subst h0; simp at hi)
  obtain ⟨A', C', h1, h2, h2', h3⟩ := hc i hi
  exact ⟨b, o, A', C', e, hb, h1, h2, h2', h3⟩
theorem SlRs.drop {b o : Nat} (h : SlRs B w (some ⟨b, o, none⟩) X) (k : Nat) : SlRs B w (some ⟨b, o + k, none⟩) (X.drop k) := fun hn => by
  obtain ⟨b', o', e, hb, hc⟩ := h (by intro h0; apply hn; rw [h0]; simp)
  simp at e
  obtain ⟨rfl, rfl⟩ := e
  refine ⟨b, o + k, rfl, hb, fun i hi => ?_⟩
  simp at hi
  obtain ⟨A', C', h1, h2, h2', h3⟩ := hc (k + i) (by omega)
  refine ⟨A', C', ?_, ?_, h2', ?_⟩
  · rw [Nat.add_assoc]; simpa using h1
  · simpa using h2
  · simpa using h3
theorem SlRs.take (h : SlRs B w A X) (k : Nat) : SlRs B w A (X.take k) := fun hn => by
  obtain ⟨b', o', e, hb, hc⟩ := h (by intro h0; apply hn; rw [h0]; simp)
  refine ⟨b', o', e, hb, fun i hi => ?_⟩
  simp at hi
  obtain ⟨A', C', h1, h2, h2', h3⟩ := hc i (by omega)
  exact ⟨A', C', by simpa using h1, by simpa using h2, h2', by simpa using h3⟩
end

/-- Rows of a size that no counter of the program outgrows. -/
def ROk (x : RL.R) : Prop := x.length ≤ 1000000 ∧ StrOk x
def RsOk (X : List RL.R) : Prop := ∀ x ∈ X, ROk x
theorem RsOk.at_ {X : List RL.R} (h : RsOk X) {i : Nat} (hi : i < X.length) : ROk X[i] := h _ (List.getElem_mem hi)

theorem SlR.up {w w' : World} {A : Option Addr} {x : RL.R} (h : SlR w.heap.size w A x) (he : Ext w w') : SlR w'.heap.size w' A x := (h.ext (Nat.le_refl _) he).more he.size
theorem SlR.upB {w w' : World} {A : Option Addr} {x : RL.R} (h : SlR w.heap.size w A x) (hb : Below w.heap.size w w') : SlR w'.heap.size w' A x := (h.below hb (Nat.le_refl _)).more hb.size
theorem SlR.alloc1 {w : World} {A : Option Addr} {x : RL.R} (h : SlR w.heap.size w A x) (o : Obj) : SlR (w.alloc o).heap.size (w.alloc o) A x := h.up ((Ext.refl w).alloc o)
theorem SlRs.up {w w' : World} {A : Option Addr} {X : List RL.R} (h : SlRs w.heap.size w A X) (he : Ext w w') : SlRs w'.heap.size w' A X := (h.ext (Nat.le_refl _) he).more he.size
theorem SlRs.upB {w w' : World} {A : Option Addr} {X : List RL.R} (h : SlRs w.heap.size w A X) (hb : Below w.heap.size w w') : SlRs w'.heap.size w' A X := (h.below hb (Nat.le_refl _)).more hb.size
theorem SlRs.alloc1 {w : World} {A : Option Addr} {X : List RL.R} (h : SlRs w.heap.size w A X) (o : Obj) : SlRs (w.alloc o).heap.size (w.alloc o) A X := h.up ((Ext.refl w).alloc o)

end Go.Proofs.Ytiopkooigeaneaa

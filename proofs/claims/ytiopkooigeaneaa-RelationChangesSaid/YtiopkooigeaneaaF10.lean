/- Opening the arguments of RelationChanges: a list of acts. -/
import Derived.Test.YtiopkooigeaneaaF7
import Derived.Test.YtiopkooigeaneaaM7
namespace Go.Proofs.Ytiopkooigeaneaa
open Go.ChangeShapes Go.WideShapes Go.ChangeAt Go.RowKit Go.Joins Go.Deep

section
variable {H : Type} {enc : TypeId × Value → H} {W : World} {n : Nat} {x : DataW H × List MemPlace}

theorem cells_TAct : Try.prog.cellsOf 76 = 2 := by kernel_rfl

set_option maxRecDepth 100000 in
/-- One act that reads. -/
theorem open_act {cs : List Value} (h : DataW.trod enc Try.prog W 0 (fun _ => true) true n 76 cs = some x) :
    ∃ (d : Bool) (A : Option Addr) (C : Nat) (y : RL.R), cs = [.bool d, .slice A y.length C] ∧ SlR W.heap.size W A y ∧ y.length ≤ C ∧ C ≤ 9223372036854775807 ∧ BigR y := by
  obtain ⟨ys, n', _, _, hlen, hyl, hf⟩ := DataW.trod_struct Try.underlying76 h
  rw [cells_TAct] at hlen
  match cs, hlen with
  | [c0, c1], _ =>
    match ys, hyl with
    | [y0, y1], _ =>
      have h0 := hf 0 _ rfl
      have h1 := hf 1 _ rfl
      obtain ⟨d, e0, _⟩ := DataW.trod_bool (by kernel_rfl) h0
      obtain ⟨A, C, y, e1, g1, g2, g3, g4⟩ := open_row h1
      have q0 : List.take (Try.prog.cellsOf 4) (List.drop 0 [c0, c1]) = [.bool d] := e0
      have q1 : List.take (Try.prog.cellsOf 24) (List.drop 1 [c0, c1]) = [.slice A y.length C] := e1
      rw [show Try.prog.cellsOf 4 = 1 by kernel_rfl] at q0
      rw [cells_TRow] at q1
      simp at q0 q1
      subst q0 q1
      exact ⟨d, A, C, y, rfl, g1, g2, g3, g4⟩

/-- A list of acts that reads. -/
theorem open_acts {cs : List Value} (h : DataW.trod enc Try.prog W 0 (fun _ => true) true n 74 cs = some x) :
    ∃ (A : Option Addr) (C : Nat) (acts : List (Bool × RL.R)), cs = [.slice A acts.length C] ∧ SlActs W.heap.size W A acts ∧ acts.length ≤ C ∧ C ≤ 9223372036854775807 ∧ (∀ a ∈ acts, BigR a.2) ∧ (C = 0 ∨ ∃ es sp, x.1 = .slice es sp ∧ es.length + sp.length = C) := by
  rcases open_slice Try.underlying74 h with ⟨hcs, _⟩ | ⟨a, len, cap, m, n', D, Pl, hcs, _, hl, hm, hmm, hx, hel⟩
  · exact ⟨none, 0, [], hcs, (fun i h => absurd h (by simp)), Nat.le_refl _, by simp, by simp, .inl rfl⟩
  · rw [cells_TAct] at hel
    simp only [if_true] at hmm
    subst hmm
    have hch : ∀ i, i < len → ∃ p : Bool × RL.R, ∃ A C, W.cell? (a.add (i * 2)) = some (.bool p.1) ∧ W.cell? (a.add (i * 2 + 1)) = some (.slice A p.2.length C) ∧ SlR W.heap.size W A p.2 ∧ p.2.length ≤ C ∧ C ≤ 9223372036854775807 ∧ BigR p.2 := by
      intro i hi
      obtain ⟨cs', h1, h2⟩ := hel i (by omega)
      obtain ⟨d, A, C, y, rfl, g1, g2, g3, g4⟩ := open_act h2
      obtain ⟨_, _, h3⟩ := World.cells?_some h1
      refine ⟨(d, y), A, C, ?_, ?_, g1, g2, g3, g4⟩
      · have := h3 0 (by omega)
        rw [Go.Deep.add_add] at this
        exact this
      · have := h3 1 (by omega)
        rw [Go.Deep.add_add] at this
        exact this
    obtain ⟨f, hf⟩ := choose_lt hch
    refine ⟨some a, m, (List.range len).map f, by simpa using hcs, fun i hi => ?_, by simpa using hl, hm, ?_, .inr ⟨_, _, by rw [hx], by simp; omega⟩⟩
    · have hi' : i < len := by simpa using hi
      obtain ⟨A, C, g0, g1, g2, g3, g4, _⟩ := hf i hi'
      have hpos : 0 < len := by omega
      obtain ⟨A0, C0, h0, _⟩ := hf 0 hpos
      rw [show a.add (0 * 2) = a by unfold Addr.add; simp] at h0
      obtain ⟨ha, hb⟩ := cell_addr h0
      rw [ha, add_addr] at g0 g1
      refine ⟨a.block, a.off, A, C, by rw [← ha], hb, ?_, ?_, ?_, g4, ?_⟩
      · simpa using g0
      · rw [Nat.add_assoc]; simpa using g1
      · simpa using g3
      · simpa using g2
    · intro y hy
      rw [List.mem_map] at hy
      obtain ⟨i, hi, rfl⟩ := hy
      obtain ⟨_, _, _, _, _, _, _, g⟩ := hf i (by simpa using hi)
      exact g

end
end Go.Proofs.Ytiopkooigeaneaa

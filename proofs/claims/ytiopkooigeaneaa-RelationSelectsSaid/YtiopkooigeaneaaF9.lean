/- Opening the arguments of the laws of chapter 07: a Pick; a list of Acts. -/
import Derived.Test.YtiopkooigeaneaaF7
namespace Go.Proofs.Ytiopkooigeaneaa
open Go.ChangeShapes Go.WideShapes Go.ChangeAt Go.RowKit Go.Joins Go.Deep

section
variable {H : Type} {enc : TypeId × Value → H} {W : World}

theorem cells_TPick : Try.prog.cellsOf 67 = 6 := by kernel_rfl

set_option maxRecDepth 100000 in
/-- A pick that reads. -/
theorem open_pick {r : Reach} {b0 : Nat} {v : Value} {d : DataW H} {p : List MemPlace} (hv : Value.okWide Try.prog W r b0 67 v) (h : DataW.Trod enc Try.prog W 0 (fun _ => true) true 67 v d p) :
    ∃ (a b c : Int) (u : RL.V), v = .agg #[.int .i64 a, .int .i64 b, .int .i64 c, .int .i64 u.kind, .int .i64 u.int, .string u.str] ∧ u.str.size ≤ 9223372036854775807 := by
  obtain ⟨cs, rfl, hsz⟩ := okWide_struct Try.underlying67 hv
  obtain ⟨fuel, hf⟩ := h
  obtain ⟨ys, n', _, _, hlen, hyl, hf⟩ := DataW.trod_struct Try.underlying67 hf
  rw [cells_TPick] at hsz
  obtain ⟨l⟩ := cs
  simp only [Value.cells] at hf hlen
  match l, hsz with
  | [c0, c1, c2, c3, c4, c5], _ =>
    match ys, hyl with
    | [y0, y1, y2, y3], _ =>
      have h0 := hf 0 _ rfl
      have h1 := hf 1 _ rfl
      have h2 := hf 2 _ rfl
      have h3 := hf 3 _ rfl
      obtain ⟨a0, e0, _, _⟩ := DataW.trod_int (k := .i64) (by kernel_rfl) h0
      obtain ⟨a1, e1, _, _⟩ := DataW.trod_int (k := .i64) (by kernel_rfl) h1
      obtain ⟨a2, e2, _, _⟩ := DataW.trod_int (k := .i64) (by kernel_rfl) h2
      obtain ⟨u, e3, hz⟩ := open_value h3
      have q0 : List.take (Try.prog.cellsOf 3) (List.drop 0 [c0, c1, c2, c3, c4, c5]) = [.int .i64 a0] := e0
      have q1 : List.take (Try.prog.cellsOf 3) (List.drop 1 [c0, c1, c2, c3, c4, c5]) = [.int .i64 a1] := e1
      have q2 : List.take (Try.prog.cellsOf 3) (List.drop 2 [c0, c1, c2, c3, c4, c5]) = [.int .i64 a2] := e2
      have q3 : List.take (Try.prog.cellsOf 60) (List.drop 3 [c0, c1, c2, c3, c4, c5]) = vcells u := e3
      rw [show Try.prog.cellsOf 3 = 1 by kernel_rfl] at q0 q1 q2
      rw [cells_TValue] at q3
      simp [vcells] at q0 q1 q2 q3
      obtain ⟨q3, q4, q5⟩ := q3
      subst q0 q1 q2 q3 q4 q5
      exact ⟨a0, a1, a2, u, rfl, hz⟩

end
end Go.Proofs.Ytiopkooigeaneaa

/- Opening the arguments of the laws of chapter 35: one atom as a value, with the bulk of its rows. -/
import Derived.Test.YtiomelogggilgaaQ14
import Derived.Lib.SmallJoins
namespace Go.Proofs.Ytiomelogggilgaa
open Go.ChangeShapes Go.WideShapes Go.ChangeAt Go.RowKit Go.Joins Go.Deep

section
variable {H : Type} {enc : TypeId × Value → H} {W : World} {n : Nat} {x : DataW H × List MemPlace}
set_option maxRecDepth 100000 in
/-- A list of fours that reads, with the length of its datum. -/
theorem open_foursD {cs : List Value} (h : DataW.trod enc Try.prog W 0 (fun _ => true) true n 70 cs = some x) :
    ∃ A C X, cs = [.slice A X.length C] ∧ SlA 4 W.heap.size W A X ∧ X.length ≤ 9223372036854775807 ∧ Bytes X ∧ (X = [] ∨ ∃ es sp, x.1 = .slice es sp ∧ es.length = X.length) := by
  rcases open_slice Try.underlying70 h with ⟨hcs, _⟩ | ⟨a, len, cap, m, n', D, Pl, hcs, _, hl, hm, hmm, hx, hel⟩
  · obtain ⟨A, C, X, e, h1, h2, h3⟩ := open_fours h
    refine ⟨A, C, X, e, h1, h2, h3, .inl ?_⟩
    rw [hcs] at e
    simp at e
    exact List.eq_nil_of_length_eq_zero e.2.1.symm
  · obtain ⟨A, C, X, e, h1, h2, h3⟩ := open_fours h
    refine ⟨A, C, X, e, h1, h2, h3, .inr ⟨_, _, by rw [hx], ?_⟩⟩
    rw [hcs] at e
    simp at e
    simp
    exact e.2.1
set_option maxRecDepth 100000 in
/-- One atom that reads. -/
theorem open_latomV {r : Reach} {b0 : Nat} {v : Value} {d : DataW H} {p : List MemPlace} (hv : Value.okWide Try.prog W r b0 72 v) (h : DataW.Trod enc Try.prog W 0 (fun _ => true) true 72 v d p) :
    ∃ (a : LA) (RA : Option Addr) (RC : Nat), v = .agg #[.int .u8 (a.v : Nat), .slice RA a.R.length RC, .int .u8 (a.b : Nat)] ∧ SlA 4 W.heap.size W RA a.R ∧ a.v < 256 ∧ a.b < 256 ∧ Bytes a.R ∧ a.R.length ≤ 9223372036854775807 ∧ (a.R = [] ∨ ∃ d0 es sp d2, d = .agg [d0, .slice es sp, d2] ∧ es.length = a.R.length) := by
  obtain ⟨c0, c1, c2, y0, y1, y2, n, rfl, rfl, rfl, h0, h1, h2⟩ := open_agg3 Try.underlying72 (by kernel_rfl) cells_TLAtom hv h
  obtain ⟨a0, e0, _, w0⟩ := DataW.trod_int (k := .u8) (by kernel_rfl) h0
  obtain ⟨RA, RC, X, e1, hs, hl, hB, hd⟩ := open_foursD h1
  obtain ⟨a2, e2, _, w2⟩ := DataW.trod_int (k := .u8) (by kernel_rfl) h2
  have b0 := bounds_u8 w0
  have b2 := bounds_u8 w2
  obtain ⟨a0, rfl⟩ := Int.eq_ofNat_of_zero_le b0.1
  obtain ⟨a2, rfl⟩ := Int.eq_ofNat_of_zero_le b2.1
  simp at e0 e1 e2
  subst e0 e1 e2
  refine ⟨⟨a0, X, a2⟩, RA, RC, rfl, hs, by show a0 < 256; omega, by show a2 < 256; omega, hB, hl, ?_⟩
  rcases hd with hd | ⟨es, sp, hd, hl⟩
  · exact .inl hd
  · exact .inr ⟨_, es, sp, _, by rw [hd], hl⟩
end

end Go.Proofs.Ytiomelogggilgaa

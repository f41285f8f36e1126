/- Opening a pair of uint32 (an array of two). -/
import Derived.Test.YtfiegiifoekfmaaF0
namespace Go.Proofs.Ytfiegiifoekfmaa
open Go.ChangeShapes Go.WideShapes Go.ChangeAt Go.RowKit Go.Joins

section
variable {H : Type} {enc : TypeId × Value → H} {W : World}
theorem pairCells : Try.prog.cellsOf 45 = 2 := by kernel_rfl
theorem u32Cells : Try.prog.cellsOf 44 = 1 := by kernel_rfl

theorem open_pair {r : Reach} {b0 : Nat} {v : Value} {d : DataW H} {p : List MemPlace} (hv : Value.okWide Try.prog W r b0 45 v) (h : DataW.Trod enc Try.prog W 0 (fun _ => true) true 45 v d p) :
    ∃ x y : Nat, v = .agg #[.int .u32 (x : Int), .int .u32 (y : Int)] ∧ x ≤ 4294967295 ∧ y ≤ 4294967295 := by
  simp only [Value.okWide, Try.underlying45] at hv
  obtain ⟨cs, rfl, hsz, _⟩ := hv
  obtain ⟨c0, c1, rfl⟩ := array2 (hsz.trans pairCells)
  obtain ⟨fuel, hf⟩ := h
  obtain ⟨xs, m, _, _, _, hlen, hg⟩ := DataW.trod_array Try.underlying45 hf
  match xs, hlen with
  | [y0, y1], _ =>
    have h0 := hg 0 (by omega)
    have h1 := hg 1 (by omega)
    simp only [u32Cells, Value.cells] at h0 h1
    obtain ⟨n0, e0, _, w0⟩ := DataW.trod_int Try.underlying44 h0
    obtain ⟨n1, e1, _, w1⟩ := DataW.trod_int Try.underlying44 h1
    simp at e0 e1
    have b0 := bounds_u32 w0
    have b1 := bounds_u32 w1
    obtain ⟨k0, rfl⟩ := Int.eq_ofNat_of_zero_le b0.1
    obtain ⟨k1, rfl⟩ := Int.eq_ofNat_of_zero_le b1.1
    exact ⟨k0, k1, by rw [e0, e1], by omega, by omega⟩
end

end Go.Proofs.Ytfiegiifoekfmaa

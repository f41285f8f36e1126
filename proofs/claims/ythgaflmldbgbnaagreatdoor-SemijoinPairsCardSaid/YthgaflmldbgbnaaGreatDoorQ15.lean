/- Parts of the proof, merged: F11, F12, F14. -/
import Derived.Test.YthgaflmldbgbnaaGreatDoorRows
import Derived.Test.YthgaflmldbgbnaaGreatDoorQ3
import Derived.ProofKit
import Derived.OpenShut
import Derived.ShutString
import Derived.ChangeOld
import Derived.ChangeSame
import Derived.Lib.SmallJoins
import Derived.Deep.Slices
import Derived.Deep.Fields
import Derived.Test.YthgaflmldbgbnaaGreatDoorQ6

set_option maxRecDepth 100000
namespace Go.Proofs.YthgaflmldbgbnaaGreatDoor
section
open Go.ChangeShapes Go.WideShapes Go.ChangeAt Go.RowKit Go.Joins Go.Deep

theorem cell_addr' {w : World} {a : Addr} {v : Value} (h : w.cell? a = some v) : a = ⟨a.block, a.off, none⟩ ∧ a.block < w.heap.size := by
  obtain ⟨b, o, s⟩ := a
  unfold World.cell? at h
  simp only at h
  cases hh : w.heap[b]? with
  | none => rw [hh] at h; cases h
  | some ob =>
    have hlt : b < w.heap.size := by
      rcases Nat.lt_or_ge b w.heap.size with h1 | h1
      · exact h1
      · rw [Array.getElem?_eq_none h1] at hh; cases hh
    refine ⟨?_, hlt⟩
    rw [hh] at h
    cases ob with
    | cells c _ _ =>
      cases s with
      | none => rfl
      | some s => simp at h
    | _ => simp at h

theorem add_addr' (b o i : Nat) : (Addr.add ⟨b, o, none⟩ i) = ⟨b, o + i, none⟩ := by
  unfold Addr.add
  split
  · next h => subst h; rfl
  · rfl

section
variable {H : Type} {enc : TypeId × Value → H} {W : World} {n : Nat} {x : DataW H × List MemPlace}

theorem cells_Tu8 : Tryz.prog.cellsOf 5 = 1 := by kernel_rfl

end
end
section
open Go.ChangeShapes Go.WideShapes Go.ChangeAt Go.RowKit Go.Joins Go.Deep

section
variable {H : Type} {enc : TypeId × Value → H} {W : World} {n : Nat} {x : DataW H × List MemPlace}

theorem cells_TU8x4 : Tryz.prog.cellsOf 67 = 4 := by kernel_rfl
theorem cells_TLAtom : Tryz.prog.cellsOf 24 = 3 := by kernel_rfl

theorem open_four {cs : List Value} (h : DataW.trod enc Tryz.prog W 0 (fun _ => true) true n 67 cs = some x) :
    ∃ t : List Nat, (∀ k, k < 4 → cs[k]? = some (.int .u8 (t.getD k 0 : Nat))) ∧ ∀ k, t.getD k 0 < 256 := by
  obtain ⟨ys, m, _, _, hlen, hyl, hf⟩ := DataW.trod_array Tryz.underlying67 h
  rw [cells_TU8x4] at hlen
  rw [cells_Tu8] at hf
  match cs, hlen with
  | [c0, c1, c2, c3], _ =>
    match ys, hyl with
    | [y0, y1, y2, y3], _ =>
      have h0 := hf 0 (by decide)
      have h1 := hf 1 (by decide)
      have h2 := hf 2 (by decide)
      have h3 := hf 3 (by decide)
      obtain ⟨a0, e0, _, w0⟩ := DataW.trod_int (k := .u8) Tryz.underlying5 (h0.trans (b := some y0) rfl)
      obtain ⟨a1, e1, _, w1⟩ := DataW.trod_int (k := .u8) Tryz.underlying5 (h1.trans (b := some y1) rfl)
      obtain ⟨a2, e2, _, w2⟩ := DataW.trod_int (k := .u8) Tryz.underlying5 (h2.trans (b := some y2) rfl)
      obtain ⟨a3, e3, _, w3⟩ := DataW.trod_int (k := .u8) Tryz.underlying5 (h3.trans (b := some y3) rfl)
      have b0 := bounds_u8 w0
      have b1 := bounds_u8 w1
      have b2 := bounds_u8 w2
      have b3 := bounds_u8 w3
      obtain ⟨a0, rfl⟩ := Int.eq_ofNat_of_zero_le b0.1
      obtain ⟨a1, rfl⟩ := Int.eq_ofNat_of_zero_le b1.1
      obtain ⟨a2, rfl⟩ := Int.eq_ofNat_of_zero_le b2.1
      obtain ⟨a3, rfl⟩ := Int.eq_ofNat_of_zero_le b3.1
      simp at e0 e1 e2 e3
      subst e0 e1 e2 e3
      refine ⟨[a0, a1, a2, a3], fun k hk => ?_, fun k => ?_⟩
      · match k, hk with
        | 0, _ => rfl
        | 1, _ => rfl
        | 2, _ => rfl
        | 3, _ => rfl
      · match k with
        | 0 => show a0 < 256; omega
        | 1 => show a1 < 256; omega
        | 2 => show a2 < 256; omega
        | 3 => show a3 < 256; omega
        | k + 4 => show (0 : Nat) < 256; omega

theorem open_fours {cs : List Value} (h : DataW.trod enc Tryz.prog W 0 (fun _ => true) true n 22 cs = some x) :
    ∃ A C X, cs = [.slice A X.length C] ∧ SlA 4 W.heap.size W A X ∧ X.length ≤ 9223372036854775807 ∧ Bytes X := by
  rcases open_slice Tryz.underlying22 h with ⟨hcs, _⟩ | ⟨a, len, cap, m, n', D, Pl, hcs, _, hl, hm, hmm, _, hel⟩
  · exact ⟨none, 0, [], hcs, fun h => absurd rfl h, by simp, fun t ht => by simp at ht⟩
  · rw [cells_TU8x4] at hel
    simp only [if_true] at hmm
    subst hmm
    have hm' : m ≤ 9223372036854775807 := hm
    have hch : ∀ i, i < len → ∃ t : List Nat, (∀ j, j < 4 → W.cell? (a.add (i * 4 + j)) = some (.int .u8 (t.getD j 0 : Nat))) ∧ ∀ k, t.getD k 0 < 256 := by
      intro i hi
      obtain ⟨cs', h1, h2⟩ := hel i (by omega)
      obtain ⟨t, hv, hb⟩ := open_four h2
      obtain ⟨_, _, h3⟩ := World.cells?_some h1
      refine ⟨t, fun j hj => ?_, hb⟩
      rw [← Go.Deep.add_add, h3 j hj]
      exact hv j hj
    obtain ⟨f, hf⟩ := choose_lt hch
    refine ⟨some a, m, (List.range len).map f, by simpa using hcs, fun hne => ?_, by simp only [List.length_map, List.length_range]; omega, ?_⟩
    · have hpos : 0 < len := by
        rcases Nat.eq_zero_or_pos len with h0 | h0
        · subst h0; exact absurd rfl hne
        · exact h0
      have h0 := (hf 0 hpos).1 0 (by omega)
      rw [show a.add (0 * 4 + 0) = a by unfold Addr.add; simp] at h0
      obtain ⟨ha, hb⟩ := cell_addr' h0
      refine ⟨a.block, a.off, by rw [← ha], hb, fun i hi k hk => ?_⟩
      have hi' : i < len := by simpa using hi
      have h1 := (hf i hi').1 k hk
      rw [ha, add_addr', ← Nat.add_assoc] at h1
      rw [h1]
      simp
    · intro t ht
      rw [List.mem_map] at ht
      obtain ⟨i, hi, rfl⟩ := ht
      exact (hf i (by simpa using hi)).2

end
end
section
open Go.ChangeShapes Go.WideShapes Go.ChangeAt Go.RowKit Go.Joins Go.Deep

section
variable {H : Type} {enc : TypeId × Value → H} {W : World} {n : Nat} {x : DataW H × List MemPlace}
theorem open_foursD {cs : List Value} (h : DataW.trod enc Tryz.prog W 0 (fun _ => true) true n 22 cs = some x) :
    ∃ A C X, cs = [.slice A X.length C] ∧ SlA 4 W.heap.size W A X ∧ X.length ≤ 9223372036854775807 ∧ Bytes X ∧ (X = [] ∨ ∃ es sp, x.1 = .slice es sp ∧ es.length = X.length) := by
  rcases open_slice Tryz.underlying22 h with ⟨hcs, _⟩ | ⟨a, len, cap, m, n', D, Pl, hcs, _, hl, hm, hmm, hx, hel⟩
  · obtain ⟨A, C, X, e, h1, h2, h3⟩ := open_fours h
    refine ⟨A, C, X, e, h1, h2, h3, .inl ?_⟩
    rw [hcs] at e
    simp at e
    exact List.eq_nil_of_length_eq_zero e.2.1.symm
  · obtain ⟨A, C, X, e, h1, h2, h3⟩ := open_fours h
    refine ⟨A, C, X, e, h1, h2, h3, .inr ⟨_, _, by rw [hx], ?_⟩⟩
    rw [hcs] at e
    simp at e
    simp
    exact e.2.1
theorem open_latomV {r : Reach} {b0 : Nat} {v : Value} {d : DataW H} {p : List MemPlace} (hv : Value.okWide Tryz.prog W r b0 24 v) (h : DataW.Trod enc Tryz.prog W 0 (fun _ => true) true 24 v d p) :
    ∃ (a : LA) (RA : Option Addr) (RC : Nat), v = .agg #[.int .u8 (a.v : Nat), .slice RA a.R.length RC, .int .u8 (a.b : Nat)] ∧ SlA 4 W.heap.size W RA a.R ∧ a.v < 256 ∧ a.b < 256 ∧ Bytes a.R ∧ a.R.length ≤ 9223372036854775807 ∧ (a.R = [] ∨ ∃ d0 es sp d2, d = .agg [d0, .slice es sp, d2] ∧ es.length = a.R.length) := by
  obtain ⟨c0, c1, c2, y0, y1, y2, n, rfl, rfl, rfl, h0, h1, h2⟩ := open_agg3 Tryz.underlying24 (by kernel_rfl) cells_TLAtom hv h
  obtain ⟨a0, e0, _, w0⟩ := DataW.trod_int (k := .u8) (by kernel_rfl) h0
  obtain ⟨RA, RC, X, e1, hs, hl, hB, hd⟩ := open_foursD h1
  obtain ⟨a2, e2, _, w2⟩ := DataW.trod_int (k := .u8) (by kernel_rfl) h2
  have b0 := bounds_u8 w0
  have b2 := bounds_u8 w2
  obtain ⟨a0, rfl⟩ := Int.eq_ofNat_of_zero_le b0.1
  obtain ⟨a2, rfl⟩ := Int.eq_ofNat_of_zero_le b2.1
  simp at e0 e1 e2
  subst e0 e1 e2
  refine ⟨⟨a0, X, a2⟩, RA, RC, rfl, hs, by show a0 < 256; omega, by show a2 < 256; omega, hB, hl, ?_⟩
  rcases hd with hd | ⟨es, sp, hd, hl⟩
  · exact .inl hd
  · exact .inr ⟨_, es, sp, _, by rw [hd], hl⟩
end
end
end Go.Proofs.YthgaflmldbgbnaaGreatDoor

/- Parts of the proof, merged: F12, F13. -/
import Derived.Test.YthgaflmldbgbnaaGreatDoorQ14
import Derived.Test.YthgaflmldbgbnaaGreatDoorQ6

set_option maxRecDepth 100000
namespace Go.Proofs.YthgaflmldbgbnaaGreatDoor
section
open Go.ChangeShapes Go.WideShapes Go.ChangeAt Go.RowKit Go.Joins Go.Deep

section
variable {H : Type} {enc : TypeId × Value → H} {W : World} {n : Nat} {x : DataW H × List MemPlace}

theorem cells_TU8x4 : Tryz.prog.cellsOf 67 = 4 := by kernel_rfl
theorem cells_TLAtom : Tryz.prog.cellsOf 24 = 3 := by kernel_rfl

theorem open_four {cs : List Value} (h : DataW.trod enc Tryz.prog W 0 (fun _ => true) true n 67 cs = some x) :
    ∃ t : List Nat, (∀ k, k < 4 → cs[k]? = some (.int .u8 (t.getD k 0 : Nat))) ∧ ∀ k, t.getD k 0 < 256 := by
  obtain ⟨ys, m, _, _, hlen, hyl, hf⟩ := DataW.trod_array Tryz.underlying67 h
  rw [cells_TU8x4] at hlen
  rw [cells_Tu8] at hf
  match cs, hlen with
  | [c0, c1, c2, c3], _ =>
    match ys, hyl with
    | [y0, y1, y2, y3], _ =>
      have h0 := hf 0 (by decide)
      have h1 := hf 1 (by decide)
      have h2 := hf 2 (by decide)
      have h3 := hf 3 (by decide)
      obtain ⟨a0, e0, _, w0⟩ := DataW.trod_int (k := .u8) Tryz.underlying5 (h0.trans (b := some y0) rfl)
      obtain ⟨a1, e1, _, w1⟩ := DataW.trod_int (k := .u8) Tryz.underlying5 (h1.trans (b := some y1) rfl)
      obtain ⟨a2, e2, _, w2⟩ := DataW.trod_int (k := .u8) Tryz.underlying5 (h2.trans (b := some y2) rfl)
      obtain ⟨a3, e3, _, w3⟩ := DataW.trod_int (k := .u8) Tryz.underlying5 (h3.trans (b := some y3) rfl)
      have b0 := bounds_u8 w0
      have b1 := bounds_u8 w1
      have b2 := bounds_u8 w2
      have b3 := bounds_u8 w3
      obtain ⟨a0, rfl⟩ := Int.eq_ofNat_of_zero_le b0.1
      obtain ⟨a1, rfl⟩ := Int.eq_ofNat_of_zero_le b1.1
      obtain ⟨a2, rfl⟩ := Int.eq_ofNat_of_zero_le b2.1
      obtain ⟨a3, rfl⟩ := Int.eq_ofNat_of_zero_le b3.1
      simp at e0 e1 e2 e3
      subst e0 e1 e2 e3
      refine ⟨[a0, a1, a2, a3], fun k hk => ?_, fun k => ?_⟩
      · match k, hk with
        | 0, _ => rfl
        | 1, _ => rfl
        | 2, _ => rfl
        | 3, _ => rfl
      · match k with
        | 0 => show a0 < 256; omega
        | 1 => show a1 < 256; omega
        | 2 => show a2 < 256; omega
        | 3 => show a3 < 256; omega
        | k + 4 => show (0 : Nat) < 256; omega

theorem open_fours {cs : List Value} (h : DataW.trod enc Tryz.prog W 0 (fun _ => true) true n 22 cs = some x) :
    ∃ A C X, cs = [.slice A X.length C] ∧ SlA 4 W.heap.size W A X ∧ X.length ≤ 9223372036854775807 ∧ Bytes X := by
  rcases open_slice Tryz.underlying22 h with ⟨hcs, _⟩ | ⟨a, len, cap, m, n', D, Pl, hcs, _, hl, hm, hmm, _, hel⟩
  · exact ⟨none, 0, [], hcs, fun h => absurd rfl h, by simp, fun t ht => by simp at ht⟩
  · rw [cells_TU8x4] at hel
    simp only [if_true] at hmm
    subst hmm
    have hm' : m ≤ 9223372036854775807 := hm
    have hch : ∀ i, i < len → ∃ t : List Nat, (∀ j, j < 4 → W.cell? (a.add (i * 4 + j)) = some (.int .u8 (t.getD j 0 : Nat))) ∧ ∀ k, t.getD k 0 < 256 := by
      intro i hi
      obtain ⟨cs', h1, h2⟩ := hel i (by omega)
      obtain ⟨t, hv, hb⟩ := open_four h2
      obtain ⟨_, _, h3⟩ := World.cells?_some h1
      refine ⟨t, fun j hj => ?_, hb⟩
      rw [← Go.Deep.add_add, h3 j hj]
      exact hv j hj
    obtain ⟨f, hf⟩ := choose_lt hch
    refine ⟨some a, m, (List.range len).map f, by simpa using hcs, fun hne => ?_, by simp only [List.length_map, List.length_range]; omega, ?_⟩
    · have hpos : 0 < len := by
        rcases Nat.eq_zero_or_pos len with h0 | h0
        · subst h0; exact absurd rfl hne
        · exact h0
      have h0 := (hf 0 hpos).1 0 (by omega)
      rw [show a.add (0 * 4 + 0) = a by unfold Addr.add; simp] at h0
      obtain ⟨ha, hb⟩ := cell_addr' h0
      refine ⟨a.block, a.off, by rw [← ha], hb, fun i hi k hk => ?_⟩
      have hi' : i < len := by simpa using hi
      have h1 := (hf i hi').1 k hk
      rw [ha, add_addr', ← Nat.add_assoc] at h1
      rw [h1]
      simp
    · intro t ht
      rw [List.mem_map] at ht
      obtain ⟨i, hi, rfl⟩ := ht
      exact (hf i (by simpa using hi)).2

theorem open_latom {cs : List Value} (h : DataW.trod enc Tryz.prog W 0 (fun _ => true) true n 24 cs = some x) :
    ∃ (a : LA) (RA : Option Addr) (RC : Nat), cs = [.int .u8 (a.v : Nat), .slice RA a.R.length RC, .int .u8 (a.b : Nat)] ∧ SlA 4 W.heap.size W RA a.R ∧ a.v < 256 ∧ a.b < 256 ∧ Bytes a.R := by
  obtain ⟨ys, n', _, _, hlen, hyl, hf⟩ := DataW.trod_struct Tryz.underlying24 h
  rw [cells_TLAtom] at hlen
  match cs, hlen with
  | [c0, c1, c2], _ =>
    match ys, hyl with
    | [y0, y1, y2], _ =>
      have h0 := hf 0 _ rfl
      have h1 := hf 1 _ rfl
      have h2 := hf 2 _ rfl
      obtain ⟨a0, e0, _, w0⟩ := DataW.trod_int (k := .u8) (by kernel_rfl) h0
      obtain ⟨RA, RC, X, e1, hs, _, hB⟩ := open_fours h1
      obtain ⟨a2, e2, _, w2⟩ := DataW.trod_int (k := .u8) (by kernel_rfl) h2
      have b0 := bounds_u8 w0
      have b2 := bounds_u8 w2
      obtain ⟨a0, rfl⟩ := Int.eq_ofNat_of_zero_le b0.1
      obtain ⟨a2, rfl⟩ := Int.eq_ofNat_of_zero_le b2.1
      have q0 : List.take (Tryz.prog.cellsOf 5) (List.drop 0 [c0, c1, c2]) = [.int .u8 a0] := e0
      have q1 : List.take (Tryz.prog.cellsOf 22) (List.drop 1 [c0, c1, c2]) = [.slice RA X.length RC] := e1
      have q2 : List.take (Tryz.prog.cellsOf 5) (List.drop 2 [c0, c1, c2]) = [.int .u8 a2] := e2
      rw [cells_Tu8] at q0 q2
      rw [show Tryz.prog.cellsOf 22 = 1 by kernel_rfl] at q1
      simp at q0 q1 q2
      subst q0 q1 q2
      exact ⟨⟨a0, X, a2⟩, RA, RC, rfl, hs, by show a0 < 256; omega, by show a2 < 256; omega, hB⟩

theorem open_latoms {cs : List Value} (h : DataW.trod enc Tryz.prog W 0 (fun _ => true) true n 30 cs = some x) :
    ∃ A C l, cs = [.slice A l.length C] ∧ AtsL W.heap.size W A l ∧ LBytes l ∧ l.length ≤ C ∧ C ≤ 9223372036854775807 ∧ (C = 0 ∨ ∃ es sp, x.1 = .slice es sp ∧ es.length + sp.length = C) := by
  rcases open_slice Tryz.underlying30 h with ⟨hcs, _⟩ | ⟨a, len, cap, m, n', D, Pl, hcs, _, hl, hm, hmm, hx, hel⟩
  · exact ⟨none, 0, [], hcs, fun h => absurd rfl h, fun a ha => by simp at ha, Nat.le_refl _, by simp, .inl rfl⟩
  · rw [cells_TLAtom] at hel
    simp only [if_true] at hmm
    subst hmm
    have hm' : m ≤ 9223372036854775807 := hm
    have hch : ∀ i, i < len → ∃ t : LA, ∃ RA RC, W.cell? (a.add (i * 3)) = some (.int .u8 (t.v : Nat)) ∧ W.cell? (a.add (i * 3 + 1)) = some (.slice RA t.R.length RC) ∧ W.cell? (a.add (i * 3 + 2)) = some (.int .u8 (t.b : Nat)) ∧ SlA 4 W.heap.size W RA t.R ∧ t.v < 256 ∧ t.b < 256 ∧ Bytes t.R := by
      intro i hi
      obtain ⟨cs', h1, h2⟩ := hel i (by omega)
      obtain ⟨t, RA, RC, rfl, hs, hv, hb, hB⟩ := open_latom h2
      obtain ⟨_, _, h3⟩ := World.cells?_some h1
      refine ⟨t, RA, RC, ?_, ?_, ?_, hs, hv, hb, hB⟩
      · have := h3 0 (by omega)
        rw [Go.Deep.add_add] at this
        exact this
      · have := h3 1 (by omega)
        rw [Go.Deep.add_add] at this
        exact this
      · have := h3 2 (by omega)
        rw [Go.Deep.add_add] at this
        exact this
    haveI : Inhabited LA := ⟨⟨0, [], 0⟩⟩
    obtain ⟨f, hf⟩ := choose_lt hch
    refine ⟨some a, m, (List.range len).map f, by simpa using hcs, fun hne => ?_, ?_, by simpa using hl, hm', .inr ⟨_, _, by rw [hx], by simp; omega⟩⟩
    · have hpos : 0 < len := by
        rcases Nat.eq_zero_or_pos len with h0 | h0
        · subst h0; exact absurd rfl hne
        · exact h0
      obtain ⟨_, _, h0, _⟩ := hf 0 hpos
      rw [show a.add (0 * 3) = a by unfold Addr.add; simp] at h0
      obtain ⟨ha, hb⟩ := cell_addr' h0
      refine ⟨a.block, a.off, by rw [← ha], hb, fun i hi => ?_⟩
      have hi' : i < len := by simpa using hi
      obtain ⟨RA, RC, g0, g1, g2, g3, _⟩ := hf i hi'
      rw [ha, add_addr'] at g0 g1 g2
      refine ⟨RA, RC, ?_, ?_, ?_, ?_⟩
      · simpa using g0
      · simpa [Nat.add_assoc] using g1
      · simpa [Nat.add_assoc] using g2
      · simpa using g3
    · intro t ht
      rw [List.mem_map] at ht
      obtain ⟨i, hi, rfl⟩ := ht
      obtain ⟨_, _, _, _, _, _, g1, g2, g3⟩ := hf i (by simpa using hi)
      exact ⟨g1, g2, g3⟩
end
end
section
open Go.ChangeShapes Go.WideShapes Go.ChangeAt Go.RowKit Go.Joins Go.Deep

section
variable {H : Type} {enc : TypeId × Value → H} {W : World}
theorem duoCells : Tryz.prog.cellsOf 61 = 2 := by kernel_rfl
theorem two_of {cs : Array Value} (h : cs.size = 2) : ∃ a b, cs = #[a, b] := by
  obtain ⟨l⟩ := cs
  match l, h with
  | [a, b], _ => exact ⟨a, b, rfl⟩
theorem open_duo {r : Reach} {b0 : Nat} {v : Value} {d : DataW H} {p : List MemPlace} (hv : Value.okWide Tryz.prog W r b0 61 v) (h : DataW.Trod enc Tryz.prog W 0 (fun _ => true) true 61 v d p) :
    ∃ x y : Nat, v = .agg #[.int .u8 (x : Int), .int .u8 (y : Int)] ∧ x < 256 ∧ y < 256 := by
  simp only [Value.okWide, Tryz.underlying61] at hv
  obtain ⟨cs, rfl, hsz, _⟩ := hv
  obtain ⟨c0, c1, rfl⟩ := two_of (hsz.trans duoCells)
  obtain ⟨fuel, hf⟩ := h
  obtain ⟨xs, m, _, _, _, hlen, hg⟩ := DataW.trod_array Tryz.underlying61 hf
  match xs, hlen with
  | [y0, y1], _ =>
    have h0 := hg 0 (by omega)
    have h1 := hg 1 (by omega)
    simp only [cells_Tu8, Value.cells] at h0 h1
    obtain ⟨n0, e0, _, w0⟩ := DataW.trod_int (k := .u8) Tryz.underlying5 h0
    obtain ⟨n1, e1, _, w1⟩ := DataW.trod_int (k := .u8) Tryz.underlying5 h1
    simp at e0 e1
    have b0 := bounds_u8 w0
    have b1 := bounds_u8 w1
    obtain ⟨k0, rfl⟩ := Int.eq_ofNat_of_zero_le b0.1
    obtain ⟨k1, rfl⟩ := Int.eq_ofNat_of_zero_le b1.1
    exact ⟨k0, k1, by rw [e0, e1], by omega, by omega⟩
end
end
end Go.Proofs.YthgaflmldbgbnaaGreatDoor

/- Opening the arguments of the laws of chapter 07: rows, lists of rows. -/
import Derived.Test.YtiopkooigeaneaaRows
import Derived.Test.YtiopkooigeaneaaM1
import Derived.ProofKit
import Derived.OpenShut
import Derived.ShutString
import Derived.ChangeOld
import Derived.ChangeSame
import Derived.SizedLaws
import Derived.Lib.SmallJoins
import Derived.Deep.Slices
import Derived.Deep.Fields
namespace Go.Proofs.Ytiopkooigeaneaa
open Go.ChangeShapes Go.WideShapes Go.ChangeAt Go.RowKit Go.Joins Go.Deep

theorem cell_addr {w : World} {a : Addr} {v : Value} (h : w.cell? a = some v) : a = ⟨a.block, a.off, none⟩ ∧ a.block < w.heap.size := by
  obtain ⟨b, o, s⟩ := a
  unfold World.cell? at h
  simp only at h
  cases hh : w.heap[b]? with
  | none => rw [hh] at h; cases h
  | some ob =>
    have hlt : b < w.heap.size := by
      rcases Nat.lt_or_ge b w.heap.size with h1 | h1
      · exact h1
      · rw [Array.getElem?_eq_none h1] at hh; cases hh
    refine ⟨?_, hlt⟩
    rw [hh] at h
    cases ob with
    | cells c _ _ =>
      cases s with
      | none => rfl
      | some s => simp at h
    | _ => simp at h

theorem add_addr (b o i : Nat) : (Addr.add ⟨b, o, none⟩ i) = ⟨b, o + i, none⟩ := by
  unfold Addr.add
  split
  · next h => subst h; rfl
  · rfl

theorem rcells_div (y : RL.R) (i : Nat) (u : Value) (h : (rcells y)[i]? = some u) : ∃ v, y[i / 3]? = some v ∧ (vcells v)[i % 3]? = some u := by
  have hl : i < (rcells y).length := (List.getElem?_eq_some_iff.1 h).1
  rw [rcells_length] at hl
  have hq : i / 3 < y.length := by omega
  refine ⟨y[i / 3], List.getElem?_eq_getElem hq, ?_⟩
  obtain ⟨g0, g1, g2⟩ := rcells_get y (i / 3) _ (List.getElem?_eq_getElem hq)
  have hi : i = i / 3 * 3 + i % 3 := by omega
  have hr : i % 3 = 0 ∨ i % 3 = 1 ∨ i % 3 = 2 := by omega
  rcases hr with hr | hr | hr
  · rw [hr, Nat.add_zero] at hi; rw [hr]; rw [hi, g0] at h; exact h
  · rw [hr] at hi; rw [hr]; rw [hi, g1] at h; exact h
  · rw [hr] at hi; rw [hr]; rw [hi, g2] at h; exact h

section
variable {H : Type} {enc : TypeId × Value → H} {W : World} {n : Nat} {x : DataW H × List MemPlace}

theorem cells_TValue : Try.prog.cellsOf 60 = 3 := by kernel_rfl
theorem cells_TRow : Try.prog.cellsOf 24 = 1 := by kernel_rfl

set_option maxRecDepth 100000 in
/-- One value that reads. -/
theorem open_value {cs : List Value} (h : DataW.trod enc Try.prog W 0 (fun _ => true) true n 60 cs = some x) :
    ∃ v : RL.V, cs = vcells v ∧ v.str.size ≤ 9223372036854775807 := by
  obtain ⟨ys, n', _, _, hlen, hyl, hf⟩ := DataW.trod_struct Try.underlying60 h
  rw [cells_TValue] at hlen
  match cs, hlen with
  | [c0, c1, c2], _ =>
    match ys, hyl with
    | [y0, y1, y2], _ =>
      have h0 := hf 0 _ rfl
      have h1 := hf 1 _ rfl
      have h2 := hf 2 _ rfl
      obtain ⟨a0, e0, _, _⟩ := DataW.trod_int (k := .i64) (by kernel_rfl) h0
      obtain ⟨a1, e1, _, _⟩ := DataW.trod_int (k := .i64) (by kernel_rfl) h1
      obtain ⟨a2, e2, _, hz⟩ := DataW.trod_string (by kernel_rfl) h2
      have q0 : List.take (Try.prog.cellsOf 3) (List.drop 0 [c0, c1, c2]) = [.int .i64 a0] := e0
      have q1 : List.take (Try.prog.cellsOf 2) (List.drop 1 [c0, c1, c2]) = [.int .i64 a1] := e1
      have q2 : List.take (Try.prog.cellsOf 9) (List.drop 2 [c0, c1, c2]) = [.string a2] := e2
      rw [show Try.prog.cellsOf 3 = 1 by kernel_rfl] at q0
      rw [show Try.prog.cellsOf 2 = 1 by kernel_rfl] at q1
      rw [show Try.prog.cellsOf 9 = 1 by kernel_rfl] at q2
      simp at q0 q1 q2
      subst q0 q1 q2
      exact ⟨⟨a0, a1, a2⟩, rfl, hz⟩

theorem vcells_length (v : RL.V) : (vcells v).length = 3 := rfl

/-- A row that reads. -/
theorem open_row {cs : List Value} (h : DataW.trod enc Try.prog W 0 (fun _ => true) true n 24 cs = some x) :
    ∃ A C y, cs = [.slice A y.length C] ∧ SlR W.heap.size W A y ∧ y.length ≤ C ∧ C ≤ 9223372036854775807 ∧ BigR y := by
  rcases open_slice Try.underlying24 h with ⟨hcs, _⟩ | ⟨a, len, cap, m, n', D, Pl, hcs, _, hl, hm, hmm, _, hel⟩
  · exact ⟨none, 0, [], hcs, SlR.nil, Nat.le_refl _, by simp, by simp [BigR]⟩
  · rw [cells_TValue] at hel
    simp only [if_true] at hmm
    subst hmm
    have hch : ∀ i, i < len → ∃ v : RL.V, (∀ j, j < 3 → W.cell? (a.add (i * 3 + j)) = (vcells v)[j]?) ∧ v.str.size ≤ 9223372036854775807 := by
      intro i hi
      obtain ⟨cs', h1, h2⟩ := hel i (by omega)
      obtain ⟨v, rfl, hv⟩ := open_value h2
      obtain ⟨_, _, h3⟩ := World.cells?_some h1
      refine ⟨v, fun j hj => ?_, hv⟩
      rw [← Go.Deep.add_add]
      exact h3 j hj
    haveI : Inhabited RL.V := ⟨⟨0, 0, ByteArray.empty⟩⟩
    obtain ⟨f, hf⟩ := choose_lt hch
    refine ⟨some a, m, (List.range len).map f, by simpa using hcs, fun hne => ?_, by simpa using hl, hm, by simp only [List.length_map, List.length_range]; exact Nat.le_trans hl hm, ?_⟩
    · have hpos : 0 < len := by
        rcases Nat.eq_zero_or_pos len with h0 | h0
        · subst h0; exact absurd rfl hne
        · exact h0
      have h0 := (hf 0 hpos).1 0 (by omega)
      rw [show a.add (0 * 3 + 0) = a by unfold Addr.add; simp] at h0
      obtain ⟨ha, hb⟩ := cell_addr (h0.trans rfl)
      refine ⟨a.block, a.off, by rw [← ha], hb, fun i u hu => ?_⟩
      obtain ⟨v, hv, hvu⟩ := rcells_div _ _ _ hu
      rw [List.getElem?_map] at hv
      have hq : i / 3 < len := by
        rcases Nat.lt_or_ge (i / 3) len with h | h
        · exact h
        · rw [List.getElem?_eq_none (by simpa using h)] at hv; simp at hv
      rw [List.getElem?_range hq] at hv
      simp at hv
      subst hv
      have h1 := (hf _ hq).1 (i % 3) (by omega)
      rw [show i / 3 * 3 + i % 3 = i by omega, ha, add_addr] at h1
      rw [h1]
      exact hvu
    · intro v hv
      rw [List.mem_map] at hv
      obtain ⟨i, hi, rfl⟩ := hv
      exact (hf i (by simpa using hi)).2

/-- A list of rows that reads. -/
theorem open_rows {cs : List Value} (h : DataW.trod enc Try.prog W 0 (fun _ => true) true n 22 cs = some x) :
    ∃ A C Y, cs = [.slice A Y.length C] ∧ SlRs W.heap.size W A Y ∧ Y.length ≤ C ∧ C ≤ 9223372036854775807 ∧ (∀ y ∈ Y, BigR y) ∧ (C = 0 ∨ ∃ es sp, x.1 = .slice es sp ∧ es.length + sp.length = C) := by
  rcases open_slice1 Try.underlying22 cells_TRow h with ⟨hcs, _⟩ | ⟨a, len, cap, m, n', V, D, Pl, hcs, _, hl, hm, hmm, hx, hel⟩
  · exact ⟨none, 0, [], hcs, SlRs.nil, Nat.le_refl _, by simp, by simp, .inl rfl⟩
  · simp only [if_true] at hmm
    subst hmm
    have hch : ∀ i, i < len → ∃ y : RL.R, ∃ A C, W.cell? (a.add i) = some (.slice A y.length C) ∧ SlR W.heap.size W A y ∧ y.length ≤ C ∧ C ≤ 9223372036854775807 ∧ BigR y := by
      intro i hi
      obtain ⟨h1, h2⟩ := hel i (by omega)
      obtain ⟨A, C, y, e, g1, g2, g3, g4⟩ := open_row h2
      simp at e
      rw [e] at h1
      exact ⟨y, A, C, h1, g1, g2, g3, g4⟩
    obtain ⟨f, hf⟩ := choose_lt hch
    refine ⟨some a, m, (List.range len).map f, by simpa using hcs, fun hne => ?_, by simpa using hl, hm, ?_, .inr ⟨_, _, by rw [hx], by simp; omega⟩⟩
    · have hpos : 0 < len := by
        rcases Nat.eq_zero_or_pos len with h0 | h0
        · subst h0; exact absurd rfl hne
        · exact h0
      obtain ⟨A0, C0, h0, _⟩ := hf 0 hpos
      rw [show a.add 0 = a by unfold Addr.add; simp] at h0
      obtain ⟨ha, hb⟩ := cell_addr h0
      refine ⟨a.block, a.off, by rw [← ha], hb, fun i hi => ?_⟩
      have hi' : i < len := by simpa using hi
      obtain ⟨A, C, g0, g1, g2, g3, _⟩ := hf i hi'
      rw [ha, add_addr] at g0
      refine ⟨A, C, ?_, ?_, g3, ?_⟩
      · simpa using g0
      · simpa using g2
      · simpa using g1
    · intro y hy
      rw [List.mem_map] at hy
      obtain ⟨i, hi, rfl⟩ := hy
      obtain ⟨_, _, _, _, _, _, g⟩ := hf i (by simpa using hi)
      exact g

end
end Go.Proofs.Ytiopkooigeaneaa

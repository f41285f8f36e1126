/- Opening updates, their integers in range. -/
import Derived.Test.YtdadchpiibipoaaGreatDoorQ13
import Derived.Test.YtdadchpiibipoaaGreatDoorQ6
namespace Go.Proofs.YtdadchpiibipoaaGreatDoor
open Go.ChangeShapes Go.WideShapes Go.ChangeAt Go.RowKit Go.Joins Go.Deep

def BigF (x : RL.R) : Prop := x.length ≤ 9223372036854775807 ∧ ∀ v ∈ x, VFit v
section
variable {H : Type} {enc : TypeId × Value → H} {W : World} {n : Nat} {x : DataW H × List MemPlace}
set_option maxRecDepth 100000 in
theorem open_valueF {cs : List Value} (h : DataW.trod enc Tryz.prog W 0 (fun _ => true) true n 82 cs = some x) :
    ∃ v : RL.V, cs = vcells v ∧ VFit v := by
  obtain ⟨ys, n', _, _, hlen, hyl, hf⟩ := DataW.trod_struct Tryz.underlying82 h
  rw [cells_TValue] at hlen
  match cs, hlen with
  | [c0, c1, c2], _ =>
    match ys, hyl with
    | [y0, y1, y2], _ =>
      have h0 := hf 0 _ rfl
      have h1 := hf 1 _ rfl
      have h2 := hf 2 _ rfl
      obtain ⟨a0, e0, _, _⟩ := DataW.trod_int (k := .i64) (by kernel_rfl) h0
      obtain ⟨a1, e1, _, hw⟩ := DataW.trod_int (k := .i64) (by kernel_rfl) h1
      obtain ⟨a2, e2, _, hz⟩ := DataW.trod_string (by kernel_rfl) h2
      have q0 : List.take (Tryz.prog.cellsOf 3) (List.drop 0 [c0, c1, c2]) = [.int .i64 a0] := e0
      have q1 : List.take (Tryz.prog.cellsOf 2) (List.drop 1 [c0, c1, c2]) = [.int .i64 a1] := e1
      have q2 : List.take (Tryz.prog.cellsOf 9) (List.drop 2 [c0, c1, c2]) = [.string a2] := e2
      rw [show Tryz.prog.cellsOf 3 = 1 by kernel_rfl] at q0
      rw [show Tryz.prog.cellsOf 2 = 1 by kernel_rfl] at q1
      rw [show Tryz.prog.cellsOf 9 = 1 by kernel_rfl] at q2
      simp at q0 q1 q2
      subst q0 q1 q2
      exact ⟨⟨a0, a1, a2⟩, rfl, (bounds_i64 hw).1, (bounds_i64 hw).2, hz⟩

set_option maxRecDepth 100000 in
theorem open_rowF {cs : List Value} (h : DataW.trod enc Tryz.prog W 0 (fun _ => true) true n 42 cs = some x) :
    ∃ A C y, cs = [.slice A y.length C] ∧ SlR W.heap.size W A y ∧ y.length ≤ C ∧ C ≤ 9223372036854775807 ∧ BigF y := by
  rcases open_slice Tryz.underlying42 h with ⟨hcs, _⟩ | ⟨a, len, cap, m, n', D, Pl, hcs, _, hl, hm, hmm, _, hel⟩
  · exact ⟨none, 0, [], hcs, SlR.nil, Nat.le_refl _, by simp, by simp [BigF]⟩
  · rw [cells_TValue] at hel
    simp only [if_true] at hmm
    subst hmm
    have hch : ∀ i, i < len → ∃ v : RL.V, (∀ j, j < 3 → W.cell? (a.add (i * 3 + j)) = (vcells v)[j]?) ∧ VFit v := by
      intro i hi
      obtain ⟨cs', h1, h2⟩ := hel i (by omega)
      obtain ⟨v, rfl, hv⟩ := open_valueF h2
      obtain ⟨_, _, h3⟩ := World.cells?_some h1
      refine ⟨v, fun j hj => ?_, hv⟩
      rw [← Go.Deep.add_add]
      exact h3 j hj
    haveI : Inhabited RL.V := ⟨⟨0, 0, ByteArray.empty⟩⟩
    obtain ⟨f, hf⟩ := choose_lt hch
    refine ⟨some a, m, (List.range len).map f, by simpa using hcs, fun hne => ?_, by simpa using hl, hm, by simp only [List.length_map, List.length_range]; exact Nat.le_trans hl hm, ?_⟩
    · have hpos : 0 < len := by
        rcases Nat.eq_zero_or_pos len with h0 | h0
        · subst h0; exact absurd rfl hne
        · exact h0
      have h0 := (hf 0 hpos).1 0 (by omega)
      rw [show a.add (0 * 3 + 0) = a by unfold Addr.add; simp] at h0
      obtain ⟨ha, hb⟩ := cell_addr (h0.trans rfl)
      refine ⟨a.block, a.off, by rw [← ha], hb, fun i u hu => ?_⟩
      obtain ⟨v, hv, hvu⟩ := rcells_div _ _ _ hu
      rw [List.getElem?_map] at hv
      have hq : i / 3 < len := by
        rcases Nat.lt_or_ge (i / 3) len with h | h
        · exact h
        · rw [List.getElem?_eq_none (by simpa using h)] at hv; simp at hv
      rw [List.getElem?_range hq] at hv
      simp at hv
      subst hv
      have h1 := (hf _ hq).1 (i % 3) (by omega)
      rw [show i / 3 * 3 + i % 3 = i by omega, ha, add_addr] at h1
      rw [h1]
      exact hvu
    · intro v hv
      rw [List.mem_map] at hv
      obtain ⟨i, hi, rfl⟩ := hv
      exact (hf i (by simpa using hi)).2

set_option maxRecDepth 100000 in
theorem open_updF {cs : List Value} (h : DataW.trod enc Tryz.prog W 0 (fun _ => true) true n 53 cs = some x) :
    ∃ (u : Upd) (RA : Option Addr) (RC : Nat), cs = [.bool u.del, .string u.rel, .slice RA u.row.length RC] ∧ SlR W.heap.size W RA u.row ∧ u.rel.size ≤ 9223372036854775807 ∧ u.row.length ≤ 9223372036854775807 ∧ BigF u.row := by
  obtain ⟨ys, n', _, _, hlen, hyl, hf⟩ := DataW.trod_struct Tryz.underlying53 h
  rw [cells_TUpd] at hlen
  match cs, hlen with
  | [c0, c1, c2], _ =>
    match ys, hyl with
    | [y0, y1, y2], _ =>
      have h0 := hf 0 _ rfl
      have h1 := hf 1 _ rfl
      have h2 := hf 2 _ rfl
      obtain ⟨a0, e0, _⟩ := DataW.trod_bool (by kernel_rfl) h0
      obtain ⟨a1, e1, _, hz⟩ := DataW.trod_string (by kernel_rfl) h1
      obtain ⟨RA, RC, y, e2, hs, hk, hk2, hbr⟩ := open_rowF h2
      have q0 : List.take (Tryz.prog.cellsOf 4) (List.drop 0 [c0, c1, c2]) = [.bool a0] := e0
      have q1 : List.take (Tryz.prog.cellsOf 9) (List.drop 1 [c0, c1, c2]) = [.string a1] := e1
      have q2 : List.take (Tryz.prog.cellsOf 42) (List.drop 2 [c0, c1, c2]) = [.slice RA y.length RC] := e2
      rw [show Tryz.prog.cellsOf 4 = 1 by kernel_rfl] at q0
      rw [show Tryz.prog.cellsOf 9 = 1 by kernel_rfl] at q1
      rw [cells_TRow] at q2
      simp at q0 q1 q2
      subst q0 q1 q2
      exact ⟨⟨a0, a1, y⟩, RA, RC, rfl, hs, hz, Nat.le_trans hk hk2, hbr⟩

set_option maxRecDepth 100000 in
theorem open_updsF {cs : List Value} (h : DataW.trod enc Tryz.prog W 0 (fun _ => true) true n 23 cs = some x) :
    ∃ A C X, cs = [.slice A X.length C] ∧ UpdsM W.heap.size W A X ∧ (∀ u ∈ X, u.rel.size ≤ 9223372036854775807 ∧ u.row.length ≤ 9223372036854775807 ∧ BigF u.row) ∧ X.length ≤ C ∧ C ≤ 9223372036854775807 := by
  rcases open_slice Tryz.underlying23 h with ⟨hcs, _⟩ | ⟨a, len, cap, m, n', D, Pl, hcs, _, hl, hm, hmm, hx, hel⟩
  · exact ⟨none, 0, [], hcs, fun h => absurd rfl h, fun p hp => (by cases hp), Nat.le_refl _, by simp⟩
  · rw [cells_TUpd] at hel
    simp only [if_true] at hmm
    subst hmm
    have hm' : m ≤ 9223372036854775807 := hm
    have hch : ∀ i, i < len → ∃ t : Upd, ∃ RA RC, W.cell? (a.add (i * 3)) = some (.bool t.del) ∧ W.cell? (a.add (i * 3 + 1)) = some (.string t.rel) ∧ W.cell? (a.add (i * 3 + 2)) = some (.slice RA t.row.length RC) ∧ SlR W.heap.size W RA t.row ∧ t.rel.size ≤ 9223372036854775807 ∧ t.row.length ≤ 9223372036854775807 ∧ BigF t.row := by
      intro i hi
      obtain ⟨cs', h1, h2⟩ := hel i (by omega)
      obtain ⟨u, RA, RC, rfl, hs, g⟩ := open_updF h2
      obtain ⟨_, _, h3⟩ := World.cells?_some h1
      refine ⟨u, RA, RC, ?_, ?_, ?_, hs, g⟩
      · have := h3 0 (by omega)
        rw [Go.Deep.add_add] at this
        exact this
      · have := h3 1 (by omega)
        rw [Go.Deep.add_add] at this
        exact this
      · have := h3 2 (by omega)
        rw [Go.Deep.add_add] at this
        exact this
    haveI : Inhabited Upd := ⟨⟨false, ByteArray.empty, []⟩⟩
    obtain ⟨f, hf⟩ := choose_lt hch
    refine ⟨some a, m, (List.range len).map f, by simpa using hcs, fun hne => ?_, ?_, by simpa using hl, hm'⟩
    · have hpos : 0 < len := by
        rcases Nat.eq_zero_or_pos len with h0 | h0
        · subst h0; exact absurd rfl hne
        · exact h0
      obtain ⟨_, _, h0, _⟩ := hf 0 hpos
      rw [show a.add (0 * 3) = a by unfold Addr.add; simp] at h0
      obtain ⟨ha, hb⟩ := cell_addr h0
      refine ⟨a.block, a.off, by rw [← ha], hb, fun i hi => ?_⟩
      have hi' : i < len := by simpa using hi
      obtain ⟨RA, RC, g0, g1, g2, g3, _⟩ := hf i hi'
      rw [ha, add_addr] at g0 g1 g2
      rw [← Nat.add_assoc] at g1 g2
      refine ⟨RA, RC, ?_, ?_, ?_, ?_⟩
      · simpa using g0
      · simpa using g1
      · simpa using g2
      · simpa using g3
    · intro p hp
      rw [List.mem_map] at hp
      obtain ⟨i, hi, rfl⟩ := hp
      obtain ⟨_, _, _, _, _, _, g⟩ := hf i (by simpa using hi)
      exact g
end
end Go.Proofs.YtdadchpiibipoaaGreatDoor

/- Parts of the proof, merged: F15. -/
import Derived.Test.YtgaffbdcpkbdhaaRows
import Derived.Test.YtgaffbdcpkbdhaaQ5
import Derived.ProofKit
import Derived.OpenShut
import Derived.ShutString
import Derived.ChangeOld
import Derived.ChangeSame
import Derived.Lib.SmallJoins
import Derived.Deep.Slices
import Derived.Deep.Fields

section
/- Opening the arguments of the laws of chapter 16: schemas, acts, lists of bools. -/
namespace Go.Proofs.Ytgaffbdcpkbdhaa
open Go.ChangeShapes Go.WideShapes Go.ChangeAt Go.RowKit Go.Joins Go.Deep

theorem cell_addr {w : World} {a : Addr} {v : Value} (h : w.cell? a = some v) : a = ⟨a.block, a.off, none⟩ ∧ a.block < w.heap.size := by
  obtain ⟨b, o, s⟩ := a
  unfold World.cell? at h
  simp only at h
  cases hh : w.heap[b]? with
  | none => rw [hh] at h; cases h
  | some ob =>
    have hlt : b < w.heap.size := by
      rcases Nat.lt_or_ge b w.heap.size with h1 | h1
      · exact h1
      · rw [Array.getElem?_eq_none h1] at hh; cases hh
    refine ⟨?_, hlt⟩
    rw [hh] at h
    cases ob with
    | cells c _ _ =>
      cases s with
      | none => rfl
      | some s => simp at h
    | _ => simp at h

theorem add_addr (b o i : Nat) : (Addr.add ⟨b, o, none⟩ i) = ⟨b, o + i, none⟩ := by
  unfold Addr.add
  split
  · next h => subst h; rfl
  · rfl

theorem rcells_div (y : RL.R) (i : Nat) (u : Value) (h : (rcells y)[i]? = some u) : ∃ v, y[i / 3]? = some v ∧ (vcells v)[i % 3]? = some u := by
  have hl : i < (rcells y).length := (List.getElem?_eq_some_iff.1 h).1
  rw [rcells_length] at hl
  have hq : i / 3 < y.length := by omega
  refine ⟨y[i / 3], List.getElem?_eq_getElem hq, ?_⟩
  obtain ⟨g0, g1, g2⟩ := rcells_get y (i / 3) _ (List.getElem?_eq_getElem hq)
  have hi : i = i / 3 * 3 + i % 3 := by omega
  have hr : i % 3 = 0 ∨ i % 3 = 1 ∨ i % 3 = 2 := by omega
  rcases hr with hr | hr | hr
  · rw [hr, Nat.add_zero] at hi; rw [hr]; rw [hi, g0] at h; exact h
  · rw [hr] at hi; rw [hr]; rw [hi, g1] at h; exact h
  · rw [hr] at hi; rw [hr]; rw [hi, g2] at h; exact h

section
variable {H : Type} {enc : TypeId × Value → H} {W : World} {n : Nat} {x : DataW H × List MemPlace}

theorem cells_TValue : Try.prog.cellsOf 75 = 3 := by kernel_rfl
theorem cells_TRow : Try.prog.cellsOf 54 = 1 := by kernel_rfl

set_option maxRecDepth 100000 in
/-- One value that reads. -/
theorem open_value {cs : List Value} (h : DataW.trod enc Try.prog W 0 (fun _ => true) true n 75 cs = some x) :
    ∃ v : RL.V, cs = vcells v ∧ v.str.size ≤ 9223372036854775807 := by
  obtain ⟨ys, n', _, _, hlen, hyl, hf⟩ := DataW.trod_struct Try.underlying75 h
  rw [cells_TValue] at hlen
  match cs, hlen with
  | [c0, c1, c2], _ =>
    match ys, hyl with
    | [y0, y1, y2], _ =>
      have h0 := hf 0 _ rfl
      have h1 := hf 1 _ rfl
      have h2 := hf 2 _ rfl
      obtain ⟨a0, e0, _, _⟩ := DataW.trod_int (k := .i64) (by kernel_rfl) h0
      obtain ⟨a1, e1, _, _⟩ := DataW.trod_int (k := .i64) (by kernel_rfl) h1
      obtain ⟨a2, e2, _, hz⟩ := DataW.trod_string (by kernel_rfl) h2
      have q0 : List.take (Try.prog.cellsOf 3) (List.drop 0 [c0, c1, c2]) = [.int .i64 a0] := e0
      have q1 : List.take (Try.prog.cellsOf 2) (List.drop 1 [c0, c1, c2]) = [.int .i64 a1] := e1
      have q2 : List.take (Try.prog.cellsOf 9) (List.drop 2 [c0, c1, c2]) = [.string a2] := e2
      rw [show Try.prog.cellsOf 3 = 1 by kernel_rfl] at q0
      rw [show Try.prog.cellsOf 2 = 1 by kernel_rfl] at q1
      rw [show Try.prog.cellsOf 9 = 1 by kernel_rfl] at q2
      simp at q0 q1 q2
      subst q0 q1 q2
      exact ⟨⟨a0, a1, a2⟩, rfl, hz⟩

theorem vcells_length (v : RL.V) : (vcells v).length = 3 := rfl

/-- A row that reads. -/
theorem open_row {cs : List Value} (h : DataW.trod enc Try.prog W 0 (fun _ => true) true n 54 cs = some x) :
    ∃ A C y, cs = [.slice A y.length C] ∧ SlR W.heap.size W A y ∧ y.length ≤ C ∧ C ≤ 9223372036854775807 ∧ BigW y := by
  rcases open_slice Try.underlying54 h with ⟨hcs, _⟩ | ⟨a, len, cap, m, n', D, Pl, hcs, _, hl, hm, hmm, _, hel⟩
  · exact ⟨none, 0, [], hcs, SlR.nil, Nat.le_refl _, by simp, by simp [BigW]⟩
  · rw [cells_TValue] at hel
    simp only [if_true] at hmm
    subst hmm
    have hch : ∀ i, i < len → ∃ v : RL.V, (∀ j, j < 3 → W.cell? (a.add (i * 3 + j)) = (vcells v)[j]?) ∧ v.str.size ≤ 9223372036854775807 := by
      intro i hi
      obtain ⟨cs', h1, h2⟩ := hel i (by omega)
      obtain ⟨v, rfl, hv⟩ := open_value h2
      obtain ⟨_, _, h3⟩ := World.cells?_some h1
      refine ⟨v, fun j hj => ?_, hv⟩
      rw [← Go.Deep.add_add]
      exact h3 j hj
    haveI : Inhabited RL.V := ⟨⟨0, 0, ByteArray.empty⟩⟩
    obtain ⟨f, hf⟩ := choose_lt hch
    refine ⟨some a, m, (List.range len).map f, by simpa using hcs, fun hne => ?_, by simpa using hl, hm, by simp only [List.length_map, List.length_range]; exact Nat.le_trans hl hm, ?_⟩
    · have hpos : 0 < len := by
        rcases Nat.eq_zero_or_pos len with h0 | h0
        · subst h0; exact absurd rfl hne
        · exact h0
      have h0 := (hf 0 hpos).1 0 (by omega)
      rw [show a.add (0 * 3 + 0) = a by unfold Addr.add; simp] at h0
      obtain ⟨ha, hb⟩ := cell_addr (h0.trans rfl)
      refine ⟨a.block, a.off, by rw [← ha], hb, fun i u hu => ?_⟩
      obtain ⟨v, hv, hvu⟩ := rcells_div _ _ _ hu
      rw [List.getElem?_map] at hv
      have hq : i / 3 < len := by
        rcases Nat.lt_or_ge (i / 3) len with h | h
        · exact h
        · rw [List.getElem?_eq_none (by simpa using h)] at hv; simp at hv
      rw [List.getElem?_range hq] at hv
      simp at hv
      subst hv
      have h1 := (hf _ hq).1 (i % 3) (by omega)
      rw [show i / 3 * 3 + i % 3 = i by omega, ha, add_addr] at h1
      rw [h1]
      exact hvu
    · intro v hv
      rw [List.mem_map] at hv
      obtain ⟨i, hi, rfl⟩ := hv
      exact (hf i (by simpa using hi)).2


/-- A slice of bools that reads. -/
theorem open_bools {cs : List Value} (h : DataW.trod enc Try.prog W 0 (fun _ => true) true n 43 cs = some x) :
    ∃ A C l, cs = [.slice A l.length C] ∧ BoolsM W.heap.size W A l ∧ l.length ≤ 9223372036854775807 := by
  rcases open_slice1 Try.underlying43 (by kernel_rfl) h with ⟨hcs, _⟩ | ⟨a, len, cap, m, n', V, D, Pl, hcs, _, hl, hm, hmm, hx, hel⟩
  · exact ⟨none, 0, [], hcs, fun h => absurd rfl h, by simp⟩
  · simp only [if_true] at hmm
    subst hmm
    have hm' : m ≤ 9223372036854775807 := hm
    have hch : ∀ i, i < len → ∃ y : Bool, W.cell? (a.add i) = some (.bool y) := by
      intro i hi
      obtain ⟨h1, h2⟩ := hel i (by omega)
      obtain ⟨b, e, _⟩ := DataW.trod_bool Try.underlying4 h2
      simp at e
      rw [e] at h1
      exact ⟨b, h1⟩
    obtain ⟨f, hf⟩ := choose_lt hch
    refine ⟨some a, m, (List.range len).map f, by simpa using hcs, fun hne => ?_, by simp only [List.length_map, List.length_range]; omega⟩
    have hpos : 0 < len := by
      rcases Nat.eq_zero_or_pos len with h0 | h0
      · subst h0; exact absurd rfl hne
      · exact h0
    have h0 := hf 0 hpos
    rw [show a.add 0 = a by unfold Addr.add; simp] at h0
    obtain ⟨ha, hb⟩ := cell_addr h0
    refine ⟨a.block, a.off, by rw [← ha], hb, fun i hi => ?_⟩
    have hi' : i < len := by simpa using hi
    have g0 := hf i hi'
    rw [ha, add_addr] at g0
    simpa using g0

theorem sl_open {k : IntKind} {w : World} {a : Addr} {zs : List Int} {len : Nat} (hl : len ≤ zs.length) (hcell : ∀ i, i < zs.length → w.cell? (a.add i) = some (.int k (zs.getD i 0))) :
    SlI k w.heap.size w (some a) (zs.take len) := by
  intro hne
  have hpos : 0 < (zs.take len).length := by
    rcases Nat.eq_zero_or_pos (zs.take len).length with h | h
    · exact absurd (by rw [List.eq_nil_of_length_eq_zero h]; rfl) hne
    · exact h
  rw [List.length_take] at hpos
  have h0 := hcell 0 (by omega)
  rw [show a.add 0 = a by unfold Addr.add; simp] at h0
  obtain ⟨ha, hb⟩ := cell_addr h0
  refine ⟨a.block, a.off, by rw [← ha], hb, fun i u hu => ?_⟩
  rw [List.getElem?_map] at hu
  cases hz : (zs.take len)[i]? with
  | none => rw [hz] at hu; simp at hu
  | some z =>
    rw [hz] at hu
    simp at hu
    subst hu
    obtain ⟨hi, hzi⟩ := List.getElem?_eq_some_iff.1 hz
    rw [List.length_take] at hi
    have h1 := hcell i (by omega)
    rw [ha, add_addr] at h1
    rw [h1]
    simp at hzi
    simp [show i < zs.length by omega, hzi]

/-- A slice of ints that reads. -/
theorem open_cols {cs : List Value} (h : DataW.trod enc Try.prog W 0 (fun _ => true) true n 36 cs = some x) :
    ∃ A c zs, cs = [.slice A zs.length c] ∧ SlI .i64 W.heap.size W A zs ∧ zs.length ≤ 9223372036854775807 := by
  rcases open_ints Try.underlying36 Try.underlying3 (by kernel_rfl) h with ⟨hcs, _⟩ | ⟨a, len, cap, zs, hcs, _, hl, hm, hz, _, hcell, hwz⟩
  · exact ⟨none, 0, [], hcs, Sl.nil, by simp⟩
  · simp at hz
    have hlz : len ≤ zs.length := by omega
    have hm' : cap ≤ 9223372036854775807 := hm
    refine ⟨some a, cap, zs.take len, ?_, sl_open hlz hcell, ?_⟩
    · rw [List.length_take, Nat.min_eq_left hlz]; exact hcs
    · rw [List.length_take]; omega

theorem cells_TSchema : Try.prog.cellsOf 73 = 2 := by kernel_rfl
theorem cells_TUpd : Try.prog.cellsOf 56 = 3 := by kernel_rfl
theorem cells_TAct16 : Try.prog.cellsOf 51 = 3 := by kernel_rfl

set_option maxRecDepth 100000 in
/-- One schema that reads. -/
theorem open_schema {cs : List Value} (h : DataW.trod enc Try.prog W 0 (fun _ => true) true n 73 cs = some x) :
    ∃ (s : ByteArray) (ks : List Int) (KA : Option Addr) (KC : Nat), cs = [.string s, .slice KA ks.length KC] ∧ SlI .i64 W.heap.size W KA ks ∧ s.size ≤ 9223372036854775807 ∧ ks.length ≤ 9223372036854775807 := by
  obtain ⟨ys, n', _, _, hlen, hyl, hf⟩ := DataW.trod_struct Try.underlying73 h
  rw [cells_TSchema] at hlen
  match cs, hlen with
  | [c0, c1], _ =>
    match ys, hyl with
    | [y0, y1], _ =>
      have h0 := hf 0 _ rfl
      have h1 := hf 1 _ rfl
      obtain ⟨a0, e0, _, hz⟩ := DataW.trod_string (by kernel_rfl) h0
      obtain ⟨KA, KC, ks, e1, hs, hk⟩ := open_cols h1
      have q0 : List.take (Try.prog.cellsOf 9) (List.drop 0 [c0, c1]) = [.string a0] := e0
      have q1 : List.take (Try.prog.cellsOf 36) (List.drop 1 [c0, c1]) = [.slice KA ks.length KC] := e1
      rw [show Try.prog.cellsOf 9 = 1 by kernel_rfl] at q0
      rw [show Try.prog.cellsOf 36 = 1 by kernel_rfl] at q1
      simp at q0 q1
      subst q0 q1
      exact ⟨a0, ks, KA, KC, rfl, hs, hz, hk⟩

/-- A list of schemas that reads. -/
theorem open_schemas {cs : List Value} (h : DataW.trod enc Try.prog W 0 (fun _ => true) true n 47 cs = some x) :
    ∃ A C X, cs = [.slice A X.length C] ∧ SchsM W.heap.size W A X ∧ SchsOk X ∧ X.length ≤ C ∧ C ≤ 9223372036854775807 := by
  rcases open_slice Try.underlying47 h with ⟨hcs, _⟩ | ⟨a, len, cap, m, n', D, Pl, hcs, _, hl, hm, hmm, hx, hel⟩
  · exact ⟨none, 0, [], hcs, fun h => absurd rfl h, fun p hp => (by cases hp), Nat.le_refl _, by simp⟩
  · rw [cells_TSchema] at hel
    simp only [if_true] at hmm
    subst hmm
    have hm' : m ≤ 9223372036854775807 := hm
    have hch : ∀ i, i < len → ∃ t : ByteArray × List Int, ∃ KA KC, W.cell? (a.add (i * 2)) = some (.string t.1) ∧ W.cell? (a.add (i * 2 + 1)) = some (.slice KA t.2.length KC) ∧ SlI .i64 W.heap.size W KA t.2 ∧ t.1.size ≤ 9223372036854775807 ∧ t.2.length ≤ 9223372036854775807 := by
      intro i hi
      obtain ⟨cs', h1, h2⟩ := hel i (by omega)
      obtain ⟨s, ks, KA, KC, rfl, hs, hz, hk⟩ := open_schema h2
      obtain ⟨_, _, h3⟩ := World.cells?_some h1
      refine ⟨(s, ks), KA, KC, ?_, ?_, hs, hz, hk⟩
      · have := h3 0 (by omega)
        rw [Go.Deep.add_add] at this
        exact this
      · have := h3 1 (by omega)
        rw [Go.Deep.add_add] at this
        exact this
    haveI : Inhabited (ByteArray × List Int) := ⟨⟨ByteArray.empty, []⟩⟩
    obtain ⟨f, hf⟩ := choose_lt hch
    refine ⟨some a, m, (List.range len).map f, by simpa using hcs, fun hne => ?_, ?_, by simpa using hl, hm'⟩
    · have hpos : 0 < len := by
        rcases Nat.eq_zero_or_pos len with h0 | h0
        · subst h0; exact absurd rfl hne
        · exact h0
      obtain ⟨_, _, h0, _⟩ := hf 0 hpos
      rw [show a.add (0 * 2) = a by unfold Addr.add; simp] at h0
      obtain ⟨ha, hb⟩ := cell_addr h0
      refine ⟨a.block, a.off, by rw [← ha], hb, fun i hi => ?_⟩
      have hi' : i < len := by simpa using hi
      obtain ⟨KA, KC, g0, g1, g2, _⟩ := hf i hi'
      rw [ha, add_addr] at g0 g1
      refine ⟨KA, KC, ?_, ?_, ?_⟩
      · simpa using g0
      · rw [← Nat.add_assoc] at g1
        simpa using g1
      · simpa using g2
    · intro p hp
      rw [List.mem_map] at hp
      obtain ⟨i, hi, rfl⟩ := hp
      obtain ⟨_, _, _, _, _, g⟩ := hf i (by simpa using hi)
      exact g

set_option maxRecDepth 100000 in
/-- One update that reads. -/
theorem open_upd {cs : List Value} (h : DataW.trod enc Try.prog W 0 (fun _ => true) true n 56 cs = some x) :
    ∃ (u : Upd) (RA : Option Addr) (RC : Nat), cs = [.bool u.del, .string u.rel, .slice RA u.row.length RC] ∧ SlR W.heap.size W RA u.row ∧ u.rel.size ≤ 9223372036854775807 ∧ u.row.length ≤ 9223372036854775807 ∧ BigW u.row := by
  obtain ⟨ys, n', _, _, hlen, hyl, hf⟩ := DataW.trod_struct Try.underlying56 h
  rw [cells_TUpd] at hlen
  match cs, hlen with
  | [c0, c1, c2], _ =>
    match ys, hyl with
    | [y0, y1, y2], _ =>
      have h0 := hf 0 _ rfl
      have h1 := hf 1 _ rfl
      have h2 := hf 2 _ rfl
      obtain ⟨a0, e0, _⟩ := DataW.trod_bool (by kernel_rfl) h0
      obtain ⟨a1, e1, _, hz⟩ := DataW.trod_string (by kernel_rfl) h1
      obtain ⟨RA, RC, y, e2, hs, hk, hk2, hbr⟩ := open_row h2
      have q0 : List.take (Try.prog.cellsOf 4) (List.drop 0 [c0, c1, c2]) = [.bool a0] := e0
      have q1 : List.take (Try.prog.cellsOf 9) (List.drop 1 [c0, c1, c2]) = [.string a1] := e1
      have q2 : List.take (Try.prog.cellsOf 54) (List.drop 2 [c0, c1, c2]) = [.slice RA y.length RC] := e2
      rw [show Try.prog.cellsOf 4 = 1 by kernel_rfl] at q0
      rw [show Try.prog.cellsOf 9 = 1 by kernel_rfl] at q1
      rw [cells_TRow] at q2
      simp at q0 q1 q2
      subst q0 q1 q2
      exact ⟨⟨a0, a1, y⟩, RA, RC, rfl, hs, hz, Nat.le_trans hk hk2, hbr⟩

/-- A list of updates that reads. -/
theorem open_upds {cs : List Value} (h : DataW.trod enc Try.prog W 0 (fun _ => true) true n 49 cs = some x) :
    ∃ A C X, cs = [.slice A X.length C] ∧ UpdsM W.heap.size W A X ∧ (∀ u ∈ X, u.rel.size ≤ 9223372036854775807 ∧ u.row.length ≤ 9223372036854775807 ∧ BigW u.row) ∧ X.length ≤ C ∧ C ≤ 9223372036854775807 := by
  rcases open_slice Try.underlying49 h with ⟨hcs, _⟩ | ⟨a, len, cap, m, n', D, Pl, hcs, _, hl, hm, hmm, hx, hel⟩
  · exact ⟨none, 0, [], hcs, fun h => absurd rfl h, fun p hp => (by cases hp), Nat.le_refl _, by simp⟩
  · rw [cells_TUpd] at hel
    simp only [if_true] at hmm
    subst hmm
    have hm' : m ≤ 9223372036854775807 := hm
    have hch : ∀ i, i < len → ∃ t : Upd, ∃ RA RC, W.cell? (a.add (i * 3)) = some (.bool t.del) ∧ W.cell? (a.add (i * 3 + 1)) = some (.string t.rel) ∧ W.cell? (a.add (i * 3 + 2)) = some (.slice RA t.row.length RC) ∧ SlR W.heap.size W RA t.row ∧ t.rel.size ≤ 9223372036854775807 ∧ t.row.length ≤ 9223372036854775807 ∧ BigW t.row := by
      intro i hi
      obtain ⟨cs', h1, h2⟩ := hel i (by omega)
      obtain ⟨u, RA, RC, rfl, hs, g⟩ := open_upd h2
      obtain ⟨_, _, h3⟩ := World.cells?_some h1
      refine ⟨u, RA, RC, ?_, ?_, ?_, hs, g⟩
      · have := h3 0 (by omega)
        rw [Go.Deep.add_add] at this
        exact this
      · have := h3 1 (by omega)
        rw [Go.Deep.add_add] at this
        exact this
      · have := h3 2 (by omega)
        rw [Go.Deep.add_add] at this
        exact this
    haveI : Inhabited Upd := ⟨⟨false, ByteArray.empty, []⟩⟩
    obtain ⟨f, hf⟩ := choose_lt hch
    refine ⟨some a, m, (List.range len).map f, by simpa using hcs, fun hne => ?_, ?_, by simpa using hl, hm'⟩
    · have hpos : 0 < len := by
        rcases Nat.eq_zero_or_pos len with h0 | h0
        · subst h0; exact absurd rfl hne
        · exact h0
      obtain ⟨_, _, h0, _⟩ := hf 0 hpos
      rw [show a.add (0 * 3) = a by unfold Addr.add; simp] at h0
      obtain ⟨ha, hb⟩ := cell_addr h0
      refine ⟨a.block, a.off, by rw [← ha], hb, fun i hi => ?_⟩
      have hi' : i < len := by simpa using hi
      obtain ⟨RA, RC, g0, g1, g2, g3, _⟩ := hf i hi'
      rw [ha, add_addr] at g0 g1 g2
      rw [← Nat.add_assoc] at g1 g2
      refine ⟨RA, RC, ?_, ?_, ?_, ?_⟩
      · simpa using g0
      · simpa using g1
      · simpa using g2
      · simpa using g3
    · intro p hp
      rw [List.mem_map] at hp
      obtain ⟨i, hi, rfl⟩ := hp
      obtain ⟨_, _, _, _, _, _, g⟩ := hf i (by simpa using hi)
      exact g

set_option maxRecDepth 100000 in
/-- One act that reads. -/
theorem open_act {cs : List Value} (h : DataW.trod enc Try.prog W 0 (fun _ => true) true n 51 cs = some x) :
    ∃ (a : ActR) (UA : Option Addr) (UC : Nat), cs = [.int .u8 (a.kind : Nat), .int .i64 a.num, .slice UA a.us.length UC] ∧ UpdsM W.heap.size W UA a.us ∧ a.us.length ≤ UC ∧ ActOk a := by
  obtain ⟨ys, n', _, _, hlen, hyl, hf⟩ := DataW.trod_struct Try.underlying51 h
  rw [cells_TAct16] at hlen
  match cs, hlen with
  | [c0, c1, c2], _ =>
    match ys, hyl with
    | [y0, y1, y2], _ =>
      have h0 := hf 0 _ rfl
      have h1 := hf 1 _ rfl
      have h2 := hf 2 _ rfl
      obtain ⟨a0, e0, _, w0⟩ := DataW.trod_int (k := .u8) (by kernel_rfl) h0
      obtain ⟨a1, e1, _, w1⟩ := DataW.trod_int (k := .i64) (by kernel_rfl) h1
      obtain ⟨UA, UC, us, e2, hs, ho, hc, hc2⟩ := open_upds h2
      have b0 := bounds_u8 w0
      obtain ⟨a0, rfl⟩ := Int.eq_ofNat_of_zero_le b0.1
      have q0 : List.take (Try.prog.cellsOf 5) (List.drop 0 [c0, c1, c2]) = [.int .u8 a0] := e0
      have q1 : List.take (Try.prog.cellsOf 3) (List.drop 1 [c0, c1, c2]) = [.int .i64 a1] := e1
      have q2 : List.take (Try.prog.cellsOf 49) (List.drop 2 [c0, c1, c2]) = [.slice UA us.length UC] := e2
      rw [show Try.prog.cellsOf 5 = 1 by kernel_rfl] at q0
      rw [show Try.prog.cellsOf 3 = 1 by kernel_rfl] at q1
      rw [show Try.prog.cellsOf 49 = 1 by kernel_rfl] at q2
      simp at q0 q1 q2
      subst q0 q1 q2
      exact ⟨⟨a0, a1, us⟩, UA, UC, rfl, hs, hc, by show a0 ≤ 255; omega, w1, Nat.le_trans hc hc2, ho⟩

set_option maxRecDepth 100000 in
/-- An act, as a value. -/
theorem open_act16V {r : Reach} {b0 : Nat} {v : Value} {d : DataW H} {p : List MemPlace} (hv : Value.okWide Try.prog W r b0 51 v) (h : DataW.Trod enc Try.prog W 0 (fun _ => true) true 51 v d p) :
    ∃ (a : ActR) (UA : Option Addr) (UC : Nat), v = .agg #[.int .u8 (a.kind : Nat), .int .i64 a.num, .slice UA a.us.length UC] ∧ UpdsM W.heap.size W UA a.us ∧ a.us.length ≤ UC ∧ ActOk a := by
  obtain ⟨cs, rfl, _⟩ := okWide_struct Try.underlying51 hv
  obtain ⟨fuel, hf⟩ := h
  obtain ⟨l⟩ := cs
  simp only [Value.cells] at hf
  obtain ⟨a, UA, UC, rfl, h1, h2, h3⟩ := open_act hf
  exact ⟨a, UA, UC, rfl, h1, h2, h3⟩

/-- A list of acts that reads. -/
theorem open_act16s {cs : List Value} (h : DataW.trod enc Try.prog W 0 (fun _ => true) true n 48 cs = some x) :
    ∃ A C X, cs = [.slice A X.length C] ∧ ActsM W.heap.size W A X ∧ (∀ a ∈ X, ActOk a) ∧ X.length ≤ C ∧ C ≤ 9223372036854775807 := by
  rcases open_slice Try.underlying48 h with ⟨hcs, _⟩ | ⟨a, len, cap, m, n', D, Pl, hcs, _, hl, hm, hmm, hx, hel⟩
  · exact ⟨none, 0, [], hcs, fun h => absurd rfl h, fun p hp => (by cases hp), Nat.le_refl _, by simp⟩
  · rw [cells_TAct16] at hel
    simp only [if_true] at hmm
    subst hmm
    have hm' : m ≤ 9223372036854775807 := hm
    have hch : ∀ i, i < len → ∃ t : ActR, ∃ UA UC, W.cell? (a.add (i * 3)) = some (.int .u8 (t.kind : Nat)) ∧ W.cell? (a.add (i * 3 + 1)) = some (.int .i64 t.num) ∧ W.cell? (a.add (i * 3 + 2)) = some (.slice UA t.us.length UC) ∧ t.us.length ≤ UC ∧ UpdsM W.heap.size W UA t.us ∧ ActOk t := by
      intro i hi
      obtain ⟨cs', h1, h2⟩ := hel i (by omega)
      obtain ⟨u, UA, UC, rfl, hs, g, go⟩ := open_act h2
      obtain ⟨_, _, h3⟩ := World.cells?_some h1
      refine ⟨u, UA, UC, ?_, ?_, ?_, g, hs, go⟩
      · have := h3 0 (by omega)
        rw [Go.Deep.add_add] at this
        exact this
      · have := h3 1 (by omega)
        rw [Go.Deep.add_add] at this
        exact this
      · have := h3 2 (by omega)
        rw [Go.Deep.add_add] at this
        exact this
    haveI : Inhabited ActR := ⟨⟨0, 0, []⟩⟩
    obtain ⟨f, hf⟩ := choose_lt hch
    refine ⟨some a, m, (List.range len).map f, by simpa using hcs, fun hne => ?_, ?_, by simpa using hl, hm'⟩
    · have hpos : 0 < len := by
        rcases Nat.eq_zero_or_pos len with h0 | h0
        · subst h0; exact absurd rfl hne
        · exact h0
      obtain ⟨_, _, h0, _⟩ := hf 0 hpos
      rw [show a.add (0 * 3) = a by unfold Addr.add; simp] at h0
      obtain ⟨ha, hb⟩ := cell_addr h0
      refine ⟨a.block, a.off, by rw [← ha], hb, fun i hi => ?_⟩
      have hi' : i < len := by simpa using hi
      obtain ⟨UA, UC, g0, g1, g2, g3, g4, _⟩ := hf i hi'
      rw [ha, add_addr] at g0 g1 g2
      rw [← Nat.add_assoc] at g1 g2
      refine ⟨UA, UC, ?_, ?_, ?_, ?_, ?_⟩
      · simpa using g0
      · simpa using g1
      · simpa using g2
      · simpa using g3
      · simpa using g4
    · intro p hp
      rw [List.mem_map] at hp
      obtain ⟨i, hi, rfl⟩ := hp
      obtain ⟨_, _, _, _, _, _, _, g⟩ := hf i (by simpa using hi)
      exact g
end
end Go.Proofs.Ytgaffbdcpkbdhaa
end

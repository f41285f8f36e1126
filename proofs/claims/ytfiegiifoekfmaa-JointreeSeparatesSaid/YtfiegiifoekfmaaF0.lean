/- Opening the arguments of the laws: slices of integers and graphs, as the walks want them. -/
import Derived.Test.YtfiegiifoekfmaaRows
import Derived.Test.YtfiegiifoekfmaaBase
import Derived.Test.YtfiegiifoekfmaaJJoin
import Derived.ProofKit
import Derived.OpenShut
import Derived.ShutString
import Derived.ChangeOld
import Derived.Lib.SmallJoins
namespace Go.Proofs.Ytfiegiifoekfmaa
open Go.ChangeShapes Go.WideShapes Go.ChangeAt Go.RowKit Go.Joins

theorem cell_addr {w : World} {a : Addr} {v : Value} (h : w.cell? a = some v) : a = ⟨a.block, a.off, none⟩ ∧ a.block < w.heap.size := by
  obtain ⟨b, o, s⟩ := a
  unfold World.cell? at h
  simp only at h
  cases hh : w.heap[b]? with
  | none => rw [hh] at h; cases h
  | some ob =>
    have hlt : b < w.heap.size := by
      rcases Nat.lt_or_ge b w.heap.size with h1 | h1
      · exact h1
      · rw [Array.getElem?_eq_none h1] at hh; cases hh
    refine ⟨?_, hlt⟩
    rw [hh] at h
    cases ob with
    | cells c _ _ =>
      cases s with
      | none => rfl
      | some s => simp at h
    | _ => simp at h

theorem add_addr (b o i : Nat) : (Addr.add ⟨b, o, none⟩ i) = ⟨b, o + i, none⟩ := by
  unfold Addr.add
  split
  · next h => subst h; rfl
  · rfl

theorem sl_open {k : IntKind} {w : World} {a : Addr} {zs : List Int} {len : Nat} (hl : len ≤ zs.length) (hcell : ∀ i, i < zs.length → w.cell? (a.add i) = some (.int k (zs.getD i 0))) :
    SlI k w.heap.size w (some a) (zs.take len) := by
  intro hne
  have hpos : 0 < (zs.take len).length := by
    rcases Nat.eq_zero_or_pos (zs.take len).length with h | h
    · exact absurd (by rw [List.eq_nil_of_length_eq_zero h]; rfl) hne
    · exact h
  rw [List.length_take] at hpos
  have h0 := hcell 0 (by omega)
  rw [show a.add 0 = a by unfold Addr.add; simp] at h0
  obtain ⟨ha, hb⟩ := cell_addr h0
  refine ⟨a.block, a.off, by rw [← ha], hb, fun i u hu => ?_⟩
  rw [List.getElem?_map] at hu
  cases hz : (zs.take len)[i]? with
  | none => rw [hz] at hu; simp at hu
  | some z =>
    rw [hz] at hu
    simp at hu
    subst hu
    obtain ⟨hi, hzi⟩ := List.getElem?_eq_some_iff.1 hz
    rw [List.length_take] at hi
    have h1 := hcell i (by omega)
    rw [ha, add_addr] at h1
    rw [h1]
    simp at hzi
    simp [show i < zs.length by omega, hzi]

section
variable {H : Type} {enc : TypeId × Value → H} {W : World} {n : Nat} {x : DataW H × List MemPlace}

/-- A slice of ints that reads. -/
theorem open_i64s {cs : List Value} (h : DataW.trod enc Try.prog W 0 (fun _ => true) true n 25 cs = some x) :
    ∃ A c zs, cs = [.slice A zs.length c] ∧ SlI .i64 W.heap.size W A zs ∧ zs.length ≤ 9223372036854775807 ∧ ∀ z ∈ zs, -9223372036854775808 ≤ z ∧ z ≤ 9223372036854775807 := by
  rcases open_ints Try.underlying25 Try.underlying3 (by kernel_rfl) h with ⟨hcs, _⟩ | ⟨a, len, cap, zs, hcs, _, hl, hm, hz, _, hcell, hwz⟩
  · exact ⟨none, 0, [], hcs, Sl.nil, by simp, by simp⟩
  · simp at hz
    have hlz : len ≤ zs.length := by omega
    refine ⟨some a, cap, zs.take len, ?_, sl_open hlz hcell, ?_, fun z hz2 => ?_⟩
    · rw [List.length_take, Nat.min_eq_left hlz]; exact hcs
    · rw [List.length_take]; unfold maxLen at hm; omega
    · have := hwz z (List.mem_of_mem_take hz2)
      have hb := bounds_i64 this
      omega

/-- A slice of uint32s that reads. -/
theorem open_u32s {cs : List Value} (h : DataW.trod enc Try.prog W 0 (fun _ => true) true n 22 cs = some x) :
    ∃ A c es, cs = [.slice A es.length c] ∧ SlN .u32 W.heap.size W A es ∧ es.length ≤ 9223372036854775807 ∧ JT.U32 es := by
  rcases open_ints Try.underlying22 Try.underlying44 (by kernel_rfl) h with ⟨hcs, _⟩ | ⟨a, len, cap, zs, hcs, _, hl, hm, hz, _, hcell, hwz⟩
  · exact ⟨none, 0, [], hcs, Sl.nil, by simp, by simp [JT.U32]⟩
  · simp at hz
    have hlz : len ≤ zs.length := by omega
    have hpos : ∀ z ∈ zs.take len, 0 ≤ z ∧ z ≤ 4294967295 := fun z hz2 => by
      have := bounds_u32 (hwz z (List.mem_of_mem_take hz2))
      omega
    refine ⟨some a, cap, (zs.take len).map Int.toNat, ?_, ?_, ?_, fun e he => ?_⟩
    · rw [List.length_map, List.length_take, Nat.min_eq_left hlz]; exact hcs
    · have hs := sl_open hlz hcell
      have : ((zs.take len).map Int.toNat).map (fun z : Nat => Value.int .u32 (z : Int)) = (zs.take len).map (Value.int .u32) := by
        rw [List.map_map]
        apply List.map_congr_left
        intro z hz2
        have := hpos z hz2
        show Value.int .u32 ((z.toNat : Nat) : Int) = _
        rw [Int.toNat_of_nonneg this.1]
      unfold SlN
      rw [this]
      exact hs
    · rw [List.length_map, List.length_take]; unfold maxLen at hm; omega
    · rw [List.mem_map] at he
      obtain ⟨z, hz2, rfl⟩ := he
      have := hpos z hz2
      omega

theorem graphCells : Try.prog.cellsOf 24 = 2 := by kernel_rfl

/-- A graph that reads. -/
theorem open_graph {r : Reach} {b0 : Nat} {v : Value} {d : DataW H} {p : List MemPlace} (hv : Value.okWide Try.prog W r b0 24 v) (h : DataW.Trod enc Try.prog W 0 (fun _ => true) true 24 v d p) :
    ∃ N A c es, v = .agg #[.int .i64 N, .slice A es.length c] ∧ SlN .u32 W.heap.size W A es ∧ es.length ≤ 9223372036854775807 ∧ JT.U32 es ∧ -9223372036854775808 ≤ N ∧ N ≤ 9223372036854775807 := by
  obtain ⟨c0, c1, y0, y1, n, rfl, rfl, rfl, hy0, hy1⟩ := open_agg2 Try.underlying24 (by kernel_rfl) graphCells hv h
  obtain ⟨N, e0, _, wN⟩ := DataW.trod_int Try.underlying3 hy0
  obtain ⟨A, c, es, e1, hs, hl, hu⟩ := open_u32s hy1
  simp at e0 e1
  subst e0 e1
  have := bounds_i64 wN
  exact ⟨N, A, c, es, rfl, hs, hl, hu, by omega, by omega⟩
end

end Go.Proofs.Ytfiegiifoekfmaa

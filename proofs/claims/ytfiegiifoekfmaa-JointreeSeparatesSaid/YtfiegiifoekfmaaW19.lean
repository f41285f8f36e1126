/- slices.Sort at uint32 of a row of the call's own, at most 12 numbers: the same slice owns the sorted row (some lines turned from the kit's Derived/Sort/OwnSortedInts.lean). -/
import Derived.Test.YtfiegiifoekfmaaW17
import Derived.Test.YtfiegiifoekfmaaJSort
namespace Go.Proofs.Ytfiegiifoekfmaa
open Go.RowKit Go.Sort

theorem putCells_take (cur : Array Value) (ts : List Int) (h : ts.length ≤ cur.size) : (putCells (Value.int .u32) 0 ts.toArray cur).toList.take ts.length = ts.map (Value.int .u32) := by
  apply List.ext_getElem?
  intro j
  by_cases hj : j < ts.length
  · rw [List.getElem?_take_of_lt hj, Array.getElem?_toList]
    simp [putCells, hj, show j < cur.size by omega]
  · rw [List.getElem?_take_eq_none (by omega), List.getElem?_eq_none (by simp; omega)]

/-- The sorted row. -/
def sortedI (zs : List Int) : List Int := (Sort.insertionSort ltInt zs.toArray 0 zs.length).toList
theorem sortedI_perm {l l' : List Int} (h : l.Perm l') : sortedI l = sortedI l' := by
  have := JT.insSort_perm (d := l.toArray) (e := l'.toArray) h
  simp at this
  unfold sortedI
  rw [this]
theorem sortedI_length (zs : List Int) : (sortedI zs).length = zs.length := by
  have h := JT.insSort_list zs.toArray
  simp at h
  unfold sortedI
  rw [h, List.length_mergeSort]

theorem sort_own_u32 (base : Nat) (v : Value) (n : Nat) (zs : List Int) (w : World) (hown : w.ownsRow base 44 1 v n (zs.map (Value.int .u32))) (h12 : n ≤ 12) :
    Calls Try.prog 28 #[v] w fun e w' => e = .returned (.tuple #[]) ∧ w'.ownsRow base 44 1 v n ((sortedI zs).map (Value.int .u32)) ∧ w.grownBy w' v.ownBlock := by
  have hl : zs.length = n := by have := hown.1; simpa using this
  rcases hown.2 with ⟨rfl, h0⟩ | ⟨g, cap, cur, rfl, hg, hb, hn, hcap, hsz, ht⟩
  · refine (sort_nil_u32 none 0 w).mono ?_
    rintro e w' ⟨rfl, rfl⟩
    have hz : zs = [] := List.eq_nil_of_length_eq_zero (by omega)
    subst hz
    subst h0
    have hs : sortedI [] = [] := List.eq_nil_of_length_eq_zero (sortedI_length [])
    rw [hs]
    exact ⟨rfl, own_nil _ _ _ _, ⟨rfl, rfl, rfl, Nat.le_refl _, fun _ _ _ => rfl⟩⟩
  · have hH : Holds (Value.int .u32) w g 0 zs.toArray := by
      intro j hj
      have hj' : j < zs.length := by simpa using hj
      refine ⟨?_, by simp [World.frozen?, hb]⟩
      rw [Nat.mul_one, ← hl] at ht
      have h1 : (cur.toList.take zs.length)[j]? = (zs.map (Value.int .u32))[j]? := by rw [ht]
      rw [List.getElem?_take_of_lt hj'] at h1
      simp only [World.cell?, hb, Nat.zero_add]
      simp only [Option.isSome_none, Bool.false_eq_true, if_false]
      rw [← Array.getElem?_toList, h1]
      simp [hj']
    have hc := sort_small_u32 g 0 cap zs.toArray w hH (by simp; omega)
    simp only [List.size_toArray] at hc
    rw [hl] at hc
    refine hc.mono ?_
    rintro e w' ⟨rfl, m, rfl⟩
    have hts : (Sort.insertionSort ltInt zs.toArray 0 n) = (sortedI zs).toArray := by unfold sortedI; rw [hl]
    rw [hts]
    have hlen := sortedI_length zs
    refine ⟨rfl, ⟨by simp [hlen, hl], .inr ⟨g, cap, putCells (Value.int .u32) 0 (sortedI zs).toArray cur, rfl, hg, ?_, hn, hcap, ?_, ?_⟩⟩, ⟨rfl, rfl, rfl, by simp [Sort.ahead], fun k hk hne => ?_⟩⟩
    · simp [putRow, mapBlock, Sort.ahead, Array.getElem?_modify, hb, onCells]
    · simp [putCells, hsz]
    · rw [Nat.mul_one, ← hl, ← hlen]
      exact putCells_take cur _ (by omega)
    · have : g ≠ k := fun e => hne (by rw [← e]; rfl)
      simp [putRow, mapBlock, Sort.ahead, Array.getElem?_modify, this]

end Go.Proofs.Ytfiegiifoekfmaa

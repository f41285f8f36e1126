/- A list of rows' headers that is sorted and compacted in place. -/
import Derived.Test.YtiopkooigeaneaaV8
import Derived.Test.YtiopkooigeaneaaShelfSort
import Derived.Lib.SlKept
namespace Go.Proofs.Ytiopkooigeaneaa
open Go.RowKit Go.Sort Go.Shelf

/-- A row's header, and the row that it reads in world w, none of it in block g. -/
structure El (w : World) (g : Nat) where
  val : Value
  row : RL.R
  ok : ∃ A' C', val = .slice A' row.length C' ∧ row.length ≤ C' ∧ C' ≤ 9223372036854775807 ∧ SlR w.heap.size w A' row ∧ ROk row ∧ (row ≠ [] → ∀ ad, A' = some ad → ad.block ≠ g)
instance {w : World} {g : Nat} : Inhabited (El w g) := ⟨⟨.slice none 0 0, [], none, 0, rfl, Nat.le_refl _, by omega, SlR.nil, ⟨by simp, fun v hv => by simp at hv⟩, fun h => absurd rfl h⟩⟩
def El.enc {w : World} {g : Nat} (e : El w g) : Value := e.val
theorem El.one {w : World} {g : Nat} : OneCell (El.enc (w := w) (g := g)) := fun e => by
  obtain ⟨v, r, A', C', rfl, _⟩ := e
  rfl

/-- In world wr block g holds the headers d (of rows of world w0); of the older blocks g alone has turned. -/
structure HB (w0 wr : World) (g off : Nat) (d : Array (El w0 g)) : Prop where
  grown : w0.grownBy wr (some g)
  holds : Holds El.enc wr g off d
  lt : g < w0.heap.size

section
variable {w0 wr wr' : World} {g off : Nat} {d : Array (El w0 g)}
theorem El.row_at (e : El w0 g) (hg : w0.grownBy wr (some g)) : ∃ A' C', e.enc = .slice A' e.row.length C' ∧ e.row.length ≤ C' ∧ C' ≤ 9223372036854775807 ∧ SlR wr.heap.size wr A' e.row ∧ ROk e.row ∧ (e.row ≠ [] → ∀ ad, A' = some ad → ad.block ≠ g) := by
  obtain ⟨v, r, A', C', rfl, h2, h3, h4, h5, h6⟩ := e
  exact ⟨A', C', rfl, h2, h3, h4.grown hg (fun hy ad e e2 => h6 hy ad e (by injection e2 with e2; exact e2.symm)), h5, h6⟩
theorem HB.lt' (h : HB w0 wr g off d) : g < wr.heap.size := Nat.lt_of_lt_of_le h.lt h.grown.size
theorem HB.ext (h : HB w0 wr g off d) (he : Ext wr wr') : HB w0 wr' g off d := by
  have hb := he.below
  refine ⟨⟨hb.os.trans h.grown.os, hb.tape.trans h.grown.tape, hb.output.trans h.grown.output, Nat.le_trans h.grown.size hb.size, fun k hk hne => (hb.block k (Nat.lt_of_lt_of_le hk h.grown.size)).trans (h.grown.block k hk hne)⟩, fun j hj => ?_, h.lt⟩
  exact ⟨(he.cell h.lt').trans (h.holds j hj).1, (he.frozen h.lt').trans (h.holds j hj).2⟩
theorem HB.sortW (h : HB w0 wr g off d) (m : Nat) (dk : Array (El w0 g)) (os : Array Obj) (hs : dk.size = d.size) : HB w0 (sortWorld El.enc wr g off m dk os) g off dk := by
  have hg : wr.grownBy (sortWorld El.enc wr g off m dk os) (some g) := by
    refine ⟨rfl, rfl, rfl, by simp [sortWorld], fun k hk hne => ?_⟩
    unfold sortWorld
    rw [heap_grow_old _ _ (by simpa using hk)]
    have : g ≠ k := fun e => hne (by rw [e])
    simp [putRow, mapBlock, Sort.ahead, Array.getElem?_modify, this]
  refine ⟨⟨hg.os.trans h.grown.os, hg.tape.trans h.grown.tape, hg.output.trans h.grown.output, Nat.le_trans h.grown.size hg.size, fun k hk hne => (hg.block k (Nat.lt_of_lt_of_le hk h.grown.size) hne).trans (h.grown.block k hk hne)⟩, ?_, h.lt⟩
  have h1 := holds_putRow El.enc (Sort.ahead wr m) g off d dk (holds_ahead El.enc wr m g off d h.holds) hs
  intro j hj
  unfold sortWorld
  rw [cell?_grow _ _ _ (by simpa using h.lt'), frozen?_grow _ _ _ (by simpa using h.lt')]
  exact h1 j hj
theorem HB.set (h : HB w0 wr g off d) {i : Nat} (hi : i < d.size) (e : El w0 g) : HB w0 (wr.setCell ⟨g, off + i, none⟩ e.enc) g off (d.setIfInBounds i e) := by
  refine ⟨⟨h.grown.os, h.grown.tape, h.grown.output, by simpa using h.grown.size, fun k hk hne => ?_⟩, fun j hj => ?_, h.lt⟩
  · rw [Below.heap_setCell _ _ _ _ (fun e2 => hne (by rw [e2]))]
    exact h.grown.block k hk hne
  · simp only [Array.size_setIfInBounds] at hj
    refine ⟨?_, ?_⟩
    · by_cases e2 : j = i
      · subst e2
        rw [World.cell?_setCell_same _ _ _ (h.holds j hj).1, getElem!_set_same d j e hj]
      · rw [World.cell?_setCell_other _ _ _ _ (by intro e3; simp only [Addr.mk.injEq] at e3; omega), getElem!_set_other d i j e e2]
        exact (h.holds j hj).1
    · rw [World.frozen?_setCell]
      exact (h.holds j hj).2
theorem El.swo : SWO (ltOf fun a b : El w0 g => RL.cmpR a.row b.row) where
  irrefl x := by simp [ltOf, RL.tot_cmpR.self]
  trans x y z := by simp only [ltOf, decide_eq_true_eq]; exact RL.tot_cmpR.tr _ _ _
  ntrans x y z := by
    simp only [ltOf, decide_eq_false_iff_not, Int.not_lt]
    intro h1 h2
    have a1 : RL.cmpR y.row x.row ≤ 0 := by rw [RL.tot_cmpR.sw x.row y.row]; omega
    have a2 : RL.cmpR z.row y.row ≤ 0 := by rw [RL.tot_cmpR.sw y.row z.row]; omega
    have := RL.tot_cmpR.le_trans a2 a1
    rw [RL.tot_cmpR.sw z.row x.row]
    omega
theorem HB.cmp (h : HB w0 wr g off d) : CmpLays1 Try.prog 72 #[] El.enc (fun a b : El w0 g => RL.cmpR a.row b.row) g off d.size wr := by
  intro m os dk hs x y
  have hW := h.sortW m dk os hs
  obtain ⟨A1, C1, e1, _, _, s1, o1, _⟩ := x.row_at hW.grown
  obtain ⟨A2, C2, e2, _, _, s2, o2, _⟩ := y.row_at hW.grown
  have hc := rwCompare_any A1 A2 C1 C2 x.row y.row (sortWorld El.enc wr g off m dk os) s1 s2 o1.1 o2.1
  rw [← e1, ← e2] at hc
  exact hc
end

/-- The rows are in ascending order, equals allowed. -/
def Asc (X : List RL.R) : Prop := X.Pairwise fun a b => RL.cmpR a b ≤ 0

theorem isSortedRows_any {w0 wr : World} {g off : Nat} {d : Array (El w0 g)} (cap : Nat) (h : HB w0 wr g off d) (hsz : d.size ≤ 1000000) :
    Calls Try.prog 79 #[.slice (some ⟨g, off, none⟩) d.size cap, .func (.func 72) #[] #[]] wr fun e w' => ∃ c, e = .returned (.bool c) ∧ (c = true → Asc (d.toList.map El.row)) ∧ HB w0 w' g off d := by
  have hc := Any.slices_IsSortedFunc lIsSorted El.enc El.one (fun a b : El w0 g => RL.cmpR a.row b.row) 72 #[] g off cap d wr (enters_of Try.func72 (by kernel_rfl) rfl) h.cmp h.holds h.lt' (by omega)
  refine Calls.mono hc fun e w' ⟨h1, n, os, h2⟩ => ⟨_, h1, fun hd => ?_, by rw [h2]; exact h.sortW n d os rfl⟩
  rw [Lib.downOK_iff] at hd
  have step : ∀ i, i + 1 < d.size → RL.cmpR (d[i]!).row (d[i + 1]!).row ≤ 0 := fun i hi => by
    have := hd i (by omega)
    simp only [ltOf, decide_eq_false_iff_not, Int.not_lt] at this
    rw [RL.tot_cmpR.sw (d[i + 1]!).row]
    omega
  have all : ∀ k i, i + k < d.size → RL.cmpR (d[i]!).row (d[i + k]!).row ≤ 0 := fun k => by
    induction k with
    | zero => intro i _; rw [Nat.add_zero, RL.tot_cmpR.self]; omega
    | succ k ih => intro i hi; exact RL.tot_cmpR.le_trans (ih i (by omega)) (step (i + k) (by omega))
  unfold Asc
  rw [List.pairwise_map, List.pairwise_iff_getElem]
  intro i j hi hj hij
  have := all (j - i) i (by simp at hj; omega)
  rw [show i + (j - i) = j by omega] at this
  simp only [Array.length_toList] at hi hj
  simpa [hi, hj] using this

theorem sortRows_any {w0 wr : World} {g off : Nat} {d : Array (El w0 g)} (cap : Nat) (h : HB w0 wr g off d) (hsz : d.size ≤ 1000000) :
    Calls Try.prog 80 #[.slice (some ⟨g, off, none⟩) d.size cap, .func (.func 72) #[] #[]] wr fun e w' => ∃ d' : Array (El w0 g), e = .returned (.tuple #[]) ∧ d'.size = d.size ∧ (d'.toList.map El.row).Perm (d.toList.map El.row) ∧ Asc (d'.toList.map El.row) ∧ HB w0 w' g off d' := by
  have hc := Any.slices_SortFunc lSortRows El.enc El.one (fun a b : El w0 g => RL.cmpR a.row b.row) El.swo 72 #[] g off cap d wr (enters_of Try.func72 (by kernel_rfl) rfl) h.cmp h.holds h.lt' (by omega)
  refine Calls.mono hc fun e w' ⟨h1, d', n, os, hp, hs, hw⟩ => ⟨d', h1, hp.1, ?_, ?_, by rw [hw]; exact h.sortW n d' os hp.1⟩
  · have := hp.2.2
    rw [← hp.1] at this
    simp only [Array.extract_size] at this
    rw [hp.1] at this
    simp only [Array.extract_size] at this
    exact this.map _
  · unfold Asc
    rw [List.pairwise_map, List.pairwise_iff_getElem]
    intro i j hi hj hij
    simp only [Array.length_toList] at hi hj
    have := hs i j (Nat.zero_le _) hij (by rw [← hp.1]; exact hj)
    simp only [ltOf, decide_eq_false_iff_not, Int.not_lt] at this
    have h2 : 0 ≤ RL.cmpR d'.toList[j].row d'.toList[i].row := by simpa [hi, hj] using this
    rw [RL.tot_cmpR.sw d'.toList[j].row d'.toList[i].row]
    omega

end Go.Proofs.Ytiopkooigeaneaa

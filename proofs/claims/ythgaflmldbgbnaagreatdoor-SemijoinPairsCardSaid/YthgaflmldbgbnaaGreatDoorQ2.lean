/- Parts of the proof, merged: ShelfSort, E3, V9, RSet, V10, V11, E4, V12, E5, V23, V26, V13. -/
import Derived.Shelf.SlSortCmp.Whole1
import Derived.Test.YthgaflmldbgbnaaGreatDoorProg
import Derived.Test.YthgaflmldbgbnaaGreatDoorQ1
import Derived.Lib.SlKept
import Derived.Outline
import Derived.IntWalk
import Derived.Maps.AppendAt
import Derived.Lib.AppendZerosOnto

set_option maxRecDepth 100000
namespace Go.Proofs.YthgaflmldbgbnaaGreatDoor
end Go.Proofs.YthgaflmldbgbnaaGreatDoor
section
namespace Go.Proofs
open Go.Shelf
def YthgaflmldbgbnaaGreatDoor.lSortRows_ren : Go.Shelf.Ren := ⟨fun | 6 => 72 | 15 => 90 | 14 => 89 | 28 => 103 | 29 => 104 | 20 => 95 | 21 => 96 | 22 => 97 | 23 => 98 | 24 => 99 | 25 => 100 | 26 => 101 | 27 => 102 | 46 => 109 | 47 => 110 | 48 => 111 | 49 => 112 | 50 => 113 | 57 => 118 | n => n, fun | 22 => 32 | 24 => 69 | 25 => 134 | 3 => 3 | 39 => 157 | 0 => 0 | 53 => 57 | 55 => 161 | 4 => 4 | 46 => 166 | 45 => 165 | 50 => 80 | 5 => 5 | 9 => 9 | 66 => 175 | 70 => 179 | 76 => 184 | 77 => 185 | n => n, fun | n => n⟩
theorem YthgaflmldbgbnaaGreatDoor.lSortRows : Go.Proofs.SlLaysF.n6 Tryz.prog YthgaflmldbgbnaaGreatDoor.lSortRows_ren := {
  mixed := by kernel_rfl
  f6 := ⟨Tryz.f72.name, by decide, Tryz.func72.trans (congrArg some (by kernel_rfl))⟩
  f14 := ⟨Tryz.f89.name, by decide, Tryz.func89.trans (congrArg some (by kernel_rfl))⟩
  f15 := Tryz.func90.trans (congrArg some (by kernel_rfl))
  f20 := ⟨Tryz.f95.name, by decide, Tryz.func95.trans (congrArg some (by kernel_rfl))⟩
  f21 := ⟨Tryz.f96.name, by decide, Tryz.func96.trans (congrArg some (by kernel_rfl))⟩
  f22 := ⟨Tryz.f97.name, by decide, Tryz.func97.trans (congrArg some (by kernel_rfl))⟩
  f23 := ⟨Tryz.f98.name, by decide, Tryz.func98.trans (congrArg some (by kernel_rfl))⟩
  f24 := ⟨Tryz.f99.name, by decide, Tryz.func99.trans (congrArg some (by kernel_rfl))⟩
  f25 := ⟨Tryz.f100.name, by decide, Tryz.func100.trans (congrArg some (by kernel_rfl))⟩
  f26 := ⟨Tryz.f101.name, by decide, Tryz.func101.trans (congrArg some (by kernel_rfl))⟩
  f27 := ⟨Tryz.f102.name, by decide, Tryz.func102.trans (congrArg some (by kernel_rfl))⟩
  f28 := Tryz.func103.trans (congrArg some (by kernel_rfl))
  f29 := Tryz.func104.trans (congrArg some (by kernel_rfl))
  f46 := ⟨Tryz.f109.name, by decide, Tryz.func109.trans (congrArg some (by kernel_rfl))⟩
  f47 := Tryz.func110.trans (congrArg some (by kernel_rfl))
  f48 := Tryz.func111.trans (congrArg some (by kernel_rfl))
  f49 := ⟨Tryz.f112.name, by decide, Tryz.func112.trans (congrArg some (by kernel_rfl))⟩
  f50 := ⟨Tryz.f113.name, by decide, Tryz.func113.trans (congrArg some (by kernel_rfl))⟩
  f57 := ⟨Tryz.f118.name, by decide, Tryz.func118.trans (congrArg some (by kernel_rfl))⟩
  t0 := Tryz.underlying0
  a0 := Tryz.isAgg0
  z0 := Tryz.sizeOf0
  v0 := Tryz.zeroValue0
  t3 := Tryz.underlying3
  a3 := Tryz.isAgg3
  z3 := Tryz.sizeOf3
  v3 := Tryz.zeroValue3
  t4 := Tryz.underlying4
  a4 := Tryz.isAgg4
  z4 := Tryz.sizeOf4
  v4 := Tryz.zeroValue4
  t5 := Tryz.underlying5
  a5 := Tryz.isAgg5
  z5 := Tryz.sizeOf5
  v5 := Tryz.zeroValue5
  t9 := Tryz.underlying9
  a9 := Tryz.isAgg9
  z9 := Tryz.sizeOf9
  v9 := Tryz.zeroValue9
  t22 := Tryz.underlying32
  a22 := Tryz.isAgg32
  z22 := Tryz.sizeOf32
  v22 := Tryz.zeroValue32
  a24 := Tryz.isAgg69
  z24 := Tryz.sizeOf69
  t25 := Tryz.underlying134
  a25 := Tryz.isAgg134
  z25 := Tryz.sizeOf134
  v25 := Tryz.zeroValue134
  t39 := Tryz.underlying157
  a39 := Tryz.isAgg157
  z39 := Tryz.sizeOf157
  v39 := Tryz.zeroValue157
  t45 := Tryz.underlying165
  a45 := Tryz.isAgg165
  z45 := Tryz.sizeOf165
  v45 := Tryz.zeroValue165
  t46 := Tryz.underlying166
  a46 := Tryz.isAgg166
  z46 := Tryz.sizeOf166
  v46 := Tryz.zeroValue166
  t50 := Tryz.underlying80
  a50 := Tryz.isAgg80
  z50 := Tryz.sizeOf80
  v50 := Tryz.zeroValue80
  t53 := Tryz.underlying57
  a53 := Tryz.isAgg57
  z53 := Tryz.sizeOf57
  v53 := Tryz.zeroValue57
  t55 := Tryz.underlying161
  a55 := Tryz.isAgg161
  z55 := Tryz.sizeOf161
  v55 := Tryz.zeroValue161
  t66 := Tryz.underlying175
  a66 := Tryz.isAgg175
  z66 := Tryz.sizeOf175
  v66 := Tryz.zeroValue175
  t70 := Tryz.underlying179
  a70 := Tryz.isAgg179
  z70 := Tryz.sizeOf179
  v70 := Tryz.zeroValue179
  t76 := Tryz.underlying184
  a76 := Tryz.isAgg184
  z76 := Tryz.sizeOf184
  v76 := Tryz.zeroValue184
  t77 := Tryz.underlying185
  a77 := Tryz.isAgg185
  z77 := Tryz.sizeOf185
  v77 := Tryz.zeroValue185 }
end Go.Proofs
end
namespace Go.Proofs.YthgaflmldbgbnaaGreatDoor
section
open Go.RowKit Go.Sort Go.Shelf

structure El (w : World) (g : Nat) where
  val : Value
  row : RL.R
  ok : ∃ A' C', val = .slice A' row.length C' ∧ row.length ≤ C' ∧ C' ≤ 9223372036854775807 ∧ SlR w.heap.size w A' row ∧ ROk row ∧ (row ≠ [] → ∀ ad, A' = some ad → ad.block ≠ g)
instance {w : World} {g : Nat} : Inhabited (El w g) := ⟨⟨.slice none 0 0, [], none, 0, rfl, Nat.le_refl _, by omega, SlR.nil, ⟨by simp, fun v hv => by simp at hv⟩, fun h => absurd rfl h⟩⟩
def El.enc {w : World} {g : Nat} (e : El w g) : Value := e.val
theorem El.one {w : World} {g : Nat} : OneCell (El.enc (w := w) (g := g)) := fun e => by
  obtain ⟨v, r, A', C', rfl, _⟩ := e
  rfl

structure HB (w0 wr : World) (g off : Nat) (d : Array (El w0 g)) : Prop where
  grown : w0.grownBy wr (some g)
  holds : Holds El.enc wr g off d
  lt : g < w0.heap.size

section
variable {w0 wr wr' : World} {g off : Nat} {d : Array (El w0 g)}
theorem El.row_at (e : El w0 g) (hg : w0.grownBy wr (some g)) : ∃ A' C', e.enc = .slice A' e.row.length C' ∧ e.row.length ≤ C' ∧ C' ≤ 9223372036854775807 ∧ SlR wr.heap.size wr A' e.row ∧ ROk e.row ∧ (e.row ≠ [] → ∀ ad, A' = some ad → ad.block ≠ g) := by
  obtain ⟨v, r, A', C', rfl, h2, h3, h4, h5, h6⟩ := e
  exact ⟨A', C', rfl, h2, h3, h4.grown hg (fun hy ad e e2 => h6 hy ad e (by injection e2 with e2; exact e2.symm)), h5, h6⟩
theorem HB.lt' (h : HB w0 wr g off d) : g < wr.heap.size := Nat.lt_of_lt_of_le h.lt h.grown.size
theorem HB.ext (h : HB w0 wr g off d) (he : Ext wr wr') : HB w0 wr' g off d := by
  have hb := he.below
  refine ⟨⟨hb.os.trans h.grown.os, hb.tape.trans h.grown.tape, hb.output.trans h.grown.output, Nat.le_trans h.grown.size hb.size, fun k hk hne => (hb.block k (Nat.lt_of_lt_of_le hk h.grown.size)).trans (h.grown.block k hk hne)⟩, fun j hj => ?_, h.lt⟩
  exact ⟨(he.cell h.lt').trans (h.holds j hj).1, (he.frozen h.lt').trans (h.holds j hj).2⟩
theorem HB.sortW (h : HB w0 wr g off d) (m : Nat) (dk : Array (El w0 g)) (os : Array Obj) (hs : dk.size = d.size) : HB w0 (sortWorld El.enc wr g off m dk os) g off dk := by
  have hg : wr.grownBy (sortWorld El.enc wr g off m dk os) (some g) := by
    refine ⟨rfl, rfl, rfl, by simp [sortWorld], fun k hk hne => ?_⟩
    unfold sortWorld
    rw [heap_grow_old _ _ (by simpa using hk)]
    have : g ≠ k := fun e => hne (by rw [e])
    simp [putRow, mapBlock, Sort.ahead, Array.getElem?_modify, this]
  refine ⟨⟨hg.os.trans h.grown.os, hg.tape.trans h.grown.tape, hg.output.trans h.grown.output, Nat.le_trans h.grown.size hg.size, fun k hk hne => (hg.block k (Nat.lt_of_lt_of_le hk h.grown.size) hne).trans (h.grown.block k hk hne)⟩, ?_, h.lt⟩
  have h1 := holds_putRow El.enc (Sort.ahead wr m) g off d dk (holds_ahead El.enc wr m g off d h.holds) hs
  intro j hj
  unfold sortWorld
  rw [cell?_grow _ _ _ (by simpa using h.lt'), frozen?_grow _ _ _ (by simpa using h.lt')]
  exact h1 j hj
theorem HB.set (h : HB w0 wr g off d) {i : Nat} (hi : i < d.size) (e : El w0 g) : HB w0 (wr.setCell ⟨g, off + i, none⟩ e.enc) g off (d.setIfInBounds i e) := by
  refine ⟨⟨h.grown.os, h.grown.tape, h.grown.output, by simpa using h.grown.size, fun k hk hne => ?_⟩, fun j hj => ?_, h.lt⟩
  · rw [Below.heap_setCell _ _ _ _ (fun e2 => hne (by rw [e2]))]
    exact h.grown.block k hk hne
  · simp only [Array.size_setIfInBounds] at hj
    refine ⟨?_, ?_⟩
    · by_cases e2 : j = i
      · subst e2
        rw [World.cell?_setCell_same _ _ _ (h.holds j hj).1, getElem!_set_same d j e hj]
      · rw [World.cell?_setCell_other _ _ _ _ (by intro e3; simp only [Addr.mk.injEq] at e3; omega), getElem!_set_other d i j e e2]
        exact (h.holds j hj).1
    · rw [World.frozen?_setCell]
      exact (h.holds j hj).2
theorem El.swo : SWO (ltOf fun a b : El w0 g => RL.cmpR a.row b.row) where
  irrefl x := by simp [ltOf, RL.tot_cmpR.self]
  trans x y z := by simp only [ltOf, decide_eq_true_eq]; exact RL.tot_cmpR.tr _ _ _
  ntrans x y z := by
    simp only [ltOf, decide_eq_false_iff_not, Int.not_lt]
    intro h1 h2
    have a1 : RL.cmpR y.row x.row ≤ 0 := by rw [RL.tot_cmpR.sw x.row y.row]; omega
    have a2 : RL.cmpR z.row y.row ≤ 0 := by rw [RL.tot_cmpR.sw y.row z.row]; omega
    have := RL.tot_cmpR.le_trans a2 a1
    rw [RL.tot_cmpR.sw z.row x.row]
    omega
theorem HB.cmp (h : HB w0 wr g off d) : CmpLays1 Tryz.prog 71 #[] El.enc (fun a b : El w0 g => RL.cmpR a.row b.row) g off d.size wr := by
  intro m os dk hs x y
  have hW := h.sortW m dk os hs
  obtain ⟨A1, C1, e1, _, _, s1, o1, _⟩ := x.row_at hW.grown
  obtain ⟨A2, C2, e2, _, _, s2, o2, _⟩ := y.row_at hW.grown
  have hc := rwCompare_any A1 A2 C1 C2 x.row y.row (sortWorld El.enc wr g off m dk os) s1 s2 o1.1 o2.1
  rw [← e1, ← e2] at hc
  exact hc
end

def Asc (X : List RL.R) : Prop := X.Pairwise fun a b => RL.cmpR a b ≤ 0

theorem isSortedRows_any {w0 wr : World} {g off : Nat} {d : Array (El w0 g)} (cap : Nat) (h : HB w0 wr g off d) (hsz : d.size ≤ 1000000) :
    Calls Tryz.prog 70 #[.slice (some ⟨g, off, none⟩) d.size cap, .func (.func 71) #[] #[]] wr fun e w' => ∃ c, e = .returned (.bool c) ∧ (c = true → Asc (d.toList.map El.row)) ∧ HB w0 w' g off d := by
  have hc := Any.slices_IsSortedFunc lIsSorted El.enc El.one (fun a b : El w0 g => RL.cmpR a.row b.row) 71 #[] g off cap d wr (enters_of Tryz.func71 (by kernel_rfl) rfl) h.cmp h.holds h.lt' (by omega)
  refine Calls.mono hc fun e w' ⟨h1, n, os, h2⟩ => ⟨_, h1, fun hd => ?_, by rw [h2]; exact h.sortW n d os rfl⟩
  rw [Lib.downOK_iff] at hd
  have step : ∀ i, i + 1 < d.size → RL.cmpR (d[i]!).row (d[i + 1]!).row ≤ 0 := fun i hi => by
    have := hd i (by omega)
    simp only [ltOf, decide_eq_false_iff_not, Int.not_lt] at this
    rw [RL.tot_cmpR.sw (d[i + 1]!).row]
    omega
  have all : ∀ k i, i + k < d.size → RL.cmpR (d[i]!).row (d[i + k]!).row ≤ 0 := fun k => by
    induction k with
    | zero => intro i _; rw [Nat.add_zero, RL.tot_cmpR.self]; omega
    | succ k ih => intro i hi; exact RL.tot_cmpR.le_trans (ih i (by omega)) (step (i + k) (by omega))
  unfold Asc
  rw [List.pairwise_map, List.pairwise_iff_getElem]
  intro i j hi hj hij
  have := all (j - i) i (by simp at hj; omega)
  rw [show i + (j - i) = j by omega] at this
  simp only [Array.length_toList] at hi hj
  simpa [hi, hj] using this

theorem sortRows_any {w0 wr : World} {g off : Nat} {d : Array (El w0 g)} (cap : Nat) (h : HB w0 wr g off d) (hsz : d.size ≤ 1000000) :
    Calls Tryz.prog 72 #[.slice (some ⟨g, off, none⟩) d.size cap, .func (.func 71) #[] #[]] wr fun e w' => ∃ d' : Array (El w0 g), e = .returned (.tuple #[]) ∧ d'.size = d.size ∧ (d'.toList.map El.row).Perm (d.toList.map El.row) ∧ Asc (d'.toList.map El.row) ∧ HB w0 w' g off d' := by
  have hc := Any.slices_SortFunc lSortRows El.enc El.one (fun a b : El w0 g => RL.cmpR a.row b.row) El.swo 71 #[] g off cap d wr (enters_of Tryz.func71 (by kernel_rfl) rfl) h.cmp h.holds h.lt' (by omega)
  refine Calls.mono hc fun e w' ⟨h1, d', n, os, hp, hs, hw⟩ => ⟨d', h1, hp.1, ?_, ?_, by rw [hw]; exact h.sortW n d' os hp.1⟩
  · have := hp.2.2
    rw [← hp.1] at this
    simp only [Array.extract_size] at this
    rw [hp.1] at this
    simp only [Array.extract_size] at this
    exact this.map _
  · unfold Asc
    rw [List.pairwise_map, List.pairwise_iff_getElem]
    intro i j hi hj hij
    simp only [Array.length_toList] at hi hj
    have := hs i j (Nat.zero_le _) hij (by rw [← hp.1]; exact hj)
    simp only [ltOf, decide_eq_false_iff_not, Int.not_lt] at this
    have h2 : 0 ≤ RL.cmpR d'.toList[j].row d'.toList[i].row := by simpa [hi, hj] using this
    rw [RL.tot_cmpR.sw d'.toList[j].row d'.toList[i].row]
    omega
end
section
open Go.RowKit Go.Sort Go.Shelf Go.Lib

def kpR {w0 : World} {g : Nat} (d : Array (El w0 g)) (j : Nat) : Bool := decide (j = 0) || !decide ((d[j]!).row = (d[j - 1]!).row)

theorem eqEl_any {w0 wr : World} {g : Nat} (x y : El w0 g) (hg : w0.grownBy wr (some g)) : Calls Tryz.prog 74 #[x.enc, y.enc] wr fun e w' => e = .returned (.bool (decide (x.row = y.row))) ∧ Ext wr w' := by
  obtain ⟨A1, C1, e1, _, _, s1, o1, _⟩ := x.row_at hg
  obtain ⟨A2, C2, e2, _, _, s2, o2, _⟩ := y.row_at hg
  have hc := rwEqual_any A1 A2 C1 C2 x.row y.row wr s1 s2 o1.1 o2.1
  rw [← e1, ← e2] at hc
  exact hc

theorem setCells_heap (b : Nat) : ∀ (vs : List Value) (o : Nat) (w : World) (k : Nat), k ≠ b → (w.setCells b o vs).heap[k]? = w.heap[k]?
  | [], _, _, _, _ => rfl
  | v :: vs, o, w, k, h => by
    unfold World.setCells
    rw [setCells_heap b vs (o + 1) _ k h, Below.heap_setCell _ _ _ _ h]
theorem setCells_rest (b : Nat) : ∀ (vs : List Value) (o : Nat) (w : World), (w.setCells b o vs).os = w.os ∧ (w.setCells b o vs).tape = w.tape ∧ (w.setCells b o vs).output = w.output ∧ (w.setCells b o vs).heap.size = w.heap.size
  | [], _, _ => ⟨rfl, rfl, rfl, rfl⟩
  | v :: vs, o, w => by
    unfold World.setCells
    obtain ⟨h1, h2, h3, h4⟩ := setCells_rest b vs (o + 1) (w.setCell ⟨b, o, none⟩ v)
    exact ⟨h1, h2, h3, by rw [h4]; simp⟩
theorem HB.cleared {w0 wr : World} {g off kk : Nat} {d dk : Array (El w0 g)} (h : HB w0 wr g off dk) (hI : KeptInv (kpR d) d d.size kk dk) (vs : List Value) : HB w0 (wr.setCells g (off + kk) vs) g off (keptUpTo (kpR d) d d.size).toArray := by
  obtain ⟨e1, e2, e3, e4⟩ := setCells_rest g vs (off + kk) wr
  refine ⟨⟨e1.trans h.grown.os, e2.trans h.grown.tape, e3.trans h.grown.output, by rw [e4]; exact h.grown.size, fun k hk hne => ?_⟩, fun j hj => ?_, h.lt⟩
  · rw [setCells_heap _ _ _ _ _ (fun e => hne (by rw [e]))]
    exact h.grown.block k hk hne
  · simp only [List.size_toArray] at hj
    have hjk : j < kk := by rw [hI.len] at hj; exact hj
    have hjd : j < dk.size := by have := hI.size; have := hI.lt; omega
    obtain ⟨c1, c2⟩ := h.holds j hjd
    have hl := hI.low j hjk
    rw [World.cell?_setCells_out _ _ _ _ _ (fun _ _ => .inl (by simp only; omega)), World.frozen?_setCells]
    refine ⟨?_, c2⟩
    rw [c1]
    have : (keptUpTo (kpR d) d d.size).toArray[j]! = dk[j]! := by
      rw [getElem!_pos _ _ (by simpa using hj)]
      rw [List.getElem?_eq_getElem hj] at hl
      simpa using hl
    rw [this]

set_option maxHeartbeats 2000000 in
theorem compactRows_any {w0 w : World} {g off : Nat} {d : Array (El w0 g)} (cap : Nat) (h : HB w0 w g off d) (hsz : d.size ≤ 1000000) (h2 : 2 ≤ d.size) (hcap : d.size ≤ cap) (hcm : cap ≤ 9223372036854775807) :
    Calls Tryz.prog 73 #[.slice (some ⟨g, off, none⟩) d.size cap, .func (.func 74) #[] #[]] w fun e w' => ∃ l : List (El w0 g), e = .returned (.slice (some ⟨g, off, none⟩) l.length cap) ∧ l = keptUpTo (kpR d) d d.size ∧ HB w0 w' g off l.toArray := by
  have H := Lib.hid h
  clear h
  have eg : ∀ args w, (callFunc 74 args).run Tryz.prog w = .ok (.enter 74 args) w := enters_of Tryz.func74 (by kernel_rfl) rfl
  have hn2 : ¬ (d.size : Int) < 2 := by omega
  go_enter Tryz.func73, Tryz.ntmps73
  go_wp2
  go_loopw [5] (fun i wr => ∃ k : Nat, 1 ≤ k ∧ k ≤ d.size ∧ i = .int .i64 k ∧ (∀ j, j < k → kpR d j = true) ∧ HB w0 wr g off d) (fun i _ => d.size - (intOf i).toNat)
  case atStart => exact ⟨1, by omega, by omega, rfl, fun j hj => by simp [kpR]; omega, H.out⟩
  case round =>
    obtain ⟨k, hk1, hk2, rfl, hall, hH⟩ := hrel
    have HA := Lib.hid hall
    have HH := Lib.hid hH
    clear hall H
    by_cases hlt : k < d.size
    · have c1 := (hH.holds k hlt).1
      have c2 := (hH.holds (k - 1) (by omega)).1
      have HK : Hid (kpR d k = !decide ((d[k]!).row = (d[k - 1]!).row)) := by show _ = _; unfold kpR; simp; omega
      have HC := Lib.hid (fun W (hg : w0.grownBy W (some g)) => eqEl_any d[k]! d[k - 1]! hg)
      clear hH
      generalize d[k]! = x at *
      generalize d[k - 1]! = y at *
      generalize hx : x.enc = xv at *
      generalize hy : y.enc = yv at *
      have e1 : IntKind.i64.wrap ((k : Int) - 1) = ((k - 1 : Nat) : Int) := by rw [IntWalk.i64_in _ (by omega)]; omega
      have hk11 : k - 1 < d.size := by omega
      go_wp2
      go_still_tail 10, (by kernel_rfl)
      go_wp2_with fail
      subst hx hy
      refine (HC.out _ (HH.out.ext (Ext.refl _).drew).grown).mono ?_
      rintro e w2 ⟨rfl, hx2⟩
      have HH2 := Lib.hid ((HH.out.ext ((Ext.refl _).drew)).ext hx2)
      clear HC hx2 HH c1 c2 e1
      by_cases hq : x.row = y.row
      rotate_left
      · have hd : decide (x.row = y.row) = false := by simpa using hq
        have HK2 : Hid (kpR d k = true) := by show _ = _; rw [HK.out, hd]; rfl
        rw [hd]
        clear hd hq HK
        go_wp2
        go_roundw
        case rel =>
          refine ⟨k + 1, by omega, by omega, by go_num, fun j hj => ?_, HH2.out⟩
          by_cases e : j = k
          · subst e; exact HK2.out
          · exact HA.out j (by omega)
        case measure => simp [intOf]; omega
      have hd : decide (x.row = y.row) = true := by simpa using hq
      have HK2 : Hid (kpR d k = false) := by show _ = _; rw [HK.out, hd]; rfl
      rw [hd]
      clear hd hq HK
      have hkc : k ≤ cap := by omega
      have hkc2 : k < cap := by omega
      obtain ⟨wo, rfl⟩ : ∃ wo : World, wo = w2 := ⟨_, rfl⟩
      go_wp2
      go_loopw [5, 7] (fun i i2 wr => ∃ (kk k2 : Nat) (dk : Array (El w0 g)), 1 ≤ k2 ∧ k + k2 ≤ d.size ∧ i = .int .i64 kk ∧ i2 = .int .i64 k2 ∧ KeptInv (kpR d) d (k + k2) kk dk ∧ HB w0 wr g off dk) (fun _ i2 _ => d.size - (intOf i2).toNat)
      case atStart => exact ⟨k, 1, d, by omega, by omega, rfl, rfl, KeptInv.start HA.out HK2.out, HH2.out⟩
      case round =>
        obtain ⟨kk, k2, dk, h21, h22, rfl, rfl, hI, hB⟩ := hrel
        have HI := Lib.hid hI
        have HB2 := Lib.hid hB
        have hds := hI.size
        have hkk := hI.lt
        clear HH2 HK2 HA
        by_cases hlt2 : k + k2 < d.size
        · have c1 := (hB.holds (k + k2) (by omega)).1
          have c2 := (hB.holds (k + (k2 - 1)) (by omega)).1
          obtain ⟨c3, f3⟩ := hB.holds kk (by omega)
          rw [hI.high (k + k2) (by omega)] at c1
          rw [hI.high (k + (k2 - 1)) (by omega)] at c2
          have HDS := Lib.hid hds
          clear hB hI hds
          have HK : Hid (kpR d (k + k2) = !decide ((d[k + k2]!).row = (d[k + (k2 - 1)]!).row)) := by
            show _ = _
            unfold kpR
            rw [show k + k2 - 1 = k + (k2 - 1) by omega]
            simp; omega
          have HC := Lib.hid (fun W (hg : w0.grownBy W (some g)) => eqEl_any d[k + k2]! d[k + (k2 - 1)]! hg)
          have HKEEP := Lib.hid (fun hk => HI.out.keep (by omega) hk)
          generalize dk[kk]! = z at c3
          generalize d[k + k2]! = x at *
          generalize d[k + (k2 - 1)]! = y at *
          rw [← Nat.add_assoc] at c1 c2
          generalize hx : x.enc = xv at *
          generalize hy : y.enc = yv at *
          have e1 : IntKind.i64.wrap ((k2 : Int) - 1) = ((k2 - 1 : Nat) : Int) := by rw [IntWalk.i64_in _ (by omega)]; omega
          have hkl : k2 < d.size - k := by omega
          have hkl1 : k2 - 1 < d.size - k := by omega
          have hkks : kk < d.size := by omega
          go_wp2
          go_still_tail 10, (by kernel_rfl)
          go_wp2_with fail
          subst hx hy
          refine (HC.out _ (HB2.out.ext (Ext.refl _).drew).grown).mono ?_
          rintro e w3 ⟨rfl, hx3⟩
          have HB3 := Lib.hid ((HB2.out.ext ((Ext.refl _).drew)).ext hx3)
          have g0 := HB2.out.lt'
          obtain ⟨q1, q2⟩ := ((Ext.refl wr).drew.trans hx3).rules
          have c1' := (q1 g (off + k + k2) g0).trans c1
          have c3' := (q1 g (off + kk) g0).trans c3
          have f3' := (q2 g (off + kk) g0).trans f3
          clear HC hx3 HB2 c1 c2 c3 f3 e1 q1 q2
          by_cases hq : x.row = y.row
          · have hd : decide (x.row = y.row) = true := by simpa using hq
            have HS : Hid (KeptInv (kpR d) d (k + (k2 + 1)) kk dk) := HI.out.skip (by rw [HK.out, hd]; rfl)
            rw [hd]
            clear hd hq HK c1' c3' f3'
            go_wp2
            go_roundw
            case rel => exact ⟨kk, k2 + 1, dk, by omega, by omega, rfl, by go_num, HS.out, HB3.out⟩
            case measure => simp [intOf]; omega
          · have hd : decide (x.row = y.row) = false := by simpa using hq
            have HS : Hid (KeptInv (kpR d) d (k + (k2 + 1)) (kk + 1) (dk.setIfInBounds kk x)) := HKEEP.out (by rw [HK.out, hd]; rfl)
            have HB4 := Lib.hid (HB3.out.set (i := kk) (by have := HDS.out; omega) x)
            rw [hd]
            clear hd hq HK HKEEP
            obtain ⟨XA, XC, hxe, -, -, -, -, -⟩ := x.row_at HB3.out.grown
            rw [hxe] at c1' HB4 ⊢
            clear hxe
            go_wp2
            go_roundw
            case rel => exact ⟨kk + 1, k2 + 1, _, by omega, by omega, by go_num, by go_num, HS.out, HB4.out⟩
            case measure => simp [intOf]; omega
        · have hke : k + k2 = d.size := by omega
          have HI2 : Hid (KeptInv (kpR d) d d.size kk dk) := by rw [← hke]; exact HI.out
          have hkks : kk < d.size := by omega
          have hkkc : kk ≤ cap := by omega
          have hkkc2 : kk < cap := by omega
          have hnl : ¬ k2 < d.size - k := by omega
          have hcl : ∀ ty, (Builtin.clear_ #[32] ty #[.slice (some ⟨g, off + kk, none⟩) (d.size - kk) (cap - kk)]).run Tryz.prog wr = .ok (.tuple #[]) (wr.setCells g (off + kk) (List.replicate (d.size - kk) (.slice none 0 0))) :=
            fun ty => Lib.run_clear_slice wr _ _ ty _ Tryz.underlying32 Tryz.zeroValue69 rfl rfl g (off + kk) _ _ (by omega) (fun t ht => by rw [show off + kk + t = off + (kk + t) by omega, (hB.holds (kk + t) (by omega)).1]; rfl) (fun t ht => by rw [show off + kk + t = off + (kk + t) by omega]; exact (hB.holds (kk + t) (by omega)).2)
          have hlow : 0 ≤ (kk : Int) := by omega
          clear hB hI hke HI hlt2 hds hkk
          go_wp2
          go_ret
          refine ⟨keptUpTo (kpR d) d d.size, ?_, rfl, ?_⟩
          · rw [HI2.out.len]; rfl
          · exact HB2.out.cleared HI2.out _
    · obtain rfl : k = d.size := by omega
      have HE : Hid (d.toList = keptUpTo (kpR d) d d.size) := by
        show _ = _
        rw [keptUpTo_all _ _ _ HA.out]
        apply List.ext_getElem (by simp)
        intro i h1 h2
        simp at h1
        simp [h1]
      go_wp2
      go_ret
      exact ⟨d.toList, by simp, HE.out, by simpa using hH⟩
end
end Go.Proofs.YthgaflmldbgbnaaGreatDoor
section
namespace Go.Proofs.YthgaflmldbgbnaaGreatDoor.RL

theorem SS.nodup {X : List R} (h : SS X) : X.Nodup := h.imp fun hab e => by rw [e, tot_cmpR.self] at hab; omega
theorem SS.ext : ∀ {X Y : List R}, SS X → SS Y → (∀ r, r ∈ X ↔ r ∈ Y) → X = Y
  | [], [], _, _, _ => rfl
  | [], y :: Y, _, _, h => by have := (h y).2 (by simp); simp at this
  | x :: X, [], _, _, h => by have := (h x).1 (by simp); simp at this
  | x :: X, y :: Y, hX, hY, h => by
    have e : x = y := by
      rcases List.mem_cons.1 ((h x).1 (by simp)) with e | hx
      · exact e
      · rcases List.mem_cons.1 ((h y).2 (by simp)) with e | hy
        · exact e.symm
        · have h1 := hY.head x hx
          have h2 := hX.head y hy
          rw [tot_cmpR.sw y x] at h2
          omega
    subst e
    congr 1
    refine SS.ext hX.tail hY.tail fun r => ?_
    have hr := h r
    simp only [List.mem_cons] at hr
    constructor
    · intro hm
      rcases hr.1 (.inr hm) with e | h'
      · subst e; have := hX.head _ hm; rw [tot_cmpR.self] at this; omega
      · exact h'
    · intro hm
      rcases hr.2 (.inr hm) with e | h'
      · subst e; have := hY.head _ hm; rw [tot_cmpR.self] at this; omega
      · exact h'

def insF (X : List R) (r : R) : List R := if r ∈ X then X else X.take (rank X r) ++ r :: X.drop (rank X r)
theorem mem_insF (X : List R) (r y : R) : y ∈ insF X r ↔ y ∈ X ∨ y = r := by
  unfold insF
  split
  · rename_i h
    constructor
    · exact .inl
    · rintro (h' | rfl)
      · exact h'
      · exact h
  · rw [List.mem_append, List.mem_cons]
    conv => rhs; rw [← List.take_append_drop (rank X r) X, List.mem_append]
    constructor
    · rintro (h | h | h)
      · exact .inl (.inl h)
      · exact .inr h
      · exact .inl (.inr h)
    · rintro ((h | h) | h)
      · exact .inl h
      · exact .inr (.inr h)
      · exact .inr (.inl h)
theorem SS.take {X : List R} (h : SS X) (k : Nat) : SS (X.take k) := List.Pairwise.sublist (List.take_sublist k X) h
theorem SS.drop {X : List R} (h : SS X) (k : Nat) : SS (X.drop k) := List.Pairwise.sublist (List.drop_sublist k X) h
theorem SS.filter {X : List R} (h : SS X) (p : R → Bool) : SS (X.filter p) := List.Pairwise.sublist List.filter_sublist h
theorem lt_rank {X : List R} (h : SS X) (r : R) : ∀ y ∈ X.take (rank X r), cmpR y r < 0 := fun y hy => by
  obtain ⟨i, hi, rfl⟩ := List.getElem_of_mem hy
  simp at hi
  rw [List.getElem_take]
  exact (rank_split h r).1 i (by omega) (by omega)
theorem ge_rank {X : List R} (h : SS X) (r : R) : ∀ y ∈ X.drop (rank X r), 0 ≤ cmpR y r := fun y hy => by
  obtain ⟨i, hi, rfl⟩ := List.getElem_of_mem hy
  simp at hi
  rw [List.getElem_drop]
  exact (rank_split h r).2 _ (by omega) (by omega)
theorem SS.ins {X : List R} (h : SS X) (r : R) : SS (insF X r) := by
  unfold insF
  split
  · exact h
  · rename_i hn
    have gt : ∀ y ∈ X.drop (rank X r), cmpR r y < 0 := fun y hy => by
      have h1 := ge_rank h r y hy
      have h2 : cmpR y r ≠ 0 := fun e => hn (by rw [← (tot_cmpR.z _ _).1 e]; exact List.mem_of_mem_drop hy)
      rw [tot_cmpR.sw y r]
      omega
    unfold SS
    rw [List.pairwise_append]
    refine ⟨h.take _, List.pairwise_cons.2 ⟨gt, h.drop _⟩, fun a ha b hb => ?_⟩
    have h1 := lt_rank h r a ha
    rcases List.mem_cons.1 hb with rfl | hb
    · exact h1
    · exact tot_cmpR.tr _ _ _ h1 (gt b hb)

def ofF (X : List R) : List R := X.foldl insF []
theorem foldl_ins : ∀ (X acc : List R), SS acc → SS (X.foldl insF acc) ∧ ∀ y, y ∈ X.foldl insF acc ↔ y ∈ acc ∨ y ∈ X
  | [], acc, h => ⟨h, fun y => by simp⟩
  | x :: X, acc, h => by
    obtain ⟨h1, h2⟩ := foldl_ins X (insF acc x) (h.ins x)
    refine ⟨h1, fun y => ?_⟩
    show y ∈ X.foldl insF (insF acc x) ↔ _
    rw [h2 y, mem_insF]
    simp only [List.mem_cons]
    constructor
    · rintro ((h | h) | h)
      · exact .inl h
      · exact .inr (.inl h)
      · exact .inr (.inr h)
    · rintro (h | h | h)
      · exact .inl (.inl h)
      · exact .inl (.inr h)
      · exact .inr h
theorem ss_nil : SS [] := List.Pairwise.nil
theorem SS.of (X : List R) : SS (ofF X) := (foldl_ins X [] ss_nil).1
theorem mem_ofF (X : List R) (y : R) : y ∈ ofF X ↔ y ∈ X := by rw [ofF, (foldl_ins X [] ss_nil).2 y]; simp
theorem ofF_eq {X Y : List R} (h : SS Y) (hm : ∀ r, r ∈ Y ↔ r ∈ X) : ofF X = Y := SS.ext (SS.of X) h fun r => by rw [mem_ofF, hm]
theorem ofF_self {X : List R} (h : SS X) : ofF X = X := ofF_eq h fun _ => Iff.rfl
theorem insF_length_le (X : List R) (r : R) : (insF X r).length ≤ X.length + 1 := by
  unfold insF
  split
  · omega
  · have := rank_le X r; simp; omega
theorem foldl_ins_length : ∀ (X acc : List R), (X.foldl insF acc).length ≤ acc.length + X.length
  | [], acc => by simp
  | x :: X, acc => by
    have h1 := foldl_ins_length X (insF acc x)
    have h2 := insF_length_le acc x
    show (X.foldl insF (insF acc x)).length ≤ _
    simp; omega
theorem ofF_length_le (X : List R) : (ofF X).length ≤ X.length := by have := foldl_ins_length X []; simpa [ofF] using this

theorem dedup_ss {X : List R} (h : X.Pairwise fun a b => cmpR a b ≤ 0) (kp : Nat → Bool) (hk : ∀ j (hj : j < X.length), kp j = (decide (j = 0) || !decide (X[j] = X[j - 1]))) :
    SS (((List.range X.length).filter kp).map fun j => X.getD j []) ∧ ∀ r, r ∈ ((List.range X.length).filter kp).map (fun j => X.getD j []) ↔ r ∈ X := by
  have hle : ∀ i j (hj : j < X.length) (hij : i ≤ j), cmpR (X[i]'(by omega)) X[j] ≤ 0 := fun i j hj hij => by
    rcases Nat.lt_or_eq_of_le hij with h1 | rfl
    · exact List.pairwise_iff_getElem.1 h i j (by omega) hj h1
    · rw [tot_cmpR.self]; omega
  have gd : ∀ j (hj : j < X.length), X.getD j [] = X[j] := fun j hj => by simp [List.getD, hj]
  refine ⟨?_, fun r => ⟨fun hm => ?_, fun hm => ?_⟩⟩
  · unfold SS
    rw [List.pairwise_map]
    have h1 : ((List.range X.length).filter kp).Pairwise (· < ·) := List.Pairwise.sublist List.filter_sublist List.pairwise_lt_range
    refine List.Pairwise.imp_of_mem (fun {a b} ha hb hab => ?_) h1
    rw [List.mem_filter, List.mem_range] at ha hb
    rw [gd a ha.1, gd b hb.1]
    have hkb := hb.2
    rw [hk b hb.1] at hkb
    have hne : X[b] ≠ X[b - 1] := by
      simp only [Bool.or_eq_true, decide_eq_true_eq, Bool.not_eq_true', decide_eq_false_iff_not] at hkb
      rcases hkb with h0 | h0
      · omega
      · exact h0
    have g1 := hle a (b - 1) (by omega) (by omega)
    have g2 := hle (b - 1) b hb.1 (by omega)
    have g3 : cmpR X[b - 1] X[b] ≠ 0 := fun e => hne ((tot_cmpR.z _ _).1 e).symm
    exact tot_cmpR.lt_of_le_of_lt g1 (by omega)
  · obtain ⟨j, hj, rfl⟩ := List.mem_map.1 hm
    rw [List.mem_filter, List.mem_range] at hj
    rw [gd j hj.1]
    exact List.getElem_mem hj.1
  · obtain ⟨j, hj, rfl⟩ := List.getElem_of_mem hm
    clear hm
    induction j with
    | zero => exact List.mem_map.2 ⟨0, by rw [List.mem_filter, List.mem_range]; exact ⟨hj, by rw [hk 0 hj]; simp⟩, gd 0 hj⟩
    | succ j ih =>
      cases hkj : kp (j + 1) with
      | true => exact List.mem_map.2 ⟨j + 1, by rw [List.mem_filter, List.mem_range]; exact ⟨hj, hkj⟩, gd _ hj⟩
      | false =>
        rw [hk (j + 1) hj] at hkj
        simp at hkj
        rw [hkj]
        exact ih (by omega)

end Go.Proofs.YthgaflmldbgbnaaGreatDoor.RL
end
namespace Go.Proofs.YthgaflmldbgbnaaGreatDoor
section
open Go.RowKit Go.Sort Go.Shelf Go.Lib

section
variable {w0 wr : World} {g off : Nat}
def El.lift (hg : w0.grownBy wr (some g)) (e : El w0 g) : El wr g := ⟨e.val, e.row, by
  obtain ⟨A', C', h1, h2, h3, h4, h5, h6⟩ := e.row_at hg
  exact ⟨A', C', h1, h2, h3, h4, h5, h6⟩⟩
theorem HB.lift {d : Array (El w0 g)} (h : HB w0 wr g off d) : HB wr wr g off (d.map (El.lift h.grown)) := by
  refine ⟨⟨rfl, rfl, rfl, Nat.le_refl _, fun _ _ _ => rfl⟩, fun j hj => ?_, h.lt'⟩
  simp only [Array.size_map] at hj
  obtain ⟨h1, h2⟩ := h.holds j hj
  refine ⟨?_, h2⟩
  rw [h1]
  have e : (d.map (El.lift h.grown))[j]! = El.lift h.grown d[j]! := by simp [hj]
  rw [e]
  rfl
theorem lift_rows {d : Array (El w0 g)} (hg : w0.grownBy wr (some g)) : (d.map (El.lift hg)).toList.map El.row = d.toList.map El.row := by
  rw [Array.toList_map, List.map_map]
  rfl

def GoodH (w : World) (g off : Nat) (Y : List RL.R) : Prop := ∀ i (h : i < Y.length), ∃ A' C', w.cell? ⟨g, off + i, none⟩ = some (.slice A' Y[i].length C') ∧ Y[i].length ≤ C' ∧ C' ≤ 9223372036854775807 ∧ SlR w.heap.size w A' Y[i] ∧ (Y[i] ≠ [] → ∀ ad, A' = some ad → ad.block ≠ g) ∧ w.frozen? ⟨g, off + i, none⟩ = false
theorem HB.good {d : Array (El w0 g)} (h : HB w0 wr g off d) : GoodH wr g off (d.toList.map El.row) := fun i hi => by
  simp only [List.length_map, Array.length_toList] at hi
  obtain ⟨c1, c2⟩ := h.holds i hi
  obtain ⟨A', C', h1, h2, h3, h4, _, h6⟩ := (d[i]!).row_at h.grown
  have e : (d.toList.map El.row)[i]'(by simpa using hi) = (d[i]!).row := by simp [hi]
  rw [e]
  exact ⟨A', C', by rw [c1, h1], h2, h3, h4, h6, c2⟩
theorem GoodH.keep {w w' : World} {Y : List RL.R} (h : GoodH w g off Y) (hb : Below w.heap.size w w') (hg : g < w.heap.size) : GoodH w' g off Y := fun i hi => by
  obtain ⟨A', C', h1, h2, h3, h4, h5, h6⟩ := h i hi
  exact ⟨A', C', (hb.cell (p := ⟨g, off + i, none⟩) hg).trans h1, h2, h3, h4.upB hb, h5, (hb.frozen (p := ⟨g, off + i, none⟩) hg).trans h6⟩
theorem GoodH.set {w : World} {Y : List RL.R} (h : GoodH w g off Y) {k : Nat} (hk : k < Y.length) {A' : Option Addr} {C' : Nat} (hc : Y[k].length ≤ C') (hm : C' ≤ 9223372036854775807) (hr : SlR w.heap.size w A' Y[k]) (hne : Y[k] ≠ [] → ∀ ad, A' = some ad → ad.block ≠ g) : GoodH (w.setCell ⟨g, off + k, none⟩ (.slice A' Y[k].length C')) g off Y := fun i hi => by
  obtain ⟨A2, C2, h1, h2, h3, h4, h5, h6⟩ := h i hi
  by_cases e : i = k
  · subst e
    exact ⟨A', C', World.cell?_setCell_same _ _ _ h1, hc, hm, hr.far _ (fun hy ad e => hne hy ad e), hne, by rw [World.frozen?_setCell]; exact h6⟩
  · exact ⟨A2, C2, (World.cell?_setCell_other _ _ _ _ (by intro e3; simp only [Addr.mk.injEq] at e3; omega)).trans h1, h2, h3, h4.far _ (fun hy ad e => h5 hy ad e), h5, by rw [World.frozen?_setCell]; exact h6⟩
def FreshH (w : World) (g off rb : Nat) (Y : List RL.R) (k : Nat) : Prop := ∀ i (_h : i < Y.length), i < k → ∀ A' n C', w.cell? ⟨g, off + i, none⟩ = some (.slice A' n C') → ∀ ad, A' = some ad → rb < ad.block
theorem FreshH.keep {w w' : World} {rb k : Nat} {Y : List RL.R} (h : FreshH w g off rb Y k) (hb : Below w.heap.size w w') (hg : g < w.heap.size) : FreshH w' g off rb Y k := fun i hi hk A' n C' hc =>
  h i hi hk A' n C' ((hb.cell (p := ⟨g, off + i, none⟩) hg).symm.trans hc)
theorem FreshH.set {w : World} {rb k : Nat} {Y : List RL.R} (h : FreshH w g off rb Y k) {A : Option Addr} {n C : Nat} {u : Value} (hu : w.cell? ⟨g, off + k, none⟩ = some u) (hf : ∀ ad, A = some ad → rb < ad.block) : FreshH (w.setCell ⟨g, off + k, none⟩ (.slice A n C)) g off rb Y (k + 1) := fun i hi hk A' n' C' hc ad e => by
  by_cases he : i = k
  · subst he
    rw [World.cell?_setCell_same _ _ _ hu] at hc
    simp at hc
    exact hf ad (by rw [hc.1]; exact e)
  · rw [World.cell?_setCell_other _ _ _ _ (by intro e3; simp only [Addr.mk.injEq] at e3; omega)] at hc
    exact h i hi (by omega) A' n' C' hc ad e
theorem GoodH.final {w : World} {rb : Nat} {Y : List RL.R} (h : GoodH w g off Y) (hf : FreshH w g off rb Y Y.length) (hg : g < w.heap.size) (hne : rb ≠ g) (u0 u1 : Value) (w'' : World)
    (hk : ∀ p : Addr, p.block < ((w.setCell ⟨rb, 0, none⟩ u0).setCell ⟨rb, 1, none⟩ u1).heap.size → (rb ≤ p.block ∨ p.block = g) → w''.cell? p = ((w.setCell ⟨rb, 0, none⟩ u0).setCell ⟨rb, 1, none⟩ u1).cell? p) : SlRs ((w.setCell ⟨rb, 0, none⟩ u0).setCell ⟨rb, 1, none⟩ u1).heap.size w'' (some ⟨g, off, none⟩) Y := fun _ => ⟨g, off, rfl, by simpa using hg, fun i hi => by
  obtain ⟨A', C', h1, h2, h3, h4, _⟩ := h i hi
  refine ⟨A', C', (hk ⟨g, off + i, none⟩ (by simpa using hg) (.inr rfl)).trans (far_cell (q := ⟨g, off + i, none⟩) hne (far_cell (q := ⟨g, off + i, none⟩) hne h1)), h2, h3, ?_⟩
  have h5 := (h4.far (p := ⟨rb, 0, none⟩) u0 (fun _ ad e => by have := hf i hi hi A' _ C' h1 ad e; show ad.block ≠ rb; omega)).far (p := ⟨rb, 1, none⟩) u1 (fun _ ad e => by have := hf i hi hi A' _ C' h1 ad e; show ad.block ≠ rb; omega)
  intro hn
  obtain ⟨b, o, e, hb, hc⟩ := h5 hn
  refine ⟨b, o, e, hb, fun q u hu => (hk ⟨b, o + q, none⟩ hb (.inl ?_)).trans (hc q u hu)⟩
  have := hf i hi hi A' _ C' h1 _ e
  simp only at this ⊢
  omega⟩
end

theorem compact_small (A : Option Addr) (n cap : Nat) (fv : Value) (w : World) (h : n < 2) : Calls Tryz.prog 73 #[.slice A n cap, fv] w fun e w' => e = .returned (.slice A n cap) ∧ w' = w := by
  have h' : (n : Int) < 2 := by omega
  clear h
  go_enter Tryz.func73, Tryz.ntmps73
  go_wp2
  go_ret
  exact ⟨rfl, rfl⟩

theorem compactAsc_any {w0 w : World} {g off : Nat} {d : Array (El w0 g)} (cap : Nat) (h : HB w0 w g off d) (hsz : d.size ≤ 1000000) (h1 : 1 ≤ d.size) (hcap : d.size ≤ cap) (hcm : cap ≤ 9223372036854775807) (ha : Asc (d.toList.map El.row)) :
    Calls Tryz.prog 73 #[.slice (some ⟨g, off, none⟩) d.size cap, .func (.func 74) #[] #[]] w fun e w' => ∃ l : List (El w0 g), e = .returned (.slice (some ⟨g, off, none⟩) (RL.ofF (d.toList.map El.row)).length cap) ∧ l.map El.row = RL.ofF (d.toList.map El.row) ∧ HB w0 w' g off l.toArray := by
  have key : (keptUpTo (kpR d) d d.size).map El.row = RL.ofF (d.toList.map El.row) := by
    have hd := RL.dedup_ss (X := d.toList.map El.row) ha (kpR d) (fun j hj => by
      simp only [List.length_map, Array.length_toList] at hj
      have e1 : (d.toList.map El.row)[j]'(by simpa using hj) = (d[j]!).row := by simp [hj]
      have hj1 : j - 1 < d.size := by omega
      have e2 : (d.toList.map El.row)[j - 1]'(by simpa using hj1) = (d[j - 1]!).row := by simp [hj1]
      rw [e1, e2]; rfl)
    have e : (keptUpTo (kpR d) d d.size).map El.row = ((List.range (d.toList.map El.row).length).filter (kpR d)).map (fun j => (d.toList.map El.row).getD j []) := by
      unfold keptUpTo
      rw [List.map_map]
      simp only [List.length_map, Array.length_toList]
      refine List.map_congr_left fun j hj => ?_
      rw [List.mem_filter, List.mem_range] at hj
      simp [hj.1]
    rw [e]
    exact (RL.ofF_eq hd.1 hd.2).symm
  by_cases h2 : 2 ≤ d.size
  · refine Calls.mono (compactRows_any cap h hsz h2 hcap hcm) fun e w' ⟨l, g1, g2, g3⟩ => ⟨l, ?_, by rw [g2]; exact key, g3⟩
    rw [g1, ← key, g2, List.length_map]
  · have hs : d.size = 1 := by omega
    refine Calls.mono (compact_small (some ⟨g, off, none⟩) d.size cap _ w (by omega)) fun e w' ⟨g1, g2⟩ => ?_
    have e1 : d.toList = keptUpTo (kpR d) d d.size := by
      rw [keptUpTo_all _ _ _ (fun j hj => by simp [kpR]; omega)]
      apply List.ext_getElem (by simp)
      intro i h1 h2
      simp at h1
      simp [h1]
    refine ⟨d.toList, ?_, (congrArg (List.map El.row) e1).trans key, by subst g2; simpa using h⟩
    rw [g1, ← key, List.length_map, ← e1, Array.length_toList]

set_option maxHeartbeats 2000000 in
theorem rlBuild_any {w : World} {g : Nat} {d : Array (El w g)} (ar : Int) (cap : Nat) (h : HB w w g 0 d) (hsz : d.size ≤ 60000) (h1 : 1 ≤ d.size) (hcap : d.size ≤ cap) (hcm : cap ≤ 9223372036854775807) (X : List RL.R) (hX : X = d.toList.map El.row) :
    Calls Tryz.prog 47 #[.int .i64 ar, .slice (some ⟨g, 0, none⟩) d.size cap] w fun e w' => e = .returned (.tuple #[.agg #[.int .i64 ar, .slice (some ⟨g, 0, none⟩) (RL.ofF X).length cap], .int .i64 0]) ∧ (∀ w'', (∀ p : Addr, p.block < w'.heap.size → (w.heap.size ≤ p.block ∨ p.block = g) → w''.cell? p = w'.cell? p) → SlRs w'.heap.size w'' (some ⟨g, 0, none⟩) (RL.ofF X)) ∧ w.grownBy w' (some g) := by
  subst hX
  have hlen := RL.ofF_length_le (d.toList.map El.row)
  simp only [List.length_map, Array.length_toList] at hlen
  obtain ⟨rb, hrb⟩ : ∃ rb, rb = w.heap.size := ⟨_, rfl⟩
  have HW : Hid (HB (w.alloc (.cells #[.int .i64 0, .slice none 0 0] 34)) (w.alloc (.cells #[.int .i64 0, .slice none 0 0] 34)) g 0 (d.map (El.lift (h.ext ((Ext.refl w).alloc (.cells #[.int .i64 0, .slice none 0 0] 34))).grown))) := HB.lift (h.ext ((Ext.refl w).alloc _))
  have HR := Lib.hid (lift_rows (d := d) (h.ext ((Ext.refl w).alloc (.cells #[.int .i64 0, .slice none 0 0] 34))).grown)
  have hds : (d.map (El.lift (h.ext ((Ext.refl w).alloc (.cells #[.int .i64 0, .slice none 0 0] 34))).grown)).size = d.size := by simp
  generalize d.map (El.lift (h.ext ((Ext.refl w).alloc (.cells #[.int .i64 0, .slice none 0 0] 34))).grown) = d1 at HW HR hds
  have gl := HW.out.lt'
  have hg : g < w.heap.size := h.lt
  have HG : Hid (w.grownBy (w.alloc (.cells #[.int .i64 0, .slice none 0 0] 34)) (some g)) := (h.ext ((Ext.refl w).alloc _)).grown
  have hrow := Row.new w 34 [.int .i64 0, .slice none 0 0]
  rw [← hrb] at hrow
  have hz1 : (w.alloc (.cells #[.int .i64 0, .slice none 0 0] 34)).heap.size = rb + 1 := by rw [hrb]; simp
  have HROW := Lib.hid hrow
  have hne : rb ≠ g := by omega
  clear h hrow
  have HOK : Hid (RsOk (RL.ofF (d.toList.map El.row))) := fun x hx => by
    rw [RL.mem_ofF] at hx
    obtain ⟨e, _, rfl⟩ := List.mem_map.1 hx
    obtain ⟨A', C', _, _, _, _, h5, _⟩ := e.ok
    exact h5
  generalize hxx : d.toList.map El.row = X at *
  clear hxx
  -- the calls
  have HIS := Lib.hid (isSortedRows_any cap HW.out (by omega))
  have HSO := Lib.hid (fun (W : World) hB => sortRows_any (wr := W) (off := 0) cap (d := d1) hB (by omega))
  have HCO : Hid (∀ (W : World) (d2 : Array (El (w.alloc (.cells #[.int .i64 0, .slice none 0 0] 34)) g)), HB (w.alloc (.cells #[.int .i64 0, .slice none 0 0] 34)) W g 0 d2 → d2.size = d.size → (d2.toList.map El.row).Perm (d1.toList.map El.row) → Asc (d2.toList.map El.row) →
      Calls Tryz.prog 73 #[.slice (some ⟨g, 0, none⟩) d.size cap, .func (.func 74) #[] #[]] W fun e w' => ∃ l : List (El (w.alloc (.cells #[.int .i64 0, .slice none 0 0] 34)) g), e = .returned (.slice (some ⟨g, 0, none⟩) (RL.ofF X).length cap) ∧ l.map El.row = RL.ofF X ∧ HB (w.alloc (.cells #[.int .i64 0, .slice none 0 0] 34)) w' g 0 l.toArray) := fun W d2 hB hs hp ha => by
    have hc := compactAsc_any cap hB (by omega) (by omega) (by omega) hcm ha
    have e1 : RL.ofF (d2.toList.map El.row) = RL.ofF X := RL.ofF_eq (RL.SS.of X) fun r => by rw [RL.mem_ofF, hp.mem_iff, HR.out]
    rw [e1, hs] at hc
    exact hc
  rw [hds] at HIS HSO
  have HDS := Lib.hid hds
  clear hds
  go_enter Tryz.func47, Tryz.ntmps47
  go_wp2_with fail
  refine HIS.out.mono ?_
  rintro e w2 ⟨c, rfl, hasc, hB2⟩
  have HB2 := Lib.hid hB2
  clear hB2 HIS
  cases c
  · clear hasc
    go_wp2_with fail
    refine (HSO.out _ HB2.out).mono ?_
    rintro e w3 ⟨d2, rfl, hs2, hp2, ha2, hB3⟩
    have HB3 := Lib.hid hB3
    have HP2 := Lib.hid hp2
    have HA2 := Lib.hid ha2
    have HS2 := Lib.hid hs2
    clear hB3 hp2 ha2 hs2 HB2
    go_wp2_with fail
    refine (HCO.out _ d2 HB3.out HS2.out HP2.out HA2.out).mono ?_
    rintro e w4 ⟨l, rfl, hl, hB4⟩
    have HGD : Hid (GoodH w4 g 0 (RL.ofF X)) := by
      have h := hB4.good
      simp only [] at h
      rw [hl] at h
      exact h
    have HR4 := Lib.hid (HROW.out.grown hB4.grown (fun e => hne (by injection e)))
    have HG4 : Hid (w.grownBy w4 (some g)) := ⟨hB4.grown.os, hB4.grown.tape, hB4.grown.output, Nat.le_trans (by simp) hB4.grown.size, fun k hk hkn => (hB4.grown.block k (by simp; omega) hkn).trans (Below.heap_alloc w _ k hk)⟩
    have HGL := hB4.lt'
    have hrl4 := HR4.out.lt
    clear hB4 hl HB3 HP2 HA2 HS2 HCO HSO HROW HG HW HR
    go_wp2
    go_loopw [20] (fun i wr => ∃ k : Nat, k ≤ (RL.ofF X).length ∧ i = .int .i64 k ∧ GoodH wr g 0 (RL.ofF X) ∧ FreshH wr g 0 rb (RL.ofF X) k ∧ Row wr rb 34 [.int .i64 0, .slice none 0 0] ∧ g < wr.heap.size ∧ w.grownBy wr (some g)) (fun i _ => (RL.ofF X).length - (intOf i).toNat)
    case atStart => exact ⟨0, Nat.zero_le _, rfl, HGD.out, fun i _ h => absurd h (by omega), HR4.out, HGL, HG4.out⟩
    case round =>
      obtain ⟨k, hk, rfl, hgd, hfh, hrw, hgl, hgr⟩ := hrel
      have HGD2 := Lib.hid hgd
      have HFH := Lib.hid hfh
      clear hfh
      have HRW := Lib.hid hrw
      have HGR := Lib.hid hgr
      have hrl := hrw.lt
      clear HGD HR4 HG4
      by_cases hlt : k < (RL.ofF X).length
      · obtain ⟨A1, C1, c1, hc1, hm1, s1, n1, f1⟩ := hgd k hlt
        rw [Nat.zero_add] at c1 f1
        have HC := Lib.hid (cloneRow_any A1 C1 (RL.ofF X)[k] wr s1 (HOK.out _ (List.getElem_mem hlt)).1)
        generalize hxl : (RL.ofF X)[k].length = xl at c1
        have HXL := Lib.hid hxl
        rw [hxl] at HC
        clear hgd hrw hgr s1 n1 hc1 hm1 hxl
        go_wp2_with fail
        refine HC.out.mono ?_
        rintro e w5 ⟨v5, rfl, hown5, hb5⟩
        rw [← HXL.out] at hown5
        obtain ⟨-, A2, C2, rfl, hc2, hm2, hs2, hfr⟩ := SlR.of_own hown5
        have HS5 := Lib.hid ((HGD2.out.keep hb5 hgl).set hlt hc2 hm2 hs2 (fun _ ad e => by have := hfr ad e; omega))
        have HR5 := Lib.hid ((HRW.out.below hb5 hrl).far (p := ⟨g, k, none⟩) hne (.slice A2 (RL.ofF X)[k].length C2))
        have hz5 := hb5.size
        have c5 := (hb5.cell (p := ⟨g, k, none⟩) hgl).trans c1
        have f5 := (hb5.frozen (p := ⟨g, k, none⟩) hgl).trans f1
        have HG5 : Hid (w.grownBy (w5.setCell ⟨g, k, none⟩ (.slice A2 (RL.ofF X)[k].length C2)) (some g)) := ⟨hb5.os.trans HGR.out.os, hb5.tape.trans HGR.out.tape, hb5.output.trans HGR.out.output, by simpa using Nat.le_trans HGR.out.size hb5.size, fun j hj hjn => by
          rw [Below.heap_setCell _ _ _ _ (fun e => hjn (by rw [e]))]
          exact (hb5.block j (Nat.lt_of_lt_of_le hj HGR.out.size)).trans (HGR.out.block j hj hjn)⟩
        have HF5 := Lib.hid ((HFH.out.keep hb5 hgl).set (A := A2) (n := (RL.ofF X)[k].length) (C := C2) (by rw [Nat.zero_add]; exact c5) (fun ad e => by have := hfr ad e; omega))
        rw [Nat.zero_add] at HS5 HF5
        rw [HXL.out] at HS5 HR5 HG5 HF5 ⊢
        clear hown5 hb5 hs2 hfr HC c1 f1 HGD2 HRW HGR
        go_wp2
        go_roundw
        case rel => exact ⟨k + 1, by omega, by go_num, HS5.out, HF5.out, HR5.out, by simp; omega, HG5.out⟩
        case measure => simp [intOf]; omega
      · subst hrb
        have r0 := hrw.cell 0
        have r1 := hrw.cell 1
        have f0 := hrw.frozen 0
        have f1 := hrw.frozen 1
        simp only [List.getElem?_cons_zero, List.getElem?_cons_succ] at r0 r1
        have hke : k = (RL.ofF X).length := by omega
        have HSL := Lib.hid (hgd.final (rb := w.heap.size) (by rw [← hke]; exact HFH.out) hgl hne (.int .i64 ar) (.slice (some ⟨g, 0, none⟩) (RL.ofF X).length cap))
        have HG6 : Hid (w.grownBy ((wr.setCell ⟨w.heap.size, 0, none⟩ (.int .i64 ar)).setCell ⟨w.heap.size, 1, none⟩ (.slice (some ⟨g, 0, none⟩) (RL.ofF X).length cap)) (some g)) := ⟨hgr.os, hgr.tape, hgr.output, by simpa using hgr.size, fun j hj hjn => by
          rw [Below.heap_setCell _ _ _ _ (fun e => by simp only at e; omega), Below.heap_setCell _ _ _ _ (fun e => by simp only at e; omega)]
          exact hgr.block j hj hjn⟩
        have z0 : (wr.setCell ⟨w.heap.size, 0, none⟩ (.int .i64 ar)).cell? ⟨w.heap.size, 0, none⟩ = some (.int .i64 ar) := World.cell?_setCell_same _ _ _ r0
        have z1 : ((wr.setCell ⟨w.heap.size, 0, none⟩ (.int .i64 ar)).setCell ⟨w.heap.size, 1, none⟩ (.slice (some ⟨g, 0, none⟩) (RL.ofF X).length cap)).cell? ⟨w.heap.size, 1, none⟩ = some (.slice (some ⟨g, 0, none⟩) (RL.ofF X).length cap) := World.cell?_setCell_same _ _ _ ((World.cell?_setCell_other _ _ _ _ (by simp)).trans r1)
        have Z0 := Lib.hid z0
        have Z1 := Lib.hid z1
        clear hgd hrw z0 z1 hke
        go_wp2
        exact bodyPost_ret (v := .tuple #[.agg #[.int .i64 ar, .slice (some ⟨g, 0, none⟩) (RL.ofF X).length cap], .int .i64 0]) (by simp [results, Tryz.results47, go_sem, Z0.out, Z1.out]) rfl ⟨rfl, HSL.out, HG6.out⟩
  · obtain ⟨d2, hd2⟩ : ∃ d2, d2 = d1 := ⟨_, rfl⟩
    subst hd2
    have HA2 := Lib.hid (hasc rfl)
    have HP2 := Lib.hid (List.Perm.refl (d2.toList.map El.row))
    have HS2 := Lib.hid HDS.out
    obtain ⟨w3, hw3⟩ : ∃ w3, w3 = w2 := ⟨_, rfl⟩
    subst hw3
    have HB3 := Lib.hid HB2.out
    clear hasc HB2
    go_wp2_with fail
    refine (HCO.out _ d2 HB3.out HS2.out HP2.out HA2.out).mono ?_
    rintro e w4 ⟨l, rfl, hl, hB4⟩
    have HGD : Hid (GoodH w4 g 0 (RL.ofF X)) := by
      have h := hB4.good
      simp only [] at h
      rw [hl] at h
      exact h
    have HR4 := Lib.hid (HROW.out.grown hB4.grown (fun e => hne (by injection e)))
    have HG4 : Hid (w.grownBy w4 (some g)) := ⟨hB4.grown.os, hB4.grown.tape, hB4.grown.output, Nat.le_trans (by simp) hB4.grown.size, fun k hk hkn => (hB4.grown.block k (by simp; omega) hkn).trans (Below.heap_alloc w _ k hk)⟩
    have HGL := hB4.lt'
    have hrl4 := HR4.out.lt
    clear hB4 hl HB3 HP2 HA2 HS2 HCO HSO HROW HG HW HR
    go_wp2
    go_loopw [20] (fun i wr => ∃ k : Nat, k ≤ (RL.ofF X).length ∧ i = .int .i64 k ∧ GoodH wr g 0 (RL.ofF X) ∧ FreshH wr g 0 rb (RL.ofF X) k ∧ Row wr rb 34 [.int .i64 0, .slice none 0 0] ∧ g < wr.heap.size ∧ w.grownBy wr (some g)) (fun i _ => (RL.ofF X).length - (intOf i).toNat)
    case atStart => exact ⟨0, Nat.zero_le _, rfl, HGD.out, fun i _ h => absurd h (by omega), HR4.out, HGL, HG4.out⟩
    case round =>
      obtain ⟨k, hk, rfl, hgd, hfh, hrw, hgl, hgr⟩ := hrel
      have HGD2 := Lib.hid hgd
      have HFH := Lib.hid hfh
      clear hfh
      have HRW := Lib.hid hrw
      have HGR := Lib.hid hgr
      have hrl := hrw.lt
      clear HGD HR4 HG4
      by_cases hlt : k < (RL.ofF X).length
      · obtain ⟨A1, C1, c1, hc1, hm1, s1, n1, f1⟩ := hgd k hlt
        rw [Nat.zero_add] at c1 f1
        have HC := Lib.hid (cloneRow_any A1 C1 (RL.ofF X)[k] wr s1 (HOK.out _ (List.getElem_mem hlt)).1)
        generalize hxl : (RL.ofF X)[k].length = xl at c1
        have HXL := Lib.hid hxl
        rw [hxl] at HC
        clear hgd hrw hgr s1 n1 hc1 hm1 hxl
        go_wp2_with fail
        refine HC.out.mono ?_
        rintro e w5 ⟨v5, rfl, hown5, hb5⟩
        rw [← HXL.out] at hown5
        obtain ⟨-, A2, C2, rfl, hc2, hm2, hs2, hfr⟩ := SlR.of_own hown5
        have HS5 := Lib.hid ((HGD2.out.keep hb5 hgl).set hlt hc2 hm2 hs2 (fun _ ad e => by have := hfr ad e; omega))
        have HR5 := Lib.hid ((HRW.out.below hb5 hrl).far (p := ⟨g, k, none⟩) hne (.slice A2 (RL.ofF X)[k].length C2))
        have hz5 := hb5.size
        have c5 := (hb5.cell (p := ⟨g, k, none⟩) hgl).trans c1
        have f5 := (hb5.frozen (p := ⟨g, k, none⟩) hgl).trans f1
        have HG5 : Hid (w.grownBy (w5.setCell ⟨g, k, none⟩ (.slice A2 (RL.ofF X)[k].length C2)) (some g)) := ⟨hb5.os.trans HGR.out.os, hb5.tape.trans HGR.out.tape, hb5.output.trans HGR.out.output, by simpa using Nat.le_trans HGR.out.size hb5.size, fun j hj hjn => by
          rw [Below.heap_setCell _ _ _ _ (fun e => hjn (by rw [e]))]
          exact (hb5.block j (Nat.lt_of_lt_of_le hj HGR.out.size)).trans (HGR.out.block j hj hjn)⟩
        have HF5 := Lib.hid ((HFH.out.keep hb5 hgl).set (A := A2) (n := (RL.ofF X)[k].length) (C := C2) (by rw [Nat.zero_add]; exact c5) (fun ad e => by have := hfr ad e; omega))
        rw [Nat.zero_add] at HS5 HF5
        rw [HXL.out] at HS5 HR5 HG5 HF5 ⊢
        clear hown5 hb5 hs2 hfr HC c1 f1 HGD2 HRW HGR
        go_wp2
        go_roundw
        case rel => exact ⟨k + 1, by omega, by go_num, HS5.out, HF5.out, HR5.out, by simp; omega, HG5.out⟩
        case measure => simp [intOf]; omega
      · subst hrb
        have r0 := hrw.cell 0
        have r1 := hrw.cell 1
        have f0 := hrw.frozen 0
        have f1 := hrw.frozen 1
        simp only [List.getElem?_cons_zero, List.getElem?_cons_succ] at r0 r1
        have hke : k = (RL.ofF X).length := by omega
        have HSL := Lib.hid (hgd.final (rb := w.heap.size) (by rw [← hke]; exact HFH.out) hgl hne (.int .i64 ar) (.slice (some ⟨g, 0, none⟩) (RL.ofF X).length cap))
        have HG6 : Hid (w.grownBy ((wr.setCell ⟨w.heap.size, 0, none⟩ (.int .i64 ar)).setCell ⟨w.heap.size, 1, none⟩ (.slice (some ⟨g, 0, none⟩) (RL.ofF X).length cap)) (some g)) := ⟨hgr.os, hgr.tape, hgr.output, by simpa using hgr.size, fun j hj hjn => by
          rw [Below.heap_setCell _ _ _ _ (fun e => by simp only at e; omega), Below.heap_setCell _ _ _ _ (fun e => by simp only at e; omega)]
          exact hgr.block j hj hjn⟩
        have z0 : (wr.setCell ⟨w.heap.size, 0, none⟩ (.int .i64 ar)).cell? ⟨w.heap.size, 0, none⟩ = some (.int .i64 ar) := World.cell?_setCell_same _ _ _ r0
        have z1 : ((wr.setCell ⟨w.heap.size, 0, none⟩ (.int .i64 ar)).setCell ⟨w.heap.size, 1, none⟩ (.slice (some ⟨g, 0, none⟩) (RL.ofF X).length cap)).cell? ⟨w.heap.size, 1, none⟩ = some (.slice (some ⟨g, 0, none⟩) (RL.ofF X).length cap) := World.cell?_setCell_same _ _ _ ((World.cell?_setCell_other _ _ _ _ (by simp)).trans r1)
        have Z0 := Lib.hid z0
        have Z1 := Lib.hid z1
        clear hgd hrw z0 z1 hke
        go_wp2
        exact bodyPost_ret (v := .tuple #[.agg #[.int .i64 ar, .slice (some ⟨g, 0, none⟩) (RL.ofF X).length cap], .int .i64 0]) (by simp [results, Tryz.results47, go_sem, Z0.out, Z1.out]) rfl ⟨rfl, HSL.out, HG6.out⟩
end
section
open Go.RowKit Go.Sort Go.Shelf Go.Lib

set_option maxHeartbeats 400000 in
theorem rlBuild_nil (ar : Int) (A : Option Addr) (C : Nat) (w : World) :
    Calls Tryz.prog 47 #[.int .i64 ar, .slice A 0 C] w fun e w' => e = .returned (.tuple #[.agg #[.int .i64 ar, .slice A 0 C], .int .i64 0]) ∧ Ext w w' := by
  have HI := Lib.hid (fun W => Any.slices_IsSortedFunc_none lIsSorted A C (.func (.func 71) #[] #[]) W)
  have HC := Lib.hid (fun W => compact_small A 0 C (.func (.func 74) #[] #[]) W (by omega))
  go_enter Tryz.func47, Tryz.ntmps47
  go_wp2_with (first | (go_at_call 70; refine (HI.out _).mono ?_; rintro e w' ⟨rfl, rfl⟩) | (go_at_call 73; refine (HC.out _).mono ?_; rintro e w' ⟨rfl, rfl⟩) | fail)
  refine wp_loop_rounds 1 ?_
  rw [rounds_succ]
  go_wp2
  exact bodyPost_ret (v := .tuple #[.agg #[.int .i64 ar, .slice A 0 C], .int .i64 0]) (by simp [results, Tryz.results47, go_sem]) rfl ⟨rfl, (Ext.refl w).alloc _⟩

def errF (n : Int) : List RL.R → Int
  | [] => 0
  | x :: X => if wrongF n x = 0 then errF n X else wrongF n x
theorem errF_zero {n : Int} : ∀ {X : List RL.R}, errF n X = 0 ↔ ∀ x ∈ X, wrongF n x = 0
  | [] => by simp [errF]
  | x :: X => by
    simp only [errF, List.mem_cons, forall_eq_or_imp]
    split
    · rename_i h; rw [errF_zero]; simp [h]
    · rename_i h; simp [h]

def FreshRs (lo : Nat) (w' : World) (A : Option Addr) (X : List RL.R) : Prop := ∀ w'', (∀ p : Addr, lo ≤ p.block → p.block < w'.heap.size → w''.cell? p = w'.cell? p) → SlRs w'.heap.size w'' A X
theorem FreshRs.nil {lo : Nat} {w' : World} {A : Option Addr} : FreshRs lo w' A [] := fun _ _ => SlRs.nil
def RelNew (lo : Nat) (w' : World) (n : Int) (X : List RL.R) (v : Value) : Prop := ∃ A C, v = .agg #[.int .i64 n, .slice A X.length C] ∧ X.length ≤ C ∧ C ≤ 9223372036854775807 ∧ FreshRs lo w' A X
theorem OwnRs.hb {w : World} {B : Nat} {E : TypeId} {v : Value} {X : List RL.R} (h : OwnRs w B E v X) (hok : RsOk X) (hn : X ≠ []) :
    ∃ g cap, ∃ d : Array (El w g), v = .slice (some ⟨g, 0, none⟩) X.length cap ∧ X.length ≤ cap ∧ cap ≤ 9223372036854775807 ∧ B ≤ g ∧ d.size = X.length ∧ X = d.toList.map El.row ∧ HB w w g 0 d := by
  obtain ⟨hs, h1, h2⟩ := h
  have hl : hs.length = X.length := by have := h1.1; omega
  have hpos : 0 < X.length := by cases X with | nil => exact absurd rfl hn | cons _ _ => simp
  rcases h1.2 with ⟨_, h0⟩ | ⟨g, cap, cur, rfl, hg, hb, hnc, hcm, hsz, ht⟩
  · omega
  have pick : ∀ i (hi : i < X.length), ∃ e : El w g, hs[i]? = some e.val ∧ e.row = X[i] := fun i hi => by
    obtain ⟨A', C', g1, g2, g3, g4, g5⟩ := h2 i hi
    exact ⟨⟨.slice A' X[i].length C', X[i], A', C', rfl, g2, g3, g4, hok.at_ hi, fun hy ad e e2 => g5 hy ad e (by rw [← e2]; rfl)⟩, g1, rfl⟩
  obtain ⟨F, hF⟩ : ∃ F : Nat → El w g, ∀ i (hi : i < X.length), hs[i]? = some (F i).val ∧ (F i).row = X[i] :=
    ⟨fun i => if hi : i < X.length then (pick i hi).choose else default, fun i hi => by simp only [hi, dif_pos]; exact (pick i hi).choose_spec⟩
  refine ⟨g, cap, ((List.range X.length).map F).toArray, rfl, hnc, by unfold maxLen at hcm; omega, hg, by simp, ?_, ?_⟩
  · apply List.ext_getElem (by simp)
    intro i h3 h4
    simp only [List.getElem_map, List.getElem_range]
    exact (hF i h3).2.symm
  · refine ⟨⟨rfl, rfl, rfl, Nat.le_refl _, fun _ _ _ => rfl⟩, fun j hj => ?_, ?_⟩
    · have hj' : j < X.length := by simpa using hj
      have e : ((List.range X.length).map F).toArray[j]! = F j := by
        rw [getElem!_pos ((List.range X.length).map F).toArray j hj]
        simp
      rw [e]
      have hc := (hF j hj').1
      refine ⟨?_, ?_⟩
      · rw [Nat.mul_one] at ht
        have hc2 : (cur.toList.take X.length)[j]? = some (F j).val := by rw [ht]; exact hc
        rw [List.getElem?_take_of_lt hj'] at hc2
        simp only [World.cell?, hb, Nat.zero_add]
        simp only [Option.isSome_none, Bool.false_eq_true, if_false]
        rw [← Array.getElem?_toList]
        exact hc2
      · simp [World.frozen?, hb]
    · rcases Nat.lt_or_ge g w.heap.size with hlt | hge
      · exact hlt
      · rw [Array.getElem?_eq_none hge] at hb; cases hb

def OfPost (w : World) (n : Int) (X : List RL.R) (e : Ending) (w' : World) : Prop :=
  (errF n X = 0 → ∃ v, e = .returned (.tuple #[v, .int .i64 0]) ∧ RelNew w.heap.size w' n (RL.ofF X) v) ∧ (errF n X ≠ 0 → e = .returned (.tuple #[.agg #[.int .i64 0, .slice none 0 0], .int .i64 (errF n X)])) ∧ Below w.heap.size w w'

theorem errF_drop {n : Int} {X : List RL.R} {k : Nat} (h : k < X.length) : errF n (X.drop k) = if wrongF n X[k] = 0 then errF n (X.drop (k + 1)) else wrongF n X[k] := by
  rw [List.drop_eq_getElem_cons h]; rfl

set_option maxHeartbeats 2000000 in
theorem rlOf_any (n : Int) (A : Option Addr) (C : Nat) (X : List RL.R) (w : World) (h0 : 0 ≤ n) (h32 : n ≤ 32) (hX : SlRs w.heap.size w A X) (hok : RsOk X) (hl : X.length ≤ 60000) :
    Calls Tryz.prog 24 #[.int .i64 n, .slice A X.length C] w (OfPost w n X) := by
  have HC := Lib.hid (fun W => rlNew_ok n W h0 h32)
  have HX := Lib.hid hX
  have HOK := Lib.hid hok
  clear hX hok
  go_enter Tryz.func24, Tryz.ntmps24
  go_wp2_with fail
  refine (HC.out _).mono ?_
  rintro e w1 ⟨rfl, hx1⟩
  have r1 := (Row.new w 34 [.int .i64 0, .slice none 0 0]).below hx1.below (by simp)
  have HR := Lib.hid (r1.alloc (.cells #[.int .i64 n, .slice none 0 0] 34))
  have hz := r1.lt
  have HB := Lib.hid ((Below.box hx1.below (by simp)).alloc (show w.heap.size ≤ w1.heap.size by omega) (.cells #[.int .i64 n, .slice none 0 0] 34))
  have HN := Lib.hid (Row.new w1 34 [.int .i64 n, .slice none 0 0])
  clear r1 hx1 HC
  have HE0 := Lib.hid (Ext.refl (w1.alloc (.cells #[.int .i64 n, .slice none 0 0] 34)))
  have hz2 : (w1.alloc (.cells #[.int .i64 n, .slice none 0 0] 34)).heap.size = w1.heap.size + 1 := by simp
  have HX1 := Lib.hid ((HX.out.below HB.out (Nat.le_refl _)).more HB.out.size)
  go_wp2
  generalize w1.alloc (.cells #[.int .i64 n, .slice none 0 0] 34) = W0 at *
  go_loopw [21] (fun i wr => ∃ k : Nat, k ≤ X.length ∧ i = .int .i64 k ∧ errF n X = errF n (X.drop k) ∧ Ext W0 wr) (fun i _ => X.length - (intOf i).toNat)
  case atStart => exact ⟨0, Nat.zero_le _, rfl, by simp, HE0.out⟩
  case round =>
    obtain ⟨k, hk, rfl, hd, he⟩ := hrel
    have HD := Lib.hid hd
    have HE := Lib.hid he
    clear hd HE0
    by_cases hlt : k < X.length
    · have HRw := Lib.hid (HR.out.below he.below (by omega))
      have HNw := Lib.hid (HN.out.below he.below (by omega))
      have n0 : wr.cell? ⟨w1.heap.size, 0, none⟩ = some (.int .i64 n) := HNw.out.cell 0
      have n1 : wr.cell? ⟨w1.heap.size, 1, none⟩ = some (.slice none 0 0) := HNw.out.cell 1
      obtain ⟨b, o, A1, C1, rfl, hb, c1, -, -, s1⟩ := slRs_at (HX1.out.up he) hlt
      have HC := Lib.hid (fun W (hx : Ext wr W) => rlAccepts_any n none A1 0 0 C1 X[k] W (s1.up hx) (HOK.out.at_ hlt))
      have HDK := Lib.hid (HD.out.trans (errF_drop hlt))
      clear s1
      generalize X[k] = x at c1 HC HDK
      go_wp2
      go_still_tail 5, (by kernel_rfl)
      go_wp2_with fail
      refine (HC.out _ (Ext.refl _).drew).mono ?_
      rintro e w3 ⟨rfl, hx3⟩
      have HE3 := Lib.hid (HE.out.drew.trans hx3)
      clear HC c1 n0 n1 hx3
      by_cases hw : wrongF n x = 0
      · have hw2 : (wrongF n x != 0) = false := by simpa using hw
        have HDK2 := Lib.hid (HDK.out.trans (if_pos hw))
        clear hw
        generalize wrongF n x = q at *
        go_wp2
        go_roundw
        case rel => exact ⟨k + 1, by omega, by go_num, HDK2.out, HE3.out⟩
        case measure => simp [intOf]; omega
      · have hw2 : (wrongF n x != 0) = true := by simpa using hw
        have HDK2 := Lib.hid (HDK.out.trans (if_neg hw))
        have HNE := Lib.hid hw
        have r3 := HR.out.below HE3.out.below (by omega)
        have c0 : w3.cell? ⟨w.heap.size, 0, none⟩ = some (.int .i64 0) := r3.cell 0
        have c1 : w3.cell? ⟨w.heap.size, 1, none⟩ = some (.slice none 0 0) := r3.cell 1
        have f0 := r3.frozen 0
        have f1 := r3.frozen 1
        have HB3 := Lib.hid (Below.then HB.out HE3.out.below (by omega))
        clear hw r3
        generalize wrongF n x = q at *
        go_wp2
        refine bodyPost_ret (v := .tuple #[.agg #[.int .i64 0, .slice none 0 0], .int .i64 q]) (by simp [results, Tryz.results24, go_sem, c0, c1]) rfl ⟨?_, ?_, ?_⟩
        · intro h; rw [HDK2.out] at h; exact absurd h HNE.out
        · intro _; rw [HDK2.out]
        · exact (HB3.out.setCell (p := ⟨w.heap.size, 0, none⟩) (Nat.le_refl _) _).setCell (p := ⟨w.heap.size, 1, none⟩) (Nat.le_refl _) _
    · have HZ : Hid (errF n X = 0) := by
        show _ = _
        rw [HD.out, List.drop_of_length_le (by omega)]; rfl
      have HCL := Lib.hid (cloneRows_any A C X wr (HX1.out.up he) (by omega))
      go_wp2_with fail
      refine HCL.out.mono ?_
      rintro e w3 ⟨v3, rfl, hown3, -, hb3⟩
      have HO3 := Lib.hid hown3
      have HB3 := Lib.hid (Below.then (Below.then HB.out he.below (by omega)) hb3 (by have := he.size; omega))
      have r3 := (HR.out.below he.below (by omega)).below hb3 (by have := he.size; omega)
      have hbase := hown3.base
      have HR3 := Lib.hid r3
      have hwz : w.heap.size < wr.heap.size := by have := he.size; omega
      clear hown3 hb3 HCL r3
      by_cases hnil : X = []
      · subst hnil
        obtain ⟨A3, C3, rfl, hc3, hm3, -⟩ := HO3.out.sl
        simp only [List.length_nil] at *
        go_wp2_with fail
        refine (rlBuild_nil n A3 C3 _).mono ?_
        rintro e w4 ⟨rfl, hx4⟩
        have r4 := HR3.out.below hx4.below HR3.out.lt
        have c0 : w4.cell? ⟨w.heap.size, 0, none⟩ = some (.int .i64 0) := r4.cell 0
        have c1 : w4.cell? ⟨w.heap.size, 1, none⟩ = some (.slice none 0 0) := r4.cell 1
        have f0 := r4.frozen 0
        have f1 := r4.frozen 1
        have hz4 := r4.lt
        have HB4 := Lib.hid (Below.then HB3.out hx4.below HB3.out.size)
        have z0 : (w4.setCell ⟨w.heap.size, 0, none⟩ (.int .i64 n)).cell? ⟨w.heap.size, 0, none⟩ = some (.int .i64 n) := World.cell?_setCell_same _ _ _ c0
        have z1 : ((w4.setCell ⟨w.heap.size, 0, none⟩ (.int .i64 n)).setCell ⟨w.heap.size, 1, none⟩ (.slice A3 0 C3)).cell? ⟨w.heap.size, 1, none⟩ = some (.slice A3 0 C3) := World.cell?_setCell_same _ _ _ ((World.cell?_setCell_other _ _ _ _ (by simp)).trans c1)
        have Z0 := Lib.hid z0
        have Z1 := Lib.hid z1
        clear r4 hx4 z0 z1
        go_wp2
        refine bodyPost_ret (v := .tuple #[.agg #[.int .i64 n, .slice A3 0 C3], .int .i64 0]) (by simp [results, Tryz.results24, go_sem, Z0.out, Z1.out]) rfl ⟨?_, ?_, ?_⟩
        · intro _
          exact ⟨_, rfl, A3, C3, rfl, by simp [RL.ofF], hm3, FreshRs.nil⟩
        · intro h; exact absurd HZ.out h
        · exact (HB4.out.setCell (p := ⟨w.heap.size, 0, none⟩) (Nat.le_refl _) _).setCell (p := ⟨w.heap.size, 1, none⟩) (Nat.le_refl _) _
      · obtain ⟨g, cap, d, rfl, hcap, hcm, hgB, hds, hrows, hHB⟩ := HO3.out.hb HOK.out hnil
        have hpos : 1 ≤ X.length := by cases X with | nil => exact absurd rfl hnil | cons _ _ => simp
        have HBU := Lib.hid (rlBuild_any n cap hHB (by omega) (by omega) (by omega) hcm X hrows)
        rw [hds] at HBU
        have HG := Lib.hid hHB.lt
        clear hHB hrows hds hnil
        go_wp2_with fail
        refine HBU.out.mono ?_
        rintro e w4 ⟨rfl, hs4, hg4⟩
        have hne : w.heap.size ≠ g := by omega
        have r4 := HR3.out.grown hg4 (fun e => hne (by injection e))
        have c0 : w4.cell? ⟨w.heap.size, 0, none⟩ = some (.int .i64 0) := r4.cell 0
        have c1 : w4.cell? ⟨w.heap.size, 1, none⟩ = some (.slice none 0 0) := r4.cell 1
        have f0 := r4.frozen 0
        have f1 := r4.frozen 1
        have hz4 := r4.lt
        have HB4 := Lib.hid (HB3.out.grown hg4 (by have := HR3.out.lt; omega) (fun k hk => by injection hk with hk; omega))
        have z0 : (w4.setCell ⟨w.heap.size, 0, none⟩ (.int .i64 n)).cell? ⟨w.heap.size, 0, none⟩ = some (.int .i64 n) := World.cell?_setCell_same _ _ _ c0
        have z1 : ((w4.setCell ⟨w.heap.size, 0, none⟩ (.int .i64 n)).setCell ⟨w.heap.size, 1, none⟩ (.slice (some ⟨g, 0, none⟩) (RL.ofF X).length cap)).cell? ⟨w.heap.size, 1, none⟩ = some (.slice (some ⟨g, 0, none⟩) (RL.ofF X).length cap) := World.cell?_setCell_same _ _ _ ((World.cell?_setCell_other _ _ _ _ (by simp)).trans c1)
        have Z0 := Lib.hid z0
        have Z1 := Lib.hid z1
        have h3z := HR3.out.lt
        have HSL : Hid (FreshRs w.heap.size ((w4.setCell ⟨w.heap.size, 0, none⟩ (.int .i64 n)).setCell ⟨w.heap.size, 1, none⟩ (.slice (some ⟨g, 0, none⟩) (RL.ofF X).length cap)) (some ⟨g, 0, none⟩) (RL.ofF X)) := fun w'' hk => by
          have h := hs4 w'' (fun p hpl hp => by
            have hpn : p.block ≠ w.heap.size := by rcases hp with hp | hp <;> omega
            rw [hk p (by rcases hp with hp | hp <;> omega) (by simpa using hpl)]
            exact (far_cell (p := ⟨w.heap.size, 1, none⟩) (fun e => hpn e.symm) (far_cell (p := ⟨w.heap.size, 0, none⟩) (fun e => hpn e.symm) rfl)))
          simpa using h
        clear r4 hs4 hg4 z0 z1
        have hofl := RL.ofF_length_le X
        go_wp2
        refine bodyPost_ret (v := .tuple #[.agg #[.int .i64 n, .slice (some ⟨g, 0, none⟩) (RL.ofF X).length cap], .int .i64 0]) (by simp [results, Tryz.results24, go_sem, Z0.out, Z1.out]) rfl ⟨?_, ?_, ?_⟩
        · intro _
          exact ⟨_, rfl, _, cap, rfl, by omega, hcm, HSL.out⟩
        · intro h; exact absurd HZ.out h
        · exact (HB4.out.setCell (p := ⟨w.heap.size, 0, none⟩) (Nat.le_refl _) _).setCell (p := ⟨w.heap.size, 1, none⟩) (Nat.le_refl _) _
end
section
open Go.RowKit Go.Sort

theorem SlRs.hdrs {B : Nat} {w : World} {A : Option Addr} {Y : List RL.R} (h : SlRs B w A Y) : ∃ hs : List Value, hs.length = Y.length ∧ (∀ u ∈ hs, u.oneCell' = true) ∧ (∀ ad, A = some ad → ∀ j u, hs[j]? = some u → w.cell? (ad.add j) = some u) ∧ (A = none → Y = []) ∧
    ∀ i (h : i < Y.length), ∃ A' C', hs[i]? = some (.slice A' Y[i].length C') ∧ Y[i].length ≤ C' ∧ C' ≤ 9223372036854775807 ∧ SlR B w A' Y[i] := by
  by_cases hn : Y = []
  · subst hn
    exact ⟨[], rfl, by simp, fun _ _ j u hu => by simp at hu, fun _ => rfl, fun i hi => absurd hi (by simp)⟩
  obtain ⟨b, o, rfl, hb, hc⟩ := h hn
  refine ⟨(List.range Y.length).map fun i => (w.cell? ⟨b, o + i, none⟩).getD (.slice none 0 0), by simp, ?_, ?_, by simp, ?_⟩
  · intro u hu
    simp at hu
    obtain ⟨i, hi, rfl⟩ := hu
    obtain ⟨A', C', h1, _⟩ := hc i hi
    rw [h1]; rfl
  · intro ad e j u hu
    injection e with e
    subst e
    rw [Addr.add_lit]
    obtain ⟨hj, e⟩ := List.getElem?_eq_some_iff.1 hu
    simp at hj
    simp at e
    obtain ⟨A', C', h1, _⟩ := hc j hj
    rw [h1] at e ⊢
    rw [← e]; rfl
  · intro i hi
    obtain ⟨A', C', h1, h2, h3, h4⟩ := hc i hi
    refine ⟨A', C', ?_, h2, h3, h4⟩
    rw [List.getElem?_eq_getElem (by simpa using hi)]
    simp [h1]

theorem run_append_none {P : Program} (w : World) (base : Nat) (t ty e : TypeId) (i : TypeInfo) (size : Nat) (ht : P.underlying t = some (.slice e)) (hi : P.info? e = some i)
    (v : Value) (n : Nat) (xs : List Value) (hown : w.ownsRow base e size v n xs) (c : Nat) : (Builtin.append_ #[t, t] ty #[v, .slice none 0 c]).run P w = .ok v w := by
  rcases hown.2 with ⟨rfl, rfl⟩ | ⟨g, cap, cur, rfl, _, _, hnc, _⟩
  · simp [Builtin.append_, run_underlying ht, sizeOf, typeInfo, hi, Builtin.lenOf, Builtin.firstCells]
  · simp [Builtin.append_, run_underlying ht, sizeOf, typeInfo, hi, Builtin.lenOf, Builtin.firstCells, hnc, storeCells]

theorem OwnRs.many {w w' : World} {B : Nat} {E : TypeId} {v v' : Value} {X Y : List RL.R} {hs ns : List Value} (h1 : w.ownsRow B E 1 v X.length hs)
    (h2 : ∀ i (h : i < X.length), ∃ A' C', hs[i]? = some (.slice A' X[i].length C') ∧ X[i].length ≤ C' ∧ C' ≤ 9223372036854775807 ∧ SlR w.heap.size w A' X[i] ∧ (X[i] ≠ [] → ∀ ad, A' = some ad → v.ownBlock ≠ some ad.block))
    (hB : B ≤ w.heap.size) (hn : ∀ i (h : i < Y.length), ∃ A' C', ns[i]? = some (.slice A' Y[i].length C') ∧ Y[i].length ≤ C' ∧ C' ≤ 9223372036854775807 ∧ SlR B w A' Y[i])
    (hown : w'.ownsRow B E 1 v' (X.length + Y.length) (hs ++ ns)) (hg : w.grownBy w' v.ownBlock) (hat : v'.ownBlock = v.ownBlock ∨ v'.ownBlock = some w.heap.size) : OwnRs w' B E v' (X ++ Y) := by
  have hl : hs.length = X.length := by have := h1.1; omega
  refine ⟨hs ++ ns, by rw [List.length_append]; exact hown, fun i hi => ?_⟩
  have other : ∀ (y : RL.R) (A : Option Addr), SlR w.heap.size w A y → (y ≠ [] → ∀ ad, A = some ad → v.ownBlock ≠ some ad.block) → SlR w'.heap.size w' A y ∧ (y ≠ [] → ∀ ad, A = some ad → v'.ownBlock ≠ some ad.block) := fun y A g4 g5 => by
    refine ⟨g4.grown hg g5, fun hy ad e e2 => ?_⟩
    rcases hat with h3 | h3
    · exact g5 hy ad e (by rw [← h3]; exact e2)
    · obtain ⟨b, o, e', hb, _⟩ := g4 (by
        intro h0
        have := congrArg List.length h0
        rw [rcells_length] at this
        exact hy (List.eq_nil_of_length_eq_zero (by simp only [List.length_nil] at this; omega)))
      rw [e] at e'
      injection e' with e'
      rw [h3, e'] at e2
      injection e2 with e2
      simp only at e2
      omega
  by_cases hlt : i < X.length
  · obtain ⟨A, C, g1, g2, g3, g4, g5⟩ := h2 i hlt
    have e1 : (X ++ Y)[i] = X[i] := List.getElem_append_left hlt
    obtain ⟨k1, k2⟩ := other X[i] A g4 g5
    rw [e1]
    exact ⟨A, C, by rw [List.getElem?_append_left (by omega)]; exact g1, g2, g3, k1, k2⟩
  · have hi' : i - X.length < Y.length := by simp at hi; omega
    obtain ⟨A, C, g1, g2, g3, g4⟩ := hn (i - X.length) hi'
    have e1 : (X ++ Y)[i] = Y[i - X.length] := List.getElem_append_right (by omega)
    obtain ⟨k1, k2⟩ := other Y[i - X.length] A (g4.more hB) (fun hy ad e e2 => by
      obtain ⟨b, o, e', hb, _⟩ := g4 (by
        intro h0
        have := congrArg List.length h0
        rw [rcells_length] at this
        exact hy (List.eq_nil_of_length_eq_zero (by simp only [List.length_nil] at this; omega)))
      rw [e] at e'
      injection e' with e'
      have := own_base h1 e2
      rw [e'] at this
      simp only at this
      omega)
    rw [e1]
    exact ⟨A, C, by rw [List.getElem?_append_right (by omega), hl]; exact g1, g2, g3, k1, k2⟩

theorem appManyR7 {w : World} {ops : Array Oper} {rest : List Oper} {o : Oper} {a : Act} {Q : Exit → Act → World → Prop} (hgd : o.guard = none) (s x : Operand)
    (ho : o.op = .call { callee := .builtin .append, args := #[s, x], argTypes := #[43, 43] })
    (base : Nat) (v : Value) (X : List RL.R) (hs : a.eval s = v) (hown : OwnRs w base 103 v X)
    (A : Option Addr) (C : Nat) (Y : List RL.R) (hx : a.eval x = .slice A Y.length C) (hY : SlRs base w A Y)
    (hn : (X.length + Y.length) * 24 ≤ 140737488355328) (hbase : base ≤ w.heap.size)
    (h : ∀ v' w', OwnRs w' base 103 v' (X ++ Y) → w.grownBy w' v.ownBlock → wpList Tryz.prog ops Q rest (a.put o.dst v') w') : wpList Tryz.prog ops Q (o :: rest) a w := by
  obtain ⟨i0, hi0, hz0, hz1, hz2⟩ := info_parts r7rowInfo
  obtain ⟨hs0, h1, h2⟩ := hown
  obtain ⟨ns, hl, ho1, hcell, hnone, hrows⟩ := hY.hdrs
  refine wpList_plain hgd fun K hK => ?_
  rcases A with _ | ad
  · have hy := hnone rfl
    subst hy
    have hrun := run_append_none (P := Tryz.prog) w base 43 o.type 103 i0 1 Tryz.underlying43 hi0 v X.length hs0 h1 C
    unfold Oper.wp execOp
    simp only [List.length_nil] at hx
    simp only [ho, resolve, invoke, builtin, Sem.run_bind, Sem.run_pure, Result.andThen_ok, List.map_toArray, List.map_cons, List.map_nil, hs, hx, hrun]
    exact hK _ _ (h v w (by rw [List.append_nil]; exact ⟨hs0, h1, h2⟩) ⟨rfl, rfl, rfl, Nat.le_refl _, fun _ _ _ => rfl⟩)
  · obtain ⟨v', w', hrun, k2, k3, _, k5⟩ := run_append_own_at (P := Tryz.prog) w base 43 o.type 103 i0 _ 1 24 Tryz.underlying43 hi0 hz0 hz1 hz2 rfl (by decide) v X.length hs0 h1 ad Y.length C ns (by omega) (hcell ad rfl) ho1 (by simp only [maxLen]; omega) (by omega) hbase
    unfold Oper.wp execOp
    simp only [ho, resolve, invoke, builtin, Sem.run_bind, Sem.run_pure, Result.andThen_ok, List.map_toArray, List.map_cons, List.map_nil, hs, hx, hrun]
    exact hK _ _ (h v' w' (OwnRs.many h1 h2 hbase hrows k2 k3 k5) k3)
end
section
open Go.RowKit Go.Sort

def RowsIs (w : World) (X : List RL.R) (v : Value) : Prop := ∃ A C, v = .slice A X.length C ∧ X.length ≤ C ∧ C ≤ 9223372036854775807 ∧ SlRs w.heap.size w A X
theorem app_grown {w w' : World} {v : Value} {B : Nat} (h : w.grownBy w' v.ownBlock) (hv : ∀ k, v.ownBlock = some k → B ≤ k) (hB : B ≤ w.heap.size) : Below B w w' := (Below.refl B w).grown h hB hv

theorem ne_rcells {x : RL.R} (h : x ≠ []) : rcells x ≠ [] := fun h0 => by
  have := congrArg List.length h0
  rw [rcells_length] at this
  exact h (List.eq_nil_of_length_eq_zero (by simp only [List.length_nil] at this; omega))

set_option maxHeartbeats 2000000 in
theorem r7Insert_any (XA A : Option Addr) (XC C : Nat) (X : List RL.R) (r : RL.R) (w : World) (hX : SlRs w.heap.size w XA X) (hr : SlR w.heap.size w A r) (hXl : X.length ≤ 100000) (hXo : RsOk X) (hro : ROk r) (hXc : X.length ≤ XC) (hXm : XC ≤ 9223372036854775807) (hrc : r.length ≤ C) (hrm : C ≤ 9223372036854775807) :
    Calls Tryz.prog 65 #[.slice XA X.length XC, .slice A r.length C] w fun e w' => ∃ v, e = .returned v ∧ RowsIs w' (RL.insF X r) v ∧ Below w.heap.size w w' := by
  have HX := Lib.hid hX
  have HR := Lib.hid hr
  have HC := Lib.hid (r7Search_any XA A XC C X r w hX hr (by omega) hXo hro)
  have hrk := RL.rank_le X r
  clear hX hr hXo hro
  by_cases hm : r ∈ X
  · have HI : Hid (RL.insF X r = X) := by show _ = _; unfold RL.insF; rw [if_pos hm]
    have hd : decide (r ∈ X) = true := by simpa using hm
    rw [hd] at HC
    clear hm hd
    go_enter Tryz.func65, Tryz.ntmps65
    go_wp2_with fail
    refine HC.out.mono ?_
    rintro e w1 ⟨rfl, hx1⟩
    go_wp2
    go_ret
    refine ⟨_, rfl, ?_, hx1.below⟩
    rw [HI.out]
    exact ⟨XA, XC, rfl, hXc, hXm, HX.out.up hx1⟩
  · have HI : Hid (RL.insF X r = X.take (RL.rank X r) ++ [r] ++ X.drop (RL.rank X r)) := by show _ = _; unfold RL.insF; rw [if_neg hm]; simp
    have hd : decide (r ∈ X) = false := by simpa using hm
    rw [hd] at HC
    clear hm hd
    by_cases hlt : RL.rank X r < X.length
    · obtain ⟨b, o, -, -, rfl, hb, -, -, -, -⟩ := slRs_at HX.out hlt
      have HT := Lib.hid (HX.out.take (RL.rank X r))
      have HD := Lib.hid (HX.out.drop (RL.rank X r))
      have hle : RL.rank X r ≤ XC := by omega
      have hlt2 : RL.rank X r < XC := by omega
      have htl : (X.take (RL.rank X r)).length = RL.rank X r := by simp; omega
      have hdl : (X.drop (RL.rank X r)).length = X.length - RL.rank X r := by simp
      have HTL := Lib.hid htl
      have HDL := Lib.hid hdl
      clear htl hdl
      go_enter Tryz.func65, Tryz.ntmps65
      go_wp2_with fail
      refine HC.out.mono ?_
      rintro e w1 ⟨rfl, hx1⟩
      have hz1 := hx1.size
      have HB1 := Lib.hid hx1.below
      have HO1 := Lib.hid (OwnRs.nil w1 w.heap.size 103)
      go_wp2_with (first
        | (at_builtin; refine appManyR7 rfl (.tmp 16) (.tmp 19) rfl w.heap.size (.slice none 0 0) [] rfl HO1.out (some ⟨b, o, none⟩) XC (X.take (RL.rank X r)) (by rw [HTL.out]; rfl) (HT.out.ext (Nat.le_refl _) hx1) (by simp; omega) hz1 ?_
           intro v2 w2 hown2 hg2
           rw [List.nil_append] at hown2
           have HO2 := Lib.hid (hown2.keep ((Below.refl _ _).alloc (Nat.le_refl _) (.cells #[.slice A r.length C] 103)))
           have hb2 := Below.then HB1.out (app_grown (B := w.heap.size) hg2 (fun k hk => by simp [Value.ownBlock] at hk) hz1) (Nat.le_refl _)
           have hz2 := hb2.size
           have HB2 := Lib.hid (hb2.alloc hz2 (.cells #[.slice A r.length C] 103))
           clear hown2 hg2 hb2)
        | (at_builtin; refine app1R7 rfl (.tmp 21) (.tmp 23) rfl w.heap.size v2 (X.take (RL.rank X r)) rfl HO2.out w2.heap.size A C r rfl (by go_simp) ((HR.out.below HB2.out (Nat.le_refl _)).more (by simp; omega)) hrc hrm (fun hy ad e e2 => by have h4 := HO2.out.base _ e2; obtain ⟨b', o', e', hb', _⟩ := HR.out (ne_rcells hy); rw [e] at e'; injection e' with e'; rw [e'] at h4; simp only at h4; omega) (by have := HTL.out; omega) (by simp; omega) ?_
           intro v3 w3 hown3 hg3
           have HO3 := Lib.hid hown3
           have HB3 := Lib.hid (Below.then HB2.out (app_grown (B := w.heap.size) hg3 HO2.out.base (by simp; omega)) (Nat.le_refl _))
           have hz3 := HB3.out.size
           clear hown3 hg3)
        | (at_builtin; refine appManyR7 rfl (.tmp 25) (.tmp 28) rfl w.heap.size v3 (X.take (RL.rank X r) ++ [r]) rfl HO3.out (some ⟨b, o + RL.rank X r, none⟩) (XC - RL.rank X r) (X.drop (RL.rank X r)) (by rw [HDL.out]; rfl) (HD.out.below HB3.out (Nat.le_refl _)) (by simp; omega) hz3 ?_
           intro v4 w4 hown4 hg4
           have HO4 := Lib.hid hown4
           have HB4 := Lib.hid (Below.then HB3.out (app_grown (B := w.heap.size) hg4 HO3.out.base hz3) (Nat.le_refl _))
           clear hown4 hg4)
        | fail)
      go_ret
      exact ⟨_, rfl, by rw [HI.out]; exact HO4.out.sl, HB4.out⟩
    · have hrk2 : RL.rank X r = X.length := by omega
      rw [hrk2] at HI HC
      rw [List.take_of_length_le (Nat.le_refl _), List.drop_of_length_le (Nat.le_refl _), List.append_nil] at HI
      clear hrk hlt hrk2
      by_cases hcl : XC = X.length
      · subst hcl
        go_enter Tryz.func65, Tryz.ntmps65
        go_wp2_with fail
        refine HC.out.mono ?_
        rintro e w1 ⟨rfl, hx1⟩
        have hz1 := hx1.size
        have HB1 := Lib.hid hx1.below
        have HO1 := Lib.hid (OwnRs.nil w1 w.heap.size 103)
        go_wp2_with (first
          | (at_builtin; refine appManyR7 rfl (.tmp 16) (.tmp 19) rfl w.heap.size (.slice none 0 0) [] rfl HO1.out XA _ X rfl (HX.out.ext (Nat.le_refl _) hx1) (by simp; omega) hz1 ?_
             intro v2 w2 hown2 hg2
             rw [List.nil_append] at hown2
             have HO2 := Lib.hid (hown2.keep ((Below.refl _ _).alloc (Nat.le_refl _) (.cells #[.slice A r.length C] 103)))
             have hb2 := Below.then HB1.out (app_grown (B := w.heap.size) hg2 (fun k hk => by simp [Value.ownBlock] at hk) hz1) (Nat.le_refl _)
             have hz2 := hb2.size
             have HB2 := Lib.hid (hb2.alloc hz2 (.cells #[.slice A r.length C] 103))
             clear hown2 hg2 hb2)
          | (at_builtin; refine app1R7 rfl (.tmp 21) (.tmp 23) rfl w.heap.size v2 X rfl HO2.out w2.heap.size A C r rfl (by go_simp) ((HR.out.below HB2.out (Nat.le_refl _)).more (by simp; omega)) hrc hrm (fun hy ad e e2 => by have h4 := HO2.out.base _ e2; obtain ⟨b', o', e', hb', _⟩ := HR.out (ne_rcells hy); rw [e] at e'; injection e' with e'; rw [e'] at h4; simp only at h4; omega) (by omega) (by simp; omega) ?_
             intro v3 w3 hown3 hg3
             have HO3 := Lib.hid hown3
             have HB3 := Lib.hid (Below.then HB2.out (app_grown (B := w.heap.size) hg3 HO2.out.base (by simp; omega)) (Nat.le_refl _))
             have hz3 := HB3.out.size
             clear hown3 hg3)
          | (at_builtin; refine appManyR7 rfl (.tmp 25) (.tmp 28) rfl w.heap.size v3 (X ++ [r]) rfl HO3.out _ _ [] rfl SlRs.nil (by simp; omega) hz3 ?_
             intro v4 w4 hown4 hg4
             rw [List.append_nil] at hown4
             have HO4 := Lib.hid hown4
             have HB4 := Lib.hid (Below.then HB3.out (app_grown (B := w.heap.size) hg4 HO3.out.base hz3) (Nat.le_refl _))
             clear hown4 hg4)
          | fail)
        go_ret
        exact ⟨_, rfl, by rw [HI.out]; exact HO4.out.sl, HB4.out⟩
      · go_enter Tryz.func65, Tryz.ntmps65
        go_wp2_with fail
        refine HC.out.mono ?_
        rintro e w1 ⟨rfl, hx1⟩
        have hz1 := hx1.size
        have HB1 := Lib.hid hx1.below
        have HO1 := Lib.hid (OwnRs.nil w1 w.heap.size 103)
        go_wp2_with (first
          | (at_builtin; refine appManyR7 rfl (.tmp 16) (.tmp 19) rfl w.heap.size (.slice none 0 0) [] rfl HO1.out XA _ X rfl (HX.out.ext (Nat.le_refl _) hx1) (by simp; omega) hz1 ?_
             intro v2 w2 hown2 hg2
             rw [List.nil_append] at hown2
             have HO2 := Lib.hid (hown2.keep ((Below.refl _ _).alloc (Nat.le_refl _) (.cells #[.slice A r.length C] 103)))
             have hb2 := Below.then HB1.out (app_grown (B := w.heap.size) hg2 (fun k hk => by simp [Value.ownBlock] at hk) hz1) (Nat.le_refl _)
             have hz2 := hb2.size
             have HB2 := Lib.hid (hb2.alloc hz2 (.cells #[.slice A r.length C] 103))
             clear hown2 hg2 hb2)
          | (at_builtin; refine app1R7 rfl (.tmp 21) (.tmp 23) rfl w.heap.size v2 X rfl HO2.out w2.heap.size A C r rfl (by go_simp) ((HR.out.below HB2.out (Nat.le_refl _)).more (by simp; omega)) hrc hrm (fun hy ad e e2 => by have h4 := HO2.out.base _ e2; obtain ⟨b', o', e', hb', _⟩ := HR.out (ne_rcells hy); rw [e] at e'; injection e' with e'; rw [e'] at h4; simp only at h4; omega) (by omega) (by simp; omega) ?_
             intro v3 w3 hown3 hg3
             have HO3 := Lib.hid hown3
             have HB3 := Lib.hid (Below.then HB2.out (app_grown (B := w.heap.size) hg3 HO2.out.base (by simp; omega)) (Nat.le_refl _))
             have hz3 := HB3.out.size
             clear hown3 hg3)
          | (at_builtin; refine appManyR7 rfl (.tmp 25) (.tmp 28) rfl w.heap.size v3 (X ++ [r]) rfl HO3.out _ _ [] rfl SlRs.nil (by simp; omega) hz3 ?_
             intro v4 w4 hown4 hg4
             rw [List.append_nil] at hown4
             have HO4 := Lib.hid hown4
             have HB4 := Lib.hid (Below.then HB3.out (app_grown (B := w.heap.size) hg4 HO3.out.base hz3) (Nat.le_refl _))
             clear hown4 hg4)
          | fail)
        go_ret
        exact ⟨_, rfl, by rw [HI.out]; exact HO4.out.sl, HB4.out⟩

theorem ofF_snoc (X : List RL.R) (k : Nat) (h : k < X.length) : RL.ofF (X.take (k + 1)) = RL.insF (RL.ofF (X.take k)) X[k] := by
  unfold RL.ofF
  rw [List.take_succ_eq_append_getElem h, List.foldl_append]
  rfl
end
section
open Go.RowKit Go.Sort

def HR (P : Nat → Prop) (B : Nat) (w : World) (u : Value) (y : RL.R) : Prop :=
  ∃ A' C', u = .slice A' y.length C' ∧ y.length ≤ C' ∧ C' ≤ 9223372036854775807 ∧ SlR B w A' y ∧ (y ≠ [] → ∀ ad, A' = some ad → P ad.block)
def Hdrs (P : Nat → Prop) (B : Nat) (w : World) (hs : List Value) (Y : List RL.R) : Prop :=
  hs.length = Y.length ∧ ∀ (i : Nat) u y, hs[i]? = some u → Y[i]? = some y → HR P B w u y

theorem SlR.keepP {P : Nat → Prop} {B : Nat} {w w' : World} {A : Option Addr} {y : RL.R} (h : SlR B w A y) (hP : y ≠ [] → ∀ ad, A = some ad → P ad.block) (hk : ∀ p : Addr, p.block < B → P p.block → w'.cell? p = w.cell? p) : SlR B w' A y := fun hn => by
  have hy : y ≠ [] := by intro e; subst e; exact hn rfl
  obtain ⟨b, o, e, hb, hc⟩ := h hn
  have hp := hP hy _ e
  exact ⟨b, o, e, hb, fun i u hu => (hk ⟨b, o + i, none⟩ hb hp).trans (hc i u hu)⟩
theorem SlR.lt_of {B : Nat} {w : World} {A : Option Addr} {y : RL.R} (h : SlR B w A y) : y ≠ [] → ∀ ad, A = some ad → ad.block < B := fun hy ad e => by
  obtain ⟨b, o, e', hb, _⟩ := h (ne_rcells hy)
  rw [e] at e'
  injection e' with e'
  rw [e']
  exact hb

section
variable {P P' : Nat → Prop} {B B' : Nat} {w w' : World} {hs ks : List Value} {Y Z : List RL.R} {u : Value} {y : RL.R}
theorem HR.keep (h : HR P B w u y) (hk : ∀ p : Addr, p.block < B → P p.block → w'.cell? p = w.cell? p) : HR P B w' u y := by
  obtain ⟨A', C', h1, h2, h3, h4, h5⟩ := h
  exact ⟨A', C', h1, h2, h3, h4.keepP h5 hk, h5⟩
theorem HR.more (h : HR P B w u y) (hB : B ≤ B') : HR P B' w u y := by
  obtain ⟨A', C', h1, h2, h3, h4, h5⟩ := h
  exact ⟨A', C', h1, h2, h3, h4.more hB, h5⟩
theorem HR.weak (h : HR P B w u y) (hP : ∀ b, b < B → P b → P' b) : HR P' B w u y := by
  obtain ⟨A', C', h1, h2, h3, h4, h5⟩ := h
  exact ⟨A', C', h1, h2, h3, h4, fun hy ad e => hP _ (h4.lt_of hy ad e) (h5 hy ad e)⟩
theorem HR.one (h : HR P B w u y) : u.oneCell' = true := by
  obtain ⟨A', C', rfl, _⟩ := h
  rfl
theorem Hdrs.nil : Hdrs P B w [] [] := ⟨rfl, fun i u y h => by simp at h⟩
theorem Hdrs.one (h : HR P B w u y) : Hdrs P B w [u] [y] := ⟨rfl, fun i u' y' h1 h2 => by
  cases i with
  | zero => simp at h1 h2; subst h1 h2; exact h
  | succ i => simp at h1⟩
theorem Hdrs.append (h : Hdrs P B w hs Y) (k : Hdrs P B w ks Z) : Hdrs P B w (hs ++ ks) (Y ++ Z) := by
  refine ⟨by simp [h.1, k.1], fun i u y h1 h2 => ?_⟩
  have hl := h.1
  by_cases hi : i < hs.length
  · rw [List.getElem?_append_left hi] at h1
    rw [List.getElem?_append_left (by omega)] at h2
    exact h.2 i u y h1 h2
  · rw [List.getElem?_append_right (by omega)] at h1
    rw [List.getElem?_append_right (by omega), ← hl] at h2
    exact k.2 _ u y h1 h2
theorem Hdrs.take (h : Hdrs P B w hs Y) (n : Nat) : Hdrs P B w (hs.take n) (Y.take n) := by
  refine ⟨by simp [h.1], fun i u y h1 h2 => ?_⟩
  rw [List.getElem?_take] at h1 h2
  split at h1
  · rename_i hi
    rw [if_pos hi] at h2
    exact h.2 i u y h1 h2
  · cases h1
theorem Hdrs.drop (h : Hdrs P B w hs Y) (n : Nat) : Hdrs P B w (hs.drop n) (Y.drop n) := by
  refine ⟨by simp [h.1], fun i u y h1 h2 => ?_⟩
  rw [List.getElem?_drop] at h1 h2
  exact h.2 _ u y h1 h2
theorem Hdrs.keep (h : Hdrs P B w hs Y) (hk : ∀ p : Addr, p.block < B → P p.block → w'.cell? p = w.cell? p) : Hdrs P B w' hs Y := ⟨h.1, fun i u y h1 h2 => (h.2 i u y h1 h2).keep hk⟩
theorem Hdrs.more (h : Hdrs P B w hs Y) (hB : B ≤ B') : Hdrs P B' w hs Y := ⟨h.1, fun i u y h1 h2 => (h.2 i u y h1 h2).more hB⟩
theorem Hdrs.weak (h : Hdrs P B w hs Y) (hP : ∀ b, b < B → P b → P' b) : Hdrs P' B w hs Y := ⟨h.1, fun i u y h1 h2 => (h.2 i u y h1 h2).weak hP⟩
theorem Hdrs.cells (h : Hdrs P B w hs Y) : ∀ u ∈ hs, u.oneCell' = true := fun u hu => by
  obtain ⟨i, hi, rfl⟩ := List.getElem_of_mem hu
  exact (h.2 i _ (Y[i]'(by rw [← h.1]; exact hi)) (List.getElem?_eq_getElem hi) (List.getElem?_eq_getElem _)).one
theorem Hdrs.at_ (h : Hdrs P B w hs Y) {i : Nat} (hi : i < Y.length) : ∃ A' C', hs[i]? = some (.slice A' Y[i].length C') ∧ Y[i].length ≤ C' ∧ C' ≤ 9223372036854775807 ∧ SlR B w A' Y[i] ∧ (Y[i] ≠ [] → ∀ ad, A' = some ad → P ad.block) := by
  have hi' : i < hs.length := by rw [h.1]; exact hi
  obtain ⟨A', C', h1, h2⟩ := h.2 i _ _ (List.getElem?_eq_getElem hi') (List.getElem?_eq_getElem hi)
  exact ⟨A', C', by rw [List.getElem?_eq_getElem hi', h1], h2⟩
end

def SlRsP (P : Nat → Prop) (B : Nat) (w : World) (A : Option Addr) (X : List RL.R) : Prop :=
  X ≠ [] → ∃ b o, A = some ⟨b, o, none⟩ ∧ b < B ∧ P b ∧ ∃ hs, Hdrs P B w hs X ∧ ∀ i u, hs[i]? = some u → w.cell? ⟨b, o + i, none⟩ = some u

section
variable {P P' : Nat → Prop} {B B' : Nat} {w w' : World} {A : Option Addr} {X : List RL.R}
theorem SlRsP.nil : SlRsP P B w A [] := fun h => absurd rfl h
theorem SlRsP.sl (h : SlRsP P B w A X) : SlRs B w A X := fun hn => by
  obtain ⟨b, o, e, hb, _, hs, hH, hc⟩ := h hn
  refine ⟨b, o, e, hb, fun i hi => ?_⟩
  obtain ⟨A', C', g1, g2, g3, g4, _⟩ := hH.at_ hi
  exact ⟨A', C', hc i _ g1, g2, g3, g4⟩
theorem SlRsP.keep (h : SlRsP P B w A X) (hk : ∀ p : Addr, p.block < B → P p.block → w'.cell? p = w.cell? p) : SlRsP P B w' A X := fun hn => by
  obtain ⟨b, o, e, hb, hp, hs, hH, hc⟩ := h hn
  exact ⟨b, o, e, hb, hp, hs, hH.keep hk, fun i u hu => (hk ⟨b, o + i, none⟩ hb hp).trans (hc i u hu)⟩
theorem SlRsP.more (h : SlRsP P B w A X) (hB : B ≤ B') : SlRsP P B' w A X := fun hn => by
  obtain ⟨b, o, e, hb, hp, hs, hH, hc⟩ := h hn
  exact ⟨b, o, e, by omega, hp, hs, hH.more hB, hc⟩
theorem SlRsP.weak (h : SlRsP P B w A X) (hP : ∀ b, b < B → P b → P' b) : SlRsP P' B w A X := fun hn => by
  obtain ⟨b, o, e, hb, hp, hs, hH, hc⟩ := h hn
  exact ⟨b, o, e, hb, hP b hb hp, hs, hH.weak hP, hc⟩
theorem SlRsP.hdrs (h : SlRsP P B w A X) : ∃ hs, Hdrs P B w hs X ∧ (∀ ad, A = some ad → ∀ j u, hs[j]? = some u → w.cell? (ad.add j) = some u) ∧ (A = none → X = []) := by
  by_cases hn : X = []
  · subst hn
    exact ⟨[], Hdrs.nil, fun _ _ j u hu => by simp at hu, fun _ => rfl⟩
  obtain ⟨b, o, rfl, hb, hp, hs, hH, hc⟩ := h hn
  exact ⟨hs, hH, fun ad e j u hu => by injection e with e; subst e; rw [Addr.add_lit]; exact hc j u hu, fun e => by cases e⟩
end

theorem own_slrs {P : Nat → Prop} {w : World} {base B : Nat} {E : TypeId} {v : Value} {hs : List Value} {Y : List RL.R} (h : w.ownsRow base E 1 v Y.length hs) (hd : Hdrs P B w hs Y) (hB : B ≤ w.heap.size) (hP : ∀ b, base ≤ b → P b) :
    ∃ A C, v = .slice A Y.length C ∧ Y.length ≤ C ∧ C ≤ 9223372036854775807 ∧ SlRsP P w.heap.size w A Y := by
  have hl := hd.1
  obtain ⟨A, c, e1, hc, e3, hsl⟩ := Sl.of_own h
  rw [hl] at e1 hc
  refine ⟨A, c, e1, hc, ?_, fun hn => ?_⟩
  · rcases h.2 with ⟨g1, g0⟩ | ⟨g, cap, cur, g1, _, _, _, hm, _⟩
    · rw [g1] at e1; injection e1 with _ _ e3; omega
    · rw [g1] at e1; injection e1 with _ _ e3; unfold maxLen at hm; omega
  · obtain ⟨b, o, e, hb, hcell⟩ := hsl (by intro h0; rw [h0] at hl; exact hn (List.eq_nil_of_length_eq_zero hl.symm))
    refine ⟨b, o, e, hb, hP b (own_base h (k := b) (by rw [e1, e]; rfl)), hs, hd.more hB, hcell⟩

theorem own_grown {w w' : World} {base : Nat} {e : TypeId} {size : Nat} {v : Value} {n : Nat} {xs : List Value} {row : Option Nat} (h : w.ownsRow base e size v n xs) (hg : w.grownBy w' row) (hne : ∀ k, v.ownBlock = some k → some k ≠ row) : w'.ownsRow base e size v n xs := by
  have hlt := own_lt h
  refine ⟨h.1, ?_⟩
  rcases h.2 with h1 | ⟨g, cap, cur, h1, h2, h3, h4⟩
  · exact .inl h1
  · refine .inr ⟨g, cap, cur, h1, h2, ?_, h4⟩
    have ho : v.ownBlock = some g := by rw [h1]; rfl
    rw [hg.block g (hlt g ho) (hne g ho)]
    exact h3

theorem grown_trans {a w w' : World} {row : Option Nat} (h : a.grownBy w row) (k : w.grownBy w' row) : a.grownBy w' row :=
  ⟨k.os.trans h.os, k.tape.trans h.tape, k.output.trans h.output, Nat.le_trans h.size k.size, fun b hb hne => (k.block b (Nat.lt_of_lt_of_le hb h.size) hne).trans (h.block b hb hne)⟩
theorem Ext.grown {w w' : World} (h : Ext w w') (row : Option Nat) : w.grownBy w' row := by
  have hb := h.below
  exact ⟨hb.os, hb.tape, hb.output, hb.size, fun b hb' _ => hb.block b hb'⟩
theorem appH {w : World} {ops : Array Oper} {rest : List Oper} {o : Oper} {a : Act} {Q : Exit → Act → World → Prop} (hgd : o.guard = none) (s x : Operand)
    (ho : o.op = .call { callee := .builtin .append, args := #[s, x], argTypes := #[32, 32] })
    (base : Nat) (v : Value) (n : Nat) (hs : List Value) (hs0 : a.eval s = v) (hown : w.ownsRow base 69 1 v n hs)
    (A : Option Addr) (m C : Nat) (ns : List Value) (hm : ns.length = m) (hx : a.eval x = .slice A m C) (hcell : ∀ ad, A = some ad → ∀ j u, ns[j]? = some u → w.cell? (ad.add j) = some u) (hnone : A = none → ns = []) (ho1 : ∀ u ∈ ns, u.oneCell' = true)
    (hn : (n + m) * 24 ≤ 140737488355328) (hbase : base ≤ w.heap.size)
    (h : ∀ v' w', w'.ownsRow base 69 1 v' (n + m) (hs ++ ns) → w.grownBy w' v.ownBlock → (v'.ownBlock = v.ownBlock ∨ v'.ownBlock = some w.heap.size) → wpList Tryz.prog ops Q rest (a.put o.dst v') w') : wpList Tryz.prog ops Q (o :: rest) a w := by
  subst hm
  obtain ⟨i0, hi0, hz0, hz1, hz2⟩ := info_parts rowInfo
  refine wpList_plain hgd fun K hK => ?_
  rcases A with _ | ad
  · have hy := hnone rfl
    subst hy
    have hrun := run_append_none (P := Tryz.prog) w base 32 o.type 69 i0 1 Tryz.underlying32 hi0 v n hs hown C
    unfold Oper.wp execOp
    simp only [List.length_nil] at hx
    simp only [ho, resolve, invoke, builtin, Sem.run_bind, Sem.run_pure, Result.andThen_ok, List.map_toArray, List.map_cons, List.map_nil, hs0, hx, hrun]
    exact hK _ _ (h v w (by rw [List.append_nil]; exact hown) ⟨rfl, rfl, rfl, Nat.le_refl _, fun _ _ _ => rfl⟩ (.inl rfl))
  · obtain ⟨v', w', hrun, k2, k3, _, k5⟩ := run_append_own_at (P := Tryz.prog) w base 32 o.type 69 i0 _ 1 24 Tryz.underlying32 hi0 hz0 hz1 hz2 rfl (by decide) v n hs hown ad ns.length C ns (by omega) (hcell ad rfl) ho1 (by simp only [maxLen]; omega) (by omega) hbase
    unfold Oper.wp execOp
    simp only [ho, resolve, invoke, builtin, Sem.run_bind, Sem.run_pure, Result.andThen_ok, List.map_toArray, List.map_cons, List.map_nil, hs0, hx, hrun]
    exact hK _ _ (h v' w' k2 k3 k5)
theorem appH1 {w : World} {ops : Array Oper} {rest : List Oper} {o : Oper} {a : Act} {Q : Exit → Act → World → Prop} (hgd : o.guard = none) (s x : Operand)
    (ho : o.op = .call { callee := .builtin .append, args := #[s, x], argTypes := #[32, 32] })
    (base : Nat) (v : Value) (n : Nat) (hs : List Value) (hs0 : a.eval s = v) (hown : w.ownsRow base 69 1 v n hs)
    (gt : Nat) (u : Value) (hx : a.eval x = .slice (some ⟨gt, 0, none⟩) 1 1) (hg : w.cell? ⟨gt, 0, none⟩ = some u) (ho1 : u.oneCell' = true)
    (hn : (n + 1) * 24 ≤ 140737488355328) (hbase : base ≤ w.heap.size)
    (h : ∀ v' w', w'.ownsRow base 69 1 v' (n + 1) (hs ++ [u]) → w.grownBy w' v.ownBlock → (v'.ownBlock = v.ownBlock ∨ v'.ownBlock = some w.heap.size) → wpList Tryz.prog ops Q rest (a.put o.dst v') w') : wpList Tryz.prog ops Q (o :: rest) a w :=
  appH hgd s x ho base v n hs hs0 hown (some ⟨gt, 0, none⟩) 1 1 [u] rfl hx (fun ad e j u' hu => by
    injection e with e
    subst e
    rw [Addr.add_lit]
    cases j with
    | zero => simp at hu; subst hu; exact hg
    | succ j => simp at hu) (fun e => by cases e) (by simpa using ho1) hn hbase h
end
section
open Go.RowKit Go.Sort

def tailA (A : Option Addr) (k cap : Nat) : Option Addr := if cap = k then A else A.map (·.add k)
theorem SlRsP.head {P : Nat → Prop} {B : Nat} {w : World} {A : Option Addr} {X : List RL.R} (h : SlRsP P B w A X) (k : Nat) : SlRsP P B w A (X.take k) := fun hn => by
  obtain ⟨b, o, e, hb, hp, hs, hH, hc⟩ := h (by intro h0; apply hn; rw [h0]; simp)
  refine ⟨b, o, e, hb, hp, hs.take k, hH.take k, fun i u hu => ?_⟩
  rw [List.getElem?_take] at hu
  split at hu
  · exact hc i u hu
  · cases hu
theorem SlRsP.tail {P : Nat → Prop} {B : Nat} {w : World} {A : Option Addr} {X : List RL.R} {cap : Nat} (h : SlRsP P B w A X) (hc : X.length ≤ cap) (k : Nat) : SlRsP P B w (tailA A k cap) (X.drop k) := fun hn => by
  have hk : k < X.length := by
    rcases Nat.lt_or_ge k X.length with h1 | h1
    · exact h1
    · exact absurd (List.drop_of_length_le h1) hn
  obtain ⟨b, o, rfl, hb, hp, hs, hH, hcell⟩ := h (by intro h0; apply hn; rw [h0]; simp)
  refine ⟨b, o + k, ?_, hb, hp, hs.drop k, hH.drop k, fun i u hu => ?_⟩
  · unfold tailA
    rw [if_neg (by omega)]
    simp only [Option.map_some, Addr.add_lit]
  · rw [List.getElem?_drop] at hu
    rw [Nat.add_assoc]
    exact hcell _ u hu

theorem SlRsP.hdrs2 {P : Nat → Prop} {B : Nat} {w : World} {A : Option Addr} {X : List RL.R} (h : SlRsP P B w A X) : ∃ hs, Hdrs P B w hs X ∧ (∀ W : World, (∀ p : Addr, p.block < B → P p.block → W.cell? p = w.cell? p) → ∀ ad, A = some ad → ∀ j u, hs[j]? = some u → W.cell? (ad.add j) = some u) ∧ (A = none → hs = []) := by
  by_cases hn : X = []
  · subst hn
    exact ⟨[], Hdrs.nil, fun _ _ _ _ j u hu => by simp at hu, fun _ => rfl⟩
  obtain ⟨b, o, rfl, hb, hp, hs, hH, hc⟩ := h hn
  exact ⟨hs, hH, fun W hW ad e j u hu => by injection e with e; subst e; rw [Addr.add_lit]; exact (hW ⟨b, o + j, none⟩ hb hp).trans (hc j u hu), fun e => by cases e⟩
end
section
open Go.RowKit Go.Sort

def RowsP (P : Nat → Prop) (w : World) (X : List RL.R) (v : Value) : Prop := ∃ A C, v = .slice A X.length C ∧ X.length ≤ C ∧ C ≤ 9223372036854775807 ∧ SlRsP P w.heap.size w A X
theorem appG {w : World} {ops : Array Oper} {rest : List Oper} {o : Oper} {a : Act} {Q : Exit → Act → World → Prop} (hgd : o.guard = none) (s x : Operand)
    (ho : o.op = .call { callee := .builtin .append, args := #[s, x], argTypes := #[43, 43] })
    (base : Nat) (v : Value) (n : Nat) (hs : List Value) (hs0 : a.eval s = v) (hown : w.ownsRow base 103 1 v n hs)
    (A : Option Addr) (m C : Nat) (ns : List Value) (hm : ns.length = m) (hx : a.eval x = .slice A m C) (hcell : ∀ ad, A = some ad → ∀ j u, ns[j]? = some u → w.cell? (ad.add j) = some u) (hnone : A = none → ns = []) (ho1 : ∀ u ∈ ns, u.oneCell' = true)
    (hn : (n + m) * 24 ≤ 140737488355328) (hbase : base ≤ w.heap.size)
    (h : ∀ v' w', w'.ownsRow base 103 1 v' (n + m) (hs ++ ns) → w.grownBy w' v.ownBlock → (v'.ownBlock = v.ownBlock ∨ v'.ownBlock = some w.heap.size) → wpList Tryz.prog ops Q rest (a.put o.dst v') w') : wpList Tryz.prog ops Q (o :: rest) a w := by
  subst hm
  obtain ⟨i0, hi0, hz0, hz1, hz2⟩ := info_parts r7rowInfo
  refine wpList_plain hgd fun K hK => ?_
  rcases A with _ | ad
  · have hy := hnone rfl
    subst hy
    have hrun := run_append_none (P := Tryz.prog) w base 43 o.type 103 i0 1 Tryz.underlying43 hi0 v n hs hown C
    unfold Oper.wp execOp
    simp only [List.length_nil] at hx
    simp only [ho, resolve, invoke, builtin, Sem.run_bind, Sem.run_pure, Result.andThen_ok, List.map_toArray, List.map_cons, List.map_nil, hs0, hx, hrun]
    exact hK _ _ (h v w (by rw [List.append_nil]; exact hown) ⟨rfl, rfl, rfl, Nat.le_refl _, fun _ _ _ => rfl⟩ (.inl rfl))
  · obtain ⟨v', w', hrun, k2, k3, _, k5⟩ := run_append_own_at (P := Tryz.prog) w base 43 o.type 103 i0 _ 1 24 Tryz.underlying43 hi0 hz0 hz1 hz2 rfl (by decide) v n hs hown ad ns.length C ns (by omega) (hcell ad rfl) ho1 (by simp only [maxLen]; omega) (by omega) hbase
    unfold Oper.wp execOp
    simp only [ho, resolve, invoke, builtin, Sem.run_bind, Sem.run_pure, Result.andThen_ok, List.map_toArray, List.map_cons, List.map_nil, hs0, hx, hrun]
    exact hK _ _ (h v' w' k2 k3 k5)
theorem appG1 {w : World} {ops : Array Oper} {rest : List Oper} {o : Oper} {a : Act} {Q : Exit → Act → World → Prop} (hgd : o.guard = none) (s x : Operand)
    (ho : o.op = .call { callee := .builtin .append, args := #[s, x], argTypes := #[43, 43] })
    (base : Nat) (v : Value) (n : Nat) (hs : List Value) (hs0 : a.eval s = v) (hown : w.ownsRow base 103 1 v n hs)
    (gt : Nat) (u : Value) (hx : a.eval x = .slice (some ⟨gt, 0, none⟩) 1 1) (hg : w.cell? ⟨gt, 0, none⟩ = some u) (ho1 : u.oneCell' = true)
    (hn : (n + 1) * 24 ≤ 140737488355328) (hbase : base ≤ w.heap.size)
    (h : ∀ v' w', w'.ownsRow base 103 1 v' (n + 1) (hs ++ [u]) → w.grownBy w' v.ownBlock → (v'.ownBlock = v.ownBlock ∨ v'.ownBlock = some w.heap.size) → wpList Tryz.prog ops Q rest (a.put o.dst v') w') : wpList Tryz.prog ops Q (o :: rest) a w :=
  appG hgd s x ho base v n hs hs0 hown (some ⟨gt, 0, none⟩) 1 1 [u] rfl hx (fun ad e j u' hu => by
    injection e with e
    subst e
    rw [Addr.add_lit]
    cases j with
    | zero => simp at hu; subst hu; exact hg
    | succ j => simp at hu) (fun e => by cases e) (by simpa using ho1) hn hbase h

theorem elemR7 : Tryz.prog.elem 43 = 103 := by kernel_rfl
theorem underR7 : Tryz.prog.underlying 43 = some (.slice (Tryz.prog.elem 43)) := by kernel_rfl
theorem slTail7 (A : Option Addr) (len cap k : Nat) (h : k ≤ len) (W : World) : (Instr.slice 43 (.slice A len cap) (some (.int .i64 (k : Int))) none none).run Tryz.prog W = .ok (.slice (tailA A k cap) (len - k) (cap - k)) W := by
  rw [run_slice_l W 43 A len cap underR7 .i64 k (by omega) (by omega), elemR7, Tryz.sizeOf103]
  simp [tailA, sliced, Result.andThen]
theorem slHead7 (A : Option Addr) (len cap k : Nat) (h : k ≤ cap) (W : World) : (Instr.slice 43 (.slice A len cap) none (some (.int .i64 (k : Int))) none).run Tryz.prog W = .ok (.slice A k cap) W := by
  rw [run_slice_h W 43 A len cap underR7 .i64 k (by omega) (by omega), elemR7, Tryz.sizeOf103]
  cases A <;> simp [sliced, Addr.add, Result.andThen]

set_option maxHeartbeats 2000000 in
theorem r7Insert_P (P : Nat → Prop) (XA A : Option Addr) (XC C : Nat) (X : List RL.R) (r : RL.R) (w : World) (hX : SlRsP P w.heap.size w XA X) (hPn : ∀ b, w.heap.size ≤ b → P b) (hr : HR P w.heap.size w (.slice A r.length C) r) (hXl : X.length ≤ 100000) (hXo : RsOk X) (hro : ROk r) (hXc : X.length ≤ XC) (hXm : XC ≤ 9223372036854775807) :
    Calls Tryz.prog 65 #[.slice XA X.length XC, .slice A r.length C] w fun e w' => ∃ v, e = .returned v ∧ RowsP P w' (RL.insF X r) v ∧ Below w.heap.size w w' := by
  have HX := Lib.hid hX
  have HR := Lib.hid hr
  have HPN := Lib.hid hPn
  have HC := Lib.hid (r7Search_any XA A XC C X r w hX.sl (by obtain ⟨A', C', e, -, -, h4, -⟩ := hr; injection e with e1 _ _; subst e1; exact h4) (by omega) hXo hro)
  have hrk := RL.rank_le X r
  clear hX hr hXo hro hPn
  by_cases hm : r ∈ X
  · have HI : Hid (RL.insF X r = X) := by show _ = _; unfold RL.insF; rw [if_pos hm]
    have hd : decide (r ∈ X) = true := by simpa using hm
    rw [hd] at HC
    clear hm hd
    go_enter Tryz.func65, Tryz.ntmps65
    go_wp2_with fail
    refine HC.out.mono ?_
    rintro e w1 ⟨rfl, hx1⟩
    go_wp2
    go_ret
    refine ⟨_, rfl, ?_, hx1.below⟩
    rw [HI.out]
    exact ⟨XA, XC, rfl, hXc, hXm, (HX.out.keep (fun p hp _ => hx1.below.cell hp)).more hx1.size⟩
  · have HI : Hid (RL.insF X r = X.take (RL.rank X r) ++ [r] ++ X.drop (RL.rank X r)) := by show _ = _; unfold RL.insF; rw [if_neg hm]; simp
    have hd : decide (r ∈ X) = false := by simpa using hm
    rw [hd] at HC
    clear hm hd
    generalize RL.rank X r = k at *
    have hst := slTail7 XA X.length XC k hrk
    have hsh := slHead7 XA X.length XC k (by omega)
    obtain ⟨TA, hTA⟩ : ∃ TA, TA = tailA XA k XC := ⟨_, rfl⟩
    rw [← hTA] at hst
    have HTAIL : Hid (SlRsP P w.heap.size w TA (X.drop k)) := by rw [hTA]; exact HX.out.tail hXc k
    have HHEAD := Lib.hid (HX.out.head k)
    have htl : (X.take k).length = k := by simp; omega
    have hdl : (X.drop k).length = X.length - k := by simp
    clear hTA
    obtain ⟨h1s, hH1, hc1, hnn1⟩ := HHEAD.out.hdrs2
    obtain ⟨h2s, hH2, hc2, hnn2⟩ := HTAIL.out.hdrs2
    have e1l := hH1.1
    have e2l := hH2.1
    rw [htl] at e1l
    rw [hdl] at e2l
    have HH1 := Lib.hid hH1
    have HH2 := Lib.hid hH2
    have HC1 := Lib.hid hc1
    have HC2 := Lib.hid hc2
    have HN1 := Lib.hid hnn1
    have HN2 := Lib.hid hnn2
    have HL1 := Lib.hid e1l
    have HL2 := Lib.hid e2l
    clear hH1 hH2 hc1 hc2 hnn1 hnn2 e1l e2l htl hdl HTAIL HHEAD
    go_enter Tryz.func65, Tryz.ntmps65
    go_wp2_with fail
    refine HC.out.mono ?_
    rintro e w1 ⟨rfl, hx1⟩
    have hz1 := hx1.size
    have HB1 := Lib.hid hx1.below
    clear hx1 HC
    have HO1 := Lib.hid (own_nil w1 w.heap.size 103 1)
    go_wp2_with (first
      | (at_builtin; refine appG rfl (.tmp 16) (.tmp 19) rfl w.heap.size (.slice none 0 0) 0 [] rfl HO1.out XA k XC h1s HL1.out rfl (HC1.out _ (fun p hp _ => HB1.out.cell (by omega))) HN1.out HH1.out.cells (by omega) hz1 ?_
         intro v2 w2 hown2 hg2 _
         have HO2 := Lib.hid (hown2.alloc (.cells #[.slice A r.length C] 103))
         have hb2 := Below.then HB1.out (app_grown (B := w.heap.size) hg2 (fun k hk => by simp [Value.ownBlock] at hk) hz1) (Nat.le_refl _)
         have hz2 := hb2.size
         have HB2 := Lib.hid (hb2.alloc hz2 (.cells #[.slice A r.length C] 103))
         clear hown2 hg2 hb2)
      | (at_builtin; refine appG1 rfl (.tmp 21) (.tmp 23) rfl w.heap.size v2 (0 + k) ([] ++ h1s) rfl HO2.out w2.heap.size (.slice A r.length C) rfl (by go_simp) rfl (by omega) (by simp; omega) ?_
         intro v3 w3 hown3 hg3 _
         have HO3 := Lib.hid hown3
         have HB3 := Lib.hid (Below.then HB2.out (app_grown (B := w.heap.size) hg3 (fun g hk => own_base HO2.out hk) (by simp; omega)) (Nat.le_refl _))
         have hz3 := HB3.out.size
         clear hown3 hg3)
      | (at_builtin; refine appG rfl (.tmp 25) (.tmp 28) rfl w.heap.size v3 (0 + k + 1) ([] ++ h1s ++ [.slice A r.length C]) rfl HO3.out TA (X.length - k) (XC - k) h2s HL2.out rfl (HC2.out _ (fun p hp _ => HB3.out.cell (by omega))) HN2.out HH2.out.cells (by omega) hz3 ?_
         intro v4 w4 hown4 hg4 _
         have HO4 := Lib.hid hown4
         have HB4 := Lib.hid (Below.then HB3.out (app_grown (B := w.heap.size) hg4 (fun g hk => own_base HO3.out hk) hz3) (Nat.le_refl _))
         clear hown4 hg4)
      | fail)
    go_ret
    refine ⟨_, rfl, ?_, HB4.out⟩
    rw [HI.out]
    have hk : ∀ p : Addr, p.block < w.heap.size → P p.block → w4.cell? p = w.cell? p := fun p hp _ => HB4.out.cell hp
    have hH := ((HH1.out.keep hk).append (Hdrs.one (HR.out.keep hk))).append (HH2.out.keep hk)
    have ho := HO4.out
    rw [List.nil_append] at ho
    rw [show 0 + k + 1 + (X.length - k) = (X.take k ++ [r] ++ X.drop k).length by simp; omega] at ho
    exact own_slrs ho hH HB4.out.size HPN.out
end
section
open Go.RowKit Go.Sort

theorem SlR.not_pair {w : World} {A : Option Addr} {x : RL.R} {rb : Nat} {E : TypeId} {u0 u1 : Value} (h : SlR w.heap.size w A x) (hr : Row w rb E [u0, u1]) : x ≠ [] → ∀ ad, A = some ad → ad.block ≠ rb := fun hx ad e e2 => by
  cases x with
  | nil => exact hx rfl
  | cons v y =>
    obtain ⟨b, o, e', hb, _, _, c3⟩ := slR_at h (i := 0) (by simp)
    rw [e] at e'
    injection e' with e'
    subst e'
    simp only at e2
    subst e2
    rw [hr.cell] at c3
    simp at c3
theorem OwnRs.far {w : World} {B : Nat} {E : TypeId} {v : Value} {X : List RL.R} {rb i : Nat} {T : TypeId} {u0 u1 : Value} (h : OwnRs w B E v X) (hr : Row w rb T [u0, u1]) (hB : rb < B) (u : Value) : OwnRs (w.setCell ⟨rb, i, none⟩ u) B E v X := by
  have hbase := h.base
  obtain ⟨hs, h1, h2⟩ := h
  refine ⟨hs, own_far h1 (p := ⟨rb, i, none⟩) (fun e => by have := hbase _ e; simp only at this; omega) u, fun j hj => ?_⟩
  obtain ⟨A', C', g1, g2, g3, g4, g5⟩ := h2 j hj
  exact ⟨A', C', g1, g2, g3, g4.far (p := ⟨rb, i, none⟩) u (g4.not_pair hr), g5⟩
end
end Go.Proofs.YthgaflmldbgbnaaGreatDoor

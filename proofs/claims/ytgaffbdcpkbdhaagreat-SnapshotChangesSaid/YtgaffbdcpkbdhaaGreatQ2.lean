/- Parts of the proof, merged: RSet, V10, V11, E4, V12, V19, E5, V20, E6, Z0, Z1, V23, Z2, Z3, Z4, Z5. -/
import Derived.Test.YtgaffbdcpkbdhaaGreatQ1
import Derived.Maps.AppendAt
import Derived.Maps.OwnSet
import Derived.Maps.RangeWalk
import Derived.StringKeys
import Derived.Shelf.SlMaps.Clone
import Derived.IntWalk

section
/- Plain: sorted sets of rows: insertion, deletion, the set of a list; strictly sorted lists are told by their members. -/
namespace Go.Proofs.YtgaffbdcpkbdhaaGreat.RL

theorem SS.nodup {X : List R} (h : SS X) : X.Nodup := h.imp fun hab e => by rw [e, tot_cmpR.self] at hab; omega
theorem SS.ext : ∀ {X Y : List R}, SS X → SS Y → (∀ r, r ∈ X ↔ r ∈ Y) → X = Y
  | [], [], _, _, _ => rfl
  | [], y :: Y, _, _, h => by have := (h y).2 (by simp); simp at this
  | x :: X, [], _, _, h => by have := (h x).1 (by simp); simp at this
  | x :: X, y :: Y, hX, hY, h => by
    have e : x = y := by
      rcases List.mem_cons.1 ((h x).1 (by simp)) with e | hx
      · exact e
      · rcases List.mem_cons.1 ((h y).2 (by simp)) with e | hy
        · exact e.symm
        · have h1 := hY.head x hx
          have h2 := hX.head y hy
          rw [tot_cmpR.sw y x] at h2
          omega
    subst e
    congr 1
    refine SS.ext hX.tail hY.tail fun r => ?_
    have hr := h r
    simp only [List.mem_cons] at hr
    constructor
    · intro hm
      rcases hr.1 (.inr hm) with e | h'
      · subst e; have := hX.head _ hm; rw [tot_cmpR.self] at this; omega
      · exact h'
    · intro hm
      rcases hr.2 (.inr hm) with e | h'
      · subst e; have := hY.head _ hm; rw [tot_cmpR.self] at this; omega
      · exact h'

/-- Insertion of a row that may be present. -/
def insF (X : List R) (r : R) : List R := if r ∈ X then X else X.take (rank X r) ++ r :: X.drop (rank X r)
theorem mem_insF (X : List R) (r y : R) : y ∈ insF X r ↔ y ∈ X ∨ y = r := by
  unfold insF
  split
  · rename_i h
    constructor
    · exact .inl
    · rintro (h' | rfl)
      · exact h'
      · exact h
  · rw [List.mem_append, List.mem_cons]
    conv => rhs; rw [← List.take_append_drop (rank X r) X, List.mem_append]
    constructor
    · rintro (h | h | h)
      · exact .inl (.inl h)
      · exact .inr h
      · exact .inl (.inr h)
    · rintro ((h | h) | h)
      · exact .inl h
      · exact .inr (.inr h)
      · exact .inr (.inl h)
theorem SS.take {X : List R} (h : SS X) (k : Nat) : SS (X.take k) := List.Pairwise.sublist (List.take_sublist k X) h
theorem SS.drop {X : List R} (h : SS X) (k : Nat) : SS (X.drop k) := List.Pairwise.sublist (List.drop_sublist k X) h
theorem SS.filter {X : List R} (h : SS X) (p : R → Bool) : SS (X.filter p) := List.Pairwise.sublist List.filter_sublist h
theorem lt_rank {X : List R} (h : SS X) (r : R) : ∀ y ∈ X.take (rank X r), cmpR y r < 0 := fun y hy => by
  obtain ⟨i, hi, rfl⟩ := List.getElem_of_mem hy
  simp at hi
  rw [List.getElem_take]
  exact (rank_split h r).1 i (by omega) (by omega)
theorem ge_rank {X : List R} (h : SS X) (r : R) : ∀ y ∈ X.drop (rank X r), 0 ≤ cmpR y r := fun y hy => by
  obtain ⟨i, hi, rfl⟩ := List.getElem_of_mem hy
  simp at hi
  rw [List.getElem_drop]
  exact (rank_split h r).2 _ (by omega) (by omega)
theorem SS.ins {X : List R} (h : SS X) (r : R) : SS (insF X r) := by
  unfold insF
  split
  · exact h
  · rename_i hn
    have gt : ∀ y ∈ X.drop (rank X r), cmpR r y < 0 := fun y hy => by
      have h1 := ge_rank h r y hy
      have h2 : cmpR y r ≠ 0 := fun e => hn (by rw [← (tot_cmpR.z _ _).1 e]; exact List.mem_of_mem_drop hy)
      rw [tot_cmpR.sw y r]
      omega
    unfold SS
    rw [List.pairwise_append]
    refine ⟨h.take _, List.pairwise_cons.2 ⟨gt, h.drop _⟩, fun a ha b hb => ?_⟩
    have h1 := lt_rank h r a ha
    rcases List.mem_cons.1 hb with rfl | hb
    · exact h1
    · exact tot_cmpR.tr _ _ _ h1 (gt b hb)

/-- The set of a list of rows. -/
def ofF (X : List R) : List R := X.foldl insF []
theorem foldl_ins : ∀ (X acc : List R), SS acc → SS (X.foldl insF acc) ∧ ∀ y, y ∈ X.foldl insF acc ↔ y ∈ acc ∨ y ∈ X
  | [], acc, h => ⟨h, fun y => by simp⟩
  | x :: X, acc, h => by
    obtain ⟨h1, h2⟩ := foldl_ins X (insF acc x) (h.ins x)
    refine ⟨h1, fun y => ?_⟩
    show y ∈ X.foldl insF (insF acc x) ↔ _
    rw [h2 y, mem_insF]
    simp only [List.mem_cons]
    constructor
    · rintro ((h | h) | h)
      · exact .inl h
      · exact .inr (.inl h)
      · exact .inr (.inr h)
    · rintro (h | h | h)
      · exact .inl (.inl h)
      · exact .inl (.inr h)
      · exact .inr h
theorem ss_nil : SS [] := List.Pairwise.nil
theorem SS.of (X : List R) : SS (ofF X) := (foldl_ins X [] ss_nil).1
theorem mem_ofF (X : List R) (y : R) : y ∈ ofF X ↔ y ∈ X := by rw [ofF, (foldl_ins X [] ss_nil).2 y]; simp
theorem ofF_eq {X Y : List R} (h : SS Y) (hm : ∀ r, r ∈ Y ↔ r ∈ X) : ofF X = Y := SS.ext (SS.of X) h fun r => by rw [mem_ofF, hm]
theorem ofF_self {X : List R} (h : SS X) : ofF X = X := ofF_eq h fun _ => Iff.rfl
theorem insF_length_le (X : List R) (r : R) : (insF X r).length ≤ X.length + 1 := by
  unfold insF
  split
  · omega
  · have := rank_le X r; simp; omega
theorem foldl_ins_length : ∀ (X acc : List R), (X.foldl insF acc).length ≤ acc.length + X.length
  | [], acc => by simp
  | x :: X, acc => by
    have h1 := foldl_ins_length X (insF acc x)
    have h2 := insF_length_le acc x
    show (X.foldl insF (insF acc x)).length ≤ _
    simp; omega
theorem ofF_length_le (X : List R) : (ofF X).length ≤ X.length := by have := foldl_ins_length X []; simpa [ofF] using this

/-- Deletion. -/
def delF (X : List R) (r : R) : List R := X.filter fun y => !decide (cmpR y r = 0)
theorem mem_delF (X : List R) (r y : R) : y ∈ delF X r ↔ y ∈ X ∧ y ≠ r := by simp [delF, tot_cmpR.z]
theorem SS.del {X : List R} (h : SS X) (r : R) : SS (delF X r) := h.filter _

/-- Of an ascending list the places that differ from the one before. -/
theorem dedup_ss {X : List R} (h : X.Pairwise fun a b => cmpR a b ≤ 0) (kp : Nat → Bool) (hk : ∀ j (hj : j < X.length), kp j = (decide (j = 0) || !decide (X[j] = X[j - 1]))) :
    SS (((List.range X.length).filter kp).map fun j => X.getD j []) ∧ ∀ r, r ∈ ((List.range X.length).filter kp).map (fun j => X.getD j []) ↔ r ∈ X := by
  have hle : ∀ i j (hj : j < X.length) (hij : i ≤ j), cmpR (X[i]'(by omega)) X[j] ≤ 0 := fun i j hj hij => by
    rcases Nat.lt_or_eq_of_le hij with h1 | rfl
    · exact List.pairwise_iff_getElem.1 h i j (by omega) hj h1
    · rw [tot_cmpR.self]; omega
  have gd : ∀ j (hj : j < X.length), X.getD j [] = X[j] := fun j hj => by simp [List.getD, hj]
  refine ⟨?_, fun r => ⟨fun hm => ?_, fun hm => ?_⟩⟩
  · unfold SS
    rw [List.pairwise_map]
    have h1 : ((List.range X.length).filter kp).Pairwise (· < ·) := List.Pairwise.sublist List.filter_sublist List.pairwise_lt_range
    refine List.Pairwise.imp_of_mem (fun {a b} ha hb hab => ?_) h1
    rw [List.mem_filter, List.mem_range] at ha hb
    rw [gd a ha.1, gd b hb.1]
    have hkb := hb.2
    rw [hk b hb.1] at hkb
    have hne : X[b] ≠ X[b - 1] := by
      simp only [Bool.or_eq_true, decide_eq_true_eq, Bool.not_eq_true', decide_eq_false_iff_not] at hkb
      rcases hkb with h0 | h0
      · omega
      · exact h0
    have g1 := hle a (b - 1) (by omega) (by omega)
    have g2 := hle (b - 1) b hb.1 (by omega)
    have g3 : cmpR X[b - 1] X[b] ≠ 0 := fun e => hne ((tot_cmpR.z _ _).1 e).symm
    exact tot_cmpR.lt_of_le_of_lt g1 (by omega)
  · obtain ⟨j, hj, rfl⟩ := List.mem_map.1 hm
    rw [List.mem_filter, List.mem_range] at hj
    rw [gd j hj.1]
    exact List.getElem_mem hj.1
  · obtain ⟨j, hj, rfl⟩ := List.getElem_of_mem hm
    clear hm
    induction j with
    | zero => exact List.mem_map.2 ⟨0, by rw [List.mem_filter, List.mem_range]; exact ⟨hj, by rw [hk 0 hj]; simp⟩, gd 0 hj⟩
    | succ j ih =>
      cases hkj : kp (j + 1) with
      | true => exact List.mem_map.2 ⟨j + 1, by rw [List.mem_filter, List.mem_range]; exact ⟨hj, hkj⟩, gd _ hj⟩
      | false =>
        rw [hk (j + 1) hj] at hkj
        simp at hkj
        rw [hkj]
        exact ih (by omega)

end Go.Proofs.YtgaffbdcpkbdhaaGreat.RL
end

section
/- Walk: relation.build. -/
namespace Go.Proofs.YtgaffbdcpkbdhaaGreat
open Go.RowKit Go.Sort Go.Shelf Go.Lib

section
variable {w0 wr : World} {g off : Nat}
def El.lift (hg : w0.grownBy wr (some g)) (e : El w0 g) : El wr g := ⟨e.val, e.row, by
  obtain ⟨A', C', h1, h2, h3, h4, h5, h6⟩ := e.row_at hg
  exact ⟨A', C', h1, h2, h3, h4, h5, h6⟩⟩
theorem HB.lift {d : Array (El w0 g)} (h : HB w0 wr g off d) : HB wr wr g off (d.map (El.lift h.grown)) := by
  refine ⟨⟨rfl, rfl, rfl, Nat.le_refl _, fun _ _ _ => rfl⟩, fun j hj => ?_, h.lt'⟩
  simp only [Array.size_map] at hj
  obtain ⟨h1, h2⟩ := h.holds j hj
  refine ⟨?_, h2⟩
  rw [h1]
  have e : (d.map (El.lift h.grown))[j]! = El.lift h.grown d[j]! := by simp [hj]
  rw [e]
  rfl
theorem lift_rows {d : Array (El w0 g)} (hg : w0.grownBy wr (some g)) : (d.map (El.lift hg)).toList.map El.row = d.toList.map El.row := by
  rw [Array.toList_map, List.map_map]
  rfl

/-- Every header of block g from off on reads the row that it should. -/
def GoodH (w : World) (g off : Nat) (Y : List RL.R) : Prop := ∀ i (h : i < Y.length), ∃ A' C', w.cell? ⟨g, off + i, none⟩ = some (.slice A' Y[i].length C') ∧ Y[i].length ≤ C' ∧ C' ≤ 9223372036854775807 ∧ SlR w.heap.size w A' Y[i] ∧ (Y[i] ≠ [] → ∀ ad, A' = some ad → ad.block ≠ g) ∧ w.frozen? ⟨g, off + i, none⟩ = false
theorem HB.good {d : Array (El w0 g)} (h : HB w0 wr g off d) : GoodH wr g off (d.toList.map El.row) := fun i hi => by
  simp only [List.length_map, Array.length_toList] at hi
  obtain ⟨c1, c2⟩ := h.holds i hi
  obtain ⟨A', C', h1, h2, h3, h4, _, h6⟩ := (d[i]!).row_at h.grown
  have e : (d.toList.map El.row)[i]'(by simpa using hi) = (d[i]!).row := by simp [hi]
  rw [e]
  exact ⟨A', C', by rw [c1, h1], h2, h3, h4, h6, c2⟩
theorem GoodH.keep {w w' : World} {Y : List RL.R} (h : GoodH w g off Y) (hb : Below w.heap.size w w') (hg : g < w.heap.size) : GoodH w' g off Y := fun i hi => by
  obtain ⟨A', C', h1, h2, h3, h4, h5, h6⟩ := h i hi
  exact ⟨A', C', (hb.cell (p := ⟨g, off + i, none⟩) hg).trans h1, h2, h3, h4.upB hb, h5, (hb.frozen (p := ⟨g, off + i, none⟩) hg).trans h6⟩
theorem GoodH.set {w : World} {Y : List RL.R} (h : GoodH w g off Y) {k : Nat} (hk : k < Y.length) {A' : Option Addr} {C' : Nat} (hc : Y[k].length ≤ C') (hm : C' ≤ 9223372036854775807) (hr : SlR w.heap.size w A' Y[k]) (hne : Y[k] ≠ [] → ∀ ad, A' = some ad → ad.block ≠ g) : GoodH (w.setCell ⟨g, off + k, none⟩ (.slice A' Y[k].length C')) g off Y := fun i hi => by
  obtain ⟨A2, C2, h1, h2, h3, h4, h5, h6⟩ := h i hi
  by_cases e : i = k
  · subst e
    exact ⟨A', C', World.cell?_setCell_same _ _ _ h1, hc, hm, hr.far _ (fun hy ad e => hne hy ad e), hne, by rw [World.frozen?_setCell]; exact h6⟩
  · exact ⟨A2, C2, (World.cell?_setCell_other _ _ _ _ (by intro e3; simp only [Addr.mk.injEq] at e3; omega)).trans h1, h2, h3, h4.far _ (fun hy ad e => h5 hy ad e), h5, by rw [World.frozen?_setCell]; exact h6⟩
/-- The rows of the first k headers lie behind block rb. -/
def FreshH (w : World) (g off rb : Nat) (Y : List RL.R) (k : Nat) : Prop := ∀ i (_h : i < Y.length), i < k → ∀ A' n C', w.cell? ⟨g, off + i, none⟩ = some (.slice A' n C') → ∀ ad, A' = some ad → rb < ad.block
theorem FreshH.keep {w w' : World} {rb k : Nat} {Y : List RL.R} (h : FreshH w g off rb Y k) (hb : Below w.heap.size w w') (hg : g < w.heap.size) : FreshH w' g off rb Y k := fun i hi hk A' n C' hc =>
  h i hi hk A' n C' ((hb.cell (p := ⟨g, off + i, none⟩) hg).symm.trans hc)
theorem FreshH.set {w : World} {rb k : Nat} {Y : List RL.R} (h : FreshH w g off rb Y k) {A : Option Addr} {n C : Nat} {u : Value} (hu : w.cell? ⟨g, off + k, none⟩ = some u) (hf : ∀ ad, A = some ad → rb < ad.block) : FreshH (w.setCell ⟨g, off + k, none⟩ (.slice A n C)) g off rb Y (k + 1) := fun i hi hk A' n' C' hc ad e => by
  by_cases he : i = k
  · subst he
    rw [World.cell?_setCell_same _ _ _ hu] at hc
    simp at hc
    exact hf ad (by rw [hc.1]; exact e)
  · rw [World.cell?_setCell_other _ _ _ _ (by intro e3; simp only [Addr.mk.injEq] at e3; omega)] at hc
    exact h i hi (by omega) A' n' C' hc ad e
/-- Behind two stores into block rb the rows still read, and it takes only block g and the blocks from rb on. -/
theorem GoodH.final {w : World} {rb : Nat} {Y : List RL.R} (h : GoodH w g off Y) (hf : FreshH w g off rb Y Y.length) (hg : g < w.heap.size) (hne : rb ≠ g) (u0 u1 : Value) (w'' : World)
    (hk : ∀ p : Addr, p.block < ((w.setCell ⟨rb, 0, none⟩ u0).setCell ⟨rb, 1, none⟩ u1).heap.size → (rb ≤ p.block ∨ p.block = g) → w''.cell? p = ((w.setCell ⟨rb, 0, none⟩ u0).setCell ⟨rb, 1, none⟩ u1).cell? p) : SlRs ((w.setCell ⟨rb, 0, none⟩ u0).setCell ⟨rb, 1, none⟩ u1).heap.size w'' (some ⟨g, off, none⟩) Y := fun _ => ⟨g, off, rfl, by simpa using hg, fun i hi => by
  obtain ⟨A', C', h1, h2, h3, h4, _⟩ := h i hi
  refine ⟨A', C', (hk ⟨g, off + i, none⟩ (by simpa using hg) (.inr rfl)).trans (far_cell (q := ⟨g, off + i, none⟩) hne (far_cell (q := ⟨g, off + i, none⟩) hne h1)), h2, h3, ?_⟩
  have h5 := (h4.far (p := ⟨rb, 0, none⟩) u0 (fun _ ad e => by have := hf i hi hi A' _ C' h1 ad e; show ad.block ≠ rb; omega)).far (p := ⟨rb, 1, none⟩) u1 (fun _ ad e => by have := hf i hi hi A' _ C' h1 ad e; show ad.block ≠ rb; omega)
  intro hn
  obtain ⟨b, o, e, hb, hc⟩ := h5 hn
  refine ⟨b, o, e, hb, fun q u hu => (hk ⟨b, o + q, none⟩ hb (.inl ?_)).trans (hc q u hu)⟩
  have := hf i hi hi A' _ C' h1 _ e
  simp only at this ⊢
  omega⟩
theorem GoodH.sl {w : World} {Y : List RL.R} (h : GoodH w g off Y) (hg : g < w.heap.size) : SlRs w.heap.size w (some ⟨g, off, none⟩) Y := fun _ => ⟨g, off, rfl, hg, fun i hi => by
  obtain ⟨A', C', h1, h2, h3, h4, _⟩ := h i hi
  exact ⟨A', C', h1, h2, h3, h4⟩⟩
end

end Go.Proofs.YtgaffbdcpkbdhaaGreat
end

section
/- Walk: relation.Of. -/
namespace Go.Proofs.YtgaffbdcpkbdhaaGreat
open Go.RowKit Go.Sort Go.Shelf Go.Lib

/-- The first error among rows, or 0. -/
def errF (n : Int) : List RL.R → Int
  | [] => 0
  | x :: X => if wrongF n x = 0 then errF n X else wrongF n x
theorem errF_zero {n : Int} : ∀ {X : List RL.R}, errF n X = 0 ↔ ∀ x ∈ X, wrongF n x = 0
  | [] => by simp [errF]
  | x :: X => by
    simp only [errF, List.mem_cons, forall_eq_or_imp]
    split
    · rename_i h; rw [errF_zero]; simp [h]
    · rename_i h; simp [h]

/-- What a call that builds a relation leaves: the struct, and its rows in memory. -/
def RelIs (w' : World) (n : Int) (X : List RL.R) (v : Value) : Prop := ∃ A C, v = .agg #[.int .i64 n, .slice A X.length C] ∧ X.length ≤ C ∧ C ≤ 9223372036854775807 ∧ SlRs w'.heap.size w' A X

/-- The list of rows takes only blocks from lo on. -/
def FreshRs (lo : Nat) (w' : World) (A : Option Addr) (X : List RL.R) : Prop := ∀ w'', (∀ p : Addr, lo ≤ p.block → p.block < w'.heap.size → w''.cell? p = w'.cell? p) → SlRs w'.heap.size w'' A X
theorem FreshRs.sl {lo : Nat} {w' : World} {A : Option Addr} {X : List RL.R} (h : FreshRs lo w' A X) : SlRs w'.heap.size w' A X := h w' fun _ _ _ => rfl
theorem FreshRs.nil {lo : Nat} {w' : World} {A : Option Addr} : FreshRs lo w' A [] := fun _ _ => SlRs.nil
/-- A relation in memory that lies in blocks from lo on. -/
def RelNew (lo : Nat) (w' : World) (n : Int) (X : List RL.R) (v : Value) : Prop := ∃ A C, v = .agg #[.int .i64 n, .slice A X.length C] ∧ X.length ≤ C ∧ C ≤ 9223372036854775807 ∧ FreshRs lo w' A X
theorem RelNew.is {lo : Nat} {w' : World} {n : Int} {X : List RL.R} {v : Value} (h : RelNew lo w' n X v) : RelIs w' n X v := by
  obtain ⟨A, C, h1, h2, h3, h4⟩ := h
  exact ⟨A, C, h1, h2, h3, h4.sl⟩

theorem OwnRs.hb {w : World} {B : Nat} {E : TypeId} {v : Value} {X : List RL.R} (h : OwnRs w B E v X) (hok : RsOk X) (hn : X ≠ []) :
    ∃ g cap, ∃ d : Array (El w g), v = .slice (some ⟨g, 0, none⟩) X.length cap ∧ X.length ≤ cap ∧ cap ≤ 9223372036854775807 ∧ B ≤ g ∧ d.size = X.length ∧ X = d.toList.map El.row ∧ HB w w g 0 d := by
  obtain ⟨hs, h1, h2⟩ := h
  have hl : hs.length = X.length := by have := h1.1; omega
  have hpos : 0 < X.length := by cases X with | nil => exact absurd rfl hn | cons _ _ => simp
  rcases h1.2 with ⟨_, h0⟩ | ⟨g, cap, cur, rfl, hg, hb, hnc, hcm, hsz, ht⟩
  · omega
  have pick : ∀ i (hi : i < X.length), ∃ e : El w g, hs[i]? = some e.val ∧ e.row = X[i] := fun i hi => by
    obtain ⟨A', C', g1, g2, g3, g4, g5⟩ := h2 i hi
    exact ⟨⟨.slice A' X[i].length C', X[i], A', C', rfl, g2, g3, g4, hok.at_ hi, fun hy ad e e2 => g5 hy ad e (by rw [← e2]; rfl)⟩, g1, rfl⟩
  obtain ⟨F, hF⟩ : ∃ F : Nat → El w g, ∀ i (hi : i < X.length), hs[i]? = some (F i).val ∧ (F i).row = X[i] :=
    ⟨fun i => if hi : i < X.length then (pick i hi).choose else default, fun i hi => by simp only [hi, dif_pos]; exact (pick i hi).choose_spec⟩
  refine ⟨g, cap, ((List.range X.length).map F).toArray, rfl, hnc, by unfold maxLen at hcm; omega, hg, by simp, ?_, ?_⟩
  · apply List.ext_getElem (by simp)
    intro i h3 h4
    simp only [List.getElem_map, List.getElem_range]
    exact (hF i h3).2.symm
  · refine ⟨⟨rfl, rfl, rfl, Nat.le_refl _, fun _ _ _ => rfl⟩, fun j hj => ?_, ?_⟩
    · have hj' : j < X.length := by simpa using hj
      have e : ((List.range X.length).map F).toArray[j]! = F j := by
        rw [getElem!_pos ((List.range X.length).map F).toArray j hj]
        simp
      rw [e]
      have hc := (hF j hj').1
      refine ⟨?_, ?_⟩
      · rw [Nat.mul_one] at ht
        have hc2 : (cur.toList.take X.length)[j]? = some (F j).val := by rw [ht]; exact hc
        rw [List.getElem?_take_of_lt hj'] at hc2
        simp only [World.cell?, hb, Nat.zero_add]
        simp only [Option.isSome_none, Bool.false_eq_true, if_false]
        rw [← Array.getElem?_toList]
        exact hc2
      · simp [World.frozen?, hb]
    · rcases Nat.lt_or_ge g w.heap.size with hlt | hge
      · exact hlt
      · rw [Array.getElem?_eq_none hge] at hb; cases hb

theorem wrongF_ne {n : Int} {x : RL.R} (h : wrongF n x ≠ 0) : wrongF n x = 6 ∨ wrongF n x = 4 := by
  unfold wrongF at *
  split
  · exact .inl rfl
  · split
    · rename_i h1 h2; rw [if_neg h1, if_pos h2] at h; exact absurd rfl h
    · exact .inr rfl

/-- What relation.Of leaves. -/
def OfPost (w : World) (n : Int) (X : List RL.R) (e : Ending) (w' : World) : Prop :=
  (errF n X = 0 → ∃ v, e = .returned (.tuple #[v, .int .i64 0]) ∧ RelNew w.heap.size w' n (RL.ofF X) v) ∧ (errF n X ≠ 0 → e = .returned (.tuple #[.agg #[.int .i64 0, .slice none 0 0], .int .i64 (errF n X)])) ∧ Below w.heap.size w w'

theorem errF_drop {n : Int} {X : List RL.R} {k : Nat} (h : k < X.length) : errF n (X.drop k) = if wrongF n X[k] = 0 then errF n (X.drop (k + 1)) else wrongF n X[k] := by
  rw [List.drop_eq_getElem_cons h]; rfl

end Go.Proofs.YtgaffbdcpkbdhaaGreat
end

section
/- append of many rows to a list of rows that the call owns; the source nil, empty or not (the run's two laws turned from the kit's extra-words.md). -/
namespace Go.Proofs.YtgaffbdcpkbdhaaGreat
open Go.RowKit Go.Sort

theorem SlRs.hdrs {B : Nat} {w : World} {A : Option Addr} {Y : List RL.R} (h : SlRs B w A Y) : ∃ hs : List Value, hs.length = Y.length ∧ (∀ u ∈ hs, u.oneCell' = true) ∧ (∀ ad, A = some ad → ∀ j u, hs[j]? = some u → w.cell? (ad.add j) = some u) ∧ (A = none → Y = []) ∧
    ∀ i (h : i < Y.length), ∃ A' C', hs[i]? = some (.slice A' Y[i].length C') ∧ Y[i].length ≤ C' ∧ C' ≤ 9223372036854775807 ∧ SlR B w A' Y[i] := by
  by_cases hn : Y = []
  · subst hn
    exact ⟨[], rfl, by simp, fun _ _ j u hu => by simp at hu, fun _ => rfl, fun i hi => absurd hi (by simp)⟩
  obtain ⟨b, o, rfl, hb, hc⟩ := h hn
  refine ⟨(List.range Y.length).map fun i => (w.cell? ⟨b, o + i, none⟩).getD (.slice none 0 0), by simp, ?_, ?_, by simp, ?_⟩
  · intro u hu
    simp at hu
    obtain ⟨i, hi, rfl⟩ := hu
    obtain ⟨A', C', h1, _⟩ := hc i hi
    rw [h1]; rfl
  · intro ad e j u hu
    injection e with e
    subst e
    rw [Addr.add_lit]
    obtain ⟨hj, e⟩ := List.getElem?_eq_some_iff.1 hu
    simp at hj
    simp at e
    obtain ⟨A', C', h1, _⟩ := hc j hj
    rw [h1] at e ⊢
    rw [← e]; rfl
  · intro i hi
    obtain ⟨A', C', h1, h2, h3, h4⟩ := hc i hi
    refine ⟨A', C', ?_, h2, h3, h4⟩
    rw [List.getElem?_eq_getElem (by simpa using hi)]
    simp [h1]

theorem run_append_none {P : Program} (w : World) (base : Nat) (t ty e : TypeId) (i : TypeInfo) (size : Nat) (ht : P.underlying t = some (.slice e)) (hi : P.info? e = some i)
    (v : Value) (n : Nat) (xs : List Value) (hown : w.ownsRow base e size v n xs) (c : Nat) : (Builtin.append_ #[t, t] ty #[v, .slice none 0 c]).run P w = .ok v w := by
  rcases hown.2 with ⟨rfl, rfl⟩ | ⟨g, cap, cur, rfl, _, _, hnc, _⟩
  · simp [Builtin.append_, run_underlying ht, sizeOf, typeInfo, hi, Builtin.lenOf, Builtin.firstCells]
  · simp [Builtin.append_, run_underlying ht, sizeOf, typeInfo, hi, Builtin.lenOf, Builtin.firstCells, hnc, storeCells]

/-- What an append of rows from below leaves of a list of rows under way. -/
theorem OwnRs.many {w w' : World} {B : Nat} {E : TypeId} {v v' : Value} {X Y : List RL.R} {hs ns : List Value} (h1 : w.ownsRow B E 1 v X.length hs)
    (h2 : ∀ i (h : i < X.length), ∃ A' C', hs[i]? = some (.slice A' X[i].length C') ∧ X[i].length ≤ C' ∧ C' ≤ 9223372036854775807 ∧ SlR w.heap.size w A' X[i] ∧ (X[i] ≠ [] → ∀ ad, A' = some ad → v.ownBlock ≠ some ad.block))
    (hB : B ≤ w.heap.size) (hn : ∀ i (h : i < Y.length), ∃ A' C', ns[i]? = some (.slice A' Y[i].length C') ∧ Y[i].length ≤ C' ∧ C' ≤ 9223372036854775807 ∧ SlR B w A' Y[i])
    (hown : w'.ownsRow B E 1 v' (X.length + Y.length) (hs ++ ns)) (hg : w.grownBy w' v.ownBlock) (hat : v'.ownBlock = v.ownBlock ∨ v'.ownBlock = some w.heap.size) : OwnRs w' B E v' (X ++ Y) := by
  have hl : hs.length = X.length := by have := h1.1; omega
  refine ⟨hs ++ ns, by rw [List.length_append]; exact hown, fun i hi => ?_⟩
  have other : ∀ (y : RL.R) (A : Option Addr), SlR w.heap.size w A y → (y ≠ [] → ∀ ad, A = some ad → v.ownBlock ≠ some ad.block) → SlR w'.heap.size w' A y ∧ (y ≠ [] → ∀ ad, A = some ad → v'.ownBlock ≠ some ad.block) := fun y A g4 g5 => by
    refine ⟨g4.grown hg g5, fun hy ad e e2 => ?_⟩
    rcases hat with h3 | h3
    · exact g5 hy ad e (by rw [← h3]; exact e2)
    · obtain ⟨b, o, e', hb, _⟩ := g4 (by
        intro h0
        have := congrArg List.length h0
        rw [rcells_length] at this
        exact hy (List.eq_nil_of_length_eq_zero (by simp only [List.length_nil] at this; omega)))
      rw [e] at e'
      injection e' with e'
      rw [h3, e'] at e2
      injection e2 with e2
      simp only at e2
      omega
  by_cases hlt : i < X.length
  · obtain ⟨A, C, g1, g2, g3, g4, g5⟩ := h2 i hlt
    have e1 : (X ++ Y)[i] = X[i] := List.getElem_append_left hlt
    obtain ⟨k1, k2⟩ := other X[i] A g4 g5
    rw [e1]
    exact ⟨A, C, by rw [List.getElem?_append_left (by omega)]; exact g1, g2, g3, k1, k2⟩
  · have hi' : i - X.length < Y.length := by simp at hi; omega
    obtain ⟨A, C, g1, g2, g3, g4⟩ := hn (i - X.length) hi'
    have e1 : (X ++ Y)[i] = Y[i - X.length] := List.getElem_append_right (by omega)
    obtain ⟨k1, k2⟩ := other Y[i - X.length] A (g4.more hB) (fun hy ad e e2 => by
      obtain ⟨b, o, e', hb, _⟩ := g4 (by
        intro h0
        have := congrArg List.length h0
        rw [rcells_length] at this
        exact hy (List.eq_nil_of_length_eq_zero (by simp only [List.length_nil] at this; omega)))
      rw [e] at e'
      injection e' with e'
      have := own_base h1 e2
      rw [e'] at this
      simp only at this
      omega)
    rw [e1]
    exact ⟨A, C, by rw [List.getElem?_append_right (by omega), hl]; exact g1, g2, g3, k1, k2⟩

/-- append(out, src...): rows of a source below the call's own memory. -/
theorem appManyRow {w : World} {ops : Array Oper} {rest : List Oper} {o : Oper} {a : Act} {Q : Exit → Act → World → Prop} (hgd : o.guard = none) (s x : Operand)
    (ho : o.op = .call { callee := .builtin .append, args := #[s, x], argTypes := #[69, 69] })
    (base : Nat) (v : Value) (X : List RL.R) (hs : a.eval s = v) (hown : OwnRs w base 59 v X)
    (A : Option Addr) (C : Nat) (Y : List RL.R) (hx : a.eval x = .slice A Y.length C) (hY : SlRs base w A Y)
    (hn : (X.length + Y.length) * 24 ≤ 140737488355328) (hbase : base ≤ w.heap.size)
    (h : ∀ v' w', OwnRs w' base 59 v' (X ++ Y) → w.grownBy w' v.ownBlock → wpList Tryz.prog ops Q rest (a.put o.dst v') w') : wpList Tryz.prog ops Q (o :: rest) a w := by
  obtain ⟨i0, hi0, hz0, hz1, hz2⟩ := info_parts rowInfo
  obtain ⟨hs0, h1, h2⟩ := hown
  obtain ⟨ns, hl, ho1, hcell, hnone, hrows⟩ := hY.hdrs
  refine wpList_plain hgd fun K hK => ?_
  rcases A with _ | ad
  · have hy := hnone rfl
    subst hy
    have hrun := run_append_none (P := Tryz.prog) w base 69 o.type 59 i0 1 Tryz.underlying69 hi0 v X.length hs0 h1 C
    unfold Oper.wp execOp
    simp only [List.length_nil] at hx
    simp only [ho, resolve, invoke, builtin, Sem.run_bind, Sem.run_pure, Result.andThen_ok, List.map_toArray, List.map_cons, List.map_nil, hs, hx, hrun]
    exact hK _ _ (h v w (by rw [List.append_nil]; exact ⟨hs0, h1, h2⟩) ⟨rfl, rfl, rfl, Nat.le_refl _, fun _ _ _ => rfl⟩)
  · obtain ⟨v', w', hrun, k2, k3, _, k5⟩ := run_append_own_at (P := Tryz.prog) w base 69 o.type 59 i0 _ 1 24 Tryz.underlying69 hi0 hz0 hz1 hz2 rfl (by decide) v X.length hs0 h1 ad Y.length C ns (by omega) (hcell ad rfl) ho1 (by simp only [maxLen]; omega) (by omega) hbase
    unfold Oper.wp execOp
    simp only [ho, resolve, invoke, builtin, Sem.run_bind, Sem.run_pure, Result.andThen_ok, List.map_toArray, List.map_cons, List.map_nil, hs, hx, hrun]
    exact hK _ _ (h v' w' (OwnRs.many h1 h2 hbase hrows k2 k3 k5) k3)
end Go.Proofs.YtgaffbdcpkbdhaaGreat
end

section
/- Walks: ordinalref07.Insert, Of. -/
namespace Go.Proofs.YtgaffbdcpkbdhaaGreat
open Go.RowKit Go.Sort

/-- A value that reads as a list of rows. -/
def RowsIs (w : World) (X : List RL.R) (v : Value) : Prop := ∃ A C, v = .slice A X.length C ∧ X.length ≤ C ∧ C ≤ 9223372036854775807 ∧ SlRs w.heap.size w A X
theorem RowsIs.of_own {w : World} {B : Nat} {E : TypeId} {v : Value} {X : List RL.R} (h : OwnRs w B E v X) : RowsIs w X v := h.sl

theorem app_grown {w w' : World} {v : Value} {B : Nat} (h : w.grownBy w' v.ownBlock) (hv : ∀ k, v.ownBlock = some k → B ≤ k) (hB : B ≤ w.heap.size) : Below B w w' := (Below.refl B w).grown h hB hv

theorem ne_rcells {x : RL.R} (h : x ≠ []) : rcells x ≠ [] := fun h0 => by
  have := congrArg List.length h0
  rw [rcells_length] at this
  exact h (List.eq_nil_of_length_eq_zero (by simp only [List.length_nil] at this; omega))

theorem ofF_snoc (X : List RL.R) (k : Nat) (h : k < X.length) : RL.ofF (X.take (k + 1)) = RL.insF (RL.ofF (X.take k)) X[k] := by
  unfold RL.ofF
  rw [List.take_succ_eq_append_getElem h, List.foldl_append]
  rfl
theorem RsOk.of_mem {X Y : List RL.R} (h : RsOk X) (hs : ∀ y ∈ Y, y ∈ X) : RsOk Y := fun y hy => h y (hs y hy)
theorem RowsIs.upB {w w' : World} {X : List RL.R} {v : Value} (h : RowsIs w X v) (hb : Below w.heap.size w w') : RowsIs w' X v := by
  obtain ⟨A, C, h1, h2, h3, h4⟩ := h
  exact ⟨A, C, h1, h2, h3, h4.upB hb⟩

end Go.Proofs.YtgaffbdcpkbdhaaGreat
end

section
/- Walks: the reference's Delete, Both, Union, Select, SelectSame. -/
namespace Go.Proofs.YtgaffbdcpkbdhaaGreat
open Go.RowKit Go.Sort

theorem filt_snoc (p : RL.R → Bool) (X : List RL.R) (k : Nat) (h : k < X.length) : (X.take (k + 1)).filter p = (X.take k).filter p ++ (if p X[k] = true then [X[k]] else []) := by
  rw [List.take_succ_eq_append_getElem h, List.filter_append]
  by_cases hw : p X[k] = true <;> simp [hw]
theorem filt_take_le (p : RL.R → Bool) (X : List RL.R) (k : Nat) : ((X.take k).filter p).length ≤ X.length := by
  have h1 := List.length_filter_le p (X.take k)
  have h2 := List.length_take_le k X
  rw [List.length_take] at h1
  omega
/-- A row below a bound does not lie in a block from the bound on. -/
theorem SlR.apart {B : Nat} {w : World} {A : Option Addr} {x : RL.R} {v : Value} (h : SlR B w A x) (hv : ∀ k, v.ownBlock = some k → B ≤ k) : x ≠ [] → ∀ ad, A = some ad → v.ownBlock ≠ some ad.block := fun hy ad e e2 => by
  obtain ⟨b', o', e', hb', _⟩ := h (ne_rcells hy)
  rw [e] at e'
  injection e' with e'
  have h4 := hv _ e2
  rw [e'] at h4
  simp only at h4
  omega

/-- The rows of X that are, or are not, in Y. -/
def bothF (X Y : List RL.R) (nt : Bool) : List RL.R := X.filter fun y => decide (y ∈ Y) != nt

/-- The rows of either. -/
def unionF (X Y : List RL.R) : List RL.R := Y.foldl RL.insF X
theorem unionF_snoc (X Y : List RL.R) (k : Nat) (h : k < Y.length) : unionF X (Y.take (k + 1)) = RL.insF (unionF X (Y.take k)) Y[k] := by
  unfold unionF
  rw [List.take_succ_eq_append_getElem h, List.foldl_append]; rfl
theorem mem_unionF' : ∀ (Y X : List RL.R) (r : RL.R), r ∈ unionF X Y ↔ r ∈ X ∨ r ∈ Y
  | [], X, r => by simp [unionF]
  | y :: Y, X, r => by
    have h := mem_unionF' Y (RL.insF X y) r
    show r ∈ unionF (RL.insF X y) Y ↔ _
    rw [h, RL.mem_insF, List.mem_cons]
    constructor
    · rintro ((h | h) | h)
      · exact .inl h
      · exact .inr (.inl h)
      · exact .inr (.inr h)
    · rintro (h | h | h)
      · exact .inl (.inl h)
      · exact .inl (.inr h)
      · exact .inr h
theorem unionF_length (X Y : List RL.R) : (unionF X Y).length ≤ X.length + Y.length := RL.foldl_ins_length Y X

end Go.Proofs.YtgaffbdcpkbdhaaGreat
end

section
/- Rows' headers as lists of values; lists of rows that lie only in blocks of a given kind. -/
namespace Go.Proofs.YtgaffbdcpkbdhaaGreat
open Go.RowKit Go.Sort

/-- The header u reads as the row y, which lies below block B, in blocks that P allows. -/
def HR (P : Nat → Prop) (B : Nat) (w : World) (u : Value) (y : RL.R) : Prop :=
  ∃ A' C', u = .slice A' y.length C' ∧ y.length ≤ C' ∧ C' ≤ 9223372036854775807 ∧ SlR B w A' y ∧ (y ≠ [] → ∀ ad, A' = some ad → P ad.block)
/-- A list of headers, and the rows that they read. -/
def Hdrs (P : Nat → Prop) (B : Nat) (w : World) (hs : List Value) (Y : List RL.R) : Prop :=
  hs.length = Y.length ∧ ∀ (i : Nat) u y, hs[i]? = some u → Y[i]? = some y → HR P B w u y

theorem SlR.keepP {P : Nat → Prop} {B : Nat} {w w' : World} {A : Option Addr} {y : RL.R} (h : SlR B w A y) (hP : y ≠ [] → ∀ ad, A = some ad → P ad.block) (hk : ∀ p : Addr, p.block < B → P p.block → w'.cell? p = w.cell? p) : SlR B w' A y := fun hn => by
  have hy : y ≠ [] := by intro e; subst e; exact hn rfl
  obtain ⟨b, o, e, hb, hc⟩ := h hn
  have hp := hP hy _ e
  exact ⟨b, o, e, hb, fun i u hu => (hk ⟨b, o + i, none⟩ hb hp).trans (hc i u hu)⟩
theorem SlR.lt_of {B : Nat} {w : World} {A : Option Addr} {y : RL.R} (h : SlR B w A y) : y ≠ [] → ∀ ad, A = some ad → ad.block < B := fun hy ad e => by
  obtain ⟨b, o, e', hb, _⟩ := h (ne_rcells hy)
  rw [e] at e'
  injection e' with e'
  rw [e']
  exact hb

section
variable {P P' : Nat → Prop} {B B' : Nat} {w w' : World} {hs ks : List Value} {Y Z : List RL.R} {u : Value} {y : RL.R}
theorem HR.keep (h : HR P B w u y) (hk : ∀ p : Addr, p.block < B → P p.block → w'.cell? p = w.cell? p) : HR P B w' u y := by
  obtain ⟨A', C', h1, h2, h3, h4, h5⟩ := h
  exact ⟨A', C', h1, h2, h3, h4.keepP h5 hk, h5⟩
theorem HR.more (h : HR P B w u y) (hB : B ≤ B') : HR P B' w u y := by
  obtain ⟨A', C', h1, h2, h3, h4, h5⟩ := h
  exact ⟨A', C', h1, h2, h3, h4.more hB, h5⟩
theorem HR.weak (h : HR P B w u y) (hP : ∀ b, b < B → P b → P' b) : HR P' B w u y := by
  obtain ⟨A', C', h1, h2, h3, h4, h5⟩ := h
  exact ⟨A', C', h1, h2, h3, h4, fun hy ad e => hP _ (h4.lt_of hy ad e) (h5 hy ad e)⟩
theorem HR.one (h : HR P B w u y) : u.oneCell' = true := by
  obtain ⟨A', C', rfl, _⟩ := h
  rfl
theorem Hdrs.nil : Hdrs P B w [] [] := ⟨rfl, fun i u y h => by simp at h⟩
theorem Hdrs.one (h : HR P B w u y) : Hdrs P B w [u] [y] := ⟨rfl, fun i u' y' h1 h2 => by
  cases i with
  | zero => simp at h1 h2; subst h1 h2; exact h
  | succ i => simp at h1⟩
theorem Hdrs.append (h : Hdrs P B w hs Y) (k : Hdrs P B w ks Z) : Hdrs P B w (hs ++ ks) (Y ++ Z) := by
  refine ⟨by simp [h.1, k.1], fun i u y h1 h2 => ?_⟩
  have hl := h.1
  by_cases hi : i < hs.length
  · rw [List.getElem?_append_left hi] at h1
    rw [List.getElem?_append_left (by omega)] at h2
    exact h.2 i u y h1 h2
  · rw [List.getElem?_append_right (by omega)] at h1
    rw [List.getElem?_append_right (by omega), ← hl] at h2
    exact k.2 _ u y h1 h2
theorem Hdrs.take (h : Hdrs P B w hs Y) (n : Nat) : Hdrs P B w (hs.take n) (Y.take n) := by
  refine ⟨by simp [h.1], fun i u y h1 h2 => ?_⟩
  rw [List.getElem?_take] at h1 h2
  split at h1
  · rename_i hi
    rw [if_pos hi] at h2
    exact h.2 i u y h1 h2
  · cases h1
theorem Hdrs.drop (h : Hdrs P B w hs Y) (n : Nat) : Hdrs P B w (hs.drop n) (Y.drop n) := by
  refine ⟨by simp [h.1], fun i u y h1 h2 => ?_⟩
  rw [List.getElem?_drop] at h1 h2
  exact h.2 _ u y h1 h2
theorem Hdrs.keep (h : Hdrs P B w hs Y) (hk : ∀ p : Addr, p.block < B → P p.block → w'.cell? p = w.cell? p) : Hdrs P B w' hs Y := ⟨h.1, fun i u y h1 h2 => (h.2 i u y h1 h2).keep hk⟩
theorem Hdrs.more (h : Hdrs P B w hs Y) (hB : B ≤ B') : Hdrs P B' w hs Y := ⟨h.1, fun i u y h1 h2 => (h.2 i u y h1 h2).more hB⟩
theorem Hdrs.weak (h : Hdrs P B w hs Y) (hP : ∀ b, b < B → P b → P' b) : Hdrs P' B w hs Y := ⟨h.1, fun i u y h1 h2 => (h.2 i u y h1 h2).weak hP⟩
theorem Hdrs.cells (h : Hdrs P B w hs Y) : ∀ u ∈ hs, u.oneCell' = true := fun u hu => by
  obtain ⟨i, hi, rfl⟩ := List.getElem_of_mem hu
  exact (h.2 i _ (Y[i]'(by rw [← h.1]; exact hi)) (List.getElem?_eq_getElem hi) (List.getElem?_eq_getElem _)).one
theorem Hdrs.at_ (h : Hdrs P B w hs Y) {i : Nat} (hi : i < Y.length) : ∃ A' C', hs[i]? = some (.slice A' Y[i].length C') ∧ Y[i].length ≤ C' ∧ C' ≤ 9223372036854775807 ∧ SlR B w A' Y[i] ∧ (Y[i] ≠ [] → ∀ ad, A' = some ad → P ad.block) := by
  have hi' : i < hs.length := by rw [h.1]; exact hi
  obtain ⟨A', C', h1, h2⟩ := h.2 i _ _ (List.getElem?_eq_getElem hi') (List.getElem?_eq_getElem hi)
  exact ⟨A', C', by rw [List.getElem?_eq_getElem hi', h1], h2⟩
end

/-- The slice at address A reads as the rows X; all of it lies below B, in blocks that P allows. -/
def SlRsP (P : Nat → Prop) (B : Nat) (w : World) (A : Option Addr) (X : List RL.R) : Prop :=
  X ≠ [] → ∃ b o, A = some ⟨b, o, none⟩ ∧ b < B ∧ P b ∧ ∃ hs, Hdrs P B w hs X ∧ ∀ i u, hs[i]? = some u → w.cell? ⟨b, o + i, none⟩ = some u

section
variable {P P' : Nat → Prop} {B B' : Nat} {w w' : World} {A : Option Addr} {X : List RL.R}
theorem SlRsP.nil : SlRsP P B w A [] := fun h => absurd rfl h
theorem SlRs.toP (h : SlRs B w A X) : SlRsP (fun b => b < B) B w A X := fun hn => by
  obtain ⟨hs, h1, h2, h3, h4, h5⟩ := h.hdrs
  obtain ⟨b, o, rfl, hb, hc⟩ := h hn
  refine ⟨b, o, rfl, hb, hb, hs, ⟨h1, fun i u y hu hy => ?_⟩, fun i u hu => by have := h3 _ rfl i u hu; rwa [Addr.add_lit] at this⟩
  obtain ⟨hi, rfl⟩ := List.getElem?_eq_some_iff.1 hy
  obtain ⟨A', C', g1, g2, g3, g4⟩ := h5 i hi
  rw [hu] at g1
  injection g1 with g1
  exact ⟨A', C', g1, g2, g3, g4, g4.lt_of⟩
theorem SlRsP.sl (h : SlRsP P B w A X) : SlRs B w A X := fun hn => by
  obtain ⟨b, o, e, hb, _, hs, hH, hc⟩ := h hn
  refine ⟨b, o, e, hb, fun i hi => ?_⟩
  obtain ⟨A', C', g1, g2, g3, g4, _⟩ := hH.at_ hi
  exact ⟨A', C', hc i _ g1, g2, g3, g4⟩
theorem SlRsP.keep (h : SlRsP P B w A X) (hk : ∀ p : Addr, p.block < B → P p.block → w'.cell? p = w.cell? p) : SlRsP P B w' A X := fun hn => by
  obtain ⟨b, o, e, hb, hp, hs, hH, hc⟩ := h hn
  exact ⟨b, o, e, hb, hp, hs, hH.keep hk, fun i u hu => (hk ⟨b, o + i, none⟩ hb hp).trans (hc i u hu)⟩
theorem SlRsP.more (h : SlRsP P B w A X) (hB : B ≤ B') : SlRsP P B' w A X := fun hn => by
  obtain ⟨b, o, e, hb, hp, hs, hH, hc⟩ := h hn
  exact ⟨b, o, e, by omega, hp, hs, hH.more hB, hc⟩
theorem SlRsP.weak (h : SlRsP P B w A X) (hP : ∀ b, b < B → P b → P' b) : SlRsP P' B w A X := fun hn => by
  obtain ⟨b, o, e, hb, hp, hs, hH, hc⟩ := h hn
  exact ⟨b, o, e, hb, hP b hb hp, hs, hH.weak hP, hc⟩
theorem SlRsP.hdrs (h : SlRsP P B w A X) : ∃ hs, Hdrs P B w hs X ∧ (∀ ad, A = some ad → ∀ j u, hs[j]? = some u → w.cell? (ad.add j) = some u) ∧ (A = none → X = []) := by
  by_cases hn : X = []
  · subst hn
    exact ⟨[], Hdrs.nil, fun _ _ j u hu => by simp at hu, fun _ => rfl⟩
  obtain ⟨b, o, rfl, hb, hp, hs, hH, hc⟩ := h hn
  exact ⟨hs, hH, fun ad e j u hu => by injection e with e; subst e; rw [Addr.add_lit]; exact hc j u hu, fun e => by cases e⟩
theorem SlRsP.at_ (h : SlRsP P B w A X) {i : Nat} (hi : i < X.length) : ∃ b o A' C', A = some ⟨b, o, none⟩ ∧ b < B ∧ P b ∧ w.cell? ⟨b, o + i, none⟩ = some (.slice A' X[i].length C') ∧ HR P B w (.slice A' X[i].length C') X[i] := by
  obtain ⟨b, o, e, hb, hp, hs, hH, hc⟩ := h (by intro h0; subst h0; simp at hi)
  obtain ⟨A', C', g1, g2, g3, g4, g5⟩ := hH.at_ hi
  exact ⟨b, o, A', C', e, hb, hp, hc i _ g1, A', C', rfl, g2, g3, g4, g5⟩
end

/-- The rows' headers that the call owns, as a list of rows that is read. -/
theorem own_slrs {P : Nat → Prop} {w : World} {base B : Nat} {E : TypeId} {v : Value} {hs : List Value} {Y : List RL.R} (h : w.ownsRow base E 1 v Y.length hs) (hd : Hdrs P B w hs Y) (hB : B ≤ w.heap.size) (hP : ∀ b, base ≤ b → P b) :
    ∃ A C, v = .slice A Y.length C ∧ Y.length ≤ C ∧ C ≤ 9223372036854775807 ∧ SlRsP P w.heap.size w A Y := by
  have hl := hd.1
  obtain ⟨A, c, e1, hc, e3, hsl⟩ := Sl.of_own h
  rw [hl] at e1 hc
  refine ⟨A, c, e1, hc, ?_, fun hn => ?_⟩
  · rcases h.2 with ⟨g1, g0⟩ | ⟨g, cap, cur, g1, _, _, _, hm, _⟩
    · rw [g1] at e1; injection e1 with _ _ e3; omega
    · rw [g1] at e1; injection e1 with _ _ e3; unfold maxLen at hm; omega
  · obtain ⟨b, o, e, hb, hcell⟩ := hsl (by intro h0; rw [h0] at hl; exact hn (List.eq_nil_of_length_eq_zero hl.symm))
    refine ⟨b, o, e, hb, hP b (own_base h (k := b) (by rw [e1, e]; rfl)), hs, hd.more hB, hcell⟩

theorem own_grown {w w' : World} {base : Nat} {e : TypeId} {size : Nat} {v : Value} {n : Nat} {xs : List Value} {row : Option Nat} (h : w.ownsRow base e size v n xs) (hg : w.grownBy w' row) (hne : ∀ k, v.ownBlock = some k → some k ≠ row) : w'.ownsRow base e size v n xs := by
  have hlt := own_lt h
  refine ⟨h.1, ?_⟩
  rcases h.2 with h1 | ⟨g, cap, cur, h1, h2, h3, h4⟩
  · exact .inl h1
  · refine .inr ⟨g, cap, cur, h1, h2, ?_, h4⟩
    have ho : v.ownBlock = some g := by rw [h1]; rfl
    rw [hg.block g (hlt g ho) (hne g ho)]
    exact h3

theorem grown_trans {a w w' : World} {row : Option Nat} (h : a.grownBy w row) (k : w.grownBy w' row) : a.grownBy w' row :=
  ⟨k.os.trans h.os, k.tape.trans h.tape, k.output.trans h.output, Nat.le_trans h.size k.size, fun b hb hne => (k.block b (Nat.lt_of_lt_of_le hb h.size) hne).trans (h.block b hb hne)⟩
theorem grown_below {a w w' : World} {row : Option Nat} {C : Nat} (h : a.grownBy w row) (hb : Below C w w') (hC : a.heap.size ≤ C) : a.grownBy w' row :=
  ⟨hb.os.trans h.os, hb.tape.trans h.tape, hb.output.trans h.output, Nat.le_trans h.size hb.size, fun b hb' hne => (hb.block b (by omega)).trans (h.block b hb' hne)⟩
theorem Ext.grown {w w' : World} (h : Ext w w') (row : Option Nat) : w.grownBy w' row := by
  have hb := h.below
  exact ⟨hb.os, hb.tape, hb.output, hb.size, fun b hb' _ => hb.block b hb'⟩
theorem grown_of_below {w w' : World} (h : Below w.heap.size w w') (row : Option Nat) : w.grownBy w' row := ⟨h.os, h.tape, h.output, h.size, fun b hb' _ => h.block b hb'⟩
/-- Blocks below B, where the one that turns lies from B on. -/
theorem below_of_grown {w w' : World} {g B : Nat} (h : w.grownBy w' (some g)) (hB : B ≤ g) (hz : B ≤ w.heap.size) : Below B w w' := ⟨h.os, h.tape, h.output, h.size, fun b hb => h.block b (by omega) (fun e => by injection e with e; omega)⟩

/-- append of headers to a list of headers of the call's own. -/
theorem appH {w : World} {ops : Array Oper} {rest : List Oper} {o : Oper} {a : Act} {Q : Exit → Act → World → Prop} (hgd : o.guard = none) (s x : Operand)
    (ho : o.op = .call { callee := .builtin .append, args := #[s, x], argTypes := #[69, 69] })
    (base : Nat) (v : Value) (n : Nat) (hs : List Value) (hs0 : a.eval s = v) (hown : w.ownsRow base 59 1 v n hs)
    (A : Option Addr) (m C : Nat) (ns : List Value) (hm : ns.length = m) (hx : a.eval x = .slice A m C) (hcell : ∀ ad, A = some ad → ∀ j u, ns[j]? = some u → w.cell? (ad.add j) = some u) (hnone : A = none → ns = []) (ho1 : ∀ u ∈ ns, u.oneCell' = true)
    (hn : (n + m) * 24 ≤ 140737488355328) (hbase : base ≤ w.heap.size)
    (h : ∀ v' w', w'.ownsRow base 59 1 v' (n + m) (hs ++ ns) → w.grownBy w' v.ownBlock → (v'.ownBlock = v.ownBlock ∨ v'.ownBlock = some w.heap.size) → wpList Tryz.prog ops Q rest (a.put o.dst v') w') : wpList Tryz.prog ops Q (o :: rest) a w := by
  subst hm
  obtain ⟨i0, hi0, hz0, hz1, hz2⟩ := info_parts rowInfo
  refine wpList_plain hgd fun K hK => ?_
  rcases A with _ | ad
  · have hy := hnone rfl
    subst hy
    have hrun := run_append_none (P := Tryz.prog) w base 69 o.type 59 i0 1 Tryz.underlying69 hi0 v n hs hown C
    unfold Oper.wp execOp
    simp only [List.length_nil] at hx
    simp only [ho, resolve, invoke, builtin, Sem.run_bind, Sem.run_pure, Result.andThen_ok, List.map_toArray, List.map_cons, List.map_nil, hs0, hx, hrun]
    exact hK _ _ (h v w (by rw [List.append_nil]; exact hown) ⟨rfl, rfl, rfl, Nat.le_refl _, fun _ _ _ => rfl⟩ (.inl rfl))
  · obtain ⟨v', w', hrun, k2, k3, _, k5⟩ := run_append_own_at (P := Tryz.prog) w base 69 o.type 59 i0 _ 1 24 Tryz.underlying69 hi0 hz0 hz1 hz2 rfl (by decide) v n hs hown ad ns.length C ns (by omega) (hcell ad rfl) ho1 (by simp only [maxLen]; omega) (by omega) hbase
    unfold Oper.wp execOp
    simp only [ho, resolve, invoke, builtin, Sem.run_bind, Sem.run_pure, Result.andThen_ok, List.map_toArray, List.map_cons, List.map_nil, hs0, hx, hrun]
    exact hK _ _ (h v' w' k2 k3 k5)
/-- append of one header that lies in a block of its own. -/
theorem appH1 {w : World} {ops : Array Oper} {rest : List Oper} {o : Oper} {a : Act} {Q : Exit → Act → World → Prop} (hgd : o.guard = none) (s x : Operand)
    (ho : o.op = .call { callee := .builtin .append, args := #[s, x], argTypes := #[69, 69] })
    (base : Nat) (v : Value) (n : Nat) (hs : List Value) (hs0 : a.eval s = v) (hown : w.ownsRow base 59 1 v n hs)
    (gt : Nat) (u : Value) (hx : a.eval x = .slice (some ⟨gt, 0, none⟩) 1 1) (hg : w.cell? ⟨gt, 0, none⟩ = some u) (ho1 : u.oneCell' = true)
    (hn : (n + 1) * 24 ≤ 140737488355328) (hbase : base ≤ w.heap.size)
    (h : ∀ v' w', w'.ownsRow base 59 1 v' (n + 1) (hs ++ [u]) → w.grownBy w' v.ownBlock → (v'.ownBlock = v.ownBlock ∨ v'.ownBlock = some w.heap.size) → wpList Tryz.prog ops Q rest (a.put o.dst v') w') : wpList Tryz.prog ops Q (o :: rest) a w :=
  appH hgd s x ho base v n hs hs0 hown (some ⟨gt, 0, none⟩) 1 1 [u] rfl hx (fun ad e j u' hu => by
    injection e with e
    subst e
    rw [Addr.add_lit]
    cases j with
    | zero => simp at hu; subst hu; exact hg
    | succ j => simp at hu) (fun e => by cases e) (by simpa using ho1) hn hbase h

end Go.Proofs.YtgaffbdcpkbdhaaGreat
end

section
/- Walk: relation's filter, for any function that answers by a row. -/
namespace Go.Proofs.YtgaffbdcpkbdhaaGreat
open Go.RowKit Go.Sort

theorem grown_keepP {P : Nat → Prop} {w w' : World} {cb B : Nat} (hg : w.grownBy w' (some cb)) (hB : B ≤ w.heap.size) (hP : ∀ b, P b → b ≠ cb) : ∀ p : Addr, p.block < B → P p.block → w'.cell? p = w.cell? p := fun p hp hne => grown_cell hg (by omega) (fun e => by injection e with e; exact hP _ hne e)
/-- A relation in memory, in blocks that P allows. -/
def RelP (P : Nat → Prop) (w' : World) (n : Int) (X : List RL.R) (v : Value) : Prop := ∃ A C, v = .agg #[.int .i64 n, .slice A X.length C] ∧ X.length ≤ C ∧ C ≤ 9223372036854775807 ∧ SlRsP P w'.heap.size w' A X
theorem RelP.is {P : Nat → Prop} {w' : World} {n : Int} {X : List RL.R} {v : Value} (h : RelP P w' n X v) : RelIs w' n X v := by
  obtain ⟨A, C, h1, h2, h3, h4⟩ := h
  exact ⟨A, C, h1, h2, h3, h4.sl⟩

theorem HR.sl {P : Nat → Prop} {B : Nat} {w : World} {A : Option Addr} {n C : Nat} {y : RL.R} (h : HR P B w (.slice A n C) y) : SlR B w A y := by
  obtain ⟨A', C', e, -, -, h4, -⟩ := h
  injection e with e1 _ _
  subst e1
  exact h4

set_option maxHeartbeats 2000000 in
set_option maxRecDepth 100000 in
theorem rlFilter_P (n : Int) (RA : Option Addr) (RC : Nat) (X : List RL.R) (F : Nat) (caps : Array Value) (p : RL.R → Bool) (P : Nat → Prop) (cb : Nat) (I : Nat → World → Prop) (w : World)
    (hen : ∀ args w, (callFunc F args).run Tryz.prog w = .ok (.enter F args) w)
    (hX : SlRsP P w.heap.size w RA X) (hXl : X.length ≤ 100000) (hPc : ∀ b, P b → b ≠ cb) (hPn : ∀ b, w.heap.size ≤ b → P b) (hcb : cb < w.heap.size) (hI0 : I 0 w)
    (hIk : ∀ k W W', I k W → Below w.heap.size W W' → w.heap.size ≤ W.heap.size → I k W')
    (hF : ∀ k (hk : k < X.length) W A' C', I k W → w.grownBy W (some cb) → HR P w.heap.size W (.slice A' X[k].length C') X[k] → Calls Tryz.prog F (#[.slice A' X[k].length C'] ++ caps) W fun e W' => e = .returned (.bool (p X[k])) ∧ I (k + 1) W' ∧ W.grownBy W' (some cb)) :
    Calls Tryz.prog 44 #[.agg #[.int .i64 n, .slice RA X.length RC], .func (.func F) #[] caps] w fun e w' => ∃ v, e = .returned v ∧ RelP P w' n (X.filter p) v ∧ w.grownBy w' (some cb) := by
  have HX := Lib.hid hX
  have HF := Lib.hid hF
  have HIK := Lib.hid hIk
  have HI0 := Lib.hid hI0
  have HPC := Lib.hid hPc
  have HPN := Lib.hid hPn
  clear hX hF hIk hI0 hPc hPn
  go_enter Tryz.func44, Tryz.ntmps44
  have q1 := (Row.new w 71 [.int .i64 n, .slice RA X.length RC]).alloc (.cells #[.int .i64 0, .slice none 0 0] 71)
  have q2 := Row.new (w.alloc (.cells #[.int .i64 n, .slice RA X.length RC] 71)) 71 [.int .i64 0, .slice none 0 0]
  simp only [World.size_alloc] at q2
  have HQ1 := Lib.hid q1
  have HQ2 := Lib.hid q2
  have HE0 := Lib.hid (((Ext.refl w).alloc (.cells #[.int .i64 n, .slice RA X.length RC] 71)).alloc (.cells #[.int .i64 0, .slice none 0 0] 71))
  clear q1 q2
  go_wp2
  generalize (w.alloc (.cells #[.int .i64 n, .slice RA X.length RC] 71)).alloc (.cells #[.int .i64 0, .slice none 0 0] 71) = W0 at *
  go_loopw [5, 10] (fun v i wr => ∃ (k : Nat) (hs : List Value), k ≤ X.length ∧ i = .int .i64 k ∧ wr.ownsRow (w.heap.size + 2) 59 1 v ((X.take k).filter p).length hs ∧ Hdrs P w.heap.size wr hs ((X.take k).filter p) ∧ I k wr ∧ Row wr w.heap.size 71 [.int .i64 n, .slice RA X.length RC] ∧ Row wr (w.heap.size + 1) 71 [.int .i64 0, .slice none 0 0] ∧ w.grownBy wr (some cb)) (fun _ i _ => X.length - (intOf i).toNat)
  case atStart => exact ⟨0, [], Nat.zero_le _, rfl, own_nil _ _ _ _, Hdrs.nil, HIK.out 0 w W0 HI0.out HE0.out.below (Nat.le_refl _), HQ1.out, HQ2.out, HE0.out.grown _⟩
  case round =>
    obtain ⟨k, hs, hka, rfl, hown, hH, hI, hr1, hr2, hg⟩ := hrel
    have HO := Lib.hid hown
    have HH := Lib.hid hH
    have HI := Lib.hid hI
    have HR1 := Lib.hid hr1
    have HR2 := Lib.hid hr2
    have HG := Lib.hid hg
    have hzz := hg.size
    have hz1 := hr1.lt
    have hz2 := hr2.lt
    have hfl := filt_take_le p X k
    clear hown hH hI hr2 HI0 HQ1 HQ2 HE0
    by_cases h1 : k < X.length
    · obtain ⟨b, o, A1, C1, rfl, hb, hbc, c1, hr⟩ := (HX.out.keep (grown_keepP hg (Nat.le_refl _) HPC.out)).at_ h1
      have HC := Lib.hid (HF.out k h1 wr A1 C1 HI.out hg hr)
      have HN := Lib.hid (filt_snoc p X k h1)
      have n1 : wr.cell? ⟨w.heap.size, 1, none⟩ = some (.slice (some ⟨b, o, none⟩) X.length RC) := hr1.cell 1
      have HHR := Lib.hid hr
      clear hr hr1 hg
      generalize X[k] = x at c1 HC HN HHR
      generalize (X.take k).filter p = Fk at HO HN hfl HH
      go_wp2_with fail
      refine HC.out.mono ?_
      rintro e w1 ⟨rfl, hI1, hg1⟩
      have c1' := (grown_cell hg1 (p := ⟨b, o + k, none⟩) (show b < wr.heap.size by omega) (fun e => by injection e with e; exact HPC.out b hbc e)).trans c1
      have HR11 := Lib.hid (HR1.out.grown hg1 (fun e => by injection e with e; omega))
      have HR21 := Lib.hid (HR2.out.grown hg1 (fun e => by injection e with e; omega))
      have n1' : w1.cell? ⟨w.heap.size, 1, none⟩ = some (.slice (some ⟨b, o, none⟩) X.length RC) := HR11.out.cell 1
      have HO1 := Lib.hid (own_grown HO.out hg1 (fun g hk e => by have := own_base HO.out hk; injection e with e; omega))
      have HH1 := Lib.hid (HH.out.keep (grown_keepP hg1 hzz HPC.out))
      have HHR1 := Lib.hid (HHR.out.keep (grown_keepP hg1 hzz HPC.out))
      have HG1 := Lib.hid (grown_trans HG.out hg1)
      have HI1 := Lib.hid hI1
      have hw1 := hg1.size
      clear hI1 hg1 HC c1 n1 HO HH HI HHR
      cases hp : p x
      · have HN2 := Lib.hid (HN.out.trans (by simp [hp] : _ = Fk))
        clear HN hp
        go_wp2
        go_roundw
        case rel => exact ⟨k + 1, hs, by omega, by go_num, by rw [HN2.out]; exact HO1.out, by rw [HN2.out]; exact HH1.out, HI1.out, HR11.out, HR21.out, HG1.out⟩
        case measure => simp [intOf]; omega
      · have HN2 := Lib.hid (HN.out.trans (by simp [hp] : _ = Fk ++ [x]))
        have HO2 := Lib.hid (HO1.out.alloc (.cells #[.slice A1 x.length C1] 59))
        clear HN hp
        go_wp2_with (at_builtin; refine appH1 rfl (.tmp 20) (.tmp 26) rfl (w.heap.size + 2) u5 Fk.length hs rfl HO2.out w1.heap.size (.slice A1 x.length C1) rfl (by go_simp) rfl (by omega) (by simp; omega) ?_
                     intro v4 w4 hown4 hg4 _
                     have HO4 := Lib.hid hown4
                     have HB4 := Lib.hid (Below.then ((Below.refl (w.heap.size + 2) w1).alloc (show w.heap.size + 2 ≤ w1.heap.size by omega) (.cells #[.slice A1 x.length C1] 59)) (app_grown (B := w.heap.size + 2) hg4 (fun g hk => own_base HO2.out hk) (by simp; omega)) (Nat.le_refl _))
                     clear hown4 hg4)
        go_roundw
        case rel =>
          have hb4 := HB4.out
          have hk4 : ∀ p : Addr, p.block < w.heap.size → P p.block → w4.cell? p = w1.cell? p := fun p hp _ => hb4.cell (by omega)
          refine ⟨k + 1, hs ++ [.slice A1 x.length C1], by omega, by go_num, by rw [HN2.out, List.length_append]; exact HO4.out, ?_, HIK.out _ w1 w4 HI1.out (hb4.mono (by omega)) (by omega), HR11.out.below hb4 (by omega), HR21.out.below hb4 (by omega), grown_below HG1.out hb4 (by omega)⟩
          rw [HN2.out]
          exact (HH1.out.keep hk4).append (Hdrs.one (HHR1.out.keep hk4))
        case measure => simp [intOf]; omega
    · have HT := Lib.hid (List.take_of_length_le (show X.length ≤ k by omega))
      rw [HT.out] at HO HH hfl
      obtain ⟨A5, C5, rfl, hc5, hm5, hs5⟩ := own_slrs (P := fun b => P b ∧ b ≠ w.heap.size + 1) HO.out (HH.out.weak (fun b hb h => ⟨h, by omega⟩)) hzz (fun b hb => ⟨HPN.out b (by omega), by omega⟩)
      have c0 : wr.cell? ⟨w.heap.size + 1, 0, none⟩ = some (.int .i64 0) := HR2.out.cell 0
      have c1 : wr.cell? ⟨w.heap.size + 1, 1, none⟩ = some (.slice none 0 0) := HR2.out.cell 1
      have f0 := HR2.out.frozen 0
      have f1 := HR2.out.frozen 1
      have n0 : wr.cell? ⟨w.heap.size, 0, none⟩ = some (.int .i64 n) := hr1.cell 0
      obtain ⟨Y, hY⟩ : ∃ Y, Y = X.filter p := ⟨_, rfl⟩
      have HYE := Lib.hid hY
      rw [← hY] at hc5 hs5
      rw [← hY]
      clear hY HO HH hfl HT
      have z0 : (wr.setCell ⟨w.heap.size + 1, 0, none⟩ (.int .i64 n)).cell? ⟨w.heap.size + 1, 0, none⟩ = some (.int .i64 n) := World.cell?_setCell_same _ _ _ c0
      have z1 : ((wr.setCell ⟨w.heap.size + 1, 0, none⟩ (.int .i64 n)).setCell ⟨w.heap.size + 1, 1, none⟩ (.slice A5 Y.length C5)).cell? ⟨w.heap.size + 1, 1, none⟩ = some (.slice A5 Y.length C5) := World.cell?_setCell_same _ _ _ ((World.cell?_setCell_other _ _ _ _ (by simp)).trans c1)
      have Z0 := Lib.hid z0
      have Z1 := Lib.hid z1
      have HS5 : Hid (SlRsP P wr.heap.size ((wr.setCell ⟨w.heap.size + 1, 0, none⟩ (.int .i64 n)).setCell ⟨w.heap.size + 1, 1, none⟩ (.slice A5 Y.length C5)) A5 Y) := (hs5.keep (fun p hp hne => far_cell (p := ⟨w.heap.size + 1, 1, none⟩) (fun e => hne.2 e.symm) (far_cell (p := ⟨w.heap.size + 1, 0, none⟩) (fun e => hne.2 e.symm) rfl))).weak (fun b _ h => h.1)
      clear hs5 z0 z1 hr1 hg HR1 HR2
      go_wp2
      refine bodyPost_ret (v := .agg #[.int .i64 n, .slice A5 Y.length C5]) (by simp [results, Tryz.results44, go_sem, Z0.out, Z1.out]) rfl ⟨_, rfl, by rw [← HYE.out]; exact ⟨A5, C5, rfl, hc5, hm5, by simpa using HS5.out⟩, ?_⟩
      exact grown_below HG.out (((Below.refl w.heap.size wr).setCell (p := ⟨w.heap.size + 1, 0, none⟩) (show w.heap.size ≤ w.heap.size + 1 by omega) _).setCell (p := ⟨w.heap.size + 1, 1, none⟩) (show w.heap.size ≤ w.heap.size + 1 by omega) _) (Nat.le_refl _)

theorem rlFilter_any (n : Int) (RA : Option Addr) (RC : Nat) (X : List RL.R) (F : Nat) (caps : Array Value) (p : RL.R → Bool) (P : Nat → Prop) (cb : Nat) (I : Nat → World → Prop) (w : World)
    (hen : ∀ args w, (callFunc F args).run Tryz.prog w = .ok (.enter F args) w)
    (hX : SlRsP P w.heap.size w RA X) (hXl : X.length ≤ 100000) (hPc : ∀ b, P b → b ≠ cb) (hPn : ∀ b, w.heap.size ≤ b → P b) (hcb : cb < w.heap.size) (hI0 : I 0 w)
    (hIk : ∀ k W W', I k W → Below w.heap.size W W' → w.heap.size ≤ W.heap.size → I k W')
    (hF : ∀ k (hk : k < X.length) W A' C', I k W → w.grownBy W (some cb) → SlR W.heap.size W A' X[k] → Calls Tryz.prog F (#[.slice A' X[k].length C'] ++ caps) W fun e W' => e = .returned (.bool (p X[k])) ∧ I (k + 1) W' ∧ W.grownBy W' (some cb)) :
    Calls Tryz.prog 44 #[.agg #[.int .i64 n, .slice RA X.length RC], .func (.func F) #[] caps] w fun e w' => ∃ v, e = .returned v ∧ RelP P w' n (X.filter p) v ∧ w.grownBy w' (some cb) :=
  rlFilter_P n RA RC X F caps p P cb I w hen hX hXl hPc hPn hcb hI0 hIk (fun k hk W A' C' hI hg hr => hF k hk W A' C' hI hg (hr.sl.more hg.size))

end Go.Proofs.YtgaffbdcpkbdhaaGreat
end

section
/- Small words: blocks known whole and lists of rows, in later worlds. -/
namespace Go.Proofs.YtgaffbdcpkbdhaaGreat
open Go.RowKit Go.Sort

theorem Row.up {W W' : World} {g : Nat} {e : TypeId} {xs : List Value} (h : Row W g e xs) (hb : Below W.heap.size W W') : Row W' g e xs := h.below hb h.lt
theorem Row.set2 {w : World} {g : Nat} {e : TypeId} {a0 b0 : Value} (h : Row w g e [a0, b0]) (a b : Value) : Row ((w.setCell ⟨g, 0, none⟩ a).setCell ⟨g, 1, none⟩ b) g e [a, b] := (h.set 0 a).set 1 b
theorem map_snoc {α β : Type} (f : α → β) (l : List α) (k : Nat) (h : k < l.length) : (l.take (k + 1)).map f = (l.take k).map f ++ [f l[k]] := by
  rw [List.take_succ_eq_append_getElem h, List.map_append]; rfl
theorem SlRsP.upB {P : Nat → Prop} {w w' : World} {A : Option Addr} {X : List RL.R} (h : SlRsP P w.heap.size w A X) (hb : Below w.heap.size w w') : SlRsP P w'.heap.size w' A X := (h.keep (fun _p hp _ => hb.cell hp)).more hb.size
theorem HR.upB {P : Nat → Prop} {w w' : World} {u : Value} {y : RL.R} (h : HR P w.heap.size w u y) (hb : Below w.heap.size w w') : HR P w'.heap.size w' u y := (h.keep (fun _p hp _ => hb.cell hp)).more hb.size
theorem SlRsP.below {P : Nat → Prop} {B C : Nat} {w w' : World} {A : Option Addr} {X : List RL.R} (h : SlRsP P B w A X) (hb : Below C w w') (hC : B ≤ C) : SlRsP P B w' A X := h.keep (fun p hp _ => hb.cell (by omega))
theorem HR.below {P : Nat → Prop} {B C : Nat} {w w' : World} {u : Value} {y : RL.R} (h : HR P B w u y) (hb : Below C w w') (hC : B ≤ C) : HR P B w' u y := h.keep (fun p hp _ => hb.cell (by omega))

end Go.Proofs.YtgaffbdcpkbdhaaGreat
end

section
/- Words for maps whose elements are kept as they stand. -/
namespace Go.Proofs.YtgaffbdcpkbdhaaGreat
open Go.RowKit Go.Sort Go.ChangeMaps Go.WideShapes

/-- An element is its value. -/
def heldR (v : Value) : Option (DataW Value × List MemPlace) := some (.held v, [])
def litS (s : ByteArray) : Lit := .string s.data.toList
def litI (x : Int) : Lit := .int .i64 x
theorem keyedS : Maps.Keyed Tryz.prog 9 := Maps.string_keyed Tryz.underlying9
theorem keyedI : Maps.Keyed Tryz.prog 3 := Maps.int_keyed Tryz.underlying3
theorem keyS {s : ByteArray} (h : s.size ≤ maxLen) : keyOf Tryz.prog 9 (.string s) = some (litS s) := Go.WideMaps.keyOf_string_mk Tryz.underlying9 h
theorem keyI {x : Int} (h : (Lit.int .i64 x).wf = true) : keyOf Tryz.prog 3 (.int .i64 x) = some (litI x) := Maps.keyOf_int_mk Tryz.underlying3 h
theorem litS_inj {s t : ByteArray} (h : litS s = litS t) : s = t := by
  unfold litS at h
  injection h with h
  cases s; cases t
  simp at h
  rw [h]
theorem litI_inj {x y : Int} (h : litI x = litI y) : x = y := by unfold litI at h; injection h
theorem isKeyS (s : ByteArray) : WideAt.IsKeyLit (litS s) := ⟨⟩
theorem isKeyI (x : Int) : WideAt.IsKeyLit (litI x) := ⟨⟩
section
variable {k t e : TypeId} {w w' : World} {b n : Nat} {D : DataW Value} {key z : Value} {kl : Lit}
theorem map_up (h : w.ownsMap Tryz.prog k heldR b n D) (hb : Below w.heap.size w w') : w'.ownsMap Tryz.prog k heldR b n D := by
  have hl := h.lt
  obtain ⟨es, clock, h1, h2⟩ := h
  exact ⟨es, clock, (hb.block b hl).trans h1, h2⟩
theorem map_tight (h : w.ownsMap Tryz.prog k heldR b n D) : w.ownsMap Tryz.prog k heldR b (Maps.size D) D := by
  obtain ⟨es, clock, h1, h2, h3, h4⟩ := h
  refine ⟨es, clock, h1, h2, ?_, h4⟩
  rw [h4]
  simp [Maps.size, length_sorted]
theorem look_yes (K : Maps.Keyed Tryz.prog k) (ht : Tryz.prog.underlying t = some (.map k e)) (hz : ∀ u, (zeroValue e).run Tryz.prog u = .ok z u) (h : w.ownsMap Tryz.prog k heldR b n D) (hkey : keyOf Tryz.prog k key = some kl) {val : Value} (hv : ∀ zd, D.atKey kl zd = .held val) :
    (Instr.lookup t (.map (some b)) key true).run Tryz.prog w = .ok (.tuple #[val, .bool true]) w ∧ (Instr.lookup t (.map (some b)) key false).run Tryz.prog w = .ok val w := by
  obtain ⟨v, ps, h1, h2⟩ := h.look_ok K ht (hz w) (zd := .held z) (zp := []) rfl hkey
  obtain ⟨v', ps', h3, h4⟩ := h.lookup K ht (hz w) (zd := .held z) (zp := []) rfl hkey
  unfold heldR at h2 h4
  rw [hv] at h2 h4
  injection h2 with h2
  injection h4 with h4
  injection h2 with h2
  injection h4 with h4
  injection h2 with h2
  injection h4 with h4
  subst h2 h4
  rw [Maps.has_true_of_atKey hv] at h1
  exact ⟨h1, h3⟩
theorem look_no (K : Maps.Keyed Tryz.prog k) (ht : Tryz.prog.underlying t = some (.map k e)) (hz : ∀ u, (zeroValue e).run Tryz.prog u = .ok z u) (h : w.ownsMap Tryz.prog k heldR b n D) (hkey : keyOf Tryz.prog k key = some kl) (hn : Maps.has D kl = false) :
    (Instr.lookup t (.map (some b)) key true).run Tryz.prog w = .ok (.tuple #[z, .bool false]) w ∧ (Instr.lookup t (.map (some b)) key false).run Tryz.prog w = .ok z w := by
  obtain ⟨v, ps, h1, h2⟩ := h.look_ok K ht (hz w) (zd := .held z) (zp := []) rfl hkey
  obtain ⟨v', ps', h3, h4⟩ := h.lookup K ht (hz w) (zd := .held z) (zp := []) rfl hkey
  unfold heldR at h2 h4
  rw [Maps.atKey_of_not_has hn] at h2 h4
  injection h2 with h2
  injection h4 with h4
  injection h2 with h2
  injection h4 with h4
  injection h2 with h2
  injection h4 with h4
  subst h2 h4
  rw [hn] at h1
  exact ⟨h1, h3⟩
end

end Go.Proofs.YtgaffbdcpkbdhaaGreat
end

section
/- Databases and stores in memory; maps.Clone. -/
namespace Go.Proofs.YtgaffbdcpkbdhaaGreat
open Go.RowKit Go.Sort Go.ChangeMaps Go.WideShapes

set_option maxRecDepth 100000 in
theorem snClone_some (b : Nat) (n : Nat) (D : DataW Value) (w : World) (h : w.ownsMap Tryz.prog 3 heldR b n D) :
    Calls Tryz.prog 36 #[.map (some b)] w fun e w' => e = .returned (.map (some w.heap.size)) ∧ w'.ownsMap Tryz.prog 3 heldR w.heap.size n D ∧ Ext w w' := by
  have hlt := h.lt
  obtain ⟨es, clock, hb, hF, hs, hD⟩ := h
  have hq := fun w => run_eql_map_nil_sl (P := Tryz.prog) w 33 3 80 (some b) Tryz.underlying33
  have HG : Hid ((w.alloc (.map es clock)).ownsMap Tryz.prog 3 heldR w.heap.size n D) := ⟨es, clock, (MapKept.heap_alloc w _).1, hF, hs, hD⟩
  clear hF hs hD
  go_enter Tryz.func36, Tryz.ntmps36
  go_wp2
  rw [run_callFunc_extern Tryz.func47 (by kernel_rfl) (by kernel_rfl) (by kernel_rfl) (e := Extern.MapsClone.clone) (by kernel_rfl), run_maps_clone_sl w 33 hb]
  simp only [Result.andThen]
  rw [Oper.upon_value]
  go_wp2
  rw [run_typeAssert_map_sl _ 33 _ _ _ _ Tryz.underlying33]
  simp only [Result.andThen]
  rw [Oper.upon_value]
  go_wp2
  go_ret
  exact ⟨rfl, HG.out, (Ext.refl w).alloc _⟩
set_option maxRecDepth 100000 in
theorem ctClone_some (b : Nat) (n : Nat) (D : DataW Value) (w : World) (h : w.ownsMap Tryz.prog 9 heldR b n D) :
    Calls Tryz.prog 29 #[.map (some b)] w fun e w' => e = .returned (.map (some w.heap.size)) ∧ w'.ownsMap Tryz.prog 9 heldR w.heap.size n D ∧ Ext w w' := by
  have hlt := h.lt
  obtain ⟨es, clock, hb, hF, hs, hD⟩ := h
  have hq := fun w => run_eql_map_nil_sl (P := Tryz.prog) w 27 9 73 (some b) Tryz.underlying27
  have HG : Hid ((w.alloc (.map es clock)).ownsMap Tryz.prog 9 heldR w.heap.size n D) := ⟨es, clock, (MapKept.heap_alloc w _).1, hF, hs, hD⟩
  clear hF hs hD
  go_enter Tryz.func29, Tryz.ntmps29
  go_wp2
  rw [run_callFunc_extern Tryz.func47 (by kernel_rfl) (by kernel_rfl) (by kernel_rfl) (e := Extern.MapsClone.clone) (by kernel_rfl), run_maps_clone_sl w 27 hb]
  simp only [Result.andThen]
  rw [Oper.upon_value]
  go_wp2
  rw [run_typeAssert_map_sl _ 27 _ _ _ _ Tryz.underlying27]
  simp only [Result.andThen]
  rw [Oper.upon_value]
  go_wp2
  go_ret
  exact ⟨rfl, HG.out, (Ext.refl w).alloc _⟩

end Go.Proofs.YtgaffbdcpkbdhaaGreat
end

section
/- Walk: relation's Insert. -/
namespace Go.Proofs.YtgaffbdcpkbdhaaGreat
open Go.RowKit Go.Sort

/-- The address of a tail of a slice of rows. -/
def tailA (A : Option Addr) (k cap : Nat) : Option Addr := if cap = k then A else A.map (·.add k)
theorem elemRows : Tryz.prog.elem 69 = 59 := by kernel_rfl
theorem underRows : Tryz.prog.underlying 69 = some (.slice (Tryz.prog.elem 69)) := by kernel_rfl
theorem slTail (A : Option Addr) (len cap k : Nat) (h : k ≤ len) (W : World) : (Instr.slice 69 (.slice A len cap) (some (.int .i64 (k : Int))) none none).run Tryz.prog W = .ok (.slice (tailA A k cap) (len - k) (cap - k)) W := by
  rw [run_slice_l W 69 A len cap underRows .i64 k (by omega) (by omega), elemRows, Tryz.sizeOf59]
  simp [tailA, sliced, Result.andThen]
theorem slHead (A : Option Addr) (len cap k : Nat) (h : k ≤ cap) (W : World) : (Instr.slice 69 (.slice A len cap) none (some (.int .i64 (k : Int))) none).run Tryz.prog W = .ok (.slice A k cap) W := by
  rw [run_slice_h W 69 A len cap underRows .i64 k (by omega) (by omega), elemRows, Tryz.sizeOf59]
  cases A <;> simp [sliced, Addr.add, Result.andThen]

theorem SlRsP.head {P : Nat → Prop} {B : Nat} {w : World} {A : Option Addr} {X : List RL.R} (h : SlRsP P B w A X) (k : Nat) : SlRsP P B w A (X.take k) := fun hn => by
  obtain ⟨b, o, e, hb, hp, hs, hH, hc⟩ := h (by intro h0; apply hn; rw [h0]; simp)
  refine ⟨b, o, e, hb, hp, hs.take k, hH.take k, fun i u hu => ?_⟩
  rw [List.getElem?_take] at hu
  split at hu
  · exact hc i u hu
  · cases hu
theorem SlRsP.tail {P : Nat → Prop} {B : Nat} {w : World} {A : Option Addr} {X : List RL.R} {cap : Nat} (h : SlRsP P B w A X) (hc : X.length ≤ cap) (k : Nat) : SlRsP P B w (tailA A k cap) (X.drop k) := fun hn => by
  have hk : k < X.length := by
    rcases Nat.lt_or_ge k X.length with h1 | h1
    · exact h1
    · exact absurd (List.drop_of_length_le h1) hn
  obtain ⟨b, o, rfl, hb, hp, hs, hH, hcell⟩ := h (by intro h0; apply hn; rw [h0]; simp)
  refine ⟨b, o + k, ?_, hb, hp, hs.drop k, hH.drop k, fun i u hu => ?_⟩
  · unfold tailA
    rw [if_neg (by omega)]
    simp only [Option.map_some, Addr.add_lit]
  · rw [List.getElem?_drop] at hu
    rw [Nat.add_assoc]
    exact hcell _ u hu

/-- The headers of a list of rows, for all later worlds. -/
theorem SlRsP.hdrs2 {P : Nat → Prop} {B : Nat} {w : World} {A : Option Addr} {X : List RL.R} (h : SlRsP P B w A X) : ∃ hs, Hdrs P B w hs X ∧ (∀ W : World, (∀ p : Addr, p.block < B → P p.block → W.cell? p = w.cell? p) → ∀ ad, A = some ad → ∀ j u, hs[j]? = some u → W.cell? (ad.add j) = some u) ∧ (A = none → hs = []) := by
  by_cases hn : X = []
  · subst hn
    exact ⟨[], Hdrs.nil, fun _ _ _ _ j u hu => by simp at hu, fun _ => rfl⟩
  obtain ⟨b, o, rfl, hb, hp, hs, hH, hc⟩ := h hn
  exact ⟨hs, hH, fun W hW ad e j u hu => by injection e with e; subst e; rw [Addr.add_lit]; exact (hW ⟨b, o + j, none⟩ hb hp).trans (hc j u hu), fun e => by cases e⟩

theorem makeRows0 (n : Nat) (hn : n ≤ 1000000) (w : World) : (Instr.makeSlice 69 (.int .i64 0) (.int .i64 ((n : Int) + 1))).run Tryz.prog w = .ok (.slice (some ⟨w.heap.size, 0, none⟩) 0 (n + 1)) (w.alloc (.cells (zerosA (.slice none 0 0) (n + 1)) 59)) := by
  obtain ⟨i0, hi0, hz0, hz1, hz2⟩ := info_parts rowInfo
  have := run_make (P := Tryz.prog) w 69 59 i0 _ Tryz.underlying69 hi0 hz0 .i64 .i64 0 ((n : Int) + 1) (by omega) (by omega) (by rw [hz2]; omega) (by omega)
  rw [this, hz1]
  rw [show ((n : Int) + 1).toNat = n + 1 by omega]
  rw [zeros_made _ _ rfl]
  rfl
theorem own_made (w : World) (n base : Nat) (hn : n ≤ 1000000) (hb : base ≤ w.heap.size) : (w.alloc (.cells (zerosA (.slice none 0 0) n) 59)).ownsRow base 59 1 (.slice (some ⟨w.heap.size, 0, none⟩) 0 n) 0 [] :=
  ⟨by simp, .inr ⟨w.heap.size, n, _, rfl, hb, heap_alloc_new w _, Nat.zero_le _, by simp only [maxLen]; omega, by simp [zerosA], by simp⟩⟩

/-- What relation's Insert leaves. -/
def InsPost (P : Nat → Prop) (w : World) (n : Int) (X : List RL.R) (x : RL.R) (e : Ending) (w' : World) : Prop :=
  (wrongF n x ≠ 0 → e = .returned (.tuple #[.agg #[.int .i64 0, .slice none 0 0], .bool false, .int .i64 (wrongF n x)])) ∧ (wrongF n x = 0 → ∃ v, e = .returned (.tuple #[v, .bool (!decide (x ∈ X)), .int .i64 0]) ∧ RelP P w' n (RL.insF X x) v) ∧ Below w.heap.size w w'

set_option maxHeartbeats 2000000 in
set_option maxRecDepth 100000 in
theorem rlInsert_any (P : Nat → Prop) (n : Int) (RA A : Option Addr) (RC C : Nat) (X : List RL.R) (x : RL.R) (w : World) (hX : SlRsP P w.heap.size w RA X) (hPn : ∀ b, w.heap.size ≤ b → P b) (hx : SlR w.heap.size w A x) (hXo : RsOk X) (hxo : ROk x) (hXl : X.length ≤ 60000) (hS : RL.SS X) (hXc : X.length ≤ RC) (hXm : RC ≤ 9223372036854775807) :
    Calls Tryz.prog 51 #[.agg #[.int .i64 n, .slice RA X.length RC], .slice A x.length C] w (InsPost P w n X x) := by
  have HX := Lib.hid hX
  have HPN := Lib.hid hPn
  have HXX := Lib.hid hx
  have HXO := Lib.hid hXo
  have HXO2 := Lib.hid hxo
  have HSS := Lib.hid hS
  have HMK := Lib.hid (makeRows0 X.length (by omega))
  clear hX hPn hx hXo hxo hS
  go_enter Tryz.func51, Tryz.ntmps51
  have q1 := (Row.new w 71 [.int .i64 n, .slice RA X.length RC]).alloc (.cells #[.int .i64 0, .slice none 0 0] 71)
  have q2 := Row.new (w.alloc (.cells #[.int .i64 n, .slice RA X.length RC] 71)) 71 [.int .i64 0, .slice none 0 0]
  simp only [World.size_alloc] at q2
  have HQ1 := Lib.hid q1
  have HQ2 := Lib.hid q2
  have HE0 := Lib.hid (((Ext.refl w).alloc (.cells #[.int .i64 n, .slice RA X.length RC] 71)).alloc (.cells #[.int .i64 0, .slice none 0 0] 71))
  clear q1 q2
  go_wp2_with fail
  generalize (w.alloc (.cells #[.int .i64 n, .slice RA X.length RC] 71)).alloc (.cells #[.int .i64 0, .slice none 0 0] 71) = W0 at *
  refine (rlAccepts_any n RA A X.length RC C x W0 (HXX.out.up HE0.out) HXO2.out).mono ?_
  rintro e w1 ⟨rfl, hx1⟩
  have HE1 := Lib.hid (HE0.out.trans hx1)
  have HR1 := Lib.hid (HQ1.out.below hx1.below HQ1.out.lt)
  have HR2 := Lib.hid (HQ2.out.below hx1.below HQ2.out.lt)
  have hz1 : w.heap.size + 1 < w1.heap.size := HR2.out.lt
  clear hx1 HE0 HQ1 HQ2
  by_cases hw : wrongF n x = 0
  rotate_left
  · have hw2 : (wrongF n x != 0) = true := by simpa using hw
    have HW := Lib.hid hw
    have c0 : w1.cell? ⟨w.heap.size + 1, 0, none⟩ = some (.int .i64 0) := HR2.out.cell 0
    have c1 : w1.cell? ⟨w.heap.size + 1, 1, none⟩ = some (.slice none 0 0) := HR2.out.cell 1
    have f0 := HR2.out.frozen 0
    have f1 := HR2.out.frozen 1
    clear hw
    obtain ⟨q, hqe⟩ : ∃ q, q = wrongF n x := ⟨_, rfl⟩
    rw [← hqe] at hw2
    rw [← hqe]
    have HQE := Lib.hid hqe
    clear hqe
    go_wp2
    refine bodyPost_ret (v := .tuple #[.agg #[.int .i64 0, .slice none 0 0], .bool false, .int .i64 q]) (by simp [results, Tryz.results51, go_sem, c0, c1]) rfl ⟨fun _ => by rw [← HQE.out], fun h => absurd h HW.out, ?_⟩
    exact (HE1.out.below.setCell (p := ⟨w.heap.size + 1, 0, none⟩) (show w.heap.size ≤ w.heap.size + 1 by omega) _).setCell (p := ⟨w.heap.size + 1, 1, none⟩) (show w.heap.size ≤ w.heap.size + 1 by omega) _
  have HW := Lib.hid hw
  rw [hw]
  clear hw
  have n0 : w1.cell? ⟨w.heap.size, 0, none⟩ = some (.int .i64 n) := HR1.out.cell 0
  have n1 : w1.cell? ⟨w.heap.size, 1, none⟩ = some (.slice RA X.length RC) := HR1.out.cell 1
  go_wp2_with fail
  refine (rlSearch_any n RA A RC C X x w1 (HX.out.sl.up HE1.out) (HXX.out.up HE1.out) (by omega) HXO.out HXO2.out.1 HSS.out).mono ?_
  rintro e w2 ⟨rfl, hx2⟩
  have HE2 := Lib.hid (HE1.out.trans hx2)
  have HR12 := Lib.hid (HR1.out.below hx2.below HR1.out.lt)
  have HR22 := Lib.hid (HR2.out.below hx2.below HR2.out.lt)
  have hz2 : w.heap.size + 1 < w2.heap.size := HR22.out.lt
  clear hx2 n0 n1 HR1 HR2 HE1
  have n0 : w2.cell? ⟨w.heap.size, 0, none⟩ = some (.int .i64 n) := HR12.out.cell 0
  have n1 : w2.cell? ⟨w.heap.size, 1, none⟩ = some (.slice RA X.length RC) := HR12.out.cell 1
  have c0 : w2.cell? ⟨w.heap.size + 1, 0, none⟩ = some (.int .i64 0) := HR22.out.cell 0
  have c1 : w2.cell? ⟨w.heap.size + 1, 1, none⟩ = some (.slice none 0 0) := HR22.out.cell 1
  have f0 := HR22.out.frozen 0
  have f1 := HR22.out.frozen 1
  by_cases hm : x ∈ X
  · have HI : Hid (RL.insF X x = X) := by show _ = _; unfold RL.insF; rw [if_pos hm]
    have hd : decide (x ∈ X) = true := by simpa using hm
    have HD := Lib.hid hd
    rw [hd]
    clear hm hd
    generalize RL.rank X x = k at *
    have z0 : (w2.setCell ⟨w.heap.size + 1, 0, none⟩ (.int .i64 n)).cell? ⟨w.heap.size + 1, 0, none⟩ = some (.int .i64 n) := World.cell?_setCell_same _ _ _ c0
    have z1 : ((w2.setCell ⟨w.heap.size + 1, 0, none⟩ (.int .i64 n)).setCell ⟨w.heap.size + 1, 1, none⟩ (.slice RA X.length RC)).cell? ⟨w.heap.size + 1, 1, none⟩ = some (.slice RA X.length RC) := World.cell?_setCell_same _ _ _ ((World.cell?_setCell_other _ _ _ _ (by simp)).trans c1)
    have Z0 := Lib.hid z0
    have Z1 := Lib.hid z1
    have HB := Lib.hid ((HE2.out.below.setCell (p := ⟨w.heap.size + 1, 0, none⟩) (show w.heap.size ≤ w.heap.size + 1 by omega) (.int .i64 n)).setCell (p := ⟨w.heap.size + 1, 1, none⟩) (show w.heap.size ≤ w.heap.size + 1 by omega) (.slice RA X.length RC))
    clear z0 z1
    go_wp2
    refine bodyPost_ret (v := .tuple #[.agg #[.int .i64 n, .slice RA X.length RC], .bool false, .int .i64 0]) (by simp [results, Tryz.results51, go_sem, Z0.out, Z1.out]) rfl ⟨fun h => absurd HW.out h, fun _ => ⟨_, by rw [HD.out]; rfl, ?_⟩, HB.out⟩
    rw [HI.out]
    refine ⟨RA, RC, rfl, hXc, hXm, ?_⟩
    exact (HX.out.keep (fun p hp _ => HB.out.cell hp)).more HB.out.size
  · have HI : Hid (RL.insF X x = X.take (RL.rank X x) ++ [x] ++ X.drop (RL.rank X x)) := by show _ = _; unfold RL.insF; rw [if_neg hm]; simp
    have hd : decide (x ∈ X) = false := by simpa using hm
    have HD := Lib.hid hd
    rw [hd]
    have hrk := RL.rank_le X x
    clear hm hd
    generalize RL.rank X x = k at *
    have hXl2 : decide ((65536 : Int) ≤ (X.length : Int)) = false := by simp; omega
    have hmk := HMK.out
    have hst := slTail RA X.length RC k hrk
    have hsh := slHead RA X.length RC k (by omega)
    obtain ⟨TA, hTA⟩ : ∃ TA, TA = tailA RA k RC := ⟨_, rfl⟩
    rw [← hTA] at hst
    have HX2 := Lib.hid ((HX.out.keep (w' := w2) (fun p hp _ => HE2.out.below.cell hp)))
    have HTAIL : Hid (SlRsP P w.heap.size w2 TA (X.drop k)) := by rw [hTA]; exact HX2.out.tail hXc k
    have HHEAD := Lib.hid (HX2.out.head k)
    have htl : (X.take k).length = k := by simp; omega
    have hdl : (X.drop k).length = X.length - k := by simp
    clear hTA
    obtain ⟨h1s, hH1, hc1, hnn1⟩ := HHEAD.out.hdrs2
    obtain ⟨h2s, hH2, hc2, hnn2⟩ := HTAIL.out.hdrs2
    have e1l := hH1.1
    have e2l := hH2.1
    rw [htl] at e1l
    rw [hdl] at e2l
    have HH1 := Lib.hid (hH1.weak (P' := fun b => P b ∧ b ≠ w.heap.size + 1) (fun b hb h => ⟨h, by omega⟩))
    have HH2 := Lib.hid (hH2.weak (P' := fun b => P b ∧ b ≠ w.heap.size + 1) (fun b hb h => ⟨h, by omega⟩))
    have HC1 := Lib.hid hc1
    have HC2 := Lib.hid hc2
    have HN1 := Lib.hid hnn1
    have HN2 := Lib.hid hnn2
    have HL1 := Lib.hid e1l
    have HL2 := Lib.hid e2l
    clear hH1 hH2 hc1 hc2 hnn1 hnn2 e1l e2l htl hdl HX2 HTAIL HHEAD
    have HO0 := Lib.hid (own_made w2 (X.length + 1) (w.heap.size + 2) (by omega) (by omega))
    have HB0 := Lib.hid ((Below.refl (w.heap.size + 2) w2).alloc (show w.heap.size + 2 ≤ w2.heap.size by omega) (.cells (zerosA (.slice none 0 0) (X.length + 1)) 59))
    have hz2' : w.heap.size < w2.heap.size := by omega
    go_wp2_with (at_builtin; refine appH rfl (.tmp 36) (.tmp 40) rfl (w.heap.size + 2) (.slice (some ⟨w2.heap.size, 0, none⟩) 0 (X.length + 1)) 0 [] rfl HO0.out RA k RC h1s HL1.out rfl (HC1.out _ (fun p hp _ => HB0.out.cell (by omega))) HN1.out HH1.out.cells (by omega) (by simp; omega) ?_
                 intro v3 w3 hown3 hg3 _
                 have HO3 := Lib.hid hown3
                 have HB3 := Lib.hid (Below.then HB0.out (app_grown (B := w.heap.size + 2) hg3 (fun g hk => own_base HO0.out hk) (by simp; omega)) (Nat.le_refl _))
                 clear hown3 hg3)
    have hz3 := HB3.out.size
    refine (cloneRow_any A C x w3 ((HXX.out.below (Below.then HE2.out.below HB3.out (by omega)) (Nat.le_refl _)).more (by omega)) HXO2.out.1).mono ?_
    rintro e w4 ⟨v4, rfl, hown4, hb4⟩
    obtain ⟨-, A4, C4, rfl, hc4, hm4, hs4, hfr4⟩ := SlR.of_own hown4
    have hb4' := Below.then HB3.out hb4 (by omega)
    have HB4 := Lib.hid (hb4'.alloc (show w.heap.size + 2 ≤ w4.heap.size by have := hb4.size; omega) (.cells #[.slice A4 x.length C4] 59))
    have HO4 := Lib.hid ((own_keep HO3.out hb4).alloc (.cells #[.slice A4 x.length C4] 59))
    have hz4 := hb4.size
    have HS4 := Lib.hid (hs4.alloc1 (.cells #[.slice A4 x.length C4] 59))
    have HFR4 := Lib.hid hfr4
    have HLT4 := Lib.hid hs4.lt_of
    have HOL := Lib.hid (own_lt HO3.out)
    have m1 : w4.cell? ⟨w.heap.size, 1, none⟩ = some (.slice RA X.length RC) := (hb4'.cell (p := ⟨w.heap.size, 1, none⟩) (show w.heap.size < w.heap.size + 2 by omega)).trans n1
    clear hown4 hb4 hs4 hfr4 n0 n1 c0 c1 f0 f1 hb4'
    have hz4' : w.heap.size < w4.heap.size := by omega
    go_wp2_with (first
      | (at_builtin; refine appH1 rfl (.tmp 42) (.tmp 45) rfl (w.heap.size + 2) v3 (0 + k) ([] ++ h1s) rfl HO4.out w4.heap.size (.slice A4 x.length C4) rfl (by go_simp) rfl (by omega) (by simp; omega) ?_
         intro v5 w5 hown5 hg5 hat5
         have HO5 := Lib.hid hown5
         have hb45 : Below (w.heap.size + 2) w4 w5 := Below.then ((Below.refl (w.heap.size + 2) w4).alloc (show w.heap.size + 2 ≤ w4.heap.size by omega) (.cells #[.slice A4 x.length C4] 59)) (app_grown (B := w.heap.size + 2) hg5 (fun g hk => own_base HO4.out hk) (by simp; omega)) (Nat.le_refl _)
         have HS5 := Lib.hid (HS4.out.grown hg5 (fun _ ad e e2 => by have h1 := HOL.out _ e2; have h2 := HFR4.out ad e; omega))
         have HAT5 := Lib.hid hat5
         clear hat5
         have HB5 := Lib.hid (Below.then HB4.out (app_grown (B := w.heap.size + 2) hg5 (fun g hk => own_base HO4.out hk) (by simp; omega)) (Nat.le_refl _))
         have m15 : w5.cell? ⟨w.heap.size, 1, none⟩ = some (.slice RA X.length RC) := (hb45.cell (p := ⟨w.heap.size, 1, none⟩) (show w.heap.size < w.heap.size + 2 by omega)).trans m1
         have hz5 := HB5.out.size
         clear hown5 hg5 hb45 m1)
      | (at_builtin; refine appH rfl (.tmp 47) (.tmp 51) rfl (w.heap.size + 2) v5 (0 + k + 1) ([] ++ h1s ++ [.slice A4 x.length C4]) rfl HO5.out TA (X.length - k) (RC - k) h2s HL2.out rfl (HC2.out _ (fun p hp _ => HB5.out.cell (by omega))) HN2.out HH2.out.cells (by omega) (by omega) ?_
         intro v6 w6 hown6 hg6 _
         have HO6 := Lib.hid hown6
         have hs6 := HS5.out.grown hg6 (fun hy ad e e2 => by
           have h2 := HFR4.out ad e
           have h3 := HLT4.out hy ad e
           rcases HAT5.out with h4 | h4
           · rw [h4] at e2; have h1 := HOL.out _ e2; omega
           · rw [h4] at e2; injection e2 with e2; simp only [World.size_alloc] at e2; omega)
         have hb6 := Below.then HB5.out (app_grown (B := w.heap.size + 2) hg6 (fun g hk => own_base HO5.out hk) (by omega)) (Nat.le_refl _)
         have HB6 := Lib.hid hb6
         have r16 := HR12.out.below hb6 (by omega)
         have r26 := HR22.out.below hb6 (by omega)
         have m06 : w6.cell? ⟨w.heap.size, 0, none⟩ = some (.int .i64 n) := r16.cell 0
         have c06 : w6.cell? ⟨w.heap.size + 1, 0, none⟩ = some (.int .i64 0) := r26.cell 0
         have c16 : w6.cell? ⟨w.heap.size + 1, 1, none⟩ = some (.slice none 0 0) := r26.cell 1
         have f06 := r26.frozen 0
         have f16 := r26.frozen 1
         have hz6 := hb6.size
         have hz56 := hg6.size
         have hH6 : Hdrs (fun b => P b ∧ b ≠ w.heap.size + 1) w6.heap.size w6 ([] ++ h1s ++ [.slice A4 x.length C4] ++ h2s) (X.take k ++ [x] ++ X.drop k) := by
           rw [List.nil_append]
           refine (((HH1.out.keep (fun p hp _ => hb6.cell (by omega))).more (by omega)).append (Hdrs.one ⟨A4, C4, rfl, hc4, hm4, hs6, fun _ ad e => ?_⟩)).append ((HH2.out.keep (fun p hp _ => hb6.cell (by omega))).more (by omega))
           have := HFR4.out ad e
           exact ⟨HPN.out _ (by omega), by omega⟩
         obtain ⟨Y, hY⟩ : ∃ Y, Y = X.take k ++ [x] ++ X.drop k := ⟨_, rfl⟩
         rw [← hY] at hH6
         have hlY : 0 + k + 1 + (X.length - k) = Y.length := by rw [hY]; simp; omega
         have HYE := Lib.hid hY
         rw [hlY] at hown6
         obtain ⟨A6, C6, rfl, hc6, hm6, hs6'⟩ := own_slrs hown6 hH6 (Nat.le_refl _) (fun b hb => ⟨HPN.out b (by omega), by omega⟩)
         clear hown6 hg6 hb6 r16 r26 m15 hY hlY hH6)
      | fail)
    refine bodyPost_ret (v := .tuple #[.agg #[.int .i64 n, .slice A6 Y.length C6], .bool true, .int .i64 0]) ?_ rfl ⟨fun h => absurd HW.out h, fun _ => ⟨_, by rw [HD.out]; rfl, ?_⟩, ?_⟩
    · have z0 : (w6.setCell ⟨w.heap.size + 1, 0, none⟩ (.int .i64 n)).cell? ⟨w.heap.size + 1, 0, none⟩ = some (.int .i64 n) := World.cell?_setCell_same _ _ _ c06
      have z1 : ((w6.setCell ⟨w.heap.size + 1, 0, none⟩ (.int .i64 n)).setCell ⟨w.heap.size + 1, 1, none⟩ (.slice A6 Y.length C6)).cell? ⟨w.heap.size + 1, 1, none⟩ = some (.slice A6 Y.length C6) := World.cell?_setCell_same _ _ _ ((World.cell?_setCell_other _ _ _ _ (by simp)).trans c16)
      simp [results, Tryz.results51, go_sem, z0, z1]
    · rw [HI.out, ← HYE.out]
      refine ⟨A6, C6, rfl, hc6, hm6, ?_⟩
      have h := (hs6'.keep (w' := (w6.setCell ⟨w.heap.size + 1, 0, none⟩ (.int .i64 n)).setCell ⟨w.heap.size + 1, 1, none⟩ (.slice A6 Y.length C6)) (fun p hp hne => far_cell (p := ⟨w.heap.size + 1, 1, none⟩) (fun e => hne.2 e.symm) (far_cell (p := ⟨w.heap.size + 1, 0, none⟩) (fun e => hne.2 e.symm) rfl))).weak (P' := P) (fun b _ h => h.1)
      rw [show w6.heap.size = ((w6.setCell ⟨w.heap.size + 1, 0, none⟩ (.int .i64 n)).setCell ⟨w.heap.size + 1, 1, none⟩ (.slice A6 Y.length C6)).heap.size by simp] at h
      exact h
    · exact ((Below.then HE2.out.below HB6.out (by omega)).setCell (p := ⟨w.heap.size + 1, 0, none⟩) (show w.heap.size ≤ w.heap.size + 1 by omega) _).setCell (p := ⟨w.heap.size + 1, 1, none⟩) (show w.heap.size ≤ w.heap.size + 1 by omega) _

end Go.Proofs.YtgaffbdcpkbdhaaGreat
end

section
/- Databases and stores in memory. -/
namespace Go.Proofs.YtgaffbdcpkbdhaaGreat
open Go.RowKit Go.Sort Go.ChangeMaps Go.WideShapes

/-- The rows of each relation. -/
abbrev Cont := ByteArray → List RL.R
/-- The names and the kinds. -/
abbrev Sch := List (ByteArray × List Int)
structure RowsOk (n : Nat) (X : List RL.R) : Prop where
  ss : RL.SS X
  ok : ∀ x ∈ X, wrongF (n : Int) x = 0
  many : X.length ≤ 4096
/-- A list of integers in blocks that P allows. -/
def SlIP (P : Nat → Prop) (w : World) (A : Option Addr) (ks : List Int) : Prop :=
  ks ≠ [] → ∃ b o, A = some ⟨b, o, none⟩ ∧ b < w.heap.size ∧ P b ∧ ∀ j u, (ks.map (Value.int .i64))[j]? = some u → w.cell? ⟨b, o + j, none⟩ = some u
/-- An entry of a database. -/
def EntM (P : Nat → Prop) (w : World) (val : Value) (ks : List Int) (X : List RL.R) : Prop :=
  ∃ KA KC A C, val = .agg #[.slice KA ks.length KC, .int .i64 ks.length, .slice A X.length C] ∧ ks.length ≤ 6 ∧ SlIP P w KA ks ∧ X.length ≤ C ∧ C ≤ 9223372036854775807 ∧ SlRsP P w.heap.size w A X ∧ RowsOk ks.length X
/-- A database: the map m. -/
def DbM (P : Nat → Prop) (S : Sch) (w : World) (m : Value) (F : Cont) : Prop :=
  ∃ b D, m = .map (some b) ∧ P b ∧ w.ownsMap Tryz.prog 9 heldR b (Maps.size D) D ∧ Maps.size D = S.length ∧ (∀ k, Maps.has D k = true → ∃ p ∈ S, k = litS p.1) ∧
    ∀ p ∈ S, ∃ val, (∀ z, D.atKey (litS p.1) z = .held val) ∧ EntM P w val p.2 (F p.1)
/-- A version. -/
structure Ver where
  num : Int
  db : Cont
  pins : Int
/-- What the map D of a store says of the versions V. -/
def VersM (P : Nat → Prop) (S : Sch) (w : World) (D : DataW Value) (V : List Ver) : Prop :=
  ∀ x ∈ V, (Lit.int .i64 x.num).wf = true ∧ ∃ d, (∀ z, D.atKey (litI x.num) z = .held (.agg #[d, .int .i64 x.pins])) ∧ DbM P S w d x.db
/-- The versions of a store: the map m. -/
def StM (P : Nat → Prop) (S : Sch) (w : World) (m : Value) (V : List Ver) : Prop :=
  ∃ b D, m = .map (some b) ∧ P b ∧ w.ownsMap Tryz.prog 3 heldR b (Maps.size D) D ∧ Maps.size D = V.length ∧ (∀ k, Maps.has D k = true → ∃ x ∈ V, k = litI x.num) ∧
    VersM P S w D V ∧ V.Pairwise (fun x y => x.num < y.num)
section
variable {P P' : Nat → Prop} {S : Sch} {w w' : World} {m val : Value} {F : Cont} {V : List Ver} {ks : List Int} {X : List RL.R} {A : Option Addr} {D : DataW Value}
/-- The blocks that P allows stand. -/
def Stay (P : Nat → Prop) (w w' : World) : Prop := w.heap.size ≤ w'.heap.size ∧ ∀ b, b < w.heap.size → P b → w'.heap[b]? = w.heap[b]?
theorem Stay.of (hb : Below w.heap.size w w') : Stay P w w' := ⟨hb.size, fun b h _ => hb.block b h⟩
theorem Stay.trans {w'' : World} (h : Stay P w w') (k : Stay P w' w'') : Stay P w w'' := ⟨Nat.le_trans h.1 k.1, fun b hb hp => (k.2 b (Nat.lt_of_lt_of_le hb h.1) hp).trans (h.2 b hb hp)⟩
theorem Stay.set {g : Nat} (hg : ¬ P g) (o : Nat) (u : Value) : Stay P w (w.setCell ⟨g, o, none⟩ u) := ⟨by simp, fun b _ hp => Below.heap_setCell w ⟨g, o, none⟩ u b (fun e => hg (by have e : b = g := e; rw [← e]; exact hp))⟩
theorem SlIP.keep (h : SlIP P w A ks) (hk : Stay P w w') : SlIP P w' A ks := fun hn => by
  obtain ⟨b, o, e, hb, hp, hc⟩ := h hn
  exact ⟨b, o, e, Nat.lt_of_lt_of_le hb hk.1, hp, fun j u hu => (World.cell?_of_block (hk.2 b hb hp)).trans (hc j u hu)⟩
theorem SlIP.weak (h : SlIP P w A ks) (hP : ∀ b, b < w.heap.size → P b → P' b) : SlIP P' w A ks := fun hn => by
  obtain ⟨b, o, e, hb, hp, hc⟩ := h hn
  exact ⟨b, o, e, hb, hP b hb hp, hc⟩
theorem EntM.keep (h : EntM P w val ks X) (hk : Stay P w w') : EntM P w' val ks X := by
  obtain ⟨KA, KC, A, C, h1, h2, h3, h4, h5, h6, h7⟩ := h
  exact ⟨KA, KC, A, C, h1, h2, h3.keep hk, h4, h5, (h6.keep fun p hp hP => World.cell?_of_block (hk.2 p.block hp hP)).more hk.1, h7⟩
theorem EntM.weak (h : EntM P w val ks X) (hP : ∀ b, b < w.heap.size → P b → P' b) : EntM P' w val ks X := by
  obtain ⟨KA, KC, A, C, h1, h2, h3, h4, h5, h6, h7⟩ := h
  exact ⟨KA, KC, A, C, h1, h2, h3.weak hP, h4, h5, h6.weak hP, h7⟩
theorem map_keep {k : TypeId} {b n : Nat} (h : w.ownsMap Tryz.prog k heldR b n D) (hP : P b) (hk : Stay P w w') : w'.ownsMap Tryz.prog k heldR b n D := by
  have hl := h.lt
  obtain ⟨es, clock, h1, h2⟩ := h
  exact ⟨es, clock, (hk.2 b hl hP).trans h1, h2⟩
theorem DbM.keep (h : DbM P S w m F) (hk : Stay P w w') : DbM P S w' m F := by
  obtain ⟨b, D, h1, h0, h2, h3, h4, h5⟩ := h
  exact ⟨b, D, h1, h0, map_keep h2 h0 hk, h3, h4, fun p hp => by obtain ⟨v, g1, g2⟩ := h5 p hp; exact ⟨v, g1, g2.keep hk⟩⟩
theorem DbM.weak (h : DbM P S w m F) (hP : ∀ b, b < w.heap.size → P b → P' b) : DbM P' S w m F := by
  obtain ⟨b, D, h1, h0, h2, h3, h4, h5⟩ := h
  exact ⟨b, D, h1, hP b h2.lt h0, h2, h3, h4, fun p hp => by obtain ⟨v, g1, g2⟩ := h5 p hp; exact ⟨v, g1, g2.weak hP⟩⟩
theorem VersM.keep (h : VersM P S w D V) (hk : Stay P w w') : VersM P S w' D V := fun x hx => by obtain ⟨g0, d, g1, g2⟩ := h x hx; exact ⟨g0, d, g1, g2.keep hk⟩
theorem VersM.weak (h : VersM P S w D V) (hP : ∀ b, b < w.heap.size → P b → P' b) : VersM P' S w D V := fun x hx => by obtain ⟨g0, d, g1, g2⟩ := h x hx; exact ⟨g0, d, g1, g2.weak hP⟩
theorem StM.keep (h : StM P S w m V) (hk : Stay P w w') : StM P S w' m V := by
  obtain ⟨b, D, h1, h0, h2, h3, h4, h5, h6⟩ := h
  exact ⟨b, D, h1, h0, map_keep h2 h0 hk, h3, h4, h5.keep hk, h6⟩
theorem StM.weak (h : StM P S w m V) (hP : ∀ b, b < w.heap.size → P b → P' b) : StM P' S w m V := by
  obtain ⟨b, D, h1, h0, h2, h3, h4, h5, h6⟩ := h
  exact ⟨b, D, h1, hP b h2.lt h0, h2, h3, h4, h5.weak hP, h6⟩
theorem DbM.up (h : DbM P S w m F) (hb : Below w.heap.size w w') : DbM P S w' m F := h.keep (Stay.of hb)
theorem StM.up (h : StM P S w m V) (hb : Below w.heap.size w w') : StM P S w' m V := h.keep (Stay.of hb)
/-- A box is left out, written, and let in again. -/
theorem StM.boxed {g : Nat} (h : StM (fun b => P b ∧ b ≠ g) S w m V) (u v : Value) : StM P S ((w.setCell ⟨g, 0, none⟩ u).setCell ⟨g, 1, none⟩ v) m V :=
  ((h.keep (Stay.set (fun e => e.2 rfl) 0 u)).keep (Stay.set (fun e => e.2 rfl) 1 v)).weak fun _ _ hb => hb.1
theorem StM.but {g : Nat} (h : StM P S w m V) (hg : w.heap.size ≤ g) : StM (fun b => P b ∧ b ≠ g) S w m V := h.weak fun b hb hp => ⟨hp, by omega⟩
theorem DbM.but {g : Nat} (h : DbM P S w m F) (hg : w.heap.size ≤ g) : DbM (fun b => P b ∧ b ≠ g) S w m F := h.weak fun b hb hp => ⟨hp, by omega⟩
end
/-- A version more, or another in its place. -/
def putV : List Ver → Ver → List Ver
  | [], v => [v]
  | x :: t, v => if v.num < x.num then v :: x :: t else if v.num = x.num then v :: t else x :: putV t v
theorem mem_putV (v : Ver) : ∀ {V : List Ver}, V.Pairwise (fun x y => x.num < y.num) → ∀ y, y ∈ putV V v ↔ y = v ∨ (y ∈ V ∧ y.num ≠ v.num)
  | [], _, y => by simp [putV]
  | x :: t, h, y => by
    obtain ⟨h1, h2⟩ := List.pairwise_cons.1 h
    unfold putV
    split
    · rename_i h3
      simp only [List.mem_cons]
      constructor
      · rintro (rfl | rfl | hy)
        · exact .inl rfl
        · exact .inr ⟨.inl rfl, by omega⟩
        · exact .inr ⟨.inr hy, by have := h1 y hy; omega⟩
      · rintro (rfl | ⟨rfl | hy, _⟩)
        · exact .inl rfl
        · exact .inr (.inl rfl)
        · exact .inr (.inr hy)
    · split
      · rename_i h3 h4
        simp only [List.mem_cons]
        constructor
        · rintro (rfl | hy)
          · exact .inl rfl
          · exact .inr ⟨.inr hy, by have := h1 y hy; omega⟩
        · rintro (rfl | ⟨rfl | hy, hn⟩)
          · exact .inl rfl
          · omega
          · exact .inr hy
      · rename_i h3 h4
        have ih := mem_putV v h2 y
        simp only [List.mem_cons, ih]
        constructor
        · rintro (rfl | rfl | ⟨hy, hn⟩)
          · exact .inr ⟨.inl rfl, by omega⟩
          · exact .inl rfl
          · exact .inr ⟨.inr hy, hn⟩
        · rintro (rfl | ⟨rfl | hy, hn⟩)
          · exact .inr (.inl rfl)
          · exact .inl rfl
          · exact .inr (.inr ⟨hy, hn⟩)
theorem putV_asc (v : Ver) : ∀ {V : List Ver}, V.Pairwise (fun x y => x.num < y.num) → (putV V v).Pairwise (fun x y => x.num < y.num)
  | [], _ => List.pairwise_singleton _ _
  | x :: t, h => by
    obtain ⟨h1, h2⟩ := List.pairwise_cons.1 h
    unfold putV
    split
    · rename_i h3
      refine List.pairwise_cons.2 ⟨fun y hy => ?_, h⟩
      rcases List.mem_cons.1 hy with rfl | hy
      · exact h3
      · have := h1 y hy; omega
    · split
      · rename_i h3 h4
        exact List.pairwise_cons.2 ⟨fun y hy => by have := h1 y hy; omega, h2⟩
      · rename_i h3 h4
        refine List.pairwise_cons.2 ⟨fun y hy => ?_, putV_asc v h2⟩
        rcases (mem_putV v h2 y).1 hy with rfl | ⟨hy, _⟩
        · omega
        · exact h1 y hy
theorem putV_len (v : Ver) : ∀ {V : List Ver}, V.Pairwise (fun x y => x.num < y.num) → (putV V v).length = if (V.any fun x => x.num == v.num) then V.length else V.length + 1
  | [], _ => rfl
  | x :: t, h => by
    obtain ⟨h1, h2⟩ := List.pairwise_cons.1 h
    unfold putV
    rw [List.any_cons]
    split
    · rename_i h3
      rw [if_neg]
      · rfl
      · intro hh
        rcases Bool.or_eq_true_iff.1 hh with hh | hh
        · have : x.num = v.num := by simpa using hh
          omega
        · obtain ⟨y, hy, e⟩ := List.any_eq_true.1 hh
          have := h1 y hy
          have : y.num = v.num := by simpa using e
          omega
    · split
      · rename_i h3 h4
        rw [if_pos (by simp [h4])]
        rfl
      · rename_i h3 h4
        have e : (x.num == v.num) = false := by simp; omega
        rw [e, Bool.false_or, List.length_cons, putV_len v h2]
        split <;> simp
theorem has_num {P : Nat → Prop} {S : Sch} {w : World} {V : List Ver} {D : DataW Value} (h4 : ∀ k, Maps.has D k = true → ∃ x ∈ V, k = litI x.num) (h5 : VersM P S w D V) (n : Int) :
    Maps.has D (litI n) = V.any fun x => x.num == n := by
  by_cases h : (V.any fun x => x.num == n) = true
  · rw [h]
    obtain ⟨x, hx, e⟩ := List.any_eq_true.1 h
    have e : x.num = n := by simpa using e
    subst e
    obtain ⟨_, d, g, _⟩ := h5 x hx
    exact Maps.has_true_of_atKey g
  · have hn : (V.any fun x => x.num == n) = false := by simpa using h
    rw [hn]
    cases hh : Maps.has D (litI n)
    · rfl
    · obtain ⟨x, hx, e⟩ := h4 _ hh
      have := litI_inj e
      exact absurd (List.any_eq_true.2 ⟨x, hx, by simp [this]⟩) h
/-- Behind 'versions[number] = v'. -/
theorem StM.put {P : Nat → Prop} {S : Sch} {w w' : World} {V : List Ver} {b n : Nat} {D : DataW Value} {d : Value} {v : Ver} (h3 : Maps.size D = V.length) (h4 : ∀ k, Maps.has D k = true → ∃ x ∈ V, k = litI x.num)
    (h5 : VersM P S w D V) (h6 : V.Pairwise (fun x y => x.num < y.num)) (ht : Maps.Tidy D)
    (hw : (Lit.int .i64 v.num).wf = true) (hd : DbM P S w d v.db) (hb : Stay P w w') (hP : P b) (hown : w'.ownsMap Tryz.prog 3 heldR b n (D.put (litI v.num) (.held (.agg #[d, .int .i64 v.pins])))) : StM P S w' (.map (some b)) (putV V v) := by
  refine ⟨b, _, rfl, hP, map_tight hown, ?_, fun k hk => ?_, fun x hx => ?_, putV_asc v h6⟩
  · rw [Maps.size_put ht, has_num h4 h5, putV_len v h6, h3]
  · by_cases hkv : k = litI v.num
    · exact ⟨v, (mem_putV v h6 v).2 (.inl rfl), hkv⟩
    · rw [Maps.has_put_other hkv] at hk
      obtain ⟨x, hx, e⟩ := h4 k hk
      exact ⟨x, (mem_putV v h6 x).2 (.inr ⟨hx, fun e2 => hkv (by rw [e, e2])⟩), e⟩
  · rcases (mem_putV v h6 x).1 hx with rfl | ⟨hx, hn⟩
    · exact ⟨hw, d, fun z => Maps.atKey_put_same ht.isMap (isKeyI _) _ z, hd.keep hb⟩
    · obtain ⟨g0, d', g1, g2⟩ := h5 x hx
      exact ⟨g0, d', fun z => by rw [Maps.atKey_put_other (fun e => hn (litI_inj e))]; exact g1 z, g2.keep hb⟩

end Go.Proofs.YtgaffbdcpkbdhaaGreat
end

section
/- Walks: snapshot.New, with, Latest, At, Pin, Unpin, Pins. -/
namespace Go.Proofs.YtgaffbdcpkbdhaaGreat
open Go.RowKit Go.Sort Go.ChangeMaps Go.WideShapes

set_option maxHeartbeats 2000000 in
set_option maxRecDepth 100000 in
theorem snWith_any (P : Nat → Prop) (S : Sch) (m d : Value) (l x p : Int) (V : List Ver) (F : Cont) (w : World) (hS : StM P S w m V) (hPn : ∀ b, w.heap.size ≤ b → P b) (hd : DbM P S w d F) (hx : (Lit.int .i64 x).wf = true) (hV : V.length ≤ 1000) :
    Calls Tryz.prog 24 #[.agg #[m, .int .i64 l], .int .i64 x, .agg #[d, .int .i64 p]] w fun e w' => ∃ m', e = .returned (.agg #[m', .int .i64 l]) ∧ StM P S w' m' (putV V ⟨x, F, p⟩) ∧ Below w.heap.size w w' := by
  obtain ⟨b, D, rfl, hPb, hown, h3, h4, h5, h6⟩ := hS
  have ht := hown.tidy keyedI
  obtain ⟨W0, hW0⟩ : ∃ W0, W0 = ((w.alloc (.cells #[.map (some b), .int .i64 l] 35)).alloc (.cells #[d, .int .i64 p] 80)).alloc (.cells #[.map none, .int .i64 0] 35) := ⟨_, rfl⟩
  have hr1 : Row W0 w.heap.size 35 [.map (some b), .int .i64 l] := by rw [hW0]; exact ((Row.new w 35 _).alloc _).alloc _
  have hr2 : Row W0 (w.heap.size + 1) 80 [d, .int .i64 p] := by
    have h := (Row.new (w.alloc (.cells #[.map (some b), .int .i64 l] 35)) 80 [d, .int .i64 p]).alloc (.cells #[.map none, .int .i64 0] 35)
    rw [World.size_alloc] at h
    rw [hW0]; exact h
  have hr3 : Row W0 (w.heap.size + 1 + 1) 35 [.map none, .int .i64 0] := by
    have h := Row.new ((w.alloc (.cells #[.map (some b), .int .i64 l] 35)).alloc (.cells #[d, .int .i64 p] 80)) 35 [.map none, .int .i64 0]
    rw [World.size_alloc, World.size_alloc] at h
    rw [hW0]; exact h
  have hx0 : Ext w W0 := by rw [hW0]; exact (((Ext.refl w).alloc _).alloc _).alloc _
  have HP := Lib.hid (fun w' n d hdd hb ho => StM.put (P := P) (S := S) (w := w) (w' := w') (b := W0.heap.size) (n := n) (d := d) (v := ⟨x, F, p⟩) h3 h4 h5 h6 ht hx hdd hb (hPn _ hx0.size) ho)
  have HD := Lib.hid hd
  have hn : Maps.size D < maxLen := by rw [h3]; simp only [maxLen]; omega
  have HC := Lib.hid (snClone_some b _ D W0 (map_up hown hx0.below))
  have HX := Lib.hid hx
  have HR1 := Lib.hid hr1
  have HR2 := Lib.hid hr2
  have HR3 := Lib.hid hr3
  have HX0 := Lib.hid hx0
  have f0 : W0.cell? ⟨w.heap.size, 0, none⟩ = some (.map (some b)) := hr1.cell 0
  have hz : w.heap.size < W0.heap.size := hr1.lt
  clear hown h3 h4 h5 h6 ht hd hPb hPn hr1 hr2 hr3 hx0 hx hV
  go_enter Tryz.func24, Tryz.ntmps24
  go_wp2_with fail
  rw [← hW0]
  clear hW0
  refine HC.out.mono ?_
  rintro e w1 ⟨rfl, hown1, hx1⟩
  have HO1 := Lib.hid hown1
  have HX1 := Lib.hid hx1
  have r1 := HR1.out.up hx1.below
  have r2 := HR2.out.up hx1.below
  have k1 : w1.cell? ⟨w.heap.size, 1, none⟩ = some (.int .i64 l) := r1.cell 1
  have k2 : w1.cell? ⟨w.heap.size + 1, 0, none⟩ = some d := r2.cell 0
  have k3 : w1.cell? ⟨w.heap.size + 1, 1, none⟩ = some (.int .i64 p) := r2.cell 1
  have z1 := r1.lt
  have z2 := r2.lt
  have R1 := Lib.hid r1
  have R3 := Lib.hid (HR3.out.up hx1.below)
  clear HC hown1 hx1 r1 r2 f0
  go_wp2_with
    (at_mapUpdate
     refine wpList_mapUpdate_own _ rfl _ _ _ 33 rfl 3 80 keyedI Tryz.underlying33 heldR W0.heap.size (Maps.size D) D rfl HO1.out hn _ _ (litI x) rfl rfl (keyI HX.out) (.held (.agg #[d, .int .i64 p])) [] rfl ?_
     intro w2 hown2 hg2
     have HO2 := Lib.hid hown2
     have HG2 := Lib.hid hg2
     have hb2 : Below W0.heap.size W0 w2 := (HX1.out.below).grown hg2 (by have := HX1.out.size; omega) (fun k hk => by injection hk with hk; omega)
     have HB2 := Lib.hid hb2
     have q1 := R1.out.grown hg2 (by intro e; injection e with e; omega)
     have q3 := R3.out.grown hg2 (by intro e; injection e with e; have := HR3.out.lt; omega)
     have k4 : w2.cell? ⟨w.heap.size, 1, none⟩ = some (.int .i64 l) := q1.cell 1
     have k5 : w2.cell? ⟨w.heap.size + 1 + 1, 0, none⟩ = some (.map none) := q3.cell 0
     have k6 : w2.cell? ⟨w.heap.size + 1 + 1, 1, none⟩ = some (.int .i64 0) := q3.cell 1
     have z4 := q3.lt
     have k7 := q3.frozen 0
     have k8 := q3.frozen 1
     have HQ3 := Lib.hid q3
     clear hown2 hg2 hb2 q1 q3)
  obtain ⟨W3, hW3⟩ : ∃ W3, W3 = (w2.setCell ⟨w.heap.size + 1 + 1, 0, none⟩ (.map (some W0.heap.size))).setCell ⟨w.heap.size + 1 + 1, 1, none⟩ (.int .i64 l) := ⟨_, rfl⟩
  rw [← hW3]
  have q := HQ3.out.set2 (.map (some W0.heap.size)) (.int .i64 l)
  rw [← hW3] at q
  have c0 := q.cell 0
  have c1 := q.cell 1
  have hb3 : Below w.heap.size w W3 := by
    rw [hW3]
    exact ((Below.then HX0.out.below HB2.out HX0.out.size).setCell (by show w.heap.size ≤ w.heap.size + 1 + 1; omega) _).setCell (by show w.heap.size ≤ w.heap.size + 1 + 1; omega) _
  have ho3 : W3.ownsMap Tryz.prog 3 heldR W0.heap.size (Maps.size D + 1) (D.put (litI x) (.held (.agg #[d, .int .i64 p]))) := by
    rw [hW3]
    have hlt := HR3.out.lt
    exact (HO2.out.setCell (a := ⟨w.heap.size + 1 + 1, 0, none⟩) (by show W0.heap.size ≠ w.heap.size + 1 + 1; omega) _).setCell (a := ⟨w.heap.size + 1 + 1, 1, none⟩) (by show W0.heap.size ≠ w.heap.size + 1 + 1; omega) _
  exact bodyPost_ret (v := .agg #[.map (some W0.heap.size), .int .i64 l]) (by simp [results, Tryz.results24, go_sem, c0, c1]) rfl ⟨_, rfl, HP.out W3 _ d HD.out (Stay.of hb3) ho3, hb3⟩

end Go.Proofs.YtgaffbdcpkbdhaaGreat
end

section
/- Walks: snapshot.New, Latest, At, Pins. -/
namespace Go.Proofs.YtgaffbdcpkbdhaaGreat
open Go.RowKit Go.Sort Go.ChangeMaps Go.WideShapes

theorem zeroVer (u : World) : (zeroValue 80).run Tryz.prog u = .ok (.agg #[.map none, .int .i64 0]) u := Tryz.zeroValue80 u
theorem DbM.form {P : Nat → Prop} {S : Sch} {w : World} {m : Value} {F : Cont} (h : DbM P S w m F) : ∃ b, m = .map (some b) := let ⟨b, _, e, _⟩ := h; ⟨b, e⟩
theorem StM.form {P : Nat → Prop} {S : Sch} {w : World} {m : Value} {V : List Ver} (h : StM P S w m V) : ∃ b, m = .map (some b) := let ⟨b, _, e, _⟩ := h; ⟨b, e⟩
theorem fieldVer0 (d p : Value) (u : World) : (Instr.field 80 (.agg #[d, p]) 0).run Tryz.prog u = .ok (.agg #[d]) u := by
  simp [Instr.field, run_underlying Tryz.underlying80, part, go_sem, asAgg]
theorem fieldVer1 (d p : Value) (u : World) : (Instr.field 80 (.agg #[d, p]) 1).run Tryz.prog u = .ok p u := by
  simp [Instr.field, run_underlying Tryz.underlying80, part, go_sem, asAgg]
theorem StM.look {P : Nat → Prop} {S : Sch} {w : World} {m : Value} {V : List Ver} (h : StM P S w m V) {x : Ver} (hx : x ∈ V) : ∃ b d, m = .map (some b) ∧ (∀ w', Below w.heap.size w w' → (Instr.lookup 33 (.map (some b)) (.int .i64 x.num) true).run Tryz.prog w' = .ok (.tuple #[.agg #[d, .int .i64 x.pins], .bool true]) w' ∧ (Instr.lookup 33 (.map (some b)) (.int .i64 x.num) false).run Tryz.prog w' = .ok (.agg #[d, .int .i64 x.pins]) w') ∧ DbM P S w d x.db := by
  obtain ⟨b, D, rfl, -, hown, h3, h4, h5, h6⟩ := h
  obtain ⟨g0, d, g1, g2⟩ := h5 x hx
  exact ⟨b, d, rfl, fun w' hb => look_yes keyedI Tryz.underlying33 zeroVer (map_up hown hb) (keyI g0) g1, g2⟩
theorem StM.look_none {P : Nat → Prop} {S : Sch} {w : World} {m : Value} {V : List Ver} (h : StM P S w m V) {n : Int} (hw : (Lit.int .i64 n).wf = true) (hx : ∀ x ∈ V, x.num ≠ n) : ∃ b, m = .map (some b) ∧ ∀ w', Below w.heap.size w w' → (Instr.lookup 33 (.map (some b)) (.int .i64 n) true).run Tryz.prog w' = .ok (.tuple #[.agg #[.map none, .int .i64 0], .bool false]) w' ∧ (Instr.lookup 33 (.map (some b)) (.int .i64 n) false).run Tryz.prog w' = .ok (.agg #[.map none, .int .i64 0]) w' := by
  obtain ⟨b, D, rfl, -, hown, h3, h4, h5, h6⟩ := h
  refine ⟨b, rfl, fun w' hb => look_no keyedI Tryz.underlying33 zeroVer (map_up hown hb) (keyI hw) ?_⟩
  rw [has_num h4 h5]
  rw [List.any_eq_false]
  exact fun x hx' => by simpa using hx x hx'

set_option maxHeartbeats 2000000 in
set_option maxRecDepth 100000 in
theorem snAt_some {P : Nat → Prop} {S : Sch} {m : Value} {l : Int} {V : List Ver} {w : World} (h : StM P S w m V) {x : Ver} (hx : x ∈ V) : Calls Tryz.prog 11 #[.agg #[m, .int .i64 l], .int .i64 x.num] w fun e w' => ∃ d, e = .returned (.tuple #[.agg #[d], .int .i64 0]) ∧ DbM P S w d x.db ∧ Ext w w' := by
  obtain ⟨b, d, rfl, hl, hd⟩ := h.look hx
  obtain ⟨bd, rfl⟩ := hd.form
  have h1 := (hl ((w.alloc (.cells #[.map (some b), .int .i64 l] 35)).alloc (.cells #[.map none] 29)) (((Ext.refl w).alloc _).alloc _).below).1
  have HD := Lib.hid hd
  clear hl h hd
  go_enter Tryz.func11, Tryz.ntmps11
  go_wp2
  refine bodyPost_ret (v := .tuple #[.agg #[.map (some bd)], .int .i64 0]) (by simp [results, Tryz.results11, go_sem]) rfl ⟨_, rfl, HD.out, (((Ext.refl w).alloc _).alloc _).alloc _⟩
set_option maxHeartbeats 2000000 in
set_option maxRecDepth 100000 in
theorem snAt_none {P : Nat → Prop} {S : Sch} {m : Value} {l n : Int} {V : List Ver} {w : World} (h : StM P S w m V) (hw : (Lit.int .i64 n).wf = true) (hx : ∀ x ∈ V, x.num ≠ n) : Calls Tryz.prog 11 #[.agg #[m, .int .i64 l], .int .i64 n] w fun e w' => e = .returned (.tuple #[.agg #[.map none], .int .i64 31]) ∧ Ext w w' := by
  obtain ⟨b, rfl, hl⟩ := h.look_none hw hx
  have h1 := (hl ((w.alloc (.cells #[.map (some b), .int .i64 l] 35)).alloc (.cells #[.map none] 29)) (((Ext.refl w).alloc _).alloc _).below).1
  clear hl h hx
  go_enter Tryz.func11, Tryz.ntmps11
  go_wp2
  exact bodyPost_ret (v := .tuple #[.agg #[.map none], .int .i64 31]) (by simp [results, Tryz.results11, go_sem]) rfl ⟨rfl, (((Ext.refl w).alloc _).alloc _).alloc _⟩

end Go.Proofs.YtgaffbdcpkbdhaaGreat
end

section
/- Walks: snapshot.New, Pin, Unpin. -/
namespace Go.Proofs.YtgaffbdcpkbdhaaGreat
open Go.RowKit Go.Sort Go.ChangeMaps Go.WideShapes

set_option maxHeartbeats 2000000 in
set_option maxRecDepth 100000 in
theorem snPin_some {P : Nat → Prop} {S : Sch} {m : Value} {l : Int} {V : List Ver} {w : World} (h : StM P S w m V) (hPn : ∀ b, w.heap.size ≤ b → P b) (hV : V.length ≤ 1000) {x : Ver} (hx : x ∈ V) (hp : 0 ≤ x.pins ∧ x.pins ≤ 1000000) :
    Calls Tryz.prog 15 #[.agg #[m, .int .i64 l], .int .i64 x.num] w fun e w' => ∃ m', e = .returned (.tuple #[.agg #[m', .int .i64 l], .int .i64 0]) ∧ StM P S w' m' (putV V ⟨x.num, x.db, x.pins + 1⟩) ∧ Below w.heap.size w w' := by
  obtain ⟨b, d, rfl, hl, hd⟩ := h.look hx
  obtain ⟨bd, rfl⟩ := hd.form
  have hwf : (Lit.int .i64 x.num).wf = true := by obtain ⟨_, _, _, _, _, _, _, h5, _⟩ := h; exact (h5 x hx).1
  have h1 := (hl ((w.alloc (.cells #[.map (some b), .int .i64 l] 35)).alloc (.cells #[.map none, .int .i64 0] 35)) (((Ext.refl w).alloc _).alloc _).below).1
  have HD := Lib.hid hd
  have HH := Lib.hid h
  have HW := Lib.hid hwf
  have hwr : IntKind.i64.wrap (x.pins + 1) = x.pins + 1 := IntWalk.i64_in _ (by omega)
  have HVL := Lib.hid hV
  have hne : ¬ x.pins = -1 := by omega
  clear hl h hd hwf hp hV
  go_enter Tryz.func15, Tryz.ntmps15
  obtain ⟨W0, hW0⟩ : ∃ W0, W0 = ((w.alloc (.cells #[.map (some b), .int .i64 l] 35)).alloc (.cells #[.map none, .int .i64 0] 35)).alloc (.cells #[.map (some bd), .int .i64 (x.pins + 1)] 80) := ⟨_, rfl⟩
  have hr2 : Row W0 (w.heap.size + 1) 35 [.map none, .int .i64 0] := by
    have h := (Row.new (w.alloc (.cells #[.map (some b), .int .i64 l] 35)) 35 [.map none, .int .i64 0]).alloc (.cells #[.map (some bd), .int .i64 (x.pins + 1)] 80)
    rw [World.size_alloc] at h
    rw [hW0]; exact h
  have hx0 : Ext w W0 := by rw [hW0]; exact (((Ext.refl w).alloc _).alloc _).alloc _
  have hz : w.heap.size + 1 < W0.heap.size := hr2.lt
  have HC := Lib.hid (snWith_any (fun b => P b ∧ b ≠ w.heap.size + 1) S (.map (some b)) (.map (some bd)) l x.num (x.pins + 1) V x.db W0 ((HH.out.but (by omega)).up hx0.below) (fun b hb => ⟨hPn b (Nat.le_trans hx0.size hb), by omega⟩) ((HD.out.but (by omega)).up hx0.below) HW.out HVL.out)
  have HR2 := Lib.hid hr2
  have HX0 := Lib.hid hx0
  clear hr2 hx0 hPn hz
  go_wp2_with fail
  rw [← hW0]
  clear hW0 h1
  refine HC.out.mono ?_
  rintro e w1 ⟨m', rfl, hs, hb⟩
  have q2 := HR2.out.up hb
  have k0 : w1.cell? ⟨w.heap.size + 1, 0, none⟩ = some (.map none) := q2.cell 0
  have k1 : w1.cell? ⟨w.heap.size + 1, 1, none⟩ = some (.int .i64 0) := q2.cell 1
  have k2 := q2.frozen 0
  have k3 := q2.frozen 1
  have HQ2 := Lib.hid q2
  have HS := Lib.hid hs
  have HB := Lib.hid hb
  obtain ⟨bm, rfl⟩ : ∃ bm, m' = .map (some bm) := hs.form
  clear q2 hs hb HC
  go_wp2_with fail
  obtain ⟨W3, hW3⟩ : ∃ W3, W3 = (w1.setCell ⟨w.heap.size + 1, 0, none⟩ (.map (some bm))).setCell ⟨w.heap.size + 1, 1, none⟩ (.int .i64 l) := ⟨_, rfl⟩
  rw [← hW3]
  have q := HQ2.out.set2 (.map (some bm)) (.int .i64 l)
  rw [← hW3] at q
  have c0 := q.cell 0
  have c1 := q.cell 1
  have hb3 : Below w.heap.size w W3 := by
    rw [hW3]
    exact ((Below.then HX0.out.below HB.out HX0.out.size).setCell (by show w.heap.size ≤ w.heap.size + 1; omega) _).setCell (by show w.heap.size ≤ w.heap.size + 1; omega) _
  have hs3 : StM P S W3 (.map (some bm)) (putV V ⟨x.num, x.db, x.pins + 1⟩) := by rw [hW3]; exact HS.out.boxed _ _
  exact bodyPost_ret (v := .tuple #[.agg #[.map (some bm), .int .i64 l], .int .i64 0]) (by simp [results, Tryz.results15, go_sem, c0, c1]) rfl ⟨_, rfl, hs3, hb3⟩
set_option maxHeartbeats 2000000 in
set_option maxRecDepth 100000 in
theorem snPin_none {P : Nat → Prop} {S : Sch} {m : Value} {l n : Int} {V : List Ver} {w : World} (h : StM P S w m V) (hw : (Lit.int .i64 n).wf = true) (hx : ∀ x ∈ V, x.num ≠ n) :
    Calls Tryz.prog 15 #[.agg #[m, .int .i64 l], .int .i64 n] w fun e w' => e = .returned (.tuple #[.agg #[m, .int .i64 l], .int .i64 31]) ∧ Ext w w' := by
  obtain ⟨b, rfl, hl⟩ := h.look_none hw hx
  have h1 := (hl ((w.alloc (.cells #[.map (some b), .int .i64 l] 35)).alloc (.cells #[.map none, .int .i64 0] 35)) (((Ext.refl w).alloc _).alloc _).below).1
  clear hl h hx
  go_enter Tryz.func15, Tryz.ntmps15
  go_wp2
  exact bodyPost_ret (v := .tuple #[.agg #[.map (some b), .int .i64 l], .int .i64 31]) (by simp [results, Tryz.results15, go_sem]) rfl ⟨rfl, (((Ext.refl w).alloc _).alloc _).alloc _⟩
end Go.Proofs.YtgaffbdcpkbdhaaGreat
end

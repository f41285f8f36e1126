/- Plain: sorted sets of rows: insertion, deletion, the set of a list; strictly sorted lists are told by their members. -/
import Derived.Test.YtiopkooigeaneaaRSort
namespace Go.Proofs.Ytiopkooigeaneaa.RL

theorem SS.nodup {X : List R} (h : SS X) : X.Nodup := h.imp fun hab e => by rw [e, tot_cmpR.self] at hab; omega
theorem SS.ext : ∀ {X Y : List R}, SS X → SS Y → (∀ r, r ∈ X ↔ r ∈ Y) → X = Y
  | [], [], _, _, _ => rfl
  | [], y :: Y, _, _, h => by have := (h y).2 (by simp); simp at this
  | x :: X, [], _, _, h => by have := (h x).1 (by simp); simp at this
  | x :: X, y :: Y, hX, hY, h => by
    have e : x = y := by
      rcases List.mem_cons.1 ((h x).1 (by simp)) with e | hx
      · exact e
      · rcases List.mem_cons.1 ((h y).2 (by simp)) with e | hy
        · exact e.symm
        · have h1 := hY.head x hx
          have h2 := hX.head y hy
          rw [tot_cmpR.sw y x] at h2
          omega
    subst e
    congr 1
    refine SS.ext hX.tail hY.tail fun r => ?_
    have hr := h r
    simp only [List.mem_cons] at hr
    constructor
    · intro hm
      rcases hr.1 (.inr hm) with e | h'
      · subst e; have := hX.head _ hm; rw [tot_cmpR.self] at this; omega
      · exact h'
    · intro hm
      rcases hr.2 (.inr hm) with e | h'
      · subst e; have := hY.head _ hm; rw [tot_cmpR.self] at this; omega
      · exact h'

/-- Insertion of a row that may be present. -/
def insF (X : List R) (r : R) : List R := if r ∈ X then X else X.take (rank X r) ++ r :: X.drop (rank X r)
theorem mem_insF (X : List R) (r y : R) : y ∈ insF X r ↔ y ∈ X ∨ y = r := by
  unfold insF
  split
  · rename_i h
    constructor
    · exact .inl
    · rintro (h' | rfl)
      · exact h'
      · exact h
  · rw [List.mem_append, List.mem_cons]
    conv => rhs; rw [← List.take_append_drop (rank X r) X, List.mem_append]
    constructor
    · rintro (h | h | h)
      · exact .inl (.inl h)
      · exact .inr h
      · exact .inl (.inr h)
    · rintro ((h | h) | h)
      · exact .inl h
      · exact .inr (.inr h)
      · exact .inr (.inl h)
theorem SS.take {X : List R} (h : SS X) (k : Nat) : SS (X.take k) := List.Pairwise.sublist (List.take_sublist k X) h
theorem SS.drop {X : List R} (h : SS X) (k : Nat) : SS (X.drop k) := List.Pairwise.sublist (List.drop_sublist k X) h
theorem SS.filter {X : List R} (h : SS X) (p : R → Bool) : SS (X.filter p) := List.Pairwise.sublist List.filter_sublist h
theorem lt_rank {X : List R} (h : SS X) (r : R) : ∀ y ∈ X.take (rank X r), cmpR y r < 0 := fun y hy => by
  obtain ⟨i, hi, rfl⟩ := List.getElem_of_mem hy
  simp at hi
  rw [List.getElem_take]
  exact (rank_split h r).1 i (by omega) (by omega)
theorem ge_rank {X : List R} (h : SS X) (r : R) : ∀ y ∈ X.drop (rank X r), 0 ≤ cmpR y r := fun y hy => by
  obtain ⟨i, hi, rfl⟩ := List.getElem_of_mem hy
  simp at hi
  rw [List.getElem_drop]
  exact (rank_split h r).2 _ (by omega) (by omega)
theorem SS.ins {X : List R} (h : SS X) (r : R) : SS (insF X r) := by
  unfold insF
  split
  · exact h
  · rename_i hn
    have gt : ∀ y ∈ X.drop (rank X r), cmpR r y < 0 := fun y hy => by
      have h1 := ge_rank h r y hy
      have h2 : cmpR y r ≠ 0 := fun e => hn (by rw [← (tot_cmpR.z _ _).1 e]; exact List.mem_of_mem_drop hy)
      rw [tot_cmpR.sw y r]
      omega
    unfold SS
    rw [List.pairwise_append]
    refine ⟨h.take _, List.pairwise_cons.2 ⟨gt, h.drop _⟩, fun a ha b hb => ?_⟩
    have h1 := lt_rank h r a ha
    rcases List.mem_cons.1 hb with rfl | hb
    · exact h1
    · exact tot_cmpR.tr _ _ _ h1 (gt b hb)

/-- The set of a list of rows. -/
def ofF (X : List R) : List R := X.foldl insF []
theorem foldl_ins : ∀ (X acc : List R), SS acc → SS (X.foldl insF acc) ∧ ∀ y, y ∈ X.foldl insF acc ↔ y ∈ acc ∨ y ∈ X
  | [], acc, h => ⟨h, fun y => by simp⟩
  | x :: X, acc, h => by
    obtain ⟨h1, h2⟩ := foldl_ins X (insF acc x) (h.ins x)
    refine ⟨h1, fun y => ?_⟩
    show y ∈ X.foldl insF (insF acc x) ↔ _
    rw [h2 y, mem_insF]
    simp only [List.mem_cons]
    constructor
    · rintro ((h | h) | h)
      · exact .inl h
      · exact .inr (.inl h)
      · exact .inr (.inr h)
    · rintro (h | h | h)
      · exact .inl (.inl h)
      · exact .inl (.inr h)
      · exact .inr h
theorem ss_nil : SS [] := List.Pairwise.nil
theorem SS.of (X : List R) : SS (ofF X) := (foldl_ins X [] ss_nil).1
theorem mem_ofF (X : List R) (y : R) : y ∈ ofF X ↔ y ∈ X := by rw [ofF, (foldl_ins X [] ss_nil).2 y]; simp
theorem ofF_eq {X Y : List R} (h : SS Y) (hm : ∀ r, r ∈ Y ↔ r ∈ X) : ofF X = Y := SS.ext (SS.of X) h fun r => by rw [mem_ofF, hm]
theorem ofF_self {X : List R} (h : SS X) : ofF X = X := ofF_eq h fun _ => Iff.rfl
theorem insF_length_le (X : List R) (r : R) : (insF X r).length ≤ X.length + 1 := by
  unfold insF
  split
  · omega
  · have := rank_le X r; simp; omega
theorem foldl_ins_length : ∀ (X acc : List R), (X.foldl insF acc).length ≤ acc.length + X.length
  | [], acc => by simp
  | x :: X, acc => by
    have h1 := foldl_ins_length X (insF acc x)
    have h2 := insF_length_le acc x
    show (X.foldl insF (insF acc x)).length ≤ _
    simp; omega
theorem ofF_length_le (X : List R) : (ofF X).length ≤ X.length := by have := foldl_ins_length X []; simpa [ofF] using this

/-- Deletion. -/
def delF (X : List R) (r : R) : List R := X.filter fun y => !decide (cmpR y r = 0)
theorem mem_delF (X : List R) (r y : R) : y ∈ delF X r ↔ y ∈ X ∧ y ≠ r := by simp [delF, tot_cmpR.z]
theorem SS.del {X : List R} (h : SS X) (r : R) : SS (delF X r) := h.filter _

/-- Of an ascending list the places that differ from the one before. -/
theorem dedup_ss {X : List R} (h : X.Pairwise fun a b => cmpR a b ≤ 0) (kp : Nat → Bool) (hk : ∀ j (hj : j < X.length), kp j = (decide (j = 0) || !decide (X[j] = X[j - 1]))) :
    SS (((List.range X.length).filter kp).map fun j => X.getD j []) ∧ ∀ r, r ∈ ((List.range X.length).filter kp).map (fun j => X.getD j []) ↔ r ∈ X := by
  have hle : ∀ i j (hj : j < X.length) (hij : i ≤ j), cmpR (X[i]'(by omega)) X[j] ≤ 0 := fun i j hj hij => by
    rcases Nat.lt_or_eq_of_le hij with h1 | rfl
    · exact List.pairwise_iff_getElem.1 h i j (by omega) hj h1
    · rw [tot_cmpR.self]; omega
  have gd : ∀ j (hj : j < X.length), X.getD j [] = X[j] := fun j hj => by simp [List.getD, hj]
  refine ⟨?_, fun r => ⟨fun hm => ?_, fun hm => ?_⟩⟩
  · unfold SS
    rw [List.pairwise_map]
    have h1 : ((List.range X.length).filter kp).Pairwise (· < ·) := List.Pairwise.sublist List.filter_sublist List.pairwise_lt_range
    refine List.Pairwise.imp_of_mem (fun {a b} ha hb hab => ?_) h1
    rw [List.mem_filter, List.mem_range] at ha hb
    rw [gd a ha.1, gd b hb.1]
    have hkb := hb.2
    rw [hk b hb.1] at hkb
    have hne : X[b] ≠ X[b - 1] := by
      simp only [Bool.or_eq_true, decide_eq_true_eq, Bool.not_eq_true', decide_eq_false_iff_not] at hkb
      rcases hkb with h0 | h0
      · omega
      · exact h0
    have g1 := hle a (b - 1) (by omega) (by omega)
    have g2 := hle (b - 1) b hb.1 (by omega)
    have g3 : cmpR X[b - 1] X[b] ≠ 0 := fun e => hne ((tot_cmpR.z _ _).1 e).symm
    exact tot_cmpR.lt_of_le_of_lt g1 (by omega)
  · obtain ⟨j, hj, rfl⟩ := List.mem_map.1 hm
    rw [List.mem_filter, List.mem_range] at hj
    rw [gd j hj.1]
    exact List.getElem_mem hj.1
  · obtain ⟨j, hj, rfl⟩ := List.getElem_of_mem hm
    clear hm
    induction j with
    | zero => exact List.mem_map.2 ⟨0, by rw [List.mem_filter, List.mem_range]; exact ⟨hj, by rw [hk 0 hj]; simp⟩, gd 0 hj⟩
    | succ j ih =>
      cases hkj : kp (j + 1) with
      | true => exact List.mem_map.2 ⟨j + 1, by rw [List.mem_filter, List.mem_range]; exact ⟨hj, hkj⟩, gd _ hj⟩
      | false =>
        rw [hk (j + 1) hj] at hkj
        simp at hkj
        rw [hkj]
        exact ih (by omega)

end Go.Proofs.Ytiopkooigeaneaa.RL

/- Plain: strictly sorted lists, their rank and search; ranges of a prefix. -/
import Derived.Test.YtiopkooigeaneaaRPlain
namespace Go.Proofs.Ytiopkooigeaneaa.RL

/-- Strictly ascending. -/
def SS (X : List R) : Prop := X.Pairwise fun a b => cmpR a b < 0
/-- How many rows are smaller. -/
def rank (X : List R) (r : R) : Nat := X.countP fun y => decide (cmpR y r < 0)

theorem SS.tail {x : R} {X : List R} (h : SS (x :: X)) : SS X := (List.pairwise_cons.1 h).2
theorem SS.head {x : R} {X : List R} (h : SS (x :: X)) : ∀ y ∈ X, cmpR x y < 0 := (List.pairwise_cons.1 h).1
theorem SS.get {X : List R} (h : SS X) {i j : Nat} (hij : i < j) (hj : j < X.length) : cmpR (X[i]'(by omega)) X[j] < 0 := List.pairwise_iff_getElem.1 h i j (by omega) hj hij
theorem rank_le (X : List R) (r : R) : rank X r ≤ X.length := List.countP_le_length

/-- Below the rank: smaller; from it on: not smaller. -/
theorem rank_split {X : List R} (h : SS X) (r : R) : (∀ i (hi : i < X.length), i < rank X r → cmpR X[i] r < 0) ∧ (∀ i (hi : i < X.length), rank X r ≤ i → 0 ≤ cmpR X[i] r) := by
  induction X with
  | nil => exact ⟨fun i hi => absurd hi (by simp), fun i hi => absurd hi (by simp)⟩
  | cons x X ih =>
    obtain ⟨ih1, ih2⟩ := ih h.tail
    by_cases hx : cmpR x r < 0
    · have hr : rank (x :: X) r = rank X r + 1 := by simp [rank, List.countP_cons, hx]
      rw [hr]
      refine ⟨fun i hi hlt => ?_, fun i hi hge => ?_⟩
      · cases i with
        | zero => exact hx
        | succ i => exact ih1 i (by simpa using hi) (by omega)
      · cases i with
        | zero => omega
        | succ i => exact ih2 i (by simpa using hi) (by omega)
    · have hall : ∀ y ∈ X, ¬ cmpR y r < 0 := fun y hy hlt => hx (tot_cmpR.tr _ _ _ (h.head y hy) hlt)
      have hr : rank (x :: X) r = 0 := by
        have : X.countP (fun y => decide (cmpR y r < 0)) = 0 := List.countP_eq_zero.2 fun y hy => by simpa using hall y hy
        simp [rank, List.countP_cons, hx, this]
      rw [hr]
      refine ⟨fun i hi hlt => absurd hlt (by omega), fun i hi _ => ?_⟩
      cases i with
      | zero => simp; omega
      | succ i => have hi' : i < X.length := by simpa using hi
                  have := hall X[i] (List.getElem_mem hi'); simp; omega

theorem mem_iff_rank {X : List R} (h : SS X) (r : R) : r ∈ X ↔ ∃ hi : rank X r < X.length, X[rank X r] = r := by
  obtain ⟨h1, h2⟩ := rank_split h r
  constructor
  · intro hm
    obtain ⟨i, hi, e⟩ := List.getElem_of_mem hm
    have hle : rank X r ≤ i := by
      refine Classical.byContradiction fun hn => ?_
      have := h1 i hi (by omega)
      rw [e, tot_cmpR.self] at this
      omega
    have hge : i ≤ rank X r := by
      refine Classical.byContradiction fun hn => ?_
      have hlt := h.get (i := rank X r) (j := i) (by omega) hi
      rw [e] at hlt
      have := h2 (rank X r) (by omega) (Nat.le_refl _)
      omega
    obtain rfl : i = rank X r := by omega
    exact ⟨hi, e⟩
  · rintro ⟨hi, e⟩
    rw [← e]
    exact List.getElem_mem hi

theorem rank_eq_count (X : List R) (r : R) (p : Nat → Bool) (hp : ∀ i (hi : i < X.length), p i = decide (0 ≤ cmpR X[i] r)) : (List.range X.length).countP (fun i => !p i) = rank X r := by
  have e : X.map (fun y => decide (cmpR y r < 0)) = (List.range X.length).map (fun i => !p i) := by
    apply List.ext_getElem (by simp)
    intro i h1 h2
    simp at h1
    simp only [List.getElem_map, List.getElem_range, hp i h1]
    rw [Bool.eq_iff_iff]; simp
  have h := congrArg (List.countP id) e
  simp only [List.countP_map] at h
  unfold rank
  exact h.symm

theorem search_mono {X : List R} (h : SS X) (r : R) {a b : Nat} (hab : a ≤ b) (hb : b < X.length) (ha : 0 ≤ cmpR (X[a]'(by omega)) r) : 0 ≤ cmpR X[b] r := by
  rcases Nat.lt_or_eq_of_le hab with hlt | rfl
  · have h1 := h.get hlt hb
    refine Classical.byContradiction fun hn => ?_
    have := tot_cmpR.tr _ _ _ h1 (show cmpR X[b] r < 0 by omega)
    omega
  · exact ha

/-- x begins with p. -/
def beginsB (x p : R) : Bool := decide (p.length ≤ x.length) && decide (x.take p.length = p)
theorem beginsB_iff (x p : R) : beginsB x p = true ↔ ∃ t, x = p ++ t := by
  unfold beginsB
  simp only [Bool.and_eq_true, decide_eq_true_eq]
  constructor
  · rintro ⟨h1, h2⟩
    exact ⟨x.drop p.length, by rw [← h2]; simp [h1]⟩
  · rintro ⟨t, rfl⟩
    simp

theorem between : ∀ (r x t : R), 0 ≤ cmpR x r → cmpR x (r ++ t) ≤ 0 → ∃ s, x = r ++ s
  | [], x, t, _, _ => ⟨x, rfl⟩
  | a :: r, [], t, h, _ => by simp [cmpR, cmpL] at h
  | a :: r, c :: x, t, h1, h2 => by
    simp only [cmpR, cmpL, List.cons_append] at h1 h2
    by_cases hz : cmpV c a = 0
    · rw [if_pos hz] at h1 h2
      obtain ⟨s, hs⟩ := between r x t h1 h2
      exact ⟨s, by rw [hs, (tot_cmpV.z _ _).1 hz]; rfl⟩
    · rw [if_neg hz] at h1 h2
      omega

theorem begins_mono {X : List R} (h : SS X) (r : R) {a b : Nat} (hr : rank X r ≤ a) (hab : a ≤ b) (hb : b < X.length) (ha : beginsB (X[a]'(by omega)) r = false) : beginsB X[b] r = false := by
  cases hq : beginsB X[b] r with
  | false => rfl
  | true =>
    obtain ⟨t, ht⟩ := (beginsB_iff _ _).1 hq
    have h1 := (rank_split h r).2 a (by omega) hr
    have h2 : cmpR (X[a]'(by omega)) X[b] ≤ 0 := by
      rcases Nat.lt_or_eq_of_le hab with hlt | rfl
      · have := h.get hlt hb; omega
      · rw [tot_cmpR.self]; omega
    rw [ht] at h2
    obtain ⟨s, hs⟩ := between r _ t h1 h2
    have : beginsB (X[a]'(by omega)) r = true := (beginsB_iff _ _).2 ⟨s, hs⟩
    rw [this] at ha
    cases ha

/-- How many rows begin with r, from its rank on. -/
def manyB (X : List R) (r : R) : Nat := (X.drop (rank X r)).countP fun x => beginsB x r
theorem manyB_le (X : List R) (r : R) : rank X r + manyB X r ≤ X.length := by
  have h1 : manyB X r ≤ (X.drop (rank X r)).length := List.countP_le_length
  simp at h1
  have := rank_le X r
  omega
theorem many_eq_count (Y : List R) (r : R) (p : Nat → Bool) (hp : ∀ i (hi : i < Y.length), p i = !beginsB Y[i] r) : (List.range Y.length).countP (fun i => !p i) = Y.countP fun x => beginsB x r := by
  have e : Y.map (fun y => beginsB y r) = (List.range Y.length).map (fun i => !p i) := by
    apply List.ext_getElem (by simp)
    intro i h1 h2
    simp at h1
    simp only [List.getElem_map, List.getElem_range, hp i h1, Bool.not_not]
  have h := congrArg (List.countP id) e
  simp only [List.countP_map] at h
  exact h.symm

theorem countP_split {Y : List R} {p : R → Bool} {j : Nat} (hj : j ≤ Y.length) (h1 : ∀ i (hi : i < Y.length), i < j → p Y[i] = true) (h2 : ∀ i (hi : i < Y.length), j ≤ i → p Y[i] = false) : Y.countP p = j := by
  have e : Y = Y.take j ++ Y.drop j := (List.take_append_drop j Y).symm
  rw [e, List.countP_append]
  have g1 : (Y.take j).countP p = (Y.take j).length := List.countP_eq_length.2 fun y hy => by
    obtain ⟨i, hi, rfl⟩ := List.getElem_of_mem hy
    simp at hi
    rw [List.getElem_take]
    exact h1 i (by omega) (by omega)
  have g2 : (Y.drop j).countP p = 0 := List.countP_eq_zero.2 fun y hy => by
    obtain ⟨i, hi, rfl⟩ := List.getElem_of_mem hy
    simp at hi
    rw [List.getElem_drop, h2 (j + i) (by omega) (by omega)]
    simp
  rw [g1, g2]
  simp
  omega

theorem manyB_eq {X : List R} (h : SS X) (r : R) {j : Nat} (hj : rank X r + j ≤ X.length) (h1 : ∀ i (hi : rank X r + i < X.length), i < j → beginsB X[rank X r + i] r = true) (h2 : ∀ hi : rank X r + j < X.length, beginsB X[rank X r + j] r = false) : manyB X r = j := by
  unfold manyB
  refine countP_split (by simp; omega) (fun i hi hlt => ?_) (fun i hi hge => ?_)
  · simp at hi
    rw [List.getElem_drop]
    exact h1 i (by omega) hlt
  · simp at hi
    rw [List.getElem_drop]
    exact begins_mono h r (Nat.le_add_right _ j) (by omega) (by omega) (h2 (by omega))

end Go.Proofs.Ytiopkooigeaneaa.RL

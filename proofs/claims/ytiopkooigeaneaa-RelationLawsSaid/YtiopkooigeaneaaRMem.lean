/- Plain: membership in an ascending list whose first rows are known to be smaller; merging two ascending lists. -/
import Derived.Test.YtiopkooigeaneaaRSet
namespace Go.Proofs.Ytiopkooigeaneaa.RL

theorem mem_take_drop {Y : List R} (j : Nat) (x : R) : x ∈ Y ↔ x ∈ Y.take j ∨ x ∈ Y.drop j := by
  conv => lhs; rw [← List.take_append_drop j Y]
  exact List.mem_append
theorem mem_drop_head {Y : List R} (h : SS Y) {x : R} {j : Nat} (h1 : ∀ y ∈ Y.take j, cmpR y x < 0) (hj : j < Y.length) (h2 : 0 ≤ cmpR Y[j] x) : decide (x ∈ Y) = decide (Y[j] = x) := by
  rw [decide_eq_decide]
  constructor
  · intro hx
    rcases (mem_take_drop j x).1 hx with h3 | h3
    · have := h1 x h3
      rw [tot_cmpR.self] at this
      omega
    · obtain ⟨i, hi, rfl⟩ := List.getElem_of_mem h3
      simp only [List.length_drop] at hi
      rw [List.getElem_drop] at h2 ⊢
      rcases Nat.eq_zero_or_pos i with h0 | h0
      · subst h0; rfl
      · have := h.get (show j < j + i by omega) (by omega)
        omega
  · rintro rfl
    exact List.getElem_mem hj
theorem mem_drop_none {Y : List R} {x : R} {j : Nat} (h1 : ∀ y ∈ Y.take j, cmpR y x < 0) (hj : Y.length ≤ j) : decide (x ∈ Y) = false := by
  simp only [decide_eq_false_iff_not]
  intro hx
  rw [List.take_of_length_le hj] at h1
  have := h1 x hx
  rw [tot_cmpR.self] at this
  omega
theorem take_snoc_lt {Y : List R} {x : R} {j : Nat} (h1 : ∀ y ∈ Y.take j, cmpR y x < 0) (hj : j < Y.length) (h2 : cmpR Y[j] x < 0) : ∀ y ∈ Y.take (j + 1), cmpR y x < 0 := fun y hy => by
  rw [List.take_succ_eq_append_getElem hj, List.mem_append] at hy
  rcases hy with hy | hy
  · exact h1 y hy
  · rw [List.mem_singleton.1 hy]; exact h2
theorem below_next {X : List R} (h : SS X) {k : Nat} (hk : k < X.length) {y : R} (hy : cmpR y X[k] < 0) : ∀ x ∈ X.drop (k + 1), cmpR y x < 0 := fun x hx => by
  obtain ⟨i, hi, rfl⟩ := List.getElem_of_mem hx
  simp only [List.length_drop] at hi
  rw [List.getElem_drop]
  exact tot_cmpR.tr _ _ _ hy (h.get (by omega) (by omega))

/-- A merge under way: L holds the first k rows of X and the first j rows of Y, and all that is left is greater. -/
structure Merge (X Y : List R) (k j : Nat) (L : List R) : Prop where
  ss : SS L
  mem : ∀ r, r ∈ L ↔ r ∈ X.take k ∨ r ∈ Y.take j
  ltX : ∀ r ∈ L, ∀ s ∈ X.drop k, cmpR r s < 0
  ltY : ∀ r ∈ L, ∀ s ∈ Y.drop j, cmpR r s < 0
  kle : k ≤ X.length
  jle : j ≤ Y.length
  len : L.length ≤ k + j

theorem Merge.start (X Y : List R) : Merge X Y 0 0 [] := ⟨ss_nil, (fun r => by simp), (fun r h => by cases h), (fun r h => by cases h), Nat.zero_le _, Nat.zero_le _, Nat.le_refl _⟩
theorem ss_snoc {L : List R} (h : SS L) {y : R} (hy : ∀ r ∈ L, cmpR r y < 0) : SS (L ++ [y]) := by
  unfold SS
  rw [List.pairwise_append]
  exact ⟨h, List.pairwise_singleton _ _, fun a ha b hb => by rw [List.mem_singleton.1 hb]; exact hy a ha⟩
theorem mem_take_succ {Y : List R} {j : Nat} (hj : j < Y.length) (r : R) : r ∈ Y.take (j + 1) ↔ r ∈ Y.take j ∨ r = Y[j] := by
  rw [List.take_succ_eq_append_getElem hj, List.mem_append, List.mem_singleton]
theorem mem_drop_self {Y : List R} {j : Nat} (hj : j < Y.length) : Y[j] ∈ Y.drop j := by
  rw [List.drop_eq_getElem_cons hj]; exact List.mem_cons_self
theorem mem_drop_succ {Y : List R} {j : Nat} {s : R} (h : s ∈ Y.drop (j + 1)) : s ∈ Y.drop j := by
  rw [← List.drop_drop] at h
  exact List.mem_of_mem_drop h
/-- A row of Y that is less than the next row of X is taken. -/
theorem Merge.takeY {X Y L : List R} {k j : Nat} (m : Merge X Y k j L) (hX : SS X) (hY : SS Y) (hk : k < X.length) (hj : j < Y.length) (hlt : cmpR Y[j] X[k] < 0) : Merge X Y k (j + 1) (L ++ [Y[j]]) := by
  refine ⟨ss_snoc m.ss (fun r hr => m.ltY r hr _ (mem_drop_self hj)), fun r => ?_, fun r hr s hs => ?_, fun r hr s hs => ?_, m.kle, hj, ?_⟩
  · rw [List.mem_append, m.mem, List.mem_singleton, mem_take_succ hj, or_assoc]
  · rw [List.mem_append, List.mem_singleton] at hr
    rcases hr with hr | rfl
    · exact m.ltX r hr s hs
    · rw [List.drop_eq_getElem_cons hk, List.mem_cons] at hs
      rcases hs with rfl | hs
      · exact hlt
      · exact below_next hX hk hlt s hs
  · rw [List.mem_append, List.mem_singleton] at hr
    rcases hr with hr | rfl
    · exact m.ltY r hr s (mem_drop_succ hs)
    · obtain ⟨i, hi, rfl⟩ := List.getElem_of_mem hs
      simp only [List.length_drop] at hi
      rw [List.getElem_drop]
      exact hY.get (by omega) (by omega)
  · have := m.len; simp; omega
/-- The next row of X is taken, and the equal row of Y, if there is one, with it. -/
theorem Merge.takeX {X Y L : List R} {k j j' : Nat} (m : Merge X Y k j L) (hX : SS X) (hY : SS Y) (hk : k < X.length) (h : (j' = j ∧ ∀ hj : j < Y.length, 0 < cmpR Y[j] X[k]) ∨ (j' = j + 1 ∧ ∃ hj : j < Y.length, Y[j] = X[k])) : Merge X Y (k + 1) j' (L ++ [X[k]]) := by
  have hltY : ∀ s ∈ Y.drop j', cmpR X[k] s < 0 := fun s hs => by
    rcases h with ⟨rfl, h2⟩ | ⟨rfl, hj, he⟩
    · obtain ⟨i, hi, rfl⟩ := List.getElem_of_mem hs
      simp only [List.length_drop] at hi
      rw [List.getElem_drop]
      have h3 := (tot_cmpR.gt _ _).1 (h2 (by omega))
      rcases Nat.eq_zero_or_pos i with h0 | h0
      · subst h0; exact h3
      · exact tot_cmpR.tr _ _ _ h3 (hY.get (by omega) (by omega))
    · obtain ⟨i, hi, rfl⟩ := List.getElem_of_mem hs
      simp only [List.length_drop] at hi
      rw [List.getElem_drop, ← he]
      exact hY.get (by omega) (by omega)
  have hsub : ∀ s ∈ Y.drop j', s ∈ Y.drop j := fun s hs => by
    rcases h with ⟨rfl, _⟩ | ⟨rfl, _⟩
    · exact hs
    · exact mem_drop_succ hs
  refine ⟨ss_snoc m.ss (fun r hr => m.ltX r hr _ (mem_drop_self hk)), fun r => ?_, fun r hr s hs => ?_, fun r hr s hs => ?_, hk, ?_, ?_⟩
  · rw [List.mem_append, m.mem, List.mem_singleton, mem_take_succ hk]
    rcases h with ⟨rfl, _⟩ | ⟨rfl, hj, he⟩
    · constructor
      · rintro ((h | h) | h)
        · exact .inl (.inl h)
        · exact .inr h
        · exact .inl (.inr h)
      · rintro ((h | h) | h)
        · exact .inl (.inl h)
        · exact .inr h
        · exact .inl (.inr h)
    · rw [mem_take_succ hj, he]
      constructor
      · rintro ((h | h) | h)
        · exact .inl (.inl h)
        · exact .inr (.inl h)
        · exact .inl (.inr h)
      · rintro ((h | h) | (h | h))
        · exact .inl (.inl h)
        · exact .inr h
        · exact .inl (.inr h)
        · exact .inr h
  · rw [List.mem_append, List.mem_singleton] at hr
    rcases hr with hr | rfl
    · exact m.ltX r hr s (mem_drop_succ hs)
    · obtain ⟨i, hi, rfl⟩ := List.getElem_of_mem hs
      simp only [List.length_drop] at hi
      rw [List.getElem_drop]
      exact hX.get (by omega) (by omega)
  · rw [List.mem_append, List.mem_singleton] at hr
    rcases hr with hr | rfl
    · exact m.ltY r hr s (hsub s hs)
    · exact hltY s hs
  · rcases h with ⟨rfl, _⟩ | ⟨rfl, hj, _⟩
    · exact m.jle
    · exact hj
  · have := m.len
    rcases h with ⟨rfl, _⟩ | ⟨rfl, _⟩ <;> simp <;> omega
/-- All of X is taken: what is left of Y ends the merge. -/
theorem Merge.done {X Y L : List R} {j : Nat} (m : Merge X Y X.length j L) (hY : SS Y) : SS (L ++ Y.drop j) ∧ ∀ r, r ∈ L ++ Y.drop j ↔ r ∈ X ∨ r ∈ Y := by
  refine ⟨?_, fun r => ?_⟩
  · unfold SS
    rw [List.pairwise_append]
    exact ⟨m.ss, hY.drop j, fun a ha b hb => m.ltY a ha b hb⟩
  · rw [List.mem_append, m.mem, List.take_length, mem_take_drop (Y := Y) j r, or_assoc]

end Go.Proofs.Ytiopkooigeaneaa.RL

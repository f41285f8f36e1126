/- Plain: the ranges of the values of the first column partition a sorted list of pairs. -/
import Derived.Test.YtiopkooigeaneaaV14
namespace Go.Proofs.Ytiopkooigeaneaa
open RL

theorem cmpR_append_ge : ∀ (r t : R), 0 ≤ cmpR (r ++ t) r
  | [], [] => by simp [cmpR, cmpL]
  | [], _ :: _ => by simp [cmpR, cmpL]
  | a :: r, t => by
    have h := cmpR_append_ge r t
    simp only [cmpR, cmpL, List.cons_append] at *
    rw [if_pos (tot_cmpV.self a)]
    exact h
theorem begins_of_lt {y r : R} (h : cmpR y r < 0) : beginsB y r = false := by
  cases hb : beginsB y r with
  | false => rfl
  | true =>
    obtain ⟨t, rfl⟩ := (beginsB_iff _ _).1 hb
    have := cmpR_append_ge r t
    omega
theorem take_rank_filter {Y : List R} (h : SS Y) (r : R) : (Y.take (rank Y r)).filter (fun y => beginsB y r) = [] := by
  rw [List.filter_eq_nil_iff]
  intro y hy
  rw [begins_of_lt (lt_rank h r y hy)]
  simp
theorem filter_prefix {D : List R} {p : R → Bool} (h : D.Pairwise fun a b => p b = true → p a = true) : D.filter p = D.take (D.countP p) := by
  induction D with
  | nil => simp
  | cons d D ih =>
    obtain ⟨h1, h2⟩ := List.pairwise_cons.1 h
    cases hp : p d
    · have hz : ∀ y ∈ D, ¬ p y = true := fun y hy hq => by have := h1 y hy hq; rw [hp] at this; cases this
      have e1 : D.filter p = [] := List.filter_eq_nil_iff.2 hz
      have e2 : D.countP p = 0 := List.countP_eq_zero.2 hz
      rw [List.filter_cons_of_neg (by simp [hp]), e1, List.countP_cons_of_neg (by simp [hp]), e2]
      simp
    · rw [List.filter_cons_of_pos hp, List.countP_cons_of_pos hp, List.take_succ_cons, ih h2]
theorem begins_pairwise {Y : List R} (h : SS Y) (r : R) : (Y.drop (rank Y r)).Pairwise fun a b => beginsB b r = true → beginsB a r = true := by
  refine List.Pairwise.imp_of_mem (fun {a b} ha hb hab hq => ?_) (h.drop (rank Y r))
  obtain ⟨t, rfl⟩ := (beginsB_iff _ _).1 hq
  obtain ⟨s, hs⟩ := between r a t (ge_rank h r a ha) (by omega)
  exact (beginsB_iff _ _).2 ⟨s, hs⟩
/-- The rows that begin with r are a range. -/
theorem filter_range {Y : List R} (h : SS Y) (r : R) : Y.filter (fun y => beginsB y r) = (Y.drop (rank Y r)).take (manyB Y r) := by
  conv => lhs; rw [← List.take_append_drop (rank Y r) Y, List.filter_append, take_rank_filter h r, List.nil_append]
  exact filter_prefix (begins_pairwise h r)
theorem manyB_all {Y : List R} (h : SS Y) (r : R) : manyB Y r = Y.countP fun y => beginsB y r := by
  conv => rhs; rw [← List.take_append_drop (rank Y r) Y, List.countP_append]
  have : (Y.take (rank Y r)).countP (fun y => beginsB y r) = 0 := by rw [List.countP_eq_length_filter, take_rank_filter h r]; rfl
  rw [this, Nat.zero_add]
  rfl

/-- The value in the first column. -/
def hd (y : R) : V := y.getD 0 zV
theorem begins_one {y : R} (h : y.length = 2) (v : V) : beginsB y [v] = (cmpV (hd y) v == 0) := by
  match y, h with
  | [a, b], _ =>
    simp only [hd, List.getD_cons_zero]
    rw [Bool.eq_iff_iff]
    simp [beginsB, tot_cmpV.z]
theorem lt_one {y : R} (h : y.length = 2) (v : V) : cmpR y [v] < 0 ↔ cmpV (hd y) v < 0 := by
  match y, h with
  | [a, b], _ =>
    simp only [hd, List.getD_cons_zero, cmpR, cmpL]
    split
    · rename_i h; rw [h]; simp
    · exact Iff.rfl
/-- All rows have two values. -/
def Two (Y : List R) : Prop := ∀ y ∈ Y, y.length = 2
theorem cum_count : ∀ (Y : List R) (_ : Two Y) (v : V), (Y.countP fun y => decide (cmpR y [v] < 0)) + (Y.countP fun y => beginsB y [v]) = Y.countP fun y => decide (cmpV (hd y) v ≤ 0)
  | [], _, _ => by simp
  | y :: Y, h, v => by
    have ih := cum_count Y (fun z hz => h z (by simp [hz])) v
    have hy := h y (by simp)
    have e1 := lt_one hy v
    have e2 := begins_one hy v
    simp only [List.countP_cons, e1, e2]
    rcases tot_cmpV.rg (hd y) v with h3 | h3 | h3 <;> simp [h3] <;> omega
theorem cum {Y : List R} (h : SS Y) (h2 : Two Y) (v : V) : rank Y [v] + manyB Y [v] = Y.countP fun y => decide (cmpV (hd y) v ≤ 0) := by
  rw [manyB_all h]
  exact cum_count Y h2 v

/-- The first column's values, as rows of one value. -/
def firsts (Y : List R) : List R := ofF (Y.map (projF · [0]))
theorem projF_zero (y : R) : projF y [0] = [hd y] := by simp [projF, hd]
theorem mem_firsts {Y : List R} {r : R} : r ∈ firsts Y ↔ ∃ y ∈ Y, r = [hd y] := by
  unfold firsts
  rw [mem_ofF, List.mem_map]
  constructor
  · rintro ⟨y, hy, rfl⟩; exact ⟨y, hy, projF_zero y⟩
  · rintro ⟨y, hy, rfl⟩; exact ⟨y, hy, projF_zero y⟩
theorem ss_firsts (Y : List R) : SS (firsts Y) := SS.of _
theorem firsts_at {Y : List R} {i : Nat} (hi : i < (firsts Y).length) : ∃ y ∈ Y, (firsts Y)[i] = [hd y] := mem_firsts.1 (List.getElem_mem hi)
theorem one_lt (a b : V) : cmpR [a] [b] < 0 ↔ cmpV a b < 0 := by
  simp only [cmpR, cmpL]
  split
  · rename_i h; rw [h]
  · exact Iff.rfl

/-- Where the range of the i-th value begins. -/
def atF (Y : List R) (i : Nat) : Nat := if h : i < (firsts Y).length then rank Y (firsts Y)[i] else Y.length

theorem atF_zero {Y : List R} (h2 : Two Y) : atF Y 0 = 0 := by
  unfold atF
  split
  · rename_i h
    obtain ⟨y, hy, e⟩ := firsts_at h
    rw [e]
    unfold rank
    rw [List.countP_eq_zero]
    intro z hz hlt
    simp only [decide_eq_true_eq] at hlt
    have h3 := (lt_one (h2 z hz) _).1 hlt
    obtain ⟨j, hj, ej⟩ := List.getElem_of_mem ((mem_firsts (Y := Y) (r := [hd z])).2 ⟨z, hz, rfl⟩)
    have h4 : cmpR (firsts Y)[j] (firsts Y)[0] < 0 := by rw [ej, e]; exact (one_lt _ _).2 h3
    rcases Nat.eq_zero_or_pos j with rfl | hp
    · rw [tot_cmpR.self] at h4; omega
    · have h5 := (ss_firsts Y).get hp hj
      have := tot_cmpR.tr _ _ _ h4 h5
      rw [tot_cmpR.self] at this
      omega
  · rename_i h
    cases Y with
    | nil => rfl
    | cons y Y =>
      exfalso
      have := (mem_firsts (Y := y :: Y) (r := [hd y])).2 ⟨y, List.mem_cons_self, rfl⟩
      obtain ⟨j, hj, _⟩ := List.getElem_of_mem this
      omega
theorem atF_step {Y : List R} (h : SS Y) (h2 : Two Y) {i : Nat} (hi : i < (firsts Y).length) : rank Y (firsts Y)[i] + manyB Y (firsts Y)[i] = atF Y (i + 1) := by
  obtain ⟨y, hy, e⟩ := firsts_at hi
  rw [e, cum h h2]
  unfold atF
  split
  · rename_i h3
    obtain ⟨y', hy', e'⟩ := firsts_at h3
    rw [e']
    unfold rank
    have hlt : cmpV (hd y) (hd y') < 0 := by
      have := (ss_firsts Y).get (Nat.lt_succ_self i) h3
      rw [e, e'] at this
      exact (one_lt _ _).1 this
    apply List.countP_congr
    intro z hz
    simp only [decide_eq_true_eq]
    rw [lt_one (h2 z hz)]
    constructor
    · intro h4; exact tot_cmpV.lt_of_le_of_lt h4 hlt
    · intro h4
      obtain ⟨j, hj, ej⟩ := List.getElem_of_mem ((mem_firsts (Y := Y) (r := [hd z])).2 ⟨z, hz, rfl⟩)
      have h5 : cmpR (firsts Y)[j] (firsts Y)[i + 1] < 0 := by rw [ej, e']; exact (one_lt _ _).2 h4
      have hji : j ≤ i := by
        refine Classical.byContradiction fun hn => ?_
        rcases Nat.lt_or_eq_of_le (show i + 1 ≤ j by omega) with h6 | h6
        · have := tot_cmpR.tr _ _ _ h5 ((ss_firsts Y).get h6 hj)
          rw [tot_cmpR.self] at this; omega
        · subst h6; rw [tot_cmpR.self] at h5; omega
      rcases Nat.lt_or_eq_of_le hji with h6 | h6
      · have := (ss_firsts Y).get h6 hi
        rw [ej, e] at this
        have := (one_lt _ _).1 this
        omega
      · subst h6
        rw [e] at ej
        injection ej with ej
        rw [ej, tot_cmpV.self]; omega
  · rename_i h3
    rw [List.countP_eq_length]
    intro z hz
    simp only [decide_eq_true_eq]
    obtain ⟨j, hj, ej⟩ := List.getElem_of_mem ((mem_firsts (Y := Y) (r := [hd z])).2 ⟨z, hz, rfl⟩)
    rcases Nat.lt_or_eq_of_le (show j ≤ i by omega) with h6 | h6
    · have := (ss_firsts Y).get h6 hi
      rw [ej, e] at this
      have := (one_lt _ _).1 this
      omega
    · subst h6
      rw [e] at ej
      injection ej with ej
      rw [ej, tot_cmpV.self]; omega
theorem many_pos {Y : List R} (h : SS Y) (h2 : Two Y) {i : Nat} (hi : i < (firsts Y).length) : 0 < manyB Y (firsts Y)[i] := by
  obtain ⟨y, hy, e⟩ := firsts_at hi
  rw [e, manyB_all h, List.countP_pos_iff]
  exact ⟨y, hy, by rw [begins_one (h2 y hy), tot_cmpV.self]; rfl⟩

end Go.Proofs.Ytiopkooigeaneaa

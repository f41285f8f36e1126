/- Plain: two iterators that seek each other's keys in turn. -/
import Derived.Test.YtlcammcifjihpaaHN2
namespace Go.Proofs.Ytlcammcifjihpaa
open Go.RowKit Go.Sort

/-- The values of a projection to one column. -/
theorem kids_one {P : List RL.R} (hS : RL.SS P) (hd : ∀ r ∈ P, r.length = 1) : P = (RL.kids 1 P []).map fun v => [v] := by
  have h1 : RL.nodes 1 P 0 = P := by
    unfold RL.nodes
    rw [if_pos (by omega)]
    have : P.map (List.take (0 + 1)) = P := by
      conv => rhs; rw [← List.map_id P]
      apply List.map_congr_left
      intro r hr
      rw [List.take_of_length_le (by have := hd r hr; omega)]
      rfl
    rw [this]
    exact RL.ofF_self hS
  unfold RL.kids
  rw [List.length_nil, h1, List.filter_eq_self.2 (fun y _ => by simp [RL.beginsB]), List.map_map]
  conv => lhs; rw [← List.map_id P]
  apply List.map_congr_left
  intro r hr
  obtain ⟨v, rfl⟩ := List.length_eq_one_iff.1 (hd r hr)
  rfl

/-- The values that both lists have. -/
def meetF (K1 K2 : RL.R) : RL.R := K1.filter fun v => decide (v ∈ K2)
/-- What remains of a meeting at places p and q. -/
structure Meet (K1 K2 : RL.R) (p q : Nat) (got : RL.R) : Prop where
  le1 : p ≤ K1.length
  le2 : q ≤ K2.length
  low : ∀ u ∈ K2.take q, ∀ x ∈ K1.drop p, RL.cmpV u x < 0
  eq : got ++ meetF (K1.drop p) K2 = meetF K1 K2
theorem Meet.start (K1 K2 : RL.R) : Meet K1 K2 0 0 [] := ⟨Nat.zero_le _, Nat.zero_le _, (fun u hu => by simp at hu), rfl⟩
/-- How many are less. -/
def cntF (K : RL.R) (v : RL.V) : Nat := K.countP fun u => decide (RL.cmpV u v < 0)
section
variable {K1 K2 : RL.R} {p q : Nat} {got : RL.R} (h1 : K1.Pairwise fun a b => RL.cmpV a b < 0) (h2 : K2.Pairwise fun a b => RL.cmpV a b < 0) (m : Meet K1 K2 p q got) (hp : p < K1.length)
include h1 h2 m hp
omit h1 in
theorem Meet.cnt : q ≤ cntF K2 K1[p] ∧ cntF K2 K1[p] ≤ K2.length := by
  have hle : cntF K2 K1[p] ≤ K2.length := List.countP_le_length
  refine ⟨?_, hle⟩
  rcases Nat.eq_zero_or_pos q with h | h
  · omega
  · have hq := m.le2
    have h3 := m.low (K2[q - 1]'(by omega)) (by rw [List.mem_take_iff_getElem]; exact ⟨q - 1, by omega, rfl⟩) K1[p] (by rw [List.mem_drop_iff_getElem]; exact ⟨0, by omega, rfl⟩)
    have := (countP_prefix h2 (j := q - 1) (by omega)).1 h3
    unfold cntF
    omega
omit h2 m in
theorem drop_ge : ∀ x ∈ K1.drop p, RL.cmpV K1[p] x ≤ 0 := fun x hx => by
  obtain ⟨j, hj, rfl⟩ := List.getElem_of_mem hx
  rw [List.getElem_drop]
  simp at hj
  rcases Nat.eq_zero_or_pos j with rfl | h
  · rw [show K1[p + 0] = K1[p] from rfl, RL.tot_cmpV.self]; omega
  · exact Int.le_of_lt (List.pairwise_iff_getElem.1 h1 p (p + j) hp (by omega) (by omega))
/-- The second list has nothing left. -/
theorem Meet.stop (he : ¬ cntF K2 K1[p] < K2.length) : got = meetF K1 K2 := by
  have hz : meetF (K1.drop p) K2 = [] := by
    unfold meetF
    rw [List.filter_eq_nil_iff]
    intro x hx hm
    simp only [decide_eq_true_eq] at hm
    obtain ⟨j, hj, rfl⟩ := List.getElem_of_mem hm
    have h3 := (countP_prefix h2 (v := K1[p]) hj).2 (by unfold cntF at he; omega)
    have h4 := drop_ge h1 hp _ hx
    have := RL.tot_cmpV.lt_of_lt_of_le h3 h4
    rw [RL.tot_cmpV.self] at this
    omega
  rw [← m.eq, hz, List.append_nil]
/-- Both stand at one value. -/
theorem Meet.hit (he : cntF K2 K1[p] < K2.length) (hv : K2[cntF K2 K1[p]] = K1[p]) : Meet K1 K2 (p + 1) (cntF K2 K1[p]) (got ++ [K1[p]]) := by
  refine ⟨hp, Nat.le_of_lt he, fun u hu x hx => ?_, ?_⟩
  · obtain ⟨j, hj, rfl⟩ := List.getElem_of_mem hu
    rw [List.getElem_take]
    simp at hj
    have h3 := (countP_prefix h2 (v := K1[p]) (j := j) (by omega)).2 (by unfold cntF at hj; omega)
    have h4 := drop_ge h1 hp x (List.mem_of_mem_drop (i := 1) (by rw [List.drop_drop]; exact hx))
    exact RL.tot_cmpV.lt_of_lt_of_le h3 h4
  · have hm : K1[p] ∈ K2 := by rw [← hv]; exact List.getElem_mem he
    have e : meetF (K1.drop p) K2 = K1[p] :: meetF (K1.drop (p + 1)) K2 := by
      unfold meetF
      rw [List.drop_eq_getElem_cons hp, List.filter_cons_of_pos (by simpa using hm)]
    rw [List.append_assoc, ← m.eq, e]
    rfl
/-- The second stands behind the first: the first seeks on. -/
theorem Meet.miss (he : cntF K2 K1[p] < K2.length) (hv : K2[cntF K2 K1[p]] ≠ K1[p]) : p < max p (cntF K1 K2[cntF K2 K1[p]]) ∧ Meet K1 K2 (max p (cntF K1 K2[cntF K2 K1[p]])) (cntF K2 K1[p]) got := by
  have hw0 : ¬ RL.cmpV K2[cntF K2 K1[p]] K1[p] < 0 := fun h => by
    have := (countP_prefix h2 he).1 h
    unfold cntF at this
    omega
  have hw : RL.cmpV K1[p] K2[cntF K2 K1[p]] < 0 := by
    rw [RL.tot_cmpV.sw]
    have h3 : RL.cmpV K2[cntF K2 K1[p]] K1[p] ≠ 0 := fun h => hv ((RL.tot_cmpV.z _ _).1 h)
    omega
  have hp1 : p < cntF K1 K2[cntF K2 K1[p]] := by
    have := (countP_prefix h1 hp).1 hw
    unfold cntF at *
    exact this
  have hle : cntF K1 K2[cntF K2 K1[p]] ≤ K1.length := List.countP_le_length
  have hmax : max p (cntF K1 K2[cntF K2 K1[p]]) = cntF K1 K2[cntF K2 K1[p]] := by omega
  rw [hmax]
  refine ⟨hp1, hle, Nat.le_of_lt he, fun u hu x hx => ?_, ?_⟩
  · obtain ⟨j, hj, rfl⟩ := List.getElem_of_mem hu
    rw [List.getElem_take]
    simp at hj
    have h3 := (countP_prefix h2 (v := K1[p]) (j := j) (by omega)).2 (by unfold cntF at hj; omega)
    have h4 := drop_ge h1 hp x (by
      have : K1.drop (cntF K1 K2[cntF K2 K1[p]]) = (K1.drop p).drop (cntF K1 K2[cntF K2 K1[p]] - p) := by rw [List.drop_drop, show p + (cntF K1 K2[cntF K2 K1[p]] - p) = cntF K1 K2[cntF K2 K1[p]] by omega]
      rw [this] at hx
      exact List.mem_of_mem_drop hx)
    exact RL.tot_cmpV.lt_of_lt_of_le h3 h4
  · rw [← m.eq]
    congr 1
    have e : K1.drop p = (K1.drop p).take (cntF K1 K2[cntF K2 K1[p]] - p) ++ K1.drop (cntF K1 K2[cntF K2 K1[p]]) := by
      conv => lhs; rw [← List.take_append_drop (cntF K1 K2[cntF K2 K1[p]] - p) (K1.drop p), List.drop_drop, show p + (cntF K1 K2[cntF K2 K1[p]] - p) = cntF K1 K2[cntF K2 K1[p]] by omega]
    conv => rhs; rw [e]
    unfold meetF
    rw [List.filter_append]
    have hz : ((K1.drop p).take (cntF K1 K2[cntF K2 K1[p]] - p)).filter (fun v => decide (v ∈ K2)) = [] := by
      rw [List.filter_eq_nil_iff]
      intro x hx hm
      simp only [decide_eq_true_eq] at hm
      obtain ⟨i, hi, rfl⟩ := List.getElem_of_mem hx
      rw [List.getElem_take, List.getElem_drop] at hm
      rw [List.length_take, List.length_drop] at hi
      have hxw := (countP_prefix h1 (v := K2[cntF K2 K1[p]]) (j := p + i) (by omega)).2 (show p + i < cntF K1 K2[cntF K2 K1[p]] by omega)
      have hvx := drop_ge h1 hp _ (List.mem_of_mem_take hx)
      rw [List.getElem_take, List.getElem_drop] at hvx
      obtain ⟨j, hj, e2⟩ := List.getElem_of_mem hm
      rw [← e2] at hxw hvx
      rcases Nat.lt_or_ge j (cntF K2 K1[p]) with h3 | h3
      · have h4 := (countP_prefix h2 (v := K1[p]) hj).2 (by unfold cntF at h3; omega)
        have := RL.tot_cmpV.lt_of_lt_of_le h4 hvx
        rw [RL.tot_cmpV.self] at this
        omega
      · rcases Nat.eq_or_lt_of_le h3 with h4 | h4
        · simp only [h4] at hxw
          rw [RL.tot_cmpV.self] at hxw
          omega
        · have h5 := List.pairwise_iff_getElem.1 h2 (cntF K2 K1[p]) j he hj h4
          have := RL.tot_cmpV.tr _ _ _ hxw h5
          rw [RL.tot_cmpV.self] at this
          omega
    rw [hz, List.nil_append]
end
/-- The first list has nothing left. -/
theorem Meet.done {K1 K2 : RL.R} {p q : Nat} {got : RL.R} (m : Meet K1 K2 p q got) (h : ¬ p < K1.length) : got = meetF K1 K2 := by
  have := m.eq
  rw [List.drop_of_length_le (by omega)] at this
  simpa [meetF] using this
theorem meetF_nil (K1 : RL.R) : meetF K1 [] = [] := by unfold meetF; simp

/-- The wanted values, found by two loops. -/
def wantK (K1 K2 : RL.R) (i k : Nat) : RL.R := meetF (K1.take i) K2 ++ (if h : i < K1.length then (if K1[i] ∈ K2.take k then [K1[i]] else []) else [])
theorem wantK_zero (K1 K2 : RL.R) (i : Nat) : wantK K1 K2 i 0 = meetF (K1.take i) K2 := by unfold wantK; split <;> simp
theorem wantK_row {K1 K2 : RL.R} {i : Nat} (hi : i < K1.length) : wantK K1 K2 i K2.length = meetF (K1.take (i + 1)) K2 := by
  unfold wantK meetF
  rw [dif_pos hi, List.take_length, List.take_succ_eq_append_getElem hi, List.filter_append]
  congr 1
  by_cases h : K1[i] ∈ K2
  · rw [if_pos h, List.filter_cons_of_pos (by simpa using h)]; rfl
  · rw [if_neg h, List.filter_cons_of_neg (by simpa using h)]; rfl
theorem wantK_hit {K1 K2 : RL.R} {i k : Nat} (h2 : K2.Pairwise fun a b => RL.cmpV a b < 0) (hi : i < K1.length) (hk : k < K2.length) (h : K1[i] = K2[k]) : wantK K1 K2 i (k + 1) = wantK K1 K2 i k ++ [K1[i]] := by
  have hn : K1[i] ∉ K2.take k := fun hm => by
    rw [h] at hm
    obtain ⟨j, hj, e⟩ := List.getElem_of_mem hm
    rw [List.getElem_take] at e
    simp at hj
    have := List.pairwise_iff_getElem.1 h2 j k (by omega) hk (by omega)
    rw [e, RL.tot_cmpV.self] at this
    omega
  have hy : K1[i] ∈ K2.take (k + 1) := by rw [h, List.mem_take_iff_getElem]; exact ⟨k, by omega, rfl⟩
  unfold wantK
  rw [dif_pos hi, dif_pos hi, if_pos hy, if_neg hn, List.append_nil]
theorem wantK_miss {K1 K2 : RL.R} {i k : Nat} (hi : i < K1.length) (hk : k < K2.length) (h : ¬ K1[i] = K2[k]) : wantK K1 K2 i (k + 1) = wantK K1 K2 i k := by
  have e : K1[i] ∈ K2.take (k + 1) ↔ K1[i] ∈ K2.take k := by rw [List.take_succ_eq_append_getElem hk, List.mem_append, List.mem_singleton]; simp [h]
  unfold wantK
  simp only [e]

end Go.Proofs.Ytlcammcifjihpaa

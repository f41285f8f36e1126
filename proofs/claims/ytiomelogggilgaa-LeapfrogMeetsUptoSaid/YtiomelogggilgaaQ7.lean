/- Parts of the proof, merged: N5, N7, Y0, Y1, Y2, Y3, Y4, Y5, Y6. -/
import Derived.Test.YtiomelogggilgaaQ6
import Derived.Test.YtiomelogggilgaaQ5

section
/- Plain: two iterators that seek each other's keys in turn. -/
namespace Go.Proofs.Ytiomelogggilgaa
open Go.RowKit Go.Sort

/-- The values of a projection to one column. -/
theorem kids_one {P : List RL.R} (hS : RL.SS P) (hd : ∀ r ∈ P, r.length = 1) : P = (RL.kids 1 P []).map fun v => [v] := by
  have h1 : RL.nodes 1 P 0 = P := by
    unfold RL.nodes
    rw [if_pos (by omega)]
    have : P.map (List.take (0 + 1)) = P := by
      conv => rhs; rw [← List.map_id P]
      apply List.map_congr_left
      intro r hr
      rw [List.take_of_length_le (by have := hd r hr; omega)]
      rfl
    rw [this]
    exact RL.ofF_self hS
  unfold RL.kids
  rw [List.length_nil, h1, List.filter_eq_self.2 (fun y _ => by simp [RL.beginsB]), List.map_map]
  conv => lhs; rw [← List.map_id P]
  apply List.map_congr_left
  intro r hr
  obtain ⟨v, rfl⟩ := List.length_eq_one_iff.1 (hd r hr)
  rfl

/-- The values that both lists have. -/
def meetF (K1 K2 : RL.R) : RL.R := K1.filter fun v => decide (v ∈ K2)
/-- What remains of a meeting at places p and q. -/
structure Meet (K1 K2 : RL.R) (p q : Nat) (got : RL.R) : Prop where
  le1 : p ≤ K1.length
  le2 : q ≤ K2.length
  low : ∀ u ∈ K2.take q, ∀ x ∈ K1.drop p, RL.cmpV u x < 0
  eq : got ++ meetF (K1.drop p) K2 = meetF K1 K2
theorem Meet.start (K1 K2 : RL.R) : Meet K1 K2 0 0 [] := ⟨Nat.zero_le _, Nat.zero_le _, (fun u hu => by simp at hu), rfl⟩
/-- How many are less. -/
def cntF (K : RL.R) (v : RL.V) : Nat := K.countP fun u => decide (RL.cmpV u v < 0)
section
variable {K1 K2 : RL.R} {p q : Nat} {got : RL.R} (h1 : K1.Pairwise fun a b => RL.cmpV a b < 0) (h2 : K2.Pairwise fun a b => RL.cmpV a b < 0) (m : Meet K1 K2 p q got) (hp : p < K1.length)
include h1 h2 m hp
omit h1 in
theorem Meet.cnt : q ≤ cntF K2 K1[p] ∧ cntF K2 K1[p] ≤ K2.length := by
  have hle : cntF K2 K1[p] ≤ K2.length := List.countP_le_length
  refine ⟨?_, hle⟩
  rcases Nat.eq_zero_or_pos q with h | h
  · omega
  · have hq := m.le2
    have h3 := m.low (K2[q - 1]'(by omega)) (by rw [List.mem_take_iff_getElem]; exact ⟨q - 1, by omega, rfl⟩) K1[p] (by rw [List.mem_drop_iff_getElem]; exact ⟨0, by omega, rfl⟩)
    have := (countP_prefix h2 (j := q - 1) (by omega)).1 h3
    unfold cntF
    omega
omit h2 m in
theorem drop_ge : ∀ x ∈ K1.drop p, RL.cmpV K1[p] x ≤ 0 := fun x hx => by
  obtain ⟨j, hj, rfl⟩ := List.getElem_of_mem hx
  rw [List.getElem_drop]
  simp at hj
  rcases Nat.eq_zero_or_pos j with rfl | h
  · rw [show K1[p + 0] = K1[p] from rfl, RL.tot_cmpV.self]; omega
  · exact Int.le_of_lt (List.pairwise_iff_getElem.1 h1 p (p + j) hp (by omega) (by omega))
/-- The second list has nothing left. -/
theorem Meet.stop (he : ¬ cntF K2 K1[p] < K2.length) : got = meetF K1 K2 := by
  have hz : meetF (K1.drop p) K2 = [] := by
    unfold meetF
    rw [List.filter_eq_nil_iff]
    intro x hx hm
    simp only [decide_eq_true_eq] at hm
    obtain ⟨j, hj, rfl⟩ := List.getElem_of_mem hm
    have h3 := (countP_prefix h2 (v := K1[p]) hj).2 (by unfold cntF at he; omega)
    have h4 := drop_ge h1 hp _ hx
    have := RL.tot_cmpV.lt_of_lt_of_le h3 h4
    rw [RL.tot_cmpV.self] at this
    omega
  rw [← m.eq, hz, List.append_nil]
/-- Both stand at one value. -/
theorem Meet.hit (he : cntF K2 K1[p] < K2.length) (hv : K2[cntF K2 K1[p]] = K1[p]) : Meet K1 K2 (p + 1) (cntF K2 K1[p]) (got ++ [K1[p]]) := by
  refine ⟨hp, Nat.le_of_lt he, fun u hu x hx => ?_, ?_⟩
  · obtain ⟨j, hj, rfl⟩ := List.getElem_of_mem hu
    rw [List.getElem_take]
    simp at hj
    have h3 := (countP_prefix h2 (v := K1[p]) (j := j) (by omega)).2 (by unfold cntF at hj; omega)
    have h4 := drop_ge h1 hp x (List.mem_of_mem_drop (i := 1) (by rw [List.drop_drop]; exact hx))
    exact RL.tot_cmpV.lt_of_lt_of_le h3 h4
  · have hm : K1[p] ∈ K2 := by rw [← hv]; exact List.getElem_mem he
    have e : meetF (K1.drop p) K2 = K1[p] :: meetF (K1.drop (p + 1)) K2 := by
      unfold meetF
      rw [List.drop_eq_getElem_cons hp, List.filter_cons_of_pos (by simpa using hm)]
    rw [List.append_assoc, ← m.eq, e]
    rfl
/-- The second stands behind the first: the first seeks on. -/
theorem Meet.miss (he : cntF K2 K1[p] < K2.length) (hv : K2[cntF K2 K1[p]] ≠ K1[p]) : p < max p (cntF K1 K2[cntF K2 K1[p]]) ∧ Meet K1 K2 (max p (cntF K1 K2[cntF K2 K1[p]])) (cntF K2 K1[p]) got := by
  have hw0 : ¬ RL.cmpV K2[cntF K2 K1[p]] K1[p] < 0 := fun h => by
    have := (countP_prefix h2 he).1 h
    unfold cntF at this
    omega
  have hw : RL.cmpV K1[p] K2[cntF K2 K1[p]] < 0 := by
    rw [RL.tot_cmpV.sw]
    have h3 : RL.cmpV K2[cntF K2 K1[p]] K1[p] ≠ 0 := fun h => hv ((RL.tot_cmpV.z _ _).1 h)
    omega
  have hp1 : p < cntF K1 K2[cntF K2 K1[p]] := by
    have := (countP_prefix h1 hp).1 hw
    unfold cntF at *
    exact this
  have hle : cntF K1 K2[cntF K2 K1[p]] ≤ K1.length := List.countP_le_length
  have hmax : max p (cntF K1 K2[cntF K2 K1[p]]) = cntF K1 K2[cntF K2 K1[p]] := by omega
  rw [hmax]
  refine ⟨hp1, hle, Nat.le_of_lt he, fun u hu x hx => ?_, ?_⟩
  · obtain ⟨j, hj, rfl⟩ := List.getElem_of_mem hu
    rw [List.getElem_take]
    simp at hj
    have h3 := (countP_prefix h2 (v := K1[p]) (j := j) (by omega)).2 (by unfold cntF at hj; omega)
    have h4 := drop_ge h1 hp x (by
      have : K1.drop (cntF K1 K2[cntF K2 K1[p]]) = (K1.drop p).drop (cntF K1 K2[cntF K2 K1[p]] - p) := by rw [List.drop_drop, show p + (cntF K1 K2[cntF K2 K1[p]] - p) = cntF K1 K2[cntF K2 K1[p]] by omega]
      rw [this] at hx
      exact List.mem_of_mem_drop hx)
    exact RL.tot_cmpV.lt_of_lt_of_le h3 h4
  · rw [← m.eq]
    congr 1
    have e : K1.drop p = (K1.drop p).take (cntF K1 K2[cntF K2 K1[p]] - p) ++ K1.drop (cntF K1 K2[cntF K2 K1[p]]) := by
      conv => lhs; rw [← List.take_append_drop (cntF K1 K2[cntF K2 K1[p]] - p) (K1.drop p), List.drop_drop, show p + (cntF K1 K2[cntF K2 K1[p]] - p) = cntF K1 K2[cntF K2 K1[p]] by omega]
    conv => rhs; rw [e]
    unfold meetF
    rw [List.filter_append]
    have hz : ((K1.drop p).take (cntF K1 K2[cntF K2 K1[p]] - p)).filter (fun v => decide (v ∈ K2)) = [] := by
      rw [List.filter_eq_nil_iff]
      intro x hx hm
      simp only [decide_eq_true_eq] at hm
      obtain ⟨i, hi, rfl⟩ := List.getElem_of_mem hx
      rw [List.getElem_take, List.getElem_drop] at hm
      rw [List.length_take, List.length_drop] at hi
      have hxw := (countP_prefix h1 (v := K2[cntF K2 K1[p]]) (j := p + i) (by omega)).2 (show p + i < cntF K1 K2[cntF K2 K1[p]] by omega)
      have hvx := drop_ge h1 hp _ (List.mem_of_mem_take hx)
      rw [List.getElem_take, List.getElem_drop] at hvx
      obtain ⟨j, hj, e2⟩ := List.getElem_of_mem hm
      rw [← e2] at hxw hvx
      rcases Nat.lt_or_ge j (cntF K2 K1[p]) with h3 | h3
      · have h4 := (countP_prefix h2 (v := K1[p]) hj).2 (by unfold cntF at h3; omega)
        have := RL.tot_cmpV.lt_of_lt_of_le h4 hvx
        rw [RL.tot_cmpV.self] at this
        omega
      · rcases Nat.eq_or_lt_of_le h3 with h4 | h4
        · simp only [h4] at hxw
          rw [RL.tot_cmpV.self] at hxw
          omega
        · have h5 := List.pairwise_iff_getElem.1 h2 (cntF K2 K1[p]) j he hj h4
          have := RL.tot_cmpV.tr _ _ _ hxw h5
          rw [RL.tot_cmpV.self] at this
          omega
    rw [hz, List.nil_append]
end
/-- The first list has nothing left. -/
theorem Meet.done {K1 K2 : RL.R} {p q : Nat} {got : RL.R} (m : Meet K1 K2 p q got) (h : ¬ p < K1.length) : got = meetF K1 K2 := by
  have := m.eq
  rw [List.drop_of_length_le (by omega)] at this
  simpa [meetF] using this
theorem meetF_nil (K1 : RL.R) : meetF K1 [] = [] := by unfold meetF; simp

/-- The wanted values, found by two loops. -/
def wantK (K1 K2 : RL.R) (i k : Nat) : RL.R := meetF (K1.take i) K2 ++ (if h : i < K1.length then (if K1[i] ∈ K2.take k then [K1[i]] else []) else [])
theorem wantK_zero (K1 K2 : RL.R) (i : Nat) : wantK K1 K2 i 0 = meetF (K1.take i) K2 := by unfold wantK; split <;> simp
theorem wantK_row {K1 K2 : RL.R} {i : Nat} (hi : i < K1.length) : wantK K1 K2 i K2.length = meetF (K1.take (i + 1)) K2 := by
  unfold wantK meetF
  rw [dif_pos hi, List.take_length, List.take_succ_eq_append_getElem hi, List.filter_append]
  congr 1
  by_cases h : K1[i] ∈ K2
  · rw [if_pos h, List.filter_cons_of_pos (by simpa using h)]; rfl
  · rw [if_neg h, List.filter_cons_of_neg (by simpa using h)]; rfl
theorem wantK_hit {K1 K2 : RL.R} {i k : Nat} (h2 : K2.Pairwise fun a b => RL.cmpV a b < 0) (hi : i < K1.length) (hk : k < K2.length) (h : K1[i] = K2[k]) : wantK K1 K2 i (k + 1) = wantK K1 K2 i k ++ [K1[i]] := by
  have hn : K1[i] ∉ K2.take k := fun hm => by
    rw [h] at hm
    obtain ⟨j, hj, e⟩ := List.getElem_of_mem hm
    rw [List.getElem_take] at e
    simp at hj
    have := List.pairwise_iff_getElem.1 h2 j k (by omega) hk (by omega)
    rw [e, RL.tot_cmpV.self] at this
    omega
  have hy : K1[i] ∈ K2.take (k + 1) := by rw [h, List.mem_take_iff_getElem]; exact ⟨k, by omega, rfl⟩
  unfold wantK
  rw [dif_pos hi, dif_pos hi, if_pos hy, if_neg hn, List.append_nil]
theorem wantK_miss {K1 K2 : RL.R} {i k : Nat} (hi : i < K1.length) (hk : k < K2.length) (h : ¬ K1[i] = K2[k]) : wantK K1 K2 i (k + 1) = wantK K1 K2 i k := by
  have e : K1[i] ∈ K2.take (k + 1) ↔ K1[i] ∈ K2.take k := by rw [List.take_succ_eq_append_getElem hk, List.mem_append, List.mem_singleton]; simp [h]
  unfold wantK
  simp only [e]

end Go.Proofs.Ytiomelogggilgaa
end

section
/- Plain: a depth-first traversal of a trie. -/
namespace Go.Proofs.Ytiomelogggilgaa
open Go.RowKit Go.Sort

/-- How many nodes lie below q, m levels down. -/
def belowN (d : Nat) (P : List RL.R) : Nat → RL.R → Nat
  | 0, _ => 0
  | m + 1, q => ((RL.kids d P q).map fun v => 1 + belowN d P m (q ++ [v])).sum
/-- The rows below q. -/
def rowsN' (d : Nat) (P : List RL.R) : Nat → RL.R → List RL.R
  | 0, q => [q]
  | m + 1, q => (RL.kids d P q).flatMap fun v => rowsN' d P m (q ++ [v])
/-- q is a beginning of a row. -/
def IsPre (P : List RL.R) (q : RL.R) : Prop := ∃ y ∈ P, y.take q.length = q
section
variable {d : Nat} {P : List RL.R} (hS : RL.SS P) (hd : ∀ r ∈ P, r.length = d)
include hd
theorem mem_rowsN : ∀ (m : Nat) (q : RL.R), q.length + m = d → IsPre P q → ∀ y, y ∈ rowsN' d P m q ↔ y ∈ P ∧ y.take q.length = q := by
  intro m
  induction m with
  | zero =>
    intro q hq hp y
    obtain ⟨z, hz, e⟩ := hp
    have hzl := hd z hz
    rw [List.take_of_length_le (by omega)] at e
    subst e
    simp only [rowsN', List.mem_singleton]
    constructor
    · rintro rfl; exact ⟨hz, List.take_length⟩
    · rintro ⟨hy, e2⟩
      have := hd y hy
      rw [List.take_of_length_le (by omega)] at e2
      exact e2
  | succ m ih =>
    intro q hq hp y
    simp only [rowsN', List.mem_flatMap]
    constructor
    · rintro ⟨v, hv, hy⟩
      obtain ⟨z, hz, e⟩ := (RL.mem_kids hd (by omega) v).1 hv
      have h := (ih (q ++ [v]) (by simp; omega) ⟨z, hz, by simpa using e⟩ y).1 hy
      refine ⟨h.1, ?_⟩
      have := congrArg (List.take q.length) h.2
      rw [List.take_take, List.take_left, Nat.min_eq_left (by simp)] at this
      exact this
    · rintro ⟨hy, e⟩
      have hyl := hd y hy
      have hlt : q.length < y.length := by omega
      have e2 : y.take (q.length + 1) = q ++ [y[q.length]] := by rw [List.take_succ_eq_append_getElem hlt, e]
      have hk := (RL.mem_kids hd (by omega) (y[q.length])).2 ⟨y, hy, e2⟩
      exact ⟨y[q.length], hk, (ih (q ++ [y[q.length]]) (by simp; omega) ⟨y, hy, by simpa using e2⟩ y).2 ⟨hy, by simpa using e2⟩⟩
theorem pre_kid {q : RL.R} (hq : q.length < d) {v : RL.V} (hv : v ∈ RL.kids d P q) : IsPre P (q ++ [v]) := by
  obtain ⟨z, hz, e⟩ := (RL.mem_kids hd hq v).1 hv
  exact ⟨z, hz, by simpa using e⟩
theorem rowsN_pos (m : Nat) (q : RL.R) (hq : q.length + m = d) (hp : IsPre P q) : 0 < (rowsN' d P m q).length := by
  obtain ⟨z, hz, e⟩ := hp
  exact List.length_pos_of_mem ((mem_rowsN hd m q hq ⟨z, hz, e⟩ z).2 ⟨hz, e⟩)
theorem rowsN_ss : ∀ (m : Nat) (q : RL.R), q.length + m = d → IsPre P q → RL.SS (rowsN' d P m q) := by
  intro m
  induction m with
  | zero => intro q _ _; exact List.pairwise_singleton _ _
  | succ m ih =>
    intro q hq hp
    unfold RL.SS rowsN'
    rw [List.pairwise_flatMap]
    refine ⟨fun v hv => ih (q ++ [v]) (by simp; omega) (pre_kid hd (by omega) hv), ?_⟩
    refine List.Pairwise.imp_of_mem (fun {a b} ha hb hab => fun x hx y hy => ?_) (RL.kids_asc hd q)
    have h1 := (mem_rowsN hd m (q ++ [a]) (by simp; omega) (pre_kid hd (by omega) ha) x).1 hx
    have h2 := (mem_rowsN hd m (q ++ [b]) (by simp; omega) (pre_kid hd (by omega) hb) y).1 hy
    have e1 : x = (q ++ [a]) ++ x.drop (q ++ [a]).length := by conv => lhs; rw [← List.take_append_drop (q ++ [a]).length x, h1.2]
    have e2 : y = (q ++ [b]) ++ y.drop (q ++ [b]).length := by conv => lhs; rw [← List.take_append_drop (q ++ [b]).length y, h2.2]
    rw [e1, e2]
    refine RL.lt_ext _ _ _ _ (by simp) ?_
    rw [RL.cmpR_append_left, RL.cmpR_one]
    exact hab
include hS in
/-- From the root the traversal meets just the rows. -/
theorem rowsN_all (hP : P ≠ []) : rowsN' d P d [] = P := by
  obtain ⟨z, hz⟩ := List.exists_mem_of_ne_nil _ hP
  have hp : IsPre P [] := ⟨z, hz, by simp⟩
  refine RL.SS.ext (rowsN_ss hd d [] (by simp) hp) hS (fun r => ?_)
  rw [mem_rowsN hd d [] (by simp) hp]
  simp
omit hd in
theorem sum_le_of {l : RL.R} {f g : RL.V → Nat} (h : ∀ v ∈ l, f v ≤ g v) : (l.map f).sum ≤ (l.map g).sum := by
  induction l with
  | nil => simp
  | cons a l ih =>
    simp only [List.map_cons, List.sum_cons]
    have h1 := h a (by simp)
    have h2 := ih (fun v hv => h v (by simp [hv]))
    omega
theorem belowN_le : ∀ (m : Nat) (q : RL.R), q.length + m = d → IsPre P q → belowN d P m q ≤ m * (rowsN' d P m q).length := by
  intro m
  induction m with
  | zero => intro q _ _; exact Nat.zero_le _
  | succ m ih =>
    intro q hq hp
    unfold belowN rowsN'
    rw [List.length_flatMap]
    have h1 : ((RL.kids d P q).map fun v => 1 + belowN d P m (q ++ [v])).sum ≤ ((RL.kids d P q).map fun v => (m + 1) * (rowsN' d P m (q ++ [v])).length).sum := by
      apply sum_le_of
      intro v hv
      have h2 := ih (q ++ [v]) (by simp; omega) (pre_kid hd (by omega) hv)
      have h3 := rowsN_pos hd m (q ++ [v]) (by simp; omega) (pre_kid hd (by omega) hv)
      rw [Nat.add_mul, Nat.one_mul]
      omega
    have h4 : ((RL.kids d P q).map fun v => (m + 1) * (rowsN' d P m (q ++ [v])).length).sum = (m + 1) * ((RL.kids d P q).map fun v => (rowsN' d P m (q ++ [v])).length).sum := by
      clear h1 ih
      induction RL.kids d P q with
      | nil => simp
      | cons a l ih => simp only [List.map_cons, List.sum_cons, ih, Nat.mul_add]
    omega
end
/-- What of the traversal lies behind the first k children. -/
def rowsK (d : Nat) (P : List RL.R) (m : Nat) (q : RL.R) (k : Nat) : List RL.R := ((RL.kids d P q).take k).flatMap fun v => rowsN' d P m (q ++ [v])
def belowK (d : Nat) (P : List RL.R) (m : Nat) (q : RL.R) (k : Nat) : Nat := (((RL.kids d P q).take k).map fun v => 1 + belowN d P m (q ++ [v])).sum
theorem rowsK_zero (d : Nat) (P : List RL.R) (m : Nat) (q : RL.R) : rowsK d P m q 0 = [] := by simp [rowsK]
theorem belowK_zero (d : Nat) (P : List RL.R) (m : Nat) (q : RL.R) : belowK d P m q 0 = 0 := by simp [belowK]
theorem rowsK_succ {d : Nat} {P : List RL.R} {m : Nat} {q : RL.R} {k : Nat} (hk : k < (RL.kids d P q).length) : rowsK d P m q (k + 1) = rowsK d P m q k ++ rowsN' d P m (q ++ [(RL.kids d P q)[k]]) := by
  unfold rowsK
  rw [List.take_succ_eq_append_getElem hk, List.flatMap_append]
  simp
theorem belowK_succ {d : Nat} {P : List RL.R} {m : Nat} {q : RL.R} {k : Nat} (hk : k < (RL.kids d P q).length) : belowK d P m q (k + 1) = belowK d P m q k + (1 + belowN d P m (q ++ [(RL.kids d P q)[k]])) := by
  unfold belowK
  rw [List.take_succ_eq_append_getElem hk, List.map_append, List.sum_append]
  simp
theorem rowsK_all (d : Nat) (P : List RL.R) (m : Nat) (q : RL.R) : rowsK d P m q (RL.kids d P q).length = rowsN' d P (m + 1) q := by unfold rowsK; rw [List.take_length]; rfl
theorem belowK_all (d : Nat) (P : List RL.R) (m : Nat) (q : RL.R) : belowK d P m q (RL.kids d P q).length = belowN d P (m + 1) q := by unfold belowK; rw [List.take_length]; rfl
theorem belowK_le {d : Nat} {P : List RL.R} {m : Nat} {q : RL.R} {k : Nat} (_hk : k < (RL.kids d P q).length) : belowK d P m q (k + 1) ≤ belowN d P (m + 1) q := by
  rw [← belowK_all]
  unfold belowK
  rw [List.take_length]
  conv => rhs; rw [← List.take_append_drop (k + 1) (RL.kids d P q), List.map_append, List.sum_append]
  exact Nat.le_add_right _ _
end Go.Proofs.Ytiomelogggilgaa
end

section
/- Plain: joins of atoms, as the search by variables computes them; the places of the atoms' iterators. -/
namespace Go.Proofs.Ytiomelogggilgaa
open Go.RowKit Go.Sort

/-- An atom: its variables and its rows. -/
structure At where
  vs : List Nat
  P : List RL.R
abbrev At.d (a : At) : Nat := a.vs.length
structure At.Ok (n : Nat) (a : At) : Prop where
  asc : a.vs.Pairwise (· < ·)
  lt : ∀ v ∈ a.vs, v < n
  len : ∀ r ∈ a.P, r.length = a.vs.length
  ss : RL.SS a.P

def dv (x : RL.R) (v : Nat) : RL.V := x.getD v default
/-- What a row says about the variables of an atom that it reaches. -/
def pj (a : At) (x : RL.R) : RL.R := (a.vs.filter fun v => decide (v < x.length)).map (dv x)
def satA (a : At) (x : RL.R) : Prop := a.vs.map (dv x) ∈ a.P
/-- A beginning that some row of the atom allows. -/
def preA (a : At) (x : RL.R) : Prop := ∃ y ∈ a.P, y.take (pj a x).length = pj a x
def kidsA (a : At) (x : RL.R) : RL.R := RL.kids a.d a.P (pj a x)

theorem filter_lt_succ {vs : List Nat} (h : vs.Pairwise (· < ·)) (n : Nat) : vs.filter (fun v => decide (v < n + 1)) = vs.filter (fun v => decide (v < n)) ++ (if n ∈ vs then [n] else []) := by
  induction vs with
  | nil => rfl
  | cons a t ih =>
    obtain ⟨h1, h2⟩ := List.pairwise_cons.1 h
    have ih := ih h2
    rcases Nat.lt_trichotomy a n with hl | rfl | hg
    · rw [List.filter_cons_of_pos (by simp; omega), List.filter_cons_of_pos (by simpa using hl), ih]
      have : (n ∈ a :: t) ↔ n ∈ t := by simp; omega
      simp only [this]
      rfl
    · rw [List.filter_cons_of_pos (by simp), List.filter_cons_of_neg (by simp)]
      have e1 : t.filter (fun v => decide (v < a + 1)) = [] := List.filter_eq_nil_iff.2 fun v hv => by have := h1 v hv; simp; omega
      have e2 : t.filter (fun v => decide (v < a)) = [] := List.filter_eq_nil_iff.2 fun v hv => by have := h1 v hv; simp; omega
      rw [e1, e2]
      simp
    · rw [List.filter_cons_of_neg (by simp; omega), List.filter_cons_of_neg (by simp; omega), ih]
      have hn : n ∉ t := fun hm => by have := h1 n hm; omega
      rw [if_neg hn, if_neg (by simp; exact ⟨by omega, hn⟩)]
theorem filter_lt_length {vs : List Nat} (h : vs.Pairwise (· < ·)) {n : Nat} (hn : n ∈ vs) : (vs.filter fun v => decide (v < n)).length < vs.length := by
  have h1 := List.length_filter_le (fun v => decide (v < n + 1)) vs
  rw [filter_lt_succ h, if_pos hn, List.length_append, List.length_singleton] at h1
  omega
theorem filter_lt_prefix {vs : List Nat} (h : vs.Pairwise (· < ·)) (n : Nat) : vs.filter (fun v => decide (v < n)) <+: vs := by
  induction vs with
  | nil => simp
  | cons a t ih =>
    obtain ⟨h1, h2⟩ := List.pairwise_cons.1 h
    by_cases hl : a < n
    · rw [List.filter_cons_of_pos (by simpa using hl)]
      exact List.prefix_cons_iff.2 (.inr ⟨_, rfl, ih h2⟩)
    · rw [List.filter_cons_of_neg (by simpa using hl)]
      have : t.filter (fun v => decide (v < n)) = [] := List.filter_eq_nil_iff.2 fun v hv => by have := h1 v hv; simp; omega
      rw [this]
      exact List.nil_prefix
theorem dv_snoc (x : RL.R) (c : RL.V) {v : Nat} (h : v < x.length) : dv (x ++ [c]) v = dv x v := by
  unfold dv
  simp [List.getD_eq_getElem?_getD, List.getElem?_append_left h]
theorem dv_last (x : RL.R) (c : RL.V) : dv (x ++ [c]) x.length = c := by
  unfold dv
  simp [List.getD_eq_getElem?_getD]
theorem pj_nil (a : At) : pj a [] = [] := by unfold pj; simp
theorem pj_snoc {a : At} (h : a.vs.Pairwise (· < ·)) (x : RL.R) (c : RL.V) : pj a (x ++ [c]) = if x.length ∈ a.vs then pj a x ++ [c] else pj a x := by
  unfold pj
  rw [List.length_append, List.length_singleton, filter_lt_succ h, List.map_append]
  have e : (a.vs.filter fun v => decide (v < x.length)).map (dv (x ++ [c])) = (a.vs.filter fun v => decide (v < x.length)).map (dv x) :=
    List.map_congr_left fun v hv => dv_snoc x c (by simpa using (List.mem_filter.1 hv).2)
  rw [e]
  split
  · rw [List.map_singleton, dv_last]
  · simp
theorem pj_le (a : At) (x : RL.R) : (pj a x).length ≤ a.d := by unfold pj; rw [List.length_map]; exact List.length_filter_le _ _
theorem pj_lt {a : At} (h : a.vs.Pairwise (· < ·)) {x : RL.R} (hx : x.length ∈ a.vs) : (pj a x).length < a.d := by unfold pj; rw [List.length_map]; exact filter_lt_length h hx
theorem pj_full {n : Nat} {a : At} (h : a.Ok n) {x : RL.R} (hx : x.length = n) : pj a x = a.vs.map (dv x) := by
  unfold pj
  rw [List.filter_eq_self.2 fun v hv => by have := h.lt v hv; simp; omega]
theorem preA_full {n : Nat} {a : At} (h : a.Ok n) {x : RL.R} (hx : x.length = n) : preA a x ↔ satA a x := by
  unfold preA satA
  rw [pj_full h hx]
  constructor
  · rintro ⟨y, hy, e⟩
    rw [List.length_map, ← h.len y hy, List.take_length] at e
    exact e ▸ hy
  · intro hm
    exact ⟨_, hm, List.take_length⟩
theorem preA_nil {a : At} (h : a.P ≠ []) : preA a [] := by
  obtain ⟨y, hy⟩ := List.exists_mem_of_ne_nil _ h
  exact ⟨y, hy, by rw [pj_nil]; rfl⟩
theorem preA_snoc {n : Nat} {a : At} (h : a.Ok n) {x : RL.R} {c : RL.V} (hx : x.length ∈ a.vs) : preA a (x ++ [c]) ↔ c ∈ kidsA a x := by
  unfold preA kidsA
  rw [pj_snoc h.asc, if_pos hx, RL.mem_kids h.len (pj_lt h.asc hx), List.length_append, List.length_singleton]
theorem preA_same {n : Nat} {a : At} (h : a.Ok n) {x : RL.R} {c : RL.V} (hx : x.length ∉ a.vs) : preA a (x ++ [c]) ↔ preA a x := by
  unfold preA
  rw [pj_snoc h.asc, if_neg hx]

/-- The atoms that have a variable. -/
def atsV (l : List At) (v : Nat) : List At := l.filter fun a => decide (v ∈ a.vs)
/-- The values that all atoms with the next variable allow behind x. -/
def candF (l : List At) (x : RL.R) : RL.R :=
  match atsV l x.length with
  | [] => []
  | a :: t => (kidsA a x).filter fun c => t.all fun b => decide (c ∈ kidsA b x)
def joinN (l : List At) : Nat → RL.R → List RL.R
  | 0, x => [x]
  | m + 1, x => (candF l x).flatMap fun c => joinN l m (x ++ [c])

theorem mem_candF {l : List At} {x : RL.R} (h : atsV l x.length ≠ []) (c : RL.V) : c ∈ candF l x ↔ ∀ a ∈ l, x.length ∈ a.vs → c ∈ kidsA a x := by
  have e : ∀ a, a ∈ atsV l x.length ↔ a ∈ l ∧ x.length ∈ a.vs := fun a => by unfold atsV; simp
  unfold candF
  cases hq : atsV l x.length with
  | nil => exact absurd hq h
  | cons a t =>
    rw [hq] at e
    simp only [List.mem_filter, List.all_eq_true, decide_eq_true_eq]
    constructor
    · rintro ⟨h1, h2⟩ b hb hv
      rcases List.mem_cons.1 ((e b).2 ⟨hb, hv⟩) with rfl | hm
      · exact h1
      · exact h2 b hm
    · intro hall
      exact ⟨hall a ((e a).1 (by simp)).1 ((e a).1 (by simp)).2, fun b hb => hall b ((e b).1 (by simp [hb])).1 ((e b).1 (by simp [hb])).2⟩
theorem candF_asc {n : Nat} {l : List At} (hl : ∀ a ∈ l, a.Ok n) (x : RL.R) : (candF l x).Pairwise fun a b => RL.cmpV a b < 0 := by
  unfold candF
  cases hq : atsV l x.length with
  | nil => exact List.Pairwise.nil
  | cons a t =>
    have ha : a ∈ l := by have : a ∈ atsV l x.length := by rw [hq]; simp
                          unfold atsV at this; exact (List.mem_filter.1 this).1
    exact List.Pairwise.sublist List.filter_sublist (RL.kids_asc (hl a ha).len _)

section
variable {n : Nat} {l : List At} (hl : ∀ a ∈ l, a.Ok n) (hu : ∀ v, v < n → ∃ a ∈ l, v ∈ a.vs)
include hl hu
omit hl in
theorem atsV_ne {v : Nat} (hv : v < n) : atsV l v ≠ [] := by
  obtain ⟨a, ha, h⟩ := hu v hv
  intro e
  have : a ∈ atsV l v := by unfold atsV; simp [ha, h]
  rw [e] at this
  simp at this
theorem cand_pre {x : RL.R} (hx : x.length < n) (hp : ∀ a ∈ l, preA a x) (c : RL.V) : c ∈ candF l x ↔ ∀ a ∈ l, preA a (x ++ [c]) := by
  rw [mem_candF (atsV_ne hu hx)]
  constructor
  · intro h a ha
    by_cases hv : x.length ∈ a.vs
    · exact (preA_snoc (hl a ha) hv).2 (h a ha hv)
    · exact (preA_same (hl a ha) hv).2 (hp a ha)
  · intro h a ha hv
    exact (preA_snoc (hl a ha) hv).1 (h a ha)
theorem mem_joinN : ∀ (m : Nat) (x : RL.R), x.length + m = n → (∀ a ∈ l, preA a x) → ∀ y, y ∈ joinN l m x ↔ y.length = n ∧ y.take x.length = x ∧ ∀ a ∈ l, satA a y
  | 0, x, hx, hp, y => by
    rw [joinN, List.mem_singleton]
    constructor
    · rintro rfl
      exact ⟨by omega, List.take_length, fun a ha => (preA_full (hl a ha) (by omega)).1 (hp a ha)⟩
    · rintro ⟨h1, h2, -⟩
      rw [show x.length = y.length by omega, List.take_length] at h2
      exact h2
  | m + 1, x, hx, hp, y => by
    rw [joinN, List.mem_flatMap]
    constructor
    · rintro ⟨c, hc, hy⟩
      have hp' := (cand_pre hl hu (by omega) hp c).1 hc
      obtain ⟨h1, h2, h3⟩ := (mem_joinN m (x ++ [c]) (by simp; omega) hp' y).1 hy
      refine ⟨h1, ?_, h3⟩
      have h4 := congrArg (List.take x.length) h2
      rw [List.take_take, List.length_append, List.length_singleton, Nat.min_eq_left (by omega), List.take_left] at h4
      exact h4
    · rintro ⟨h1, h2, h3⟩
      have hi : x.length < y.length := by omega
      have e : y.take (x.length + 1) = x ++ [y[x.length]] := by rw [List.take_succ_eq_append_getElem hi, h2]
      have hp' : ∀ a ∈ l, preA a (x ++ [y[x.length]]) := fun a ha => by
        refine ⟨a.vs.map (dv y), h3 a ha, ?_⟩
        unfold pj
        rw [← e, List.length_map]
        have e3 : (y.take (x.length + 1)).length = x.length + 1 := by simp; omega
        rw [e3]
        have hpre : a.vs.filter (fun v => decide (v < x.length + 1)) = a.vs.take (a.vs.filter fun v => decide (v < x.length + 1)).length := by
          refine (List.prefix_iff_eq_take.1 ?_)
          exact filter_lt_prefix (hl a ha).asc _
        have e2 : (a.vs.filter fun v => decide (v < x.length + 1)).map (dv (y.take (x.length + 1))) = (a.vs.filter fun v => decide (v < x.length + 1)).map (dv y) := by
          refine List.map_congr_left fun v hv => ?_
          have hv' : v < x.length + 1 := by simpa using (List.mem_filter.1 hv).2
          unfold dv
          rw [List.getD_eq_getElem?_getD, List.getElem?_take_of_lt hv', List.getD_eq_getElem?_getD]
        rw [e2, ← List.map_take, ← hpre]
      exact ⟨_, (cand_pre hl hu (by omega) hp _).2 hp', (mem_joinN m _ (by simp; omega) hp' y).2 ⟨h1, by simpa using e, h3⟩⟩
theorem joinN_ss : ∀ (m : Nat) (x : RL.R), x.length + m = n → (∀ a ∈ l, preA a x) → RL.SS (joinN l m x)
  | 0, x, _, _ => by rw [joinN]; exact List.pairwise_singleton _ _
  | m + 1, x, hx, hp => by
    rw [joinN]
    have hss : ∀ c ∈ candF l x, RL.SS (joinN l m (x ++ [c])) := fun c hc => joinN_ss m (x ++ [c]) (by simp; omega) ((cand_pre hl hu (by omega) hp c).1 hc)
    refine List.pairwise_flatMap.2 ⟨hss, (candF_asc hl x).imp_of_mem fun {c e} hc he hlt y hy z hz => ?_⟩
    obtain ⟨y1, y2, -⟩ := (mem_joinN hl hu m (x ++ [c]) (by simp; omega) ((cand_pre hl hu (by omega) hp c).1 hc) y).1 hy
    obtain ⟨z1, z2, -⟩ := (mem_joinN hl hu m (x ++ [e]) (by simp; omega) ((cand_pre hl hu (by omega) hp e).1 he) z).1 hz
    rw [← List.take_append_drop (x ++ [c]).length y, ← List.take_append_drop (x ++ [e]).length z, y2, z2]
    refine RL.lt_ext _ _ _ _ (by simp) ?_
    rw [RL.cmpR_append_left, RL.cmpR_one]
    exact hlt
end

/-- The whole join. -/
def joinF (n : Nat) (l : List At) : List RL.R := if l.any (fun a => decide (a.P = [])) then [] else joinN l n []
theorem mem_joinF {n : Nat} {l : List At} (hl : ∀ a ∈ l, a.Ok n) (hu : ∀ v, v < n → ∃ a ∈ l, v ∈ a.vs) (y : RL.R) : y ∈ joinF n l ↔ y.length = n ∧ ∀ a ∈ l, satA a y := by
  unfold joinF
  split
  · rename_i h
    obtain ⟨a, ha, h⟩ := List.any_eq_true.1 h
    have h : a.P = [] := by simpa using h
    constructor
    · intro hm; simp at hm
    · rintro ⟨-, h2⟩
      have := h2 a ha
      unfold satA at this
      rw [h] at this
      simp at this
  · rename_i h
    have hne : ∀ a ∈ l, a.P ≠ [] := fun a ha e => h (List.any_eq_true.2 ⟨a, ha, by simpa using e⟩)
    rw [mem_joinN hl hu n [] (by simp) (fun a ha => preA_nil (hne a ha))]
    simp
theorem joinF_ss {n : Nat} {l : List At} (hl : ∀ a ∈ l, a.Ok n) (hu : ∀ v, v < n → ∃ a ∈ l, v ∈ a.vs) : RL.SS (joinF n l) := by
  unfold joinF
  split
  · exact RL.ss_nil
  · rename_i h
    exact joinN_ss hl hu n [] (by simp) (fun a ha => preA_nil fun e => h (List.any_eq_true.2 ⟨a, ha, by simpa using e⟩))

end Go.Proofs.Ytiomelogggilgaa
end

section
/- Plain: how iterators meet (the leapfrog), and where they stand in the search. -/
namespace Go.Proofs.Ytiomelogggilgaa
open Go.RowKit Go.Sort

theorem cntF_le (K : RL.R) (v : RL.V) : cntF K v ≤ K.length := List.countP_le_length
theorem mem_drop_at {α : Type} {l : List α} {t : Nat} (h : t < l.length) : l[t] ∈ l.drop t := by rw [List.drop_eq_getElem_cons h]; exact List.mem_cons_self
section
variable {K : RL.R} (h : K.Pairwise fun a b => RL.cmpV a b < 0)
include h
theorem cntF_at {j : Nat} (hj : j < K.length) : cntF K K[j] = j := by
  refine Nat.le_antisymm ?_ ?_
  · refine Nat.le_of_not_lt fun hlt => ?_
    have h1 := (countP_prefix (v := K[j]) h hj).2 hlt
    rw [RL.tot_cmpV.self] at h1
    omega
  · refine Nat.le_of_not_lt fun hlt => ?_
    have h2 : cntF K K[j] < K.length := by omega
    have h1 := List.pairwise_iff_getElem.1 h (cntF K K[j]) j h2 hj hlt
    have h3 := (countP_prefix (v := K[j]) h h2).1 h1
    exact Nat.lt_irrefl _ h3
theorem cntF_mem {u : RL.V} (hu : u ∈ K) : ∃ hj : cntF K u < K.length, K[cntF K u] = u := by
  obtain ⟨j, hj, rfl⟩ := List.getElem_of_mem hu
  exact ⟨by rw [cntF_at h hj]; exact hj, by simp only [cntF_at h hj]⟩
omit h in
theorem cntF_mono {u v : RL.V} (huv : RL.cmpV u v ≤ 0) : cntF K u ≤ cntF K v := List.countP_mono_left fun x _ hx => by
  simp only [decide_eq_true_eq] at hx ⊢
  exact RL.tot_cmpV.lt_of_lt_of_le hx huv
theorem cntF_ge {v : RL.V} {j : Nat} (hj : j < K.length) (hc : cntF K v ≤ j) : 0 ≤ RL.cmpV K[j] v := by
  refine Int.not_lt.1 fun hlt => ?_
  have := (countP_prefix (v := v) h hj).1 hlt
  unfold cntF at hc
  omega
theorem cntF_lt {v : RL.V} {j : Nat} (hj : j < K.length) (hc : j < cntF K v) : RL.cmpV K[j] v < 0 := (countP_prefix (v := v) h hj).2 hc
theorem idx_cntF {u : RL.V} (hu : u ∈ K) : K.idxOf u = cntF K u := by
  obtain ⟨hj, e⟩ := cntF_mem h hu
  have hn : K.Nodup := h.imp fun hab e => by rw [e, RL.tot_cmpV.self] at hab; omega
  have := hn.idxOf_getElem _ hj
  rw [e] at this
  exact this
end

/-- How many values above a key the lists hold. -/
def gtN (K : Nat → RL.R) (J : List Nat) (key : RL.V) : Nat := (J.map fun i => (K i).countP fun u => decide (RL.cmpV key u < 0)).sum
theorem gtN_le (K : Nat → RL.R) (J : List Nat) (key : RL.V) (M : Nat) (hM : ∀ i ∈ J, (K i).length ≤ M) : gtN K J key ≤ J.length * M := by
  induction J with
  | nil => simp [gtN]
  | cons a t ih =>
    have h1 := ih fun i hi => hM i (by simp [hi])
    have h2 := hM a (by simp)
    have h3 := List.countP_le_length (p := fun u => decide (RL.cmpV key u < 0)) (l := K a)
    simp only [gtN, List.map_cons, List.sum_cons, List.length_cons] at *
    rw [Nat.succ_mul]
    omega
theorem gtN_mono {K : Nat → RL.R} {J : List Nat} {key nx : RL.V} (h : RL.cmpV key nx < 0) : gtN K J nx ≤ gtN K J key := by
  induction J with
  | nil => simp [gtN]
  | cons a t ih =>
    have h3 : (K a).countP (fun u => decide (RL.cmpV nx u < 0)) ≤ (K a).countP (fun u => decide (RL.cmpV key u < 0)) := List.countP_mono_left fun x _ hx => by
      simp only [decide_eq_true_eq] at hx ⊢
      exact RL.tot_cmpV.tr _ _ _ h hx
    simp only [gtN, List.map_cons, List.sum_cons] at *
    omega
theorem countP_lt {l : RL.R} {p q : RL.V → Bool} (h : ∀ u ∈ l, p u = true → q u = true) {x : RL.V} (hx : x ∈ l) (h1 : p x = false) (h2 : q x = true) : l.countP p < l.countP q := by
  induction l with
  | nil => simp at hx
  | cons a t ih =>
    have hm : t.countP p ≤ t.countP q := List.countP_mono_left fun u hu => h u (by simp [hu])
    rw [List.countP_cons, List.countP_cons]
    rcases List.mem_cons.1 hx with rfl | hx
    · rw [h1, h2]; simp; omega
    · have := ih (fun u hu => h u (by simp [hu])) hx
      have h3 := h a (by simp)
      cases hp : p a with
      | false => simp; split <;> omega
      | true => rw [h3 hp]; simp; omega
theorem gtN_lt {K : Nat → RL.R} {J : List Nat} {key nx : RL.V} (h : RL.cmpV key nx < 0) {i : Nat} (hi : i ∈ J) (hn : nx ∈ K i) : gtN K J nx < gtN K J key := by
  induction J with
  | nil => simp at hi
  | cons a t ih =>
    have hs : ∀ u, RL.cmpV nx u < 0 → RL.cmpV key u < 0 := fun u hu => RL.tot_cmpV.tr _ _ _ h hu
    have h3 : (K a).countP (fun u => decide (RL.cmpV nx u < 0)) ≤ (K a).countP (fun u => decide (RL.cmpV key u < 0)) := List.countP_mono_left fun x _ hx => by
      simp only [decide_eq_true_eq] at hx ⊢
      exact hs x hx
    have h4 := gtN_mono (K := K) (J := t) h
    simp only [gtN, List.map_cons, List.sum_cons] at *
    rcases List.mem_cons.1 hi with rfl | hi
    · have h5 : (K i).countP (fun u => decide (RL.cmpV nx u < 0)) < (K i).countP (fun u => decide (RL.cmpV key u < 0)) :=
        countP_lt (fun u _ hu => by simp only [decide_eq_true_eq] at hu ⊢; exact hs u hu) hn (by simp [RL.tot_cmpV.self]) (by simpa using h)
      omega
    · have := ih hi
      omega

/-- Where a meeting stands ahead of its search: t common values are behind. -/
structure MSt (K : Nat → RL.R) (J : List Nat) (C : RL.R) (p : Nat → Nat) (t : Nat) : Prop where
  t_le : t ≤ C.length
  pos : p (J.getD 0 0) ≤ (K (J.getD 0 0)).length
  low : ∀ (h : p (J.getD 0 0) < (K (J.getD 0 0)).length) i, i ∈ J → p i ≤ cntF (K i) (K (J.getD 0 0))[p (J.getD 0 0)]
  todo : ∀ u ∈ C.drop t, p (J.getD 0 0) ≤ cntF (K (J.getD 0 0)) u
  past : ∀ u ∈ C.take t, cntF (K (J.getD 0 0)) u < p (J.getD 0 0)
/-- Within the search. -/
structure MeetI (K : Nat → RL.R) (J : List Nat) (C : RL.R) (t : Nat) (key : RL.V) (same k : Nat) (p : Nat → Nat) : Prop where
  t_le : t ≤ C.length
  low : ∀ i ∈ J, p i ≤ cntF (K i) key
  com : ∀ u ∈ C.drop t, RL.cmpV key u ≤ 0
  past : ∀ u ∈ C.take t, RL.cmpV u key < 0
  s1 : 1 ≤ same
  s2 : same ≤ J.length
  s3 : same ≤ k
  on : ∀ r, k - same ≤ r → r < k → key ∈ K (J.getD (r % J.length) 0) ∧ p (J.getD (r % J.length) 0) = cntF (K (J.getD (r % J.length) 0)) key
/-- All stand at the common value number t. -/
def Fnd (K : Nat → RL.R) (J : List Nat) (C : RL.R) (p : Nat → Nat) (t : Nat) : Prop := ∃ h : t < C.length, ∀ i ∈ J, p i = cntF (K i) C[t]
def updN (p : Nat → Nat) (i v : Nat) : Nat → Nat := fun j => if j = i then v else p j

section
variable {K : Nat → RL.R} {J : List Nat} {C : RL.R} (hK : ∀ i ∈ J, (K i).Pairwise fun a b => RL.cmpV a b < 0) (hC : C.Pairwise fun a b => RL.cmpV a b < 0) (hJ : J ≠ []) (hm : ∀ u, u ∈ C ↔ ∀ i ∈ J, u ∈ K i)
include hK hC hJ hm
omit hK hC hm in
theorem j0_mem : J.getD 0 0 ∈ J := by
  cases J with
  | nil => exact absurd rfl hJ
  | cons a t => simp
omit hK hC hm in
theorem jk_mem (k : Nat) : J.getD (k % J.length) 0 ∈ J := by
  have hp : 0 < J.length := List.length_pos_iff.2 hJ
  have : k % J.length < J.length := Nat.mod_lt _ hp
  rw [List.getD_eq_getElem?_getD, List.getElem?_eq_getElem this]
  exact List.getElem_mem _
omit hK hC hJ hm in
theorem MSt.init : MSt K J C (fun _ => 0) 0 := ⟨by omega, by omega, fun _ _ _ => by omega, fun _ _ => by omega, fun u hu => by simp at hu⟩
theorem Fnd.next {p : Nat → Nat} {t : Nat} (h : Fnd K J C p t) : MSt K J C (updN p (J.getD 0 0) (p (J.getD 0 0) + 1)) (t + 1) := by
  obtain ⟨ht, h⟩ := h
  have h0 := j0_mem hJ
  have hm0 := (hm C[t]).1 (List.getElem_mem ht)
  obtain ⟨g1, g2⟩ := cntF_mem (hK _ h0) (hm0 _ h0)
  have e0 : updN p (J.getD 0 0) (p (J.getD 0 0) + 1) (J.getD 0 0) = cntF (K (J.getD 0 0)) C[t] + 1 := by unfold updN; rw [if_pos rfl, h _ h0]
  refine ⟨by omega, by rw [e0]; omega, fun hlt i hi => ?_, fun u hu => ?_, fun u hu => ?_⟩
  · by_cases hi0 : i = J.getD 0 0
    · subst hi0
      rw [cntF_at (hK _ h0) hlt]
      exact Nat.le_refl _
    · rw [show updN p (J.getD 0 0) (p (J.getD 0 0) + 1) i = p i by unfold updN; rw [if_neg hi0], h i hi]
      refine cntF_mono ?_
      have hlt' : cntF (K (J.getD 0 0)) C[t] + 1 < (K (J.getD 0 0)).length := by rw [← e0]; exact hlt
      have h3 := List.pairwise_iff_getElem.1 (hK _ h0) (cntF (K (J.getD 0 0)) C[t]) (cntF (K (J.getD 0 0)) C[t] + 1) (by omega) hlt' (by omega)
      rw [g2] at h3
      have e1 : (K (J.getD 0 0))[updN p (J.getD 0 0) (p (J.getD 0 0) + 1) (J.getD 0 0)] = (K (J.getD 0 0))[cntF (K (J.getD 0 0)) C[t] + 1] := by congr 1
      rw [e1]
      exact Int.le_of_lt h3
  · rw [e0]
    obtain ⟨j, hj, rfl⟩ := List.getElem_of_mem hu
    rw [List.getElem_drop]
    have hj' : t + 1 + j < C.length := by rw [List.length_drop] at hj; omega
    have h3 := List.pairwise_iff_getElem.1 hC t (t + 1 + j) ht hj' (by omega)
    have hmu := (hm C[t + 1 + j]).1 (List.getElem_mem _)
    obtain ⟨f1, f2⟩ := cntF_mem (hK _ h0) (hmu _ h0)
    have : RL.cmpV (K (J.getD 0 0))[cntF (K (J.getD 0 0)) C[t]] C[t + 1 + j] < 0 := by rw [g2]; exact h3
    exact (countP_prefix (hK _ h0) g1).1 this
  · rw [e0]
    obtain ⟨j, hj, rfl⟩ := List.getElem_of_mem hu
    rw [List.getElem_take]
    simp at hj
    refine Nat.lt_succ_of_le (cntF_mono ?_)
    rcases Nat.lt_or_ge j t with hjt | hjt
    · exact Int.le_of_lt (List.pairwise_iff_getElem.1 hC j t (by omega) ht hjt)
    · have : j = t := by omega
      subst this
      rw [RL.tot_cmpV.self]
      omega
omit hC in
theorem MSt.none {p : Nat → Nat} {t : Nat} (h : MSt K J C p t) (h1 : ¬ p (J.getD 0 0) < (K (J.getD 0 0)).length) : t = C.length := by
  refine Nat.le_antisymm h.t_le (Nat.le_of_not_lt fun hlt => ?_)
  have h0 := j0_mem hJ
  have hu : C[t] ∈ C.drop t := mem_drop_at hlt
  have h2 := h.todo _ hu
  obtain ⟨g1, -⟩ := cntF_mem (hK _ h0) ((hm C[t]).1 (List.getElem_mem hlt) _ h0)
  omega
omit hC in
theorem MSt.start {p : Nat → Nat} {t : Nat} (h : MSt K J C p t) (h1 : p (J.getD 0 0) < (K (J.getD 0 0)).length) : MeetI K J C t (K (J.getD 0 0))[p (J.getD 0 0)] 1 1 p := by
  have h0 := j0_mem hJ
  have hp : 0 < J.length := List.length_pos_iff.2 hJ
  refine ⟨h.t_le, h.low h1, fun u hu => ?_, fun u hu => ?_, by omega, by omega, by omega, fun r _ hr => ?_⟩
  · obtain ⟨g1, g2⟩ := cntF_mem (hK _ h0) ((hm u).1 (List.mem_of_mem_drop hu) _ h0)
    have h2 := h.todo u hu
    have h4 : 0 ≤ RL.cmpV (K (J.getD 0 0))[cntF (K (J.getD 0 0)) u] (K (J.getD 0 0))[p (J.getD 0 0)] := cntF_ge (hK _ h0) g1 (by rw [cntF_at (hK _ h0) h1]; exact h2)
    rw [g2, RL.tot_cmpV.sw] at h4
    omega
  · obtain ⟨g1, g2⟩ := cntF_mem (hK _ h0) ((hm u).1 (List.mem_of_mem_take hu) _ h0)
    have h2 := h.past u hu
    have := List.pairwise_iff_getElem.1 (hK _ h0) _ _ g1 h1 h2
    rw [g2] at this
    exact this
  · have : r = 0 := by omega
    subst this
    rw [Nat.zero_mod]
    exact ⟨List.getElem_mem h1, (cntF_at (hK _ h0) h1).symm⟩
omit hC in
theorem MeetI.fail {t : Nat} {key : RL.V} {same k : Nat} {p : Nat → Nat} (h : MeetI K J C t key same k p) (h1 : ¬ cntF (K (J.getD (k % J.length) 0)) key < (K (J.getD (k % J.length) 0)).length) : t = C.length := by
  refine Nat.le_antisymm h.t_le (Nat.le_of_not_lt fun hlt => h1 ?_)
  have h0 := jk_mem hJ k
  have hu : C[t] ∈ C.drop t := mem_drop_at hlt
  have h2 := h.com _ hu
  obtain ⟨g1, -⟩ := cntF_mem (hK _ h0) ((hm C[t]).1 (List.getElem_mem hlt) _ h0)
  exact Nat.lt_of_le_of_lt (cntF_mono h2) g1
omit hK hJ hC hm in
theorem MeetI.hit {t : Nat} {key : RL.V} {same k : Nat} {p : Nat → Nat} (h : MeetI K J C t key same k p) (hs : same < J.length) (h1 : cntF (K (J.getD (k % J.length) 0)) key < (K (J.getD (k % J.length) 0)).length) (h2 : (K (J.getD (k % J.length) 0))[cntF (K (J.getD (k % J.length) 0)) key] = key) :
    MeetI K J C t key (same + 1) (k + 1) (updN p (J.getD (k % J.length) 0) (cntF (K (J.getD (k % J.length) 0)) key)) := by
  have hmem : key ∈ K (J.getD (k % J.length) 0) := by have := List.getElem_mem h1; rw [h2] at this; exact this
  refine ⟨h.t_le, fun i hi => ?_, h.com, h.past, by omega, by omega, by have := h.s3; omega, fun r h3 h4 => ?_⟩
  · unfold updN
    split
    · rename_i e; rw [e]; exact Nat.le_refl _
    · exact h.low i hi
  · unfold updN
    by_cases hr : J.getD (r % J.length) 0 = J.getD (k % J.length) 0
    · rw [if_pos hr, hr]; exact ⟨hmem, rfl⟩
    · rw [if_neg hr]
      have : r ≠ k := fun e => hr (by rw [e])
      exact h.on r (by have := h.s3; omega) (by omega)
omit hC in
theorem MeetI.miss {t : Nat} {key : RL.V} {same k : Nat} {p : Nat → Nat} (h : MeetI K J C t key same k p) (h1 : cntF (K (J.getD (k % J.length) 0)) key < (K (J.getD (k % J.length) 0)).length) (h2 : (K (J.getD (k % J.length) 0))[cntF (K (J.getD (k % J.length) 0)) key] ≠ key) :
    RL.cmpV key (K (J.getD (k % J.length) 0))[cntF (K (J.getD (k % J.length) 0)) key] < 0 ∧ MeetI K J C t (K (J.getD (k % J.length) 0))[cntF (K (J.getD (k % J.length) 0)) key] 1 (k + 1) (updN p (J.getD (k % J.length) 0) (cntF (K (J.getD (k % J.length) 0)) key)) := by
  have h0 := jk_mem hJ k
  have hge := cntF_ge (hK _ h0) (v := key) h1 (Nat.le_refl _)
  have hlt : RL.cmpV key (K (J.getD (k % J.length) 0))[cntF (K (J.getD (k % J.length) 0)) key] < 0 := by
    rw [RL.tot_cmpV.sw] 
    have h3 : RL.cmpV (K (J.getD (k % J.length) 0))[cntF (K (J.getD (k % J.length) 0)) key] key ≠ 0 := fun e => h2 ((RL.tot_cmpV.z _ _).1 e)
    omega
  have hp : 0 < J.length := List.length_pos_iff.2 hJ
  refine ⟨hlt, h.t_le, fun i hi => ?_, fun u hu => ?_, fun u hu => RL.tot_cmpV.tr _ _ _ (h.past u hu) hlt, by omega, by omega, by omega, fun r h3 h4 => ?_⟩
  · unfold updN
    split
    · rename_i e; subst e
      rw [cntF_at (hK _ h0) h1]
      exact Nat.le_refl _
    · exact Nat.le_trans (h.low i hi) (cntF_mono (Int.le_of_lt hlt))
  · obtain ⟨g1, g2⟩ := cntF_mem (hK _ h0) ((hm u).1 (List.mem_of_mem_drop hu) _ h0)
    have h4 := cntF_mono (K := K (J.getD (k % J.length) 0)) (h.com u hu)
    have h5 := cntF_ge (hK _ h0) (v := (K (J.getD (k % J.length) 0))[cntF (K (J.getD (k % J.length) 0)) key]) g1 (by rw [cntF_at (hK _ h0) h1]; exact h4)
    rw [g2, RL.tot_cmpV.sw] at h5
    omega
  · have : r = k := by omega
    subst this
    unfold updN
    rw [if_pos rfl, cntF_at (hK _ h0) h1]
    exact ⟨List.getElem_mem h1, rfl⟩
omit hK in
theorem MeetI.done {t : Nat} {key : RL.V} {same k : Nat} {p : Nat → Nat} (h : MeetI K J C t key same k p) (hs : ¬ same < J.length) : Fnd K J C p t := by
  have hp : 0 < J.length := List.length_pos_iff.2 hJ
  have hall : ∀ i ∈ J, key ∈ K i ∧ p i = cntF (K i) key := fun i hi => by
    obtain ⟨j, hj, rfl⟩ := List.getElem_of_mem hi
    have hs2 := h.s2
    have hs3 := h.s3
    have hsame : same = J.length := by omega
    -- a number r in the last turn with r % length = j
    have : ∃ r, k - same ≤ r ∧ r < k ∧ r % J.length = j := by
      rw [hsame] at hs3 ⊢
      have hd := Nat.mod_add_div (k - J.length) J.length
      by_cases hc : (k - J.length) % J.length ≤ j
      · refine ⟨k - J.length + (j - (k - J.length) % J.length), by omega, by omega, ?_⟩
        have e : k - J.length + (j - (k - J.length) % J.length) = j + J.length * ((k - J.length) / J.length) := by omega
        rw [e, Nat.add_mul_mod_self_left]
        exact Nat.mod_eq_of_lt hj
      · have hml := Nat.mod_lt (k - J.length) hp
        refine ⟨k - J.length + (j + J.length - (k - J.length) % J.length), by omega, by omega, ?_⟩
        have e : k - J.length + (j + J.length - (k - J.length) % J.length) = j + J.length * ((k - J.length) / J.length + 1) := by rw [Nat.mul_add]; omega
        rw [e, Nat.add_mul_mod_self_left]
        exact Nat.mod_eq_of_lt hj
    obtain ⟨r, hr1, hr2, hr3⟩ := this
    have := h.on r hr1 hr2
    rw [hr3, List.getD_eq_getElem?_getD, List.getElem?_eq_getElem hj] at this
    exact this
  have hkC : key ∈ C := (hm key).2 fun i hi => (hall i hi).1
  obtain ⟨j, hj, e⟩ := List.getElem_of_mem hkC
  have htj : t ≤ j := Nat.le_of_not_lt fun hlt => by
    have hmem : key ∈ C.take t := by
      rw [← e]
      exact List.mem_take_iff_getElem.2 ⟨j, by omega, rfl⟩
    have := h.past key hmem
    rw [RL.tot_cmpV.self] at this
    omega
  have ht : t < C.length := by omega
  have h1 := h.com C[t] (mem_drop_at ht)
  have e2 : C[t] = key := by
    rcases Nat.lt_or_ge t j with hlt | hge
    · have := List.pairwise_iff_getElem.1 hC t j ht hj hlt
      rw [e, RL.tot_cmpV.sw] at this
      omega
    · have : t = j := by omega
      subst this
      exact e
  exact ⟨ht, fun i hi => by rw [e2]; exact (hall i hi).2⟩
end

/-- Where an iterator stands that has followed q. -/
def plcQ (d : Nat) (P : List RL.R) (q : RL.R) : Pl := if q = [] then none else some (q.dropLast, (RL.kids d P q.dropLast).idxOf (RL.lastV q))
theorem plcQ_up (d : Nat) (P : List RL.R) (q : RL.R) (i : Nat) : upX d P (some (q, i)) = plcQ d P q := rfl
theorem plcQ_snoc {d : Nat} {P : List RL.R} (hd : ∀ r ∈ P, r.length = d) {q : RL.R} {c : RL.V} (hc : c ∈ RL.kids d P q) : plcQ d P (q ++ [c]) = some (q, cntF (RL.kids d P q) c) := by
  unfold plcQ
  rw [if_neg (by simp), List.dropLast_concat, RL.lastV_snoc, idx_cntF (RL.kids_asc hd q) hc]
theorem plcQ_key {d : Nat} {P : List RL.R} (hd : ∀ r ∈ P, r.length = d) {q : RL.R} {c : RL.V} (hc : c ∈ RL.kids d P q) : keyV d P (some (q, cntF (RL.kids d P q) c)) = c := by
  obtain ⟨h1, h2⟩ := cntF_mem (RL.kids_asc hd q) hc
  show (RL.kids d P q).getD (cntF (RL.kids d P q) c) _ = c
  rw [List.getD_eq_getElem?_getD, List.getElem?_eq_getElem h1]
  exact h2
/-- A beginning that the rows allow: its last value is a child of the rest. -/
theorem pre_snoc {d : Nat} {P : List RL.R} (hd : ∀ r ∈ P, r.length = d) {q : RL.R} (hp : IsPre P q) (hq : q.length ≤ d) (hne : q ≠ []) : RL.lastV q ∈ RL.kids d P q.dropLast ∧ q = q.dropLast ++ [RL.lastV q] := by
  have e : q = q.dropLast ++ [RL.lastV q] := by
    rcases List.eq_nil_or_concat q with h | ⟨q', v, h⟩
    · exact absurd h hne
    · rw [List.concat_eq_append] at h
      rw [h, List.dropLast_concat, RL.lastV_snoc]
  refine ⟨?_, e⟩
  obtain ⟨y, hy, h⟩ := hp
  have hl : q.dropLast.length + 1 = q.length := by
    have := congrArg List.length e
    rw [List.length_append, List.length_singleton] at this
    exact this.symm
  refine (RL.mem_kids hd (by omega) _).2 ⟨y, hy, ?_⟩
  rw [hl, h]
  exact e
theorem plcQ_open {d : Nat} {P : List RL.R} (hd : ∀ r ∈ P, r.length = d) {q : RL.R} (hp : IsPre P q) (hq : q.length < d) : openB d P (plcQ d P q) = true ∧ openX d P (plcQ d P q) = some (q, 0) := by
  have hP : P ≠ [] := by obtain ⟨y, hy, -⟩ := hp; exact List.ne_nil_of_mem hy
  by_cases hne : q = []
  · subst hne
    have h1 : openB d P none = true := by show (decide (0 < d) && decide (P ≠ [])) = true; simp at hq; simp [hq, hP]
    refine ⟨h1, ?_⟩
    show (if openB d P none then _ else _) = _
    rw [if_pos h1]
  · obtain ⟨h1, h2⟩ := pre_snoc hd hp (by omega) hne
    have e : plcQ d P q = some (q.dropLast, cntF (RL.kids d P q.dropLast) (RL.lastV q)) := by rw [h2, plcQ_snoc hd h1, ← h2]
    obtain ⟨g1, g2⟩ := cntF_mem (RL.kids_asc hd q.dropLast) h1
    have hl : q.dropLast.length + 1 = q.length := by
      have := congrArg List.length h2
      rw [List.length_append, List.length_singleton] at this
      exact this.symm
    have hb : openB d P (some (q.dropLast, cntF (RL.kids d P q.dropLast) (RL.lastV q))) = true := by
      show (decide _ && decide _) = true
      simp only [Bool.and_eq_true, decide_eq_true_eq]
      exact ⟨g1, by omega⟩
    rw [e]
    refine ⟨hb, ?_⟩
    show (if openB d P _ then some (q.dropLast ++ [keyV d P _], 0) else _) = _
    rw [if_pos hb, plcQ_key hd h1, ← h2]

end Go.Proofs.Ytiomelogggilgaa
end

section
/- Plain: passing rows until one is too many; how many steps a search takes; the join by enumeration. -/
namespace Go.Proofs.Ytiomelogggilgaa
open Go.RowKit Go.Sort

/-- The rows passed on from L, as long as go says so. -/
def feed (go : List RL.R → Bool) (L : List RL.R) : List RL.R → List RL.R × Bool
  | [] => (L, true)
  | x :: t => if go (L ++ [x]) then feed go (L ++ [x]) t else (L ++ [x], false)
theorem feed_nil (go : List RL.R → Bool) (L : List RL.R) : feed go L [] = (L, true) := rfl
theorem feed_one (go : List RL.R → Bool) (L : List RL.R) (x : RL.R) : feed go L [x] = (L ++ [x], go (L ++ [x])) := by
  show (if go (L ++ [x]) then feed go (L ++ [x]) [] else _) = _
  split
  · rename_i h; rw [feed_nil, h]
  · rename_i h; simp at h; rw [h]
theorem feed_append (go : List RL.R → Bool) : ∀ (X L Y : List RL.R), feed go L (X ++ Y) = if (feed go L X).2 then feed go (feed go L X).1 Y else feed go L X
  | [], L, Y => rfl
  | x :: t, L, Y => by
    show (if go (L ++ [x]) then feed go (L ++ [x]) (t ++ Y) else _) = _
    have e : feed go L (x :: t) = if go (L ++ [x]) then feed go (L ++ [x]) t else (L ++ [x], false) := rfl
    rw [e]
    by_cases h : go (L ++ [x]) = true
    · rw [if_pos h, if_pos h]; exact feed_append go t (L ++ [x]) Y
    · rw [if_neg h, if_neg h]; rfl
theorem feed_true (go : List RL.R → Bool) (h : ∀ L, go L = true) : ∀ (X L : List RL.R), feed go L X = (L ++ X, true)
  | [], L => by rw [feed_nil, List.append_nil]
  | x :: t, L => by
    show (if go (L ++ [x]) then feed go (L ++ [x]) t else _) = _
    rw [if_pos (h _), feed_true go h t, List.append_assoc]
    rfl
theorem feed_len (go : List RL.R → Bool) : ∀ (X L : List RL.R), L.length ≤ (feed go L X).1.length ∧ (feed go L X).1.length ≤ L.length + X.length
  | [], L => by rw [feed_nil]; simp
  | x :: t, L => by
    have e : feed go L (x :: t) = if go (L ++ [x]) then feed go (L ++ [x]) t else (L ++ [x], false) := rfl
    rw [e]
    split
    · have := feed_len go t (L ++ [x])
      simp at *
      omega
    · simp
/-- Passing on until the number of rows is m. -/
theorem feed_take (m : Nat) (hm : 0 < m) : ∀ (X L : List RL.R), L.length < m → feed (fun l => decide (l.length < m)) L X = (L ++ X.take (m - L.length), decide (L.length + X.length < m))
  | [], L, h => by rw [feed_nil]; simp [h]
  | x :: t, L, h => by
    show (if decide ((L ++ [x]).length < m) then feed _ (L ++ [x]) t else _) = _
    by_cases h1 : (L ++ [x]).length < m
    · rw [if_pos (by simpa using h1), feed_take m hm t (L ++ [x]) h1]
      simp at h1
      have e : m - L.length = m - (L ++ [x]).length + 1 := by simp; omega
      rw [e, List.take_succ_cons, List.append_assoc]
      simp
      omega
    · rw [if_neg (by simpa using h1)]
      simp at h1
      have e : m - L.length = 1 := by omega
      rw [e]
      simp
      omega

/-- A bound for the steps of a search over m more variables: W steps for a meeting, at most M values. -/
def costN (M W : Nat) : Nat → Nat
  | 0 => 1
  | m + 1 => (M + 1) * (W + costN M W m)
theorem costN_pos (M W m : Nat) : 0 < costN M W m := by
  induction m with
  | zero => exact Nat.one_pos
  | succ m ih => exact Nat.mul_pos (by omega) (by omega)

/-- The join by enumeration, as the reference says it. -/
def preB (l : List At) (x : RL.R) : Prop := ∀ a ∈ l, preA a x
section
open Classical
noncomputable def refJ (l : List At) (vals : Nat → RL.R) : Nat → RL.R → List RL.R
  | 0, x => if preB l x then [x] else []
  | m + 1, x => if preB l x then (vals x.length).flatMap fun c => refJ l vals m (x ++ [c]) else []
variable {n : Nat} {l : List At} {vals : Nat → RL.R} (hl : ∀ a ∈ l, a.Ok n) (hu : ∀ v, v < n → ∃ a ∈ l, v ∈ a.vs)
  (hv : ∀ v, v < n → (vals v).Pairwise fun a b => RL.cmpV a b < 0) (hm : ∀ x, preB l x → ∀ c, x.length < n → preB l (x ++ [c]) → c ∈ vals x.length)
include hl hu hv hm
theorem refJ_eq : ∀ (m : Nat) (x : RL.R), x.length + m = n → refJ l vals m x = if preB l x then joinN l m x else []
  | 0, x, hx => rfl
  | m + 1, x, hx => by
    show (if preB l x then _ else _) = _
    split
    · rename_i hp
      have e : ((vals x.length).flatMap fun c => refJ l vals m (x ++ [c])) = (vals x.length).flatMap fun c => if preB l (x ++ [c]) then joinN l m (x ++ [c]) else [] :=
        congrArg (fun f => List.flatMap f (vals x.length)) (funext fun c => refJ_eq m (x ++ [c]) (by simp; omega))
      rw [e]
      refine RL.SS.ext ?_ (joinN_ss hl hu (m + 1) x hx hp) fun r => ?_
      · refine List.pairwise_flatMap.2 ⟨fun c _ => ?_, (hv x.length (by omega)).imp_of_mem fun {c e} hc he hlt y hy z hz => ?_⟩
        · split
          · rename_i h; exact joinN_ss hl hu m (x ++ [c]) (by simp; omega) h
          · exact RL.ss_nil
        · split at hy
          · rename_i h1
            split at hz
            · rename_i h2
              obtain ⟨y1, y2, -⟩ := (mem_joinN hl hu m (x ++ [c]) (by simp; omega) h1 y).1 hy
              obtain ⟨z1, z2, -⟩ := (mem_joinN hl hu m (x ++ [e]) (by simp; omega) h2 z).1 hz
              rw [← List.take_append_drop (x ++ [c]).length y, ← List.take_append_drop (x ++ [e]).length z, y2, z2]
              refine RL.lt_ext _ _ _ _ (by simp) ?_
              rw [RL.cmpR_append_left, RL.cmpR_one]
              exact hlt
            · simp at hz
          · simp at hy
      · rw [joinN, List.mem_flatMap, List.mem_flatMap]
        constructor
        · rintro ⟨c, _, hr⟩
          split at hr
          · rename_i h; exact ⟨c, (cand_pre hl hu (by omega) hp c).2 h, hr⟩
          · simp at hr
        · rintro ⟨c, hc, hr⟩
          have h : preB l (x ++ [c]) := (cand_pre hl hu (by omega) hp c).1 hc
          exact ⟨c, hm x hp c (by omega) h, by rw [if_pos h]; exact hr⟩
    · rfl
theorem refJ_all : refJ l vals n [] = joinF n l := by
  rw [refJ_eq hl hu hv hm n [] (by simp)]
  unfold joinF
  split
  · rename_i h
    rw [if_neg]
    intro ha
    obtain ⟨a, h1, h2⟩ := List.any_eq_true.1 ha
    obtain ⟨y, hy, -⟩ := h a h1
    have : a.P = [] := by simpa using h2
    rw [this] at hy
    simp at hy
  · rename_i h
    rw [if_pos]
    refine List.any_eq_true.2 (Classical.not_forall_not.1 fun hne => h fun a ha => preA_nil fun e => hne a ⟨ha, by simpa using e⟩)
end

end Go.Proofs.Ytiomelogggilgaa
end

section
/- Words for worlds in which some blocks turn; functions to which rows are passed; the search's state in memory. -/
namespace Go.Proofs.Ytiomelogggilgaa
open Go.RowKit Go.Sort

/-- The world grows, and of the old blocks only those of F turn. -/
structure Chg (F : Nat → Prop) (w w' : World) : Prop where
  os : w'.os = w.os
  tape : w'.tape = w.tape
  output : w'.output = w.output
  size : w.heap.size ≤ w'.heap.size
  block : ∀ k, k < w.heap.size → ¬ F k → w'.heap[k]? = w.heap[k]?

section
variable {F G : Nat → Prop} {w w' a b c : World}
theorem Chg.refl (F : Nat → Prop) (w : World) : Chg F w w := ⟨rfl, rfl, rfl, Nat.le_refl _, fun _ _ _ => rfl⟩
theorem Chg.mono (h : Chg F w w') (hFG : ∀ k, k < w.heap.size → F k → G k) : Chg G w w' := ⟨h.os, h.tape, h.output, h.size, fun k hk hn => h.block k hk fun hf => hn (hFG k hk hf)⟩
theorem Chg.trans (h : Chg F a b) (k : Chg F b c) : Chg F a c :=
  ⟨k.os.trans h.os, k.tape.trans h.tape, k.output.trans h.output, Nat.le_trans h.size k.size, fun x hx hn => (k.block x (Nat.lt_of_lt_of_le hx h.size) hn).trans (h.block x hx hn)⟩
/-- The second step may also turn what is new since the first world. -/
theorem Chg.then (h : Chg F a b) (k : Chg G b c) (hG : ∀ x, x < a.heap.size → G x → F x) : Chg F a c :=
  ⟨k.os.trans h.os, k.tape.trans h.tape, k.output.trans h.output, Nat.le_trans h.size k.size, fun x hx hn => (k.block x (Nat.lt_of_lt_of_le hx h.size) (fun hg => hn (hG x hx hg))).trans (h.block x hx hn)⟩
theorem Chg.of_below {B : Nat} (h : Below B w w') (hF : ∀ k, B ≤ k → k < w.heap.size → F k) : Chg F w w' := ⟨h.os, h.tape, h.output, h.size, fun k hk hn => h.block k (Nat.lt_of_not_le fun hle => hn (hF k hle hk))⟩
theorem Chg.of_grown {row : Option Nat} (h : w.grownBy w' row) (hF : ∀ k, row = some k → F k) : Chg F w w' := ⟨h.os, h.tape, h.output, h.size, fun k hk hn => h.block k hk fun e => hn (hF k e.symm)⟩
theorem Chg.of_ext (h : Ext w w') : Chg F w w' := Chg.of_below h.below fun k h1 h2 => absurd h1 (by omega)
theorem Chg.set (w : World) (b o : Nat) (u : Value) (hF : F b) : Chg F w (w.setCell ⟨b, o, none⟩ u) := ⟨rfl, rfl, rfl, by simp, fun x _ hn => Below.heap_setCell w ⟨b, o, none⟩ u x (fun e => hn (by rw [e]; exact hF))⟩
theorem Chg.below {B : Nat} (h : Chg F w w') (hB : B ≤ w.heap.size) (hF : ∀ k, F k → B ≤ k) : Below B w w' := ⟨h.os, h.tape, h.output, h.size, fun x hx => h.block x (Nat.lt_of_lt_of_le hx hB) fun hf => absurd (hF x hf) (by omega)⟩
theorem Chg.cell (h : Chg F w w') {p : Addr} (hp : p.block < w.heap.size) (hn : ¬ F p.block) : w'.cell? p = w.cell? p := World.cell?_of_block (h.block p.block hp hn)
theorem Chg.frozen (h : Chg F w w') {p : Addr} (hp : p.block < w.heap.size) (hn : ¬ F p.block) : w'.frozen? p = w.frozen? p := World.frozen?_of_block (h.block p.block hp hn)
theorem Row.chg {g : Nat} {e : TypeId} {xs : List Value} (hr : Row w g e xs) (h : Chg F w w') (hn : ¬ F g) : Row w' g e xs := (h.block g hr.lt hn).trans hr
theorem IterP.chg {g : Nat} {LA : Option Addr} {d C : Nat} {P : List RL.R} {x : Pl} {s : Nat} (hi : IterP w g LA d C P x s) (h : Chg F w w') (hn : ¬ F g) : IterP w' g LA d C P x s := by
  obtain ⟨t, ⟨xs, h1, h2⟩, h3, h4⟩ := hi
  exact ⟨t, ⟨xs, h1.chg h hn, h2⟩, h3, h4⟩
theorem Sl.chg {B : Nat} {A : Option Addr} {xs : List Value} (hs : Sl B w A xs) (h : Chg F w w') (hB : B ≤ w.heap.size) (hn : ∀ ad, A = some ad → ¬ F ad.block) : Sl B w' A xs := fun hne => by
  obtain ⟨b, o, e, hb, hc⟩ := hs hne
  exact ⟨b, o, e, hb, fun i u hu => (h.cell (p := ⟨b, o + i, none⟩) (by show b < _; omega) (hn ⟨b, o, none⟩ e)).trans (hc i u hu)⟩
end

/-- A function to which rows are passed: what it has been given (Inv), the blocks that are its own, and when it asks to go on. -/
structure Yield (yf : Nat) (cap : Array Value) (go : List RL.R → Bool) (Inv : List RL.R → (Nat → Prop) → World → Prop) (M D : Nat) : Prop where
  enter : ∀ args w, (callFunc yf args).run Try.prog w = .ok (.enter yf args) w
  keep : ∀ L O w w', Inv L O w → (∀ b, O b → b < w.heap.size) → (∀ b, O b → w'.heap[b]? = w.heap[b]?) → w.heap.size ≤ w'.heap.size → Inv L O w'
  step : ∀ L O w A C (x : RL.R), Inv L O w → (∀ b, O b → b < w.heap.size) → SlR w.heap.size w A x → (∀ ad, A = some ad → ¬ O ad.block) → x.length ≤ C → C ≤ 9223372036854775807 → x.length ≤ D → L.length < M →
    Calls Try.prog yf (#[.slice A x.length C] ++ cap) w fun e w' => e = .returned (.bool (go (L ++ [x]))) ∧ ∃ O' : Nat → Prop, Inv (L ++ [x]) O' w' ∧ (∀ b, O' b → b < w'.heap.size ∧ (O b ∨ w.heap.size ≤ b)) ∧ Chg O w w'

end Go.Proofs.Ytiomelogggilgaa
end

section
/- Walk: leapfrog's meet. -/
namespace Go.Proofs.Ytiomelogggilgaa
open Go.RowKit Go.Sort

instance : Inhabited At := ⟨⟨[], []⟩⟩

/-- The iterators of a search: the atoms, where each iterator and each trie lies. -/
structure Its where
  l : List At
  g : Nat → Nat
  LA : Nat → Option Addr
  C : Nat → Nat
  B : Nat → Nat
def Its.a (I : Its) (i : Nat) : At := I.l.getD i default
def Its.Tr (I : Its) (w : World) : Prop := ∀ i, i < I.l.length → TrM (I.B i) w (I.LA i) (I.a i).d (vsF (I.a i).d (I.a i).P) (fsF (I.a i).d (I.a i).P) ∧ I.B i ≤ w.heap.size
structure Its.Ok (I : Its) : Prop where
  d : ∀ i, i < I.l.length → (I.a i).d ≤ 32
  P : ∀ i, i < I.l.length → (I.a i).P.length ≤ 100000
  r : ∀ i, i < I.l.length → ∀ r ∈ (I.a i).P, r.length = (I.a i).d
  B : ∀ i, i < I.l.length → I.B i ≤ I.g i
  inj : ∀ i j, i < I.l.length → j < I.l.length → I.g i = I.g j → i = j
def Its.It (I : Its) (w : World) (i : Nat) (x : Pl) (s : Nat) : Prop := IterP w (I.g i) (I.LA i) (I.a i).d (I.C i) (I.a i).P x s
def Its.K (I : Its) (q : Nat → RL.R) (i : Nat) : RL.R := RL.kids (I.a i).d (I.a i).P (q i)
/-- The blocks that a meeting turns. -/
def MeetF (I : Its) (jb : Nat) (J : List Nat) (b : Nat) : Prop := b = jb ∨ ∃ i ∈ J, b = I.g i
def meetN (n M : Nat) : Nat := n * M * (n + 1) + n

/-- The value in a block. -/
def boxV (b : Nat) (w : World) : RL.V :=
  match w.cell? ⟨b, 0, none⟩, w.cell? ⟨b, 1, none⟩, w.cell? ⟨b, 2, none⟩ with
  | some (.int _ k), some (.int _ i), some (.string s) => ⟨k, i, s⟩
  | _, _, _ => default
theorem boxV_row {w : World} {b : Nat} {e : TypeId} {v : RL.V} (h : Row w b e (vcells v)) : boxV b w = v := by
  unfold boxV
  rw [h.cell 0, h.cell 1, h.cell 2]
  rfl

/-- What holds at the head of the meeting's loop. -/
structure MeetR (I : Its) (jb : Nat) (ja jc jy : Value) (J : List Nat) (q : Nat → RL.R) (C : RL.R) (t st : Nat) (ss : Nat → Nat) (w : World) (kb G0 : Nat) (wr : World) (same k : Nat) (key : RL.V) (p : Nat → Nat) (st1 : Nat) (ss1 : Nat → Nat) : Prop where
  m : MeetI (I.K q) J C t key same k p
  kb : Row wr kb 41 (vcells key)
  j : Row wr jb 105 [ja, jc, .int .i64 st1, jy]
  it : ∀ i ∈ J, I.It wr i (some (q i, p i)) (ss1 i)
  ch : Chg (MeetF I jb J) w wr
  s0 : st ≤ st1
  bud : (st1 - st) + gtN (I.K q) J key * (J.length + 1) + (J.length - same) ≤ G0
  k1 : k = 1 + (st1 - st)
  sp : ∀ i ∈ J, ss1 i ≤ ss i + (st1 - st) * 200002

/-- What a meeting leaves. -/
def MeetPost (I : Its) (jb : Nat) (ja jc jy : Value) (J : List Nat) (q : Nat → RL.R) (C : RL.R) (t st : Nat) (ss : Nat → Nat) (w : World) (N : Nat) (e : Ending) (w' : World) : Prop :=
  e = .returned (.bool (decide (t < C.length))) ∧
    ∃ (p' : Nat → Nat) (st' : Nat) (ss' : Nat → Nat), Row w' jb 105 [ja, jc, .int .i64 st', jy] ∧ (∀ i ∈ J, I.It w' i (some (q i, p' i)) (ss' i)) ∧ (t < C.length → Fnd (I.K q) J C p' t) ∧ st ≤ st' ∧ st' ≤ st + N ∧ (∀ i ∈ J, ss' i ≤ ss i + N * 200002) ∧ Chg (MeetF I jb J) w w'
theorem seek_low {d : Nat} {P : List RL.R} {q : RL.R} {v : RL.V} {p : Nat} (h : p ≤ cntF (RL.kids d P q) v) : seekX d P v (some (q, p)) = some (q, cntF (RL.kids d P q) v) := by
  have h2 := cntF_le (RL.kids d P q) v
  show (if p < (RL.kids d P q).length then some (q, max p ((RL.kids d P q).countP fun u => decide (RL.cmpV u v < 0))) else some (q, p)) = _
  split
  · unfold cntF at *; rw [Nat.max_eq_right h]
  · rw [show p = cntF (RL.kids d P q) v by omega]
theorem keyV_at {d : Nat} {P : List RL.R} {q : RL.R} {p : Nat} (h : p < (RL.kids d P q).length) : keyV d P (some (q, p)) = (RL.kids d P q)[p] := by
  show (RL.kids d P q).getD p _ = _
  rw [List.getD_eq_getElem?_getD, List.getElem?_eq_getElem h]
  rfl
theorem tmod_nat (k m : Nat) : Int.tmod (k : Int) (m : Int) = ((k % m : Nat) : Int) := rfl

set_option maxHeartbeats 4000000 in
set_option maxRecDepth 100000 in
theorem lfMeet_any (I : Its) (hI : I.Ok) (jb : Nat) (ja jc jy : Value) (J : List Nat) (hJ : J ≠ []) (hJl : ∀ i ∈ J, i < I.l.length) (JA : Option Addr) (JC : Nat) (q : Nat → RL.R) (p : Nat → Nat) (C : RL.R) (t st : Nat) (ss : Nat → Nat) (w : World) (M : Nat)
    (hSl : Sl w.heap.size w JA (J.map fun i => Value.pointer (some ⟨I.g i, 0, none⟩))) (hSn : ∀ ad, JA = some ad → ¬ MeetF I jb J ad.block) (hj : Row w jb 105 [ja, jc, .int .i64 st, jy]) (hjn : ∀ i ∈ J, I.g i ≠ jb)
    (hTr : ∀ w', Chg (MeetF I jb J) w w' → I.Tr w') (hit : ∀ i ∈ J, I.It w i (some (q i, p i)) (ss i)) (hM : MSt (I.K q) J C p t) (hC : C.Pairwise fun a b => RL.cmpV a b < 0) (hm : ∀ u, u ∈ C ↔ ∀ i ∈ J, u ∈ I.K q i)
    (hMx : ∀ i ∈ J, (I.K q i).length ≤ M) (hJ40 : J.length ≤ 1000) (hst : st + meetN J.length M ≤ 4000000000000000000) (hss : ∀ i ∈ J, ss i + meetN J.length M * 200002 ≤ 100000000000000000) :
    Calls Try.prog 76 #[.pointer (some ⟨jb, 0, none⟩), .slice JA J.length JC] w (MeetPost I jb ja jc jy J q C t st ss w (meetN J.length M)) := by
  have hlp : 0 < J.length := List.length_pos_iff.2 hJ
  have HK : Hid (∀ i ∈ J, (I.K q i).Pairwise fun a b => RL.cmpV a b < 0) := fun i hi => RL.kids_asc (hI.r i (hJl i hi)) _
  have HPT : Hid (∀ (k : Nat) (W : World), Chg (MeetF I jb J) w W → ∃ b o, JA = some ⟨b, o, none⟩ ∧ b < W.heap.size ∧ W.cell? ⟨b, o + k % J.length, none⟩ = some (.pointer (some ⟨I.g (J.getD (k % J.length) 0), 0, none⟩))) := fun k W hW => by
    have hk := Nat.mod_lt k hlp
    obtain ⟨b, o, e, hb, hc⟩ := Sl.at_ (hSl.chg hW (Nat.le_refl _) hSn) (k := k % J.length) (by simpa using hk)
    refine ⟨b, o, e, Nat.lt_of_lt_of_le hb hW.size, hc.trans ?_⟩
    rw [List.getElem_map, List.getD_eq_getElem?_getD, List.getElem?_eq_getElem hk]
    rfl
  have HKEY : Hid (∀ (i : Nat) (x : Pl) (s : Nat) (W : World), i ∈ J → Chg (MeetF I jb J) w W → I.It W i x s → Calls Try.prog 78 #[.pointer (some ⟨I.g i, 0, none⟩)] W fun e w' => e = .returned (.tuple #[vv (keyV (I.a i).d (I.a i).P x), .bool (onX (I.a i).d (I.a i).P x)]) ∧ Below W.heap.size W w') := fun i x s W hi hW h => by
    have hl := hJl i hi
    obtain ⟨t1, t2⟩ := hTr W hW i hl
    exact itKey (I.B i) (I.g i) (I.LA i) (I.a i).d (I.C i) (I.a i).P x s W t1 t2 h (hI.d i hl) (hI.P i hl) (hI.r i hl)
  have HSK : Hid (∀ (i : Nat) (x : Pl) (s : Nat) (v : RL.V) (W : World), i ∈ J → Chg (MeetF I jb J) w W → I.It W i x s → s ≤ 100000000000000000 → Calls Try.prog 89 #[.pointer (some ⟨I.g i, 0, none⟩), vv v] W fun e w' => ∃ s', e = .returned (.bool (onX (I.a i).d (I.a i).P (seekX (I.a i).d (I.a i).P v x))) ∧ I.It w' i (seekX (I.a i).d (I.a i).P v x) s' ∧ s' ≤ s + 200002 ∧ W.grownBy w' (some (I.g i))) := fun i x s v W hi hW h hs => by
    have hl := hJl i hi
    obtain ⟨t1, t2⟩ := hTr W hW i hl
    exact itSeek (I.B i) (I.g i) (I.LA i) (I.a i).d (I.C i) (I.a i).P x s v W t1 t2 (hI.B i hl) h (hI.d i hl) (hI.P i hl) (hI.r i hl) hs
  have HVC : Hid (∀ (a b : RL.V) (W : World), Calls Try.prog 84 #[vv a, vv b] W fun e w' => e = .returned (.int .i64 (RL.cmpV a b)) ∧ Ext W w') := fun a b W => vCompare_any a b W
  have HJ0 := Lib.hid (j0_mem hJ)
  have HJK := Lib.hid (fun k => jk_mem hJ k)
  have HINJ : Hid (∀ i ∈ J, ∀ j ∈ J, I.g i = I.g j → i = j) := fun i hi j hj => hI.inj i j (hJl i hi) (hJl j hj)
  have HIT := Lib.hid hit
  have HM := Lib.hid hM
  have HC := Lib.hid hC
  have HMM := Lib.hid hm
  have HNE := Lib.hid hJ
  have HJN := Lib.hid hjn
  have HJR := Lib.hid hj
  have HSS := Lib.hid hss
  have HG0 : Hid (∀ key, gtN (I.K q) J key * (J.length + 1) + J.length ≤ meetN J.length M) := fun key => by
    have := gtN_le (I.K q) J key M hMx
    unfold meetN
    have h2 := Nat.mul_le_mul_right (J.length + 1) this
    omega
  obtain ⟨i0, hi0⟩ : ∃ i0, i0 = J.getD 0 0 := ⟨_, rfl⟩
  have hc0 := HPT.out 0 w (Chg.refl _ _)
  rw [Nat.zero_mod, ← hi0] at hc0
  obtain ⟨jbk, jo, rfl, hjb, hc0⟩ := hc0
  rw [Nat.add_zero] at hc0
  have HK0 := Lib.hid (HKEY.out i0 _ _ w (by rw [hi0]; exact HJ0.out) (Chg.refl _ _) (HIT.out i0 (by rw [hi0]; exact HJ0.out)))
  clear hI hSl hSn hj hjn hTr hit hM hC hm hMx hss hJl hJ
  generalize meetN J.length M = N at *
  have HI0 : Hid (i0 = J.getD 0 0) := hi0
  clear hi0
  have gl : (0 : Int) < (J.length : Int) := by omega
  go_enter Try.func76, Try.ntmps76
  go_wp2_with fail
  refine HK0.out.mono ?_
  rintro e w1 ⟨rfl, hb1⟩
  have HCH1 : Hid (Chg (MeetF I jb J) w w1) := Chg.of_below hb1 fun k h1 h2 => absurd h1 (by omega)
  have HB1 := Lib.hid hb1
  have hon : onX (I.a i0).d (I.a i0).P (some (q i0, p i0)) = decide (p i0 < (I.K q i0).length) := rfl
  rw [hon]
  clear hon hb1
  by_cases h0 : p i0 < (I.K q i0).length
  rotate_left
  · have HT0 := Lib.hid (HM.out.none HK.out HNE.out HMM.out (by rw [← HI0.out]; exact h0))
    have hd : decide (p i0 < (I.K q i0).length) = false := by simpa using h0
    rw [hd]
    clear hd h0
    go_wp2
    go_ret
    have hca : Chg (MeetF I jb J) w (w1.alloc (.cells (vcells (keyV (I.a i0).d (I.a i0).P (some (q i0, p i0)))).toArray 41)) := HCH1.out.then (Chg.of_ext (F := MeetF I jb J) ((Ext.refl w1).alloc _)) (fun _ _ h => h)
    refine ⟨?_, p, st, ss, HJR.out.chg (F := fun _ => False) (Chg.of_below (Below.then HB1.out ((Ext.refl w1).alloc _).below HB1.out.size) fun k h1 h2 => absurd h1 (by omega)) (fun h => h), fun i hi => (HIT.out i hi).up (Below.then HB1.out ((Ext.refl w1).alloc _).below HB1.out.size), fun h => absurd h (by rw [HT0.out]; omega), Nat.le_refl _, by omega, fun i hi => by omega, hca⟩
    rw [HT0.out]
    simp
  have hd : decide (p i0 < (I.K q i0).length) = true := by simpa using h0
  rw [hd]
  have HST : Hid (MeetI (I.K q) J C t (keyV (I.a i0).d (I.a i0).P (some (q i0, p i0))) 1 1 p) := by
    have h := HM.out.start HK.out HNE.out HMM.out (by rw [← HI0.out]; exact h0)
    have e : keyV (I.a i0).d (I.a i0).P (some (q i0, p i0)) = (I.K q i0)[p i0] := keyV_at h0
    have h0' := HI0.out
    subst h0'
    show MeetI _ _ _ _ _ _ _ _
    rw [e]
    exact h
  generalize keyV (I.a i0).d (I.a i0).P (some (q i0, p i0)) = key0 at HST ⊢
  clear hd h0 hc0 HK0
  obtain ⟨W2, hW2⟩ : ∃ W2, W2 = w1.alloc (.cells #[.int .i64 key0.kind, .int .i64 key0.int, .string key0.str] 41) := ⟨_, rfl⟩
  have hx2 : Ext w1 W2 := by rw [hW2]; exact (Ext.refl w1).alloc _
  have hr2 : Row W2 w1.heap.size 41 (vcells key0) := by rw [hW2]; exact Row.new w1 41 (vcells key0)
  have HB2 := Lib.hid (Below.then HB1.out hx2.below HB1.out.size)
  have HKB := Lib.hid hr2
  have hkb0 := HB1.out.size
  clear hx2 hr2
  go_wp2
  rw [← hW2]
  clear hW2
  have hkw : w1.heap.size < W2.heap.size := HKB.out.lt
  generalize w1.heap.size = kb at *
  go_loopw [7, 8] (fun sm kk wr => ∃ (same k : Nat) (key : RL.V) (p1 : Nat → Nat) (st1 : Nat) (ss1 : Nat → Nat), sm = .int .i64 same ∧ kk = .int .i64 k ∧ MeetR I jb ja jc jy J q C t st ss w kb N wr same k key p1 st1 ss1) (fun sm _ wr => gtN (I.K q) J (boxV kb wr) * (J.length + 1) + (J.length - (intOf sm).toNat))
  case atStart =>
    refine ⟨1, 1, key0, p, st, ss, rfl, rfl, HST.out, HKB.out, HJR.out.up HB2.out, fun i hi => (HIT.out i hi).up HB2.out, Chg.of_below HB2.out fun k h1 h2 => absurd h1 (by omega), Nat.le_refl _, ?_, by omega, fun i _ => by omega⟩
    have := HG0.out key0
    omega
  case round =>
    obtain ⟨same, k, key, p1, st1, ss1, rfl, rfl, hR⟩ := hrel
    have HR := Lib.hid hR
    have hs0 := hR.s0
    have HK1 := Lib.hid hR.k1
    have HBUD := Lib.hid hR.bud
    have hk2 : k ≤ N + 1 := by have := hR.k1; have := hR.bud; omega
    have hst1 : st1 ≤ st + N := by have := hR.bud; have := hR.s0; omega
    have hs1 := hR.m.s1
    have hs2 := hR.m.s2
    have hzw := hR.ch.size
    have hkr := hR.kb.lt
    have hjr := hR.j.lt
    have hjw : jb < w.heap.size := HJR.out.lt
    have c0 : wr.cell? ⟨kb, 0, none⟩ = some (.int .i64 key.kind) := hR.kb.cell 0
    have c1 : wr.cell? ⟨kb, 1, none⟩ = some (.int .i64 key.int) := hR.kb.cell 1
    have c2 : wr.cell? ⟨kb, 2, none⟩ = some (.string key.str) := hR.kb.cell 2
    clear hR HST HKB HB2 HB1 HCH1
    by_cases hs : same < J.length
    rotate_left
    · have HF := Lib.hid (HR.out.m.done HC.out HNE.out HMM.out hs)
      go_wp2
      go_ret
      obtain ⟨ht, _⟩ := id HF.out
      refine ⟨by rw [decide_eq_true ht]; rfl, p1, st1, ss1, HR.out.j, HR.out.it, fun _ => HF.out, hs0, hst1, fun i hi => ?_, HR.out.ch⟩
      have h3 : (st1 - st) * 200002 ≤ N * 200002 := Nat.mul_le_mul_right _ (by omega)
      exact Nat.le_trans (HR.out.sp i hi) (Nat.add_le_add_left h3 _)
    obtain ⟨jb2, jo2, e2, hb2, hc2⟩ := HPT.out k wr HR.out.ch
    injection e2 with e2
    injection e2 with e3 e4
    subst e3 e4
    have hmem := HJK.out k
    have HMEM := Lib.hid hmem
    have hkm : k % J.length < J.length := Nat.mod_lt _ hlp
    obtain ⟨i, hi⟩ : ∃ i, i = J.getD (k % J.length) 0 := ⟨_, rfl⟩
    have HI : Hid (i = J.getD (k % J.length) 0) := hi
    rw [← hi] at hc2
    have himem : i ∈ J := by rw [hi]; exact hmem
    have HIM := Lib.hid himem
    have hlow := HR.out.m.low i himem
    have hsp := HR.out.sp i himem
    have hssi := HSS.out i himem
    have hle : (st1 - st) * 200002 ≤ N * 200002 := Nat.mul_le_mul_right _ (by omega)
    have HSEEK := Lib.hid (HSK.out i _ _ key wr himem HR.out.ch (HR.out.it i himem) (by omega))
    rw [seek_low hlow] at HSEEK
    have hgj := HJN.out i himem
    have hkg : kb ≠ I.g i := fun e => by have := (HIT.out i himem).lt; omega
    have hgz := (HR.out.it i himem).lt
    clear hi hmem himem hsp hssi hlow
    have hr1 : Int.tmod (k : Int) (J.length : Int) = ((k % J.length : Nat) : Int) := rfl
    generalize k % J.length = km at hkm hc2 hr1
    go_wp2_with fail
    refine HSEEK.out.mono ?_
    rintro e w2 ⟨s2, rfl, hit2, hs2, hg2⟩
    have hon : onX (I.a i).d (I.a i).P (some (q i, cntF (RL.kids (I.a i).d (I.a i).P (q i)) key)) = decide (cntF (I.K q i) key < (I.K q i).length) := rfl
    rw [hon]
    have HCH2 : Hid (Chg (MeetF I jb J) w w2) := HR.out.ch.trans (Chg.of_grown hg2 fun k hk => by injection hk with hk; subst hk; exact .inr ⟨i, HIM.out, rfl⟩)
    have HIT2 : Hid (∀ j ∈ J, I.It w2 j (some (q j, updN p1 i (cntF (I.K q i) key) j)) (updN ss1 i s2 j)) := fun j hj => by
      unfold updN
      by_cases hji : j = i
      · subst hji; rw [if_pos rfl, if_pos rfl]; exact hit2
      · rw [if_neg hji, if_neg hji]
        exact (HR.out.it j hj).grown hg2 (fun e => by injection e with e; exact hji (HINJ.out j hj i HIM.out e))
    have HJ2 := Lib.hid (HR.out.j.grown hg2 (fun e => by injection e with e; exact hgj e.symm))
    have HSP2 : Hid (∀ j ∈ J, updN ss1 i s2 j ≤ ss j + (st1 + 1 - st) * 200002) := fun j hj => by
      have h1 : (st1 + 1 - st) * 200002 = (st1 - st) * 200002 + 200002 := by rw [show st1 + 1 - st = (st1 - st) + 1 by omega, Nat.succ_mul]
      have h2 := HR.out.sp j hj
      rw [h1]
      unfold updN
      by_cases hji : j = i
      · subst hji; rw [if_pos rfl]; exact Nat.le_trans hs2 (by rw [← Nat.add_assoc]; exact Nat.add_le_add_right h2 _)
      · rw [if_neg hji]; exact Nat.le_trans h2 (Nat.add_le_add_left (Nat.le_add_right _ _) _)
    have hz2 := hg2.size
    have HKC := Lib.hid (HKEY.out i _ s2 w2 HIM.out HCH2.out hit2)
    clear hon HSEEK hit2
    by_cases h2 : cntF (I.K q i) key < (I.K q i).length
    rotate_left
    · have HT0 := Lib.hid (HR.out.m.fail HK.out HNE.out HMM.out (by rw [← HI.out]; exact h2))
      have hd : decide (cntF (I.K q i) key < (I.K q i).length) = false := by simpa using h2
      rw [hd]
      clear hd h2
      go_wp2
      go_ret
      refine ⟨by rw [HT0.out]; simp, _, st1, _, HJ2.out, HIT2.out, fun h => absurd h (by rw [HT0.out]; exact Nat.lt_irrefl _), hs0, hst1, fun j hj => ?_, HCH2.out⟩
      have h3 : (st1 + 1 - st) * 200002 ≤ N * 200002 := Nat.mul_le_mul_right _ (by have := HBUD.out; omega)
      exact Nat.le_trans (HSP2.out j hj) (Nat.add_le_add_left h3 _)
    have hd : decide (cntF (I.K q i) key < (I.K q i).length) = true := by simpa using h2
    rw [hd]
    have hon : onX (I.a i).d (I.a i).P (some (q i, cntF (RL.kids (I.a i).d (I.a i).P (q i)) key)) = true := hd
    have hkv : keyV (I.a i).d (I.a i).P (some (q i, cntF (RL.kids (I.a i).d (I.a i).P (q i)) key)) = (I.K q i)[cntF (I.K q i) key] := keyV_at h2
    rw [hon, hkv] at HKC
    generalize hnx : (I.K q i)[cntF (I.K q i) key] = nx at HKC
    have HNX := Lib.hid hnx
    clear hnx hkv
    have HKB2 : Hid (Row w2 kb 41 (vcells key)) := HR.out.kb.grown hg2 (fun e => by injection e with e; exact hkg e)
    clear hd hon c0 c1 c2 hc2 hr1 hg2 hs2 hle
    go_wp2_with fail
    refine HKC.out.mono ?_
    rintro e w3 ⟨rfl, hb3⟩
    have HJ3 := Lib.hid (HJ2.out.up hb3)
    have HKB3 := Lib.hid (HKB2.out.up hb3)
    have hz3 := hb3.size
    have s2' : w3.cell? ⟨jb, 2, none⟩ = some (.int .i64 st1) := HJ3.out.cell 2
    have f2' : w3.frozen? ⟨jb, 2, none⟩ = false := HJ3.out.frozen 2
    have d0 : w3.cell? ⟨kb, 0, none⟩ = some (.int .i64 key.kind) := HKB3.out.cell 0
    have d1 : w3.cell? ⟨kb, 1, none⟩ = some (.int .i64 key.int) := HKB3.out.cell 1
    have d2 : w3.cell? ⟨kb, 2, none⟩ = some (.string key.str) := HKB3.out.cell 2
    have g0 : w3.frozen? ⟨kb, 0, none⟩ = false := HKB3.out.frozen 0
    have g1 : w3.frozen? ⟨kb, 1, none⟩ = false := HKB3.out.frozen 1
    have g2 : w3.frozen? ⟨kb, 2, none⟩ = false := HKB3.out.frozen 2
    have hjz : jb < w3.heap.size := HJ3.out.lt
    have hkz : kb < w3.heap.size := HKB3.out.lt
    have hjk : jb < kb := by omega
    have hw1 : IntKind.i64.wrap ((st1 : Int) + 1) = ((st1 + 1 : Nat) : Int) := by rw [IntWalk.i64_in _ (by omega)]; omega
    have HB3 := Lib.hid hb3
    clear hb3 HKC
    go_wp2_with fail
    refine (HVC.out nx key _).mono ?_
    rintro e w6 ⟨rfl, hx6⟩
    have hch : Chg (fun b => b = jb) w3 w6 := ((Chg.set (F := fun b => b = jb) w3 jb 2 (.int .i64 ((st1 : Int) + 1)) rfl).trans (Chg.of_ext ((Ext.refl _).alloc (.cells #[.int .i64 nx.kind, .int .i64 nx.int, .string nx.str] 41)))).trans (Chg.of_ext hx6)
    have hj6 : Row w6 jb 105 [ja, jc, .int .i64 ((st1 + 1 : Nat) : Int), jy] := ((HJ3.out.set 2 (.int .i64 ((st1 : Int) + 1))).alloc (.cells #[.int .i64 nx.kind, .int .i64 nx.int, .string nx.str] 41)).up hx6.below
    have HKB6 : Hid (Row w6 kb 41 (vcells key)) := HKB3.out.chg hch (by omega)
    have hn6 : Row w6 w3.heap.size 41 (vcells nx) := by
      have h := Row.new (w3.setCell ⟨jb, 2, none⟩ (.int .i64 ((st1 : Int) + 1))) 41 (vcells nx)
      simp only [World.size_setCell] at h
      exact h.up hx6.below
    have HIT6 : Hid (∀ j ∈ J, I.It w6 j (some (q j, updN p1 i (cntF (I.K q i) key) j)) (updN ss1 i s2 j)) := fun j hj => IterP.chg (IterP.up (HIT2.out j hj) HB3.out) hch (HJN.out j hj)
    have HCH6 : Hid (Chg (MeetF I jb J) w w6) := (HCH2.out.trans (Chg.of_below HB3.out fun k h1 h2 => absurd h1 (by omega))).trans (hch.mono fun k _ h => .inl h)
    have n0 : w6.cell? ⟨w3.heap.size, 0, none⟩ = some (.int .i64 nx.kind) := hn6.cell 0
    have n1 : w6.cell? ⟨w3.heap.size, 1, none⟩ = some (.int .i64 nx.int) := hn6.cell 1
    have n2 : w6.cell? ⟨w3.heap.size, 2, none⟩ = some (.string nx.str) := hn6.cell 2
    have k0 : w6.cell? ⟨kb, 0, none⟩ = some (.int .i64 key.kind) := HKB6.out.cell 0
    have k1 : w6.cell? ⟨kb, 1, none⟩ = some (.int .i64 key.int) := HKB6.out.cell 1
    have k2 : w6.cell? ⟨kb, 2, none⟩ = some (.string key.str) := HKB6.out.cell 2
    have f0 : w6.frozen? ⟨kb, 0, none⟩ = false := HKB6.out.frozen 0
    have f1 : w6.frozen? ⟨kb, 1, none⟩ = false := HKB6.out.frozen 1
    have f2 : w6.frozen? ⟨kb, 2, none⟩ = false := HKB6.out.frozen 2
    have hz6 := hch.size
    have hkz6 : kb < w6.heap.size := by omega
    have hnz6 : w3.heap.size < w6.heap.size := hn6.lt
    have HJ6 := Lib.hid hj6
    have HCHJ := Lib.hid hch
    have hw2 : IntKind.i64.wrap ((same : Int) + 1) = ((same + 1 : Nat) : Int) := by rw [IntWalk.i64_in _ (by omega)]; omega
    have hw3 : IntKind.i64.wrap ((k : Int) + 1) = ((k + 1 : Nat) : Int) := by rw [IntWalk.i64_in _ (by omega)]; omega
    clear hx6 hch hj6 hn6 s2' f2' d0 d1 d2 g0 g1 g2 hw1
    by_cases heq : RL.cmpV nx key = 0
    · have hnk : nx = key := (RL.tot_cmpV.z _ _).1 heq
      have hbq : (RL.cmpV nx key == 0) = true := by simpa using heq
      clear heq
      have HM2 : Hid (MeetI (I.K q) J C t key (same + 1) (k + 1) (updN p1 i (cntF (I.K q i) key))) := by
        have h3 := HI.out
        have h4 := HNX.out
        rw [hnk] at h4
        have := HR.out.m.hit hs (by rw [← h3]; exact h2) (by simp only [← h3]; exact h4)
        rw [← h3] at this
        exact this
      clear hnk
      go_wp2
      go_roundw
      case rel =>
        refine ⟨same + 1, k + 1, key, _, st1 + 1, _, rfl, rfl, HM2.out, HKB6.out, HJ6.out, HIT6.out, HCH6.out, by omega, ?_, ?_, HSP2.out⟩
        · have := HBUD.out; omega
        · have := HK1.out; omega
      case measure =>
        rw [boxV_row HKB6.out, boxV_row HR.out.kb]
        simp [intOf]
        omega
    · have hbq : (RL.cmpV nx key == 0) = false := by simpa using heq
      have hnk : nx ≠ key := fun e => heq ((RL.tot_cmpV.z _ _).2 e)
      clear heq
      have HM2 : Hid (RL.cmpV key nx < 0 ∧ MeetI (I.K q) J C t nx 1 (k + 1) (updN p1 i (cntF (I.K q i) key))) := by
        have h3 := HI.out
        have h4 := HNX.out
        have := HR.out.m.miss HK.out HNE.out HMM.out (by rw [← h3]; exact h2) (by simp only [← h3]; rw [h4]; exact hnk)
        simp only [← h3] at this
        rw [h4] at this
        exact this
      have HGT : Hid (gtN (I.K q) J nx < gtN (I.K q) J key) := gtN_lt HM2.out.1 HIM.out (by rw [← HNX.out]; exact List.getElem_mem h2)
      clear hnk
      have HK7 : Hid (∀ W, W = ((w6.setCell ⟨kb, 0, none⟩ (.int .i64 nx.kind)).setCell ⟨kb, 1, none⟩ (.int .i64 nx.int)).setCell ⟨kb, 2, none⟩ (.string nx.str) → Row W kb 41 (vcells nx) ∧ Chg (fun b => b = kb) w6 W) := fun W hW => by
        subst hW
        exact ⟨((HKB6.out.set 0 _).set 1 _).set 2 _, ((Chg.set (F := fun b => b = kb) _ _ _ _ rfl).trans (Chg.set _ _ _ _ rfl)).trans (Chg.set _ _ _ _ rfl)⟩
      go_wp2
      obtain ⟨W7, hW7⟩ : ∃ W, W = ((w6.setCell ⟨kb, 0, none⟩ (.int .i64 nx.kind)).setCell ⟨kb, 1, none⟩ (.int .i64 nx.int)).setCell ⟨kb, 2, none⟩ (.string nx.str) := ⟨_, rfl⟩
      rw [← hW7]
      obtain ⟨hkb7, hch7⟩ := HK7.out W7 hW7
      clear hW7
      have hG2 : gtN (I.K q) J nx * (J.length + 1) + (J.length + 1) ≤ gtN (I.K q) J key * (J.length + 1) := by
        have := Nat.mul_le_mul_right (J.length + 1) (show gtN (I.K q) J nx + 1 ≤ gtN (I.K q) J key from HGT.out)
        rw [Nat.succ_mul] at this
        exact this
      go_roundw
      case rel =>
        refine ⟨1, k + 1, nx, _, st1 + 1, _, rfl, rfl, HM2.out.2, hkb7, HJ6.out.chg hch7 (by omega), fun j hj => IterP.chg (HIT6.out j hj) hch7 (fun e => by have h1 := (HIT.out j hj).lt; have h2 := e; omega), HCH6.out.then hch7 (fun x hx e => by omega), by omega, ?_, ?_, HSP2.out⟩
        · have := HBUD.out; omega
        · have := HK1.out; omega
      case measure =>
        rw [boxV_row hkb7, boxV_row HR.out.kb]
        simp only [intOf]
        omega

end Go.Proofs.Ytiomelogggilgaa
end

section
/- The state of a leapfrog search in memory, and what its calls do to it. -/
namespace Go.Proofs.Ytiomelogggilgaa
open Go.RowKit Go.Sort

structure Eng where
  I : Its
  n : Nat
  jb : Nat
  rb : Nat
  ab : Nat
  atA : Nat → Option Addr
  atC : Nat → Nat
  yf : Nat
  cap : Array Value
/-- The atoms that have a variable, by number. -/
def idxV (l : List At) (v : Nat) : List Nat := (List.range l.length).filter fun i => decide (v ∈ (l.getD i default).vs)
theorem mem_idxV {l : List At} {v i : Nat} : i ∈ idxV l v ↔ i < l.length ∧ v ∈ (l.getD i default).vs := by unfold idxV; simp
theorem idxV_nodup (l : List At) (v : Nat) : (idxV l v).Nodup := List.nodup_range.filter _
theorem idxV_len (l : List At) (v : Nat) : (idxV l v).length ≤ l.length := by
  have := List.length_filter_le (fun i => decide (v ∈ (l.getD i default).vs)) (List.range l.length)
  rw [List.length_range] at this
  exact this
theorem getD_mem {l : List At} {i : Nat} (h : i < l.length) : l.getD i default ∈ l := by
  rw [List.getD_eq_getElem?_getD, List.getElem?_eq_getElem h]
  exact List.getElem_mem h
theorem mem_cand_idx {I : Its} {x : RL.R} (h : atsV I.l x.length ≠ []) (c : RL.V) : c ∈ candF I.l x ↔ ∀ i ∈ idxV I.l x.length, c ∈ I.K (fun i => pj (I.a i) x) i := by
  rw [mem_candF h]
  constructor
  · intro hall i hi
    obtain ⟨h1, h2⟩ := mem_idxV.1 hi
    exact hall _ (getD_mem h1) h2
  · intro hall a ha hv
    obtain ⟨i, hi, rfl⟩ := List.getElem_of_mem ha
    have e : I.l.getD i default = I.l[i] := by rw [List.getD_eq_getElem?_getD, List.getElem?_eq_getElem hi]; rfl
    have := hall i (mem_idxV.2 ⟨hi, by rw [e]; exact hv⟩)
    unfold Its.K Its.a at this
    simp only [e] at this
    exact this

/-- The blocks that the search itself turns. -/
def Eng.EF (E : Eng) (b : Nat) : Prop := b = E.jb ∨ b = E.rb ∨ ∃ i, i < E.I.l.length ∧ b = E.I.g i
def Eng.jrow (E : Eng) (st : Nat) : List Value := [.slice (some ⟨E.rb, 0, none⟩) E.n E.n, .slice (some ⟨E.ab, 0, none⟩) E.n E.n, .int .i64 st, .func (.func E.yf) #[] E.cap]
structure Eng.St (E : Eng) (w : World) (z : RL.R) (st : Nat) (pl : Nat → Pl) (ss : Nat → Nat) : Prop where
  z_len : z.length = E.n
  j : Row w E.jb 105 (E.jrow st)
  row : Row w E.rb 41 (rcells z)
  it : ∀ i, i < E.I.l.length → E.I.It w i (pl i) (ss i)
def Eng.plc (E : Eng) (x : RL.R) (i : Nat) : Pl := plcQ (E.I.a i).d (E.I.a i).P (pj (E.I.a i) x)
structure Eng.Stat (E : Eng) (w : World) : Prop where
  ab : Row w E.ab 106 ((List.range E.n).map fun v => Value.slice (E.atA v) (idxV E.I.l v).length (E.atC v))
  at_ : ∀ v, v < E.n → Sl w.heap.size w (E.atA v) ((idxV E.I.l v).map fun i => Value.pointer (some ⟨E.I.g i, 0, none⟩))
  tr : E.I.Tr w
def Eng.TF (E : Eng) (O0 : Nat → Prop) (b : Nat) : Prop := E.EF b ∨ O0 b
structure Eng.Ok (E : Eng) (O0 : Nat → Prop) (W0 : World) (M : Nat) : Prop where
  its : E.I.Ok
  atoms : ∀ a ∈ E.I.l, a.Ok E.n
  used : ∀ v, v < E.n → ∃ a ∈ E.I.l, v ∈ a.vs
  jr : E.jb ≠ E.rb
  jg : ∀ i, i < E.I.l.length → E.I.g i ≠ E.jb
  rg : ∀ i, i < E.I.l.length → E.I.g i ≠ E.rb
  lt : ∀ b, E.EF b → b < W0.heap.size
  O : ∀ b, E.EF b → ¬ O0 b
  atn : ∀ v, v < E.n → ∀ ad, E.atA v = some ad → ¬ E.EF ad.block
  stat : ∀ w', Chg (E.TF O0) W0 w' → E.Stat w'
  n64 : E.n ≤ 64
  l64 : E.I.l.length ≤ 64
  M : ∀ i, i < E.I.l.length → ∀ q, (RL.kids (E.I.a i).d (E.I.a i).P q).length ≤ M

/-- Where the iterators stand within a node. -/
def plJ (J : List Nat) (q : Nat → RL.R) (p : Nat → Nat) (base : Nat → Pl) (i : Nat) : Pl := if i ∈ J then some (q i, p i) else base i

section
variable {E : Eng} {O0 : Nat → Prop} {W0 : World} {M : Nat} (hE : E.Ok O0 W0 M)
include hE
theorem Eng.a_ok {i : Nat} (hi : i < E.I.l.length) : (E.I.a i).Ok E.n := hE.atoms _ (getD_mem hi)
omit hE in
theorem Eng.meetF {v b : Nat} (h : MeetF E.I E.jb (idxV E.I.l v) b) : E.EF b := by
  rcases h with h | ⟨i, hi, h⟩
  · exact .inl h
  · exact .inr (.inr ⟨i, (mem_idxV.1 hi).1, h⟩)
omit hE in
theorem Eng.St.chg {w w' : World} {z : RL.R} {st : Nat} {pl : Nat → Pl} {ss : Nat → Nat} {F : Nat → Prop} (h : E.St w z st pl ss) (hc : Chg F w w') (hF : ∀ b, E.EF b → ¬ F b) : E.St w' z st pl ss :=
  ⟨h.z_len, h.j.chg hc (hF _ (.inl rfl)), h.row.chg hc (hF _ (.inr (.inl rfl))), fun i hi => IterP.chg (h.it i hi) hc (hF _ (.inr (.inr ⟨i, hi, rfl⟩)))⟩
omit hE in
theorem Eng.St.up {w w' : World} {z : RL.R} {st : Nat} {pl : Nat → Pl} {ss : Nat → Nat} (h : E.St w z st pl ss) (hb : Below w.heap.size w w') : E.St w' z st pl ss :=
  h.chg (F := fun _ => False) (Chg.of_below hb fun k h1 h2 => absurd h1 (by omega)) (fun _ _ h => h)
omit hE in
theorem Eng.St.congr {w : World} {z : RL.R} {st : Nat} {pl pl' : Nat → Pl} {ss : Nat → Nat} (h : E.St w z st pl ss) (hp : ∀ i, i < E.I.l.length → pl i = pl' i) : E.St w z st pl' ss :=
  ⟨h.z_len, h.j, h.row, fun i hi => by rw [← hp i hi]; exact h.it i hi⟩
omit hE in
/-- A step of the search within the whole. -/
theorem Eng.tf {w w' : World} (h : Chg (E.TF O0) W0 w) (hc : Chg E.EF w w') : Chg (E.TF O0) W0 w' := h.trans (hc.mono fun _ _ h => .inl h)
/-- One iterator moves. -/
theorem Eng.St.move {w w' : World} {z : RL.R} {st : Nat} {pl pl' : Nat → Pl} {ss : Nat → Nat} {i : Nat} {s' : Nat} (h : E.St w z st pl ss) (hi : i < E.I.l.length) (hg : w.grownBy w' (some (E.I.g i))) (hit : E.I.It w' i (pl' i) s') (hp : ∀ j, j < E.I.l.length → j ≠ i → pl' j = pl j) :
    E.St w' z st pl' (updN ss i s') ∧ Chg E.EF w w' := by
  have hc : Chg (fun b => b = E.I.g i) w w' := Chg.of_grown hg fun k hk => by injection hk with hk; exact hk.symm
  refine ⟨⟨h.z_len, h.j.chg hc (fun e => hE.jg i hi e.symm), h.row.chg hc (fun e => hE.rg i hi e.symm), fun j hj => ?_⟩, hc.mono fun k _ hk => .inr (.inr ⟨i, hi, hk⟩)⟩
  unfold updN
  by_cases hji : j = i
  · subst hji; rw [if_pos rfl]; exact hit
  · rw [if_neg hji, hp j hj hji]
    exact IterP.chg (h.it j hj) hc (fun e => hji (hE.its.inj j i hj hi e))

theorem Eng.open_ {w : World} {z : RL.R} {st : Nat} {pl : Nat → Pl} {ss : Nat → Nat} {x : RL.R} {i : Nat} (hS : E.St w z st pl ss) (hch : Chg (E.TF O0) W0 w) (hi : i < E.I.l.length) (hv : x.length ∈ (E.I.a i).vs) (hp : preA (E.I.a i) x) (hpl : pl i = E.plc x i) :
    Calls Try.prog 75 #[.pointer (some ⟨E.I.g i, 0, none⟩)] w fun e w' => (∃ b, e = .returned (.bool b)) ∧ E.St w' z st (fun j => if j = i then some (pj (E.I.a i) x, 0) else pl j) ss ∧ Chg E.EF w w' := by
  obtain ⟨t1, t2⟩ := (hE.stat w hch).tr i hi
  have ha := Eng.a_ok hE hi
  have hit := hS.it i hi
  refine (itOpen (E.I.B i) (E.I.g i) (E.I.LA i) (E.I.a i).d (E.I.C i) (E.I.a i).P (pl i) (ss i) w t1 t2 hit (hE.its.d i hi) (hE.its.P i hi) (hE.its.r i hi)).mono ?_
  rintro e w' ⟨rfl, hit', hg⟩
  refine ⟨⟨_, rfl⟩, ?_⟩
  have ho := plcQ_open (d := (E.I.a i).d) (P := (E.I.a i).P) ha.len hp (pj_lt ha.asc hv)
  rw [hpl] at hit'
  have e1 : openX (E.I.a i).d (E.I.a i).P (E.plc x i) = some (pj (E.I.a i) x, 0) := ho.2
  rw [e1] at hit'
  have := Eng.St.move hE (pl' := fun j => if j = i then some (pj (E.I.a i) x, 0) else pl j) hS hi hg (by simp only [if_pos]; exact hit') (fun j _ hji => by simp only [if_neg hji])
  rw [show updN ss i (ss i) = ss by funext j; unfold updN; split <;> simp_all] at this
  exact this
theorem Eng.up_ {w : World} {z : RL.R} {st : Nat} {pl : Nat → Pl} {ss : Nat → Nat} {i : Nat} {q : RL.R} {k : Nat} (hS : E.St w z st pl ss) (hi : i < E.I.l.length) (hpl : pl i = some (q, k)) :
    Calls Try.prog 79 #[.pointer (some ⟨E.I.g i, 0, none⟩)] w fun e w' => (∃ b, e = .returned (.bool b)) ∧ E.St w' z st (fun j => if j = i then plcQ (E.I.a i).d (E.I.a i).P q else pl j) ss ∧ Chg E.EF w w' := by
  have hit := hS.it i hi
  refine (itUp (E.I.g i) (E.I.LA i) (E.I.a i).d (E.I.C i) (E.I.a i).P (pl i) (ss i) w hit (hE.its.d i hi) (hE.its.r i hi)).mono ?_
  rintro e w' ⟨rfl, hit', hg⟩
  refine ⟨⟨_, rfl⟩, ?_⟩
  rw [hpl] at hit'
  have e1 : upX (E.I.a i).d (E.I.a i).P (some (q, k)) = plcQ (E.I.a i).d (E.I.a i).P q := plcQ_up _ _ _ _
  rw [e1] at hit'
  have := Eng.St.move hE (pl' := fun j => if j = i then plcQ (E.I.a i).d (E.I.a i).P q else pl j) hS hi hg (by simp only [if_pos]; exact hit') (fun j _ hji => by simp only [if_neg hji])
  rw [show updN ss i (ss i) = ss by funext j; unfold updN; split <;> simp_all] at this
  exact this
theorem Eng.next_ {w : World} {z : RL.R} {st : Nat} {pl : Nat → Pl} {ss : Nat → Nat} {i : Nat} {q : RL.R} {k : Nat} (hS : E.St w z st pl ss) (hi : i < E.I.l.length) (hpl : pl i = some (q, k)) (hk : k < (RL.kids (E.I.a i).d (E.I.a i).P q).length) :
    Calls Try.prog 77 #[.pointer (some ⟨E.I.g i, 0, none⟩)] w fun e w' => e = .returned (.bool (decide (k + 1 < (RL.kids (E.I.a i).d (E.I.a i).P q).length))) ∧ E.St w' z st (fun j => if j = i then some (q, k + 1) else pl j) ss ∧ Chg E.EF w w' := by
  have hit := hS.it i hi
  refine (itNext 0 (E.I.g i) (E.I.LA i) (E.I.a i).d (E.I.C i) (E.I.a i).P (pl i) (ss i) w hit (hE.its.P i hi)).mono ?_
  rintro e w' ⟨rfl, hit', hg⟩
  rw [hpl] at hit' ⊢
  have e1 : nextX (E.I.a i).d (E.I.a i).P (some (q, k)) = some (q, k + 1) := by show (if _ then _ else _) = _; rw [if_pos hk]
  rw [e1] at hit' ⊢
  refine ⟨rfl, ?_⟩
  have := Eng.St.move hE (pl' := fun j => if j = i then some (q, k + 1) else pl j) hS hi hg (by simp only [if_pos]; exact hit') (fun j _ hji => by simp only [if_neg hji])
  rw [show updN ss i (ss i) = ss by funext j; unfold updN; split <;> simp_all] at this
  exact this
theorem Eng.key_ {w : World} {z : RL.R} {st : Nat} {pl : Nat → Pl} {ss : Nat → Nat} {i : Nat} {q : RL.R} {c : RL.V} (hS : E.St w z st pl ss) (hch : Chg (E.TF O0) W0 w) (hi : i < E.I.l.length) (hc : c ∈ RL.kids (E.I.a i).d (E.I.a i).P q) (hpl : pl i = some (q, cntF (RL.kids (E.I.a i).d (E.I.a i).P q) c)) :
    Calls Try.prog 78 #[.pointer (some ⟨E.I.g i, 0, none⟩)] w fun e w' => e = .returned (.tuple #[vv c, .bool true]) ∧ Below w.heap.size w w' := by
  obtain ⟨t1, t2⟩ := (hE.stat w hch).tr i hi
  have hit := hS.it i hi
  refine (itKey (E.I.B i) (E.I.g i) (E.I.LA i) (E.I.a i).d (E.I.C i) (E.I.a i).P (pl i) (ss i) w t1 t2 hit (hE.its.d i hi) (hE.its.P i hi) (hE.its.r i hi)).mono ?_
  rintro e w' ⟨rfl, hb⟩
  refine ⟨?_, hb⟩
  rw [hpl, plcQ_key (hE.its.r i hi) hc]
  obtain ⟨h1, -⟩ := cntF_mem (RL.kids_asc (hE.its.r i hi) q) hc
  have : onX (E.I.a i).d (E.I.a i).P (some (q, cntF (RL.kids (E.I.a i).d (E.I.a i).P q) c)) = true := decide_eq_true h1
  rw [this]
theorem Eng.meet_ {w : World} {z x : RL.R} {st : Nat} {ss : Nat → Nat} {base : Nat → Pl} {p : Nat → Nat} {t : Nat} (hx : x.length < E.n)
    (hS : E.St w z st (plJ (idxV E.I.l x.length) (fun i => pj (E.I.a i) x) p base) ss) (hch : Chg (E.TF O0) W0 w) (hM : MSt (E.I.K fun i => pj (E.I.a i) x) (idxV E.I.l x.length) (candF E.I.l x) p t)
    (hst : st + meetN 64 M ≤ 4000000000000000000) (hss : ∀ i, i < E.I.l.length → ss i + meetN 64 M * 200002 ≤ 100000000000000000) :
    Calls Try.prog 76 #[.pointer (some ⟨E.jb, 0, none⟩), .slice (E.atA x.length) (idxV E.I.l x.length).length (E.atC x.length)] w fun e w' => e = .returned (.bool (decide (t < (candF E.I.l x).length))) ∧
      ∃ (p' : Nat → Nat) (st' : Nat) (ss' : Nat → Nat), E.St w' z st' (plJ (idxV E.I.l x.length) (fun i => pj (E.I.a i) x) p' base) ss' ∧ (t < (candF E.I.l x).length → Fnd (E.I.K fun i => pj (E.I.a i) x) (idxV E.I.l x.length) (candF E.I.l x) p' t) ∧ st ≤ st' ∧ st' ≤ st + meetN 64 M ∧ (∀ i, i < E.I.l.length → ss' i ≤ ss i + meetN 64 M * 200002) ∧ Chg E.EF w w' := by
  have hne : atsV E.I.l x.length ≠ [] := atsV_ne hE.used hx
  have hJ : idxV E.I.l x.length ≠ [] := by
    obtain ⟨a, ha, hv⟩ := hE.used x.length hx
    obtain ⟨i, hi, rfl⟩ := List.getElem_of_mem ha
    intro e
    have : i ∈ idxV E.I.l x.length := mem_idxV.2 ⟨hi, by rw [List.getD_eq_getElem?_getD, List.getElem?_eq_getElem hi]; exact hv⟩
    rw [e] at this
    simp at this
  have hJl : ∀ i ∈ idxV E.I.l x.length, i < E.I.l.length := fun i hi => (mem_idxV.1 hi).1
  have hJ64 : (idxV E.I.l x.length).length ≤ 64 := Nat.le_trans (idxV_len _ _) hE.l64
  have hN : meetN (idxV E.I.l x.length).length M ≤ meetN 64 M := by
    unfold meetN
    exact Nat.add_le_add (Nat.mul_le_mul (Nat.mul_le_mul_right M hJ64) (by omega)) hJ64
  have hN2 := Nat.mul_le_mul_right 200002 hN
  have hstat := hE.stat w hch
  have h := lfMeet_any E.I hE.its E.jb (.slice (some ⟨E.rb, 0, none⟩) E.n E.n) (.slice (some ⟨E.ab, 0, none⟩) E.n E.n) (.func (.func E.yf) #[] E.cap) (idxV E.I.l x.length) hJ hJl (E.atA x.length) (E.atC x.length) (fun i => pj (E.I.a i) x) p (candF E.I.l x) t st ss w M
    (hstat.at_ x.length hx) (fun ad e h => hE.atn x.length hx ad e (Eng.meetF h)) hS.j (fun i hi => hE.jg i (hJl i hi)) (fun w' hc => (hE.stat w' (Eng.tf hch (hc.mono fun _ _ h => Eng.meetF h))).tr)
    (fun i hi => by have h := hS.it i (hJl i hi); unfold plJ at h; rw [if_pos hi] at h; exact h) hM (candF_asc hE.atoms x) (fun u => mem_cand_idx hne u) (fun i hi => hE.M i (hJl i hi) _) (by omega) (by omega) (fun i hi => Nat.le_trans (Nat.add_le_add_left hN2 _) (hss i (hJl i hi)))
  refine h.mono ?_
  rintro e w' ⟨rfl, p', st', ss', hj, hit, hf, h1, h2, h3, hc⟩
  refine ⟨rfl, p', st', fun i => if i ∈ idxV E.I.l x.length then ss' i else ss i, ⟨hS.z_len, hj, hS.row.chg hc (fun e => ?_), fun i hi => ?_⟩, hf, h1, by omega, fun i hi => ?_, hc.mono fun _ _ h => Eng.meetF h⟩
  · rcases e with e | ⟨i, hi, e⟩
    · exact hE.jr e.symm
    · exact hE.rg i (hJl i hi) e.symm
  · unfold plJ
    by_cases hiJ : i ∈ idxV E.I.l x.length
    · rw [if_pos hiJ]; simp only [if_pos hiJ]; exact hit i hiJ
    · rw [if_neg hiJ]; simp only [if_neg hiJ]
      have h := hS.it i hi
      unfold plJ at h
      rw [if_neg hiJ] at h
      refine IterP.chg h hc (fun e => ?_)
      rcases e with e | ⟨j, hj, e⟩
      · exact hE.jg i hi e
      · have := hE.its.inj i j hi (hJl j hj) e
        subst this
        exact hiJ hj
  · by_cases hiJ : i ∈ idxV E.I.l x.length
    · simp only [if_pos hiJ]; exact Nat.le_trans (h3 i hiJ) (Nat.add_le_add_left hN2 _)
    · simp only [if_neg hiJ]; exact Nat.le_add_right _ _
end

end Go.Proofs.Ytiomelogggilgaa
end

section
/- Walk: leapfrog's extend where all variables have values. -/
namespace Go.Proofs.Ytiomelogggilgaa
open Go.RowKit Go.Sort

/-- What extend leaves. -/
def ExtPost (E : Eng) (O0 : Nat → Prop) (W0 : World) (go : List RL.R → Bool) (Inv : List RL.R → (Nat → Prop) → World → Prop) (cost : Nat) (X : List RL.R) (x : RL.R) (L : List RL.R) (st : Nat) (ss : Nat → Nat) (e : Ending) (w' : World) : Prop :=
  e = .returned (.bool (feed go L X).2) ∧ ∃ (z' : RL.R) (st' : Nat) (ss' : Nat → Nat) (O' : Nat → Prop), E.St w' z' st' (E.plc x) ss' ∧ z'.take x.length = x ∧ Inv (feed go L X).1 O' w' ∧ (∀ b, O' b → b < w'.heap.size ∧ (O0 b ∨ W0.heap.size ≤ b)) ∧ Chg (E.TF O0) W0 w' ∧
    st + ((feed go L X).1.length - L.length) ≤ st' ∧ st' ≤ st + cost ∧ ∀ i, i < E.I.l.length → ss' i ≤ ss i + cost * 200002

section
variable {E : Eng} {O0 : Nat → Prop} {W0 : World} {M : Nat} (hE : E.Ok O0 W0 M) {go : List RL.R → Bool} {Inv : List RL.R → (Nat → Prop) → World → Prop} {N : Nat} (hY : Yield E.yf E.cap go Inv N 64)
include hE hY
/-- What the search turns leaves the function's own blocks as they are. -/
theorem Yield.stay {L : List RL.R} {O : Nat → Prop} {w w' : World} (hI : Inv L O w) (hO : ∀ b, O b → b < w.heap.size ∧ (O0 b ∨ W0.heap.size ≤ b)) (hc : Chg E.EF w w') : Inv L O w' ∧ ∀ b, O b → b < w'.heap.size ∧ (O0 b ∨ W0.heap.size ≤ b) :=
  ⟨hY.keep L O w w' hI (fun b hb => (hO b hb).1) (fun b hb => hc.block b (hO b hb).1 fun h => by
    rcases (hO b hb).2 with h1 | h1
    · exact hE.O b h h1
    · have := hE.lt b h; omega) hc.size, fun b hb => ⟨Nat.lt_of_lt_of_le (hO b hb).1 hc.size, (hO b hb).2⟩⟩

set_option maxHeartbeats 4000000 in
set_option maxRecDepth 100000 in
theorem lfExtend_leaf (x z : RL.R) (L : List RL.R) (O : Nat → Prop) (st : Nat) (ss : Nat → Nat) (w : World) (hx : x.length = E.n) (hz : z.take x.length = x) (hS : E.St w z st (E.plc x) ss) (hch : Chg (E.TF O0) W0 w) (hI : Inv L O w) (hO : ∀ b, O b → b < w.heap.size ∧ (O0 b ∨ W0.heap.size ≤ b)) (hL : L.length + 1 ≤ N) (hst : st + 1 ≤ 4000000000000000000) :
    Calls Try.prog 53 #[.pointer (some ⟨E.jb, 0, none⟩), .int .i64 x.length] w (ExtPost E O0 W0 go Inv 1 [x] x L st ss) := by
  have hzx : z = x := by rw [← hz, List.take_of_length_le (by rw [hS.z_len]; omega)]
  subst hzx
  have hj0 : w.cell? ⟨E.jb, 0, none⟩ = some (.slice (some ⟨E.rb, 0, none⟩) E.n E.n) := hS.j.cell 0
  have hj2 : w.cell? ⟨E.jb, 2, none⟩ = some (.int .i64 st) := hS.j.cell 2
  have hj3 : w.cell? ⟨E.jb, 3, none⟩ = some (.func (.func E.yf) #[] E.cap) := hS.j.cell 3
  have hf2 : w.frozen? ⟨E.jb, 2, none⟩ = false := hS.j.frozen 2
  have hjz : E.jb < w.heap.size := hS.j.lt
  have hq : ((z.length : Int) == (E.n : Int)) = true := by rw [hx]; simp
  have hw1 : IntKind.i64.wrap ((st : Int) + 1) = ((st + 1 : Nat) : Int) := by rw [IntWalk.i64_in _ (by omega)]; omega
  have HC1 : Hid (Chg E.EF w (w.setCell ⟨E.jb, 2, none⟩ (.int .i64 ((st : Int) + 1)))) := Chg.set w E.jb 2 _ (.inl rfl)
  have HS1 : Hid (E.St (w.setCell ⟨E.jb, 2, none⟩ (.int .i64 ((st : Int) + 1))) z (st + 1) (E.plc z) ss) :=
    ⟨hS.z_len, hS.j.set 2 (.int .i64 ((st : Int) + 1)), hS.row.far (fun e => hE.jr e.symm) _, fun i hi => IterP.chg (hS.it i hi) (Chg.set (F := fun b => b = E.jb) w E.jb 2 _ rfl) (hE.jg i hi)⟩
  have HXN := Lib.hid hx
  have HY := Lib.hid hY
  have HE := Lib.hid hE
  have HI := Lib.hid hI
  have HO := Lib.hid hO
  have HCH := Lib.hid hch
  have eg := hY.enter
  have hn64 := hE.n64
  clear hE hY hI hO hch hS hx hz
  go_enter Try.func53, Try.ntmps53
  go_wp2
  generalize w.setCell ⟨E.jb, 2, none⟩ (.int .i64 ((st : Int) + 1)) = W1 at HC1 HS1 ⊢
  have j0 : W1.cell? ⟨E.jb, 0, none⟩ = some (.slice (some ⟨E.rb, 0, none⟩) E.n E.n) := HS1.out.j.cell 0
  have j3 : W1.cell? ⟨E.jb, 3, none⟩ = some (.func (.func E.yf) #[] E.cap) := HS1.out.j.cell 3
  clear hj0 hj2 hj3 hf2 hjz hq hw1
  refine wp_region_held_drew (S := (fun w' => w'.cell? ⟨E.jb, 0, none⟩ = some (.slice (some ⟨E.rb, 0, none⟩) E.n E.n) ∧ w'.cell? ⟨E.jb, 3, none⟩ = some (.func (.func E.yf) #[] E.cap))) (by kernel_rfl) ⟨j0, j3⟩ (fun hHeld => ?_)
  refine takeOp (i := 0) (v := ?_) (some 26) rfl rfl (by kernel_rfl) (by kernel_rfl) (by kernel_rfl) (fun _ _ _ h => h) (Or.inl ⟨by rfl, ?_⟩) (by assumption) ?_
  rotate_left 1
  · (intro w0 hSw; (try dsimp only at hSw); go_simp; try (with_reducible rfl))
  try simp only [Act.put]
  try simp only [List.setIfInBounds_toArray]
  try simp only [List.set_cons_succ]
  try simp only [List.set_cons_zero]
  refine takeOp (i := 1) (v := ?_) (some 27) rfl rfl (by kernel_rfl) (by kernel_rfl) (by kernel_rfl) (fun _ _ _ h => h) (Or.inl ⟨by rfl, ?_⟩) (by assumption) ?_
  rotate_left 1
  · (intro w0 hSw; (try dsimp only at hSw); go_simp; try (with_reducible rfl))
  try simp only [Act.put]
  try simp only [List.setIfInBounds_toArray]
  try simp only [List.set_cons_succ]
  try simp only [List.set_cons_zero]
  refine takeOp (i := 2) (v := ?_) (some 28) rfl rfl (by kernel_rfl) (by kernel_rfl) (by kernel_rfl) (fun _ _ _ h => h) (Or.inl ⟨by rfl, ?_⟩) (by assumption) ?_
  rotate_left 1
  · (intro w0 hSw; (try dsimp only at hSw); go_simp; try (with_reducible rfl))
  try simp only [Act.put]
  try simp only [List.setIfInBounds_toArray]
  try simp only [List.set_cons_succ]
  try simp only [List.set_cons_zero]
  refine takeOp (i := 3) (v := ?_) (some 29) rfl rfl (by kernel_rfl) (by kernel_rfl) (by kernel_rfl) (fun _ _ _ h => h) (Or.inl ⟨by rfl, ?_⟩) (by assumption) ?_
  rotate_left 1
  · (intro w0 hSw; (try dsimp only at hSw); go_simp; try (with_reducible rfl))
  try simp only [Act.put]
  try simp only [List.setIfInBounds_toArray]
  try simp only [List.set_cons_succ]
  try simp only [List.set_cons_zero]
  refine takeOp (i := 4) (v := ?_) (some 30) rfl rfl (by kernel_rfl) (by kernel_rfl) (by kernel_rfl) (fun _ _ _ h => h) (Or.inl ⟨by rfl, ?_⟩) (by assumption) ?_
  rotate_left 1
  · (intro w0 hSw; (try dsimp only at hSw); go_simp; try (with_reducible rfl))
  try simp only [Act.put]
  try simp only [List.setIfInBounds_toArray]
  try simp only [List.set_cons_succ]
  try simp only [List.set_cons_zero]
  refine takeOp (i := 5) (v := ?_) (some 31) rfl rfl (by kernel_rfl) (by kernel_rfl) (by kernel_rfl) (fun _ _ _ h => h) (Or.inl ⟨by rfl, ?_⟩) (by assumption) ?_
  rotate_left 1
  · (intro w0 hSw; (try dsimp only at hSw); go_simp; try (with_reducible rfl))
  try simp only [Act.put]
  try simp only [List.setIfInBounds_toArray]
  try simp only [List.set_cons_succ]
  try simp only [List.set_cons_zero]
  refine takeOp (i := 6) (v := ?_) (some 32) rfl rfl (by kernel_rfl) (by kernel_rfl) (by kernel_rfl) (fun _ _ _ h => h) (Or.inl ⟨by rfl, ?_⟩) (by assumption) ?_
  rotate_left 1
  · (intro w0 hSw; (try dsimp only at hSw); go_simp; try (with_reducible rfl))
  try simp only [Act.put]
  try simp only [List.setIfInBounds_toArray]
  try simp only [List.set_cons_succ]
  try simp only [List.set_cons_zero]
  refine takeOp (i := 7) (v := ?_) (some 33) rfl rfl (by kernel_rfl) (by kernel_rfl) (by kernel_rfl) (fun _ _ _ h => h) (Or.inl ⟨by rfl, ?_⟩) (by assumption) ?_
  rotate_left 1
  · (intro w0 hSw; (try dsimp only at hSw); go_simp; try (with_reducible rfl))
  try simp only [Act.put]
  try simp only [List.setIfInBounds_toArray]
  try simp only [List.set_cons_succ]
  try simp only [List.set_cons_zero]
  refine wpAnyH_ready (rs := [8]) (by kernel_rfl) (by simp) ?_
  refine AllReadyH.cons rfl (fun K hK => ?_) AllReadyH.nil
  go_simp
  have hcd : Chg E.EF w W1.drew := HC1.out.trans (Chg.of_ext (Ext.refl W1).drew)
  obtain ⟨hI2, hO2⟩ := Yield.stay HE.out HY.out HI.out HO.out hcd
  have hrow : Row W1.drew E.rb 41 (rcells z) := HS1.out.row
  have hcall := HY.out.step L O W1.drew (some ⟨E.rb, 0, none⟩) E.n z hI2 (fun b hb => (hO2 b hb).1) (fun _ => ⟨E.rb, 0, rfl, hrow.lt, fun i u hu => by rw [Nat.zero_add, hrow.cell]; exact hu⟩) (fun ad e hb => by
    injection e with e
    subst e
    rcases (hO2 _ hb).2 with h | h
    · exact HE.out.O _ (.inr (.inl rfl)) h
    · have := HE.out.lt E.rb (.inr (.inl rfl)); simp only at h; omega) (by rw [HXN.out]; exact Nat.le_refl _) (by omega) (by rw [HXN.out]; omega) (by omega)
  rw [HXN.out] at hcall
  refine hcall.mono ?_
  rintro e w2 ⟨rfl, O2, hI3, hO3, hc3⟩
  have hEF : ∀ b, E.EF b → ¬ O b := fun b hb h => by
    rcases (HO.out b h).2 with h1 | h1
    · exact HE.out.O b hb h1
    · have := HE.out.lt b hb; omega
  have HS2 := Lib.hid ((HS1.out.chg (Chg.of_ext (Ext.refl W1).drew) (fun _ _ h => h) : E.St W1.drew z (st + 1) (E.plc z) ss).chg hc3 hEF)
  have KEEP : w2.cell? ⟨E.jb, 0, none⟩ = some (.slice (some ⟨E.rb, 0, none⟩) E.n E.n) ∧ w2.cell? ⟨E.jb, 3, none⟩ = some (.func (.func E.yf) #[] E.cap) := ⟨HS2.out.j.cell 0, HS2.out.j.cell 3⟩
  have HCH2 : Hid (Chg (E.TF O0) W0 w2) := (Eng.tf HCH.out hcd).then hc3 (fun b hb h => by
    rcases (HO.out b h).2 with h1 | h1
    · exact .inr h1
    · omega)
  have HI3 := Lib.hid hI3
  have HO3 : Hid (∀ b, O2 b → b < w2.heap.size ∧ (O0 b ∨ W0.heap.size ≤ b)) := fun b hb => by
    obtain ⟨h1, h2⟩ := hO3 b hb
    refine ⟨h1, ?_⟩
    rcases h2 with h2 | h2
    · exact (HO.out b h2).2
    · exact .inr (Nat.le_trans (Nat.le_trans HCH.out.size hcd.size) h2)
  clear hcd hI2 hO2 hrow hcall hI3 hO3 hc3 hEF
  go_wp2_with fail
  refine hK.out _ _ KEEP (fun hHeld => ?_)
  clear hK K
  try simp only [Act.put]
  try simp only [List.setIfInBounds_toArray]
  try simp only [List.set_cons_succ]
  try simp only [List.set_cons_zero]
  refine takeOp (i := 9) (v := ?_) (some 4) rfl rfl (by kernel_rfl) (by kernel_rfl) (by kernel_rfl) (fun _ _ _ h => h) (Or.inl ⟨by rfl, ?_⟩) (by assumption) ?_
  rotate_left 1
  · (intro w0 hSw; (try dsimp only at hSw); go_simp; try (with_reducible rfl))
  try simp only [Act.put]
  try simp only [List.setIfInBounds_toArray]
  try simp only [List.set_cons_succ]
  try simp only [List.set_cons_zero]
  refine wpAnyH_done (by kernel_rfl) ?_ _
  go_wp2
  go_ret
  refine ⟨by rw [feed_one]; rfl, z, st + 1, ss, O2, HS2.out, List.take_length, by rw [feed_one]; exact HI3.out, HO3.out, HCH2.out, by rw [feed_one]; simp, by omega, fun i _ => Nat.le_add_right _ _⟩
end

end Go.Proofs.Ytiomelogggilgaa
end

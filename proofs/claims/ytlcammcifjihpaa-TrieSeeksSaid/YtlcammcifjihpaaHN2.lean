/- Plain: Seek as repeated steps. -/
import Derived.Test.YtlcammcifjihpaaQ7
namespace Go.Proofs.Ytlcammcifjihpaa
open Go.RowKit Go.Sort

/-- j steps on among the siblings. -/
def adv : Pl → Nat → Pl
  | none, _ => none
  | some (q, i), j => some (q, i + j)
/-- How many siblings Seek skips. -/
def dist (d : Nat) (P : List RL.R) (v : RL.V) : Pl → Nat
  | none => 0
  | some (q, i) => if i < (RL.kids d P q).length then max i ((RL.kids d P q).countP fun u => decide (RL.cmpV u v < 0)) - i else 0
theorem adv_zero (x : Pl) : adv x 0 = x := by cases x <;> rfl
theorem seek_adv (d : Nat) (P : List RL.R) (v : RL.V) (x : Pl) : seekX d P v x = adv x (dist d P v x) := by
  cases x with
  | none => rfl
  | some p =>
    obtain ⟨q, i⟩ := p
    unfold seekX adv dist
    dsimp only
    split
    · rw [show i + (max i ((RL.kids d P q).countP fun u => decide (RL.cmpV u v < 0)) - i) = max i ((RL.kids d P q).countP fun u => decide (RL.cmpV u v < 0)) by omega]
    · rfl
theorem dist_le {d : Nat} {P : List RL.R} (v : RL.V) (x : Pl) : dist d P v x ≤ P.length := by
  cases x with
  | none => exact Nat.zero_le _
  | some p =>
    obtain ⟨q, i⟩ := p
    unfold dist
    dsimp only
    have h1 := RL.kids_fit (d := d) (P := P) q
    have h2 := RL.nodes_len d P q.length
    have h3 : ((RL.kids d P q).countP fun u => decide (RL.cmpV u v < 0)) ≤ (RL.kids d P q).length := List.countP_le_length
    split <;> omega
theorem countP_prefix {K : RL.R} {v : RL.V} (h : K.Pairwise fun a b => RL.cmpV a b < 0) {j : Nat} (hj : j < K.length) : RL.cmpV K[j] v < 0 ↔ j < K.countP fun u => decide (RL.cmpV u v < 0) := by
  constructor
  · intro hlt
    rcases Nat.lt_or_ge j (K.countP fun u => decide (RL.cmpV u v < 0)) with h1 | h1
    · exact h1
    · exfalso
      -- the first j + 1 all are less
      have h2 : (K.take (j + 1)).countP (fun u => decide (RL.cmpV u v < 0)) = (K.take (j + 1)).length := List.countP_eq_length.2 fun u hu => by
        obtain ⟨i, hi, rfl⟩ := List.getElem_of_mem hu
        simp at hi
        rw [List.getElem_take]
        simp only [decide_eq_true_eq]
        rcases Nat.lt_or_ge i j with h3 | h3
        · exact RL.tot_cmpV.tr _ _ _ (List.pairwise_iff_getElem.1 h i j (by omega) hj h3) hlt
        · obtain rfl : i = j := by omega
          exact hlt
      have h4 := List.Sublist.countP_le (p := fun u => decide (RL.cmpV u v < 0)) (List.take_sublist (j + 1) K)
      rw [h2, List.length_take] at h4
      omega
  · intro hlt
    rcases Int.lt_or_le (RL.cmpV K[j] v) 0 with h1 | h1
    · exact h1
    · exfalso
      have h2 := countP_ge (v := v) h (q := j) (by omega) (fun _ => by omega)
      omega
section
variable {d : Nat} {P : List RL.R} (hd : ∀ r ∈ P, r.length = d) (v : RL.V)
include hd
/-- Before the end of the steps the key is less; at their end it is not. -/
theorem adv_before {x : Pl} {j : Nat} (hj : j < dist d P v x) : onX d P (adv x j) = true ∧ RL.cmpV (keyV d P (adv x j)) v < 0 ∧ nextX d P (adv x j) = adv x (j + 1) := by
  cases x with
  | none => exact absurd hj (Nat.not_lt_zero _)
  | some p =>
    obtain ⟨q, i⟩ := p
    unfold dist at hj
    dsimp only at hj
    split at hj
    · rename_i hi
      have hc : ((RL.kids d P q).countP fun u => decide (RL.cmpV u v < 0)) ≤ (RL.kids d P q).length := List.countP_le_length
      have hlt : i + j < (RL.kids d P q).length := by omega
      have e1 : keyV d P (adv (some (q, i)) j) = (RL.kids d P q)[i + j] := by
        show (RL.kids d P q).getD (i + j) _ = _
        rw [List.getD_eq_getElem?_getD, List.getElem?_eq_getElem hlt]
        rfl
      refine ⟨by show decide _ = true; simpa using hlt, ?_, ?_⟩
      · rw [e1]
        exact (countP_prefix (RL.kids_asc hd q) hlt).2 (by omega)
      · show (if i + j < _ then _ else _) = _
        rw [if_pos hlt]
        rfl
    · omega
theorem adv_end {x : Pl} (h : onX d P (adv x (dist d P v x)) = true) : ¬ RL.cmpV (keyV d P (adv x (dist d P v x))) v < 0 := by
  cases x with
  | none => cases h
  | some p =>
    obtain ⟨q, i⟩ := p
    have h1 : i + dist d P v (some (q, i)) < (RL.kids d P q).length := by
      have : decide (i + dist d P v (some (q, i)) < (RL.kids d P q).length) = true := h
      simpa using this
    have e1 : keyV d P (adv (some (q, i)) (dist d P v (some (q, i)))) = (RL.kids d P q)[i + dist d P v (some (q, i))] := by
      show (RL.kids d P q).getD _ _ = _
      rw [List.getD_eq_getElem?_getD, List.getElem?_eq_getElem h1]
      rfl
    rw [e1]
    intro hlt
    have h2 := (countP_prefix (RL.kids_asc hd q) h1).1 hlt
    unfold dist at h1 h2
    dsimp only at h1 h2
    split at h2
    · omega
    · rename_i hi
      rw [if_neg hi] at h1
      omega
end

end Go.Proofs.Ytlcammcifjihpaa

/- Plain: two atoms over the same variables; two groups of variables. -/
import Derived.Test.YtiomelogggilgaaQ13
namespace Go.Proofs.Ytiomelogggilgaa
open Go.RowKit Go.Sort

theorem cmpR_pre : ∀ (p p' q q' : RL.R), p.length = p'.length → RL.cmpR p p' < 0 → RL.cmpR (p ++ q) (p' ++ q') < 0
  | [], [], _, _, _, h => by rw [RL.tot_cmpR.self] at h; omega
  | [], _ :: _, _, _, hl, _ => by simp at hl
  | _ :: _, [], _, _, hl, _ => by simp at hl
  | a :: p, b :: p', q, q', hl, h => by
    rw [List.cons_append, List.cons_append, RL.cmpR_cons]
    rw [RL.cmpR_cons] at h
    split
    · rename_i he
      rw [if_pos he] at h
      exact cmpR_pre p p' q q' (by simpa using hl) h
    · rename_i he
      rw [if_neg he] at h
      exact h
/-- All pairs. -/
def prodF (P Q : List RL.R) : List RL.R := P.flatMap fun p => Q.map (p ++ ·)
theorem mem_prodF {P Q : List RL.R} {y : RL.R} : y ∈ prodF P Q ↔ ∃ p ∈ P, ∃ q ∈ Q, p ++ q = y := by
  unfold prodF
  simp [List.mem_flatMap]
theorem prodF_len (Q : List RL.R) : ∀ P : List RL.R, (prodF P Q).length = P.length * Q.length
  | [] => by simp [prodF]
  | p :: P => by
    have := prodF_len Q P
    unfold prodF at *
    rw [List.flatMap_cons, List.length_append, this, List.length_map, List.length_cons, Nat.succ_mul, Nat.add_comm]
theorem prodF_ss {d : Nat} {Q : List RL.R} (hQ : RL.SS Q) : ∀ {P : List RL.R}, RL.SS P → (∀ p ∈ P, p.length = d) → RL.SS (prodF P Q)
  | [], _, _ => List.Pairwise.nil
  | p :: P, hP, hd => by
    have h1 := prodF_ss hQ hP.tail fun x hx => hd x (List.mem_cons_of_mem _ hx)
    unfold prodF at *
    rw [List.flatMap_cons]
    refine List.pairwise_append.2 ⟨List.pairwise_map.2 (hQ.imp fun {a b} h => ?_), h1, fun x hx y hy => ?_⟩
    · rw [RL.cmpR_append_left]; exact h
    · obtain ⟨q, _, rfl⟩ := List.mem_map.1 hx
      obtain ⟨p', hp', hy⟩ := List.mem_flatMap.1 hy
      obtain ⟨q', _, rfl⟩ := List.mem_map.1 hy
      exact cmpR_pre p p' q q' ((hd p List.mem_cons_self).trans (hd p' (List.mem_cons_of_mem _ hp')).symm) (hP.head p' hp')
def at012 (P : List RL.R) : RA := ⟨ints [0, 1, 2], 3, P⟩
def at34 (Q : List RL.R) : RA := ⟨ints [3, 4], 2, Q⟩
theorem sat_vs (l : List Nat) (ar : Int) (P : List RL.R) (y : RL.R) : satA (RA.at ⟨ints l, ar, P⟩) y ↔ l.map (dv y) ∈ P := by
  unfold satA
  show ((ints l).map Int.toNat).map (dv y) ∈ P ↔ _
  rw [ints_nat]
theorem five {y : RL.R} (h : y.length = 5) : y = [0, 1, 2].map (dv y) ++ [3, 4].map (dv y) := by
  rw [← List.map_append]
  exact (range_dv h).symm
theorem dv_app {p q : RL.R} (hp : p.length = 3) (hq : q.length = 2) : [0, 1, 2].map (dv (p ++ q)) = p ∧ [3, 4].map (dv (p ++ q)) = q := by
  have h := five (y := p ++ q) (by rw [List.length_append]; omega)
  have := List.append_inj h (by rw [hp]; rfl)
  exact ⟨this.1.symm, this.2.symm⟩
/-- Groups of atoms without common variables: the product. -/
theorem join_prod {P Q : List RL.R} (hg : Good0 5 [at012 P, at34 Q]) (hP : RL.SS P) (hQ : RL.SS Q) (h3 : ∀ p ∈ P, p.length = 3) (h2 : ∀ q ∈ Q, q.length = 2) : joinF 5 ([at012 P, at34 Q].map RA.at) = prodF P Q := by
  refine RL.SS.ext hg.joinSS (prodF_ss hQ hP h3) fun y => ?_
  rw [hg.mem, mem_prodF]
  constructor
  · intro ⟨hl, hs⟩
    exact ⟨_, (sat_vs _ _ _ _).1 (hs _ (List.mem_cons_self)), _, (sat_vs _ _ _ _).1 (hs (at34 Q) (by simp)), (five hl).symm⟩
  · rintro ⟨p, hp, q, hq, rfl⟩
    obtain ⟨e1, e2⟩ := dv_app (h3 p hp) (h2 q hq)
    refine ⟨by rw [List.length_append, h3 p hp, h2 q hq], fun a ha => ?_⟩
    simp at ha
    rcases ha with rfl | rfl
    · exact (sat_vs _ _ _ _).2 (by rw [e1]; exact hp)
    · exact (sat_vs _ _ _ _).2 (by rw [e2]; exact hq)
/-- Two atoms over the same variables: their intersection. -/
theorem join_meet {P Q M : List RL.R} (hg : Good0 3 [at012 P, at012 Q]) (hm : Good0 3 [at012 M]) (hM : ∀ r, r ∈ M ↔ r ∈ P ∧ r ∈ Q) : joinF 3 ([at012 P, at012 Q].map RA.at) = joinF 3 ([at012 M].map RA.at) := by
  refine hg.ext hm fun y _ => ?_
  constructor
  · intro hs a ha
    simp at ha
    subst ha
    exact (sat_vs _ _ _ _).2 ((hM _).2 ⟨(sat_vs _ _ _ _).1 (hs (at012 P) (by simp)), (sat_vs _ _ _ _).1 (hs (at012 Q) (by simp))⟩)
  · intro hs a ha
    have h := (hM _).1 ((sat_vs _ _ _ _).1 (hs (at012 M) (by simp)))
    simp at ha
    rcases ha with rfl | rfl
    · exact (sat_vs _ _ _ _).2 h.1
    · exact (sat_vs _ _ _ _).2 h.2

end Go.Proofs.Ytiomelogggilgaa

/- Plain: rerooting a tree of parents. -/
import Derived.Test.YtfiegiifoekfmaaJJoin
namespace Go.Proofs.Ytfiegiifoekfmaa.JT

def rerootGo (ps : List Int) : Nat → Int → Int → List Int → List Int
  | 0, _, _, out => out
  | f + 1, a, ab, out => if a < 0 then out else rerootGo ps f (ps[a.toNat]?.getD 0) a (out.set a.toNat ab)
def rerootF (ps : List Int) (root : Int) : List Int := rerootGo ps ps.length root (-1) ps

theorem rerootGo_neg {ps : List Int} {a ab : Int} {out : List Int} (h : a < 0) : ∀ f, rerootGo ps f a ab out = out
  | 0 => rfl
  | f + 1 => by rw [rerootGo, if_pos h]
theorem rerootGo_step {ps : List Int} {v : Nat} {ab : Int} {out : List Int} {f : Nat} (hv : v < ps.length) : rerootGo ps (f + 1) (v : Int) ab out = rerootGo ps f ps[v] (v : Int) (out.set v ab) := by
  rw [rerootGo, if_neg (by omega)]
  simp [hv]
theorem up_pos {ps : List Int} {v : Nat} {f : Nat} (h : up ps f (v : Int) < 0) (hv : v < ps.length) : ∃ g, f = g + 1 ∧ up ps g ps[v] < 0 := by
  cases f with
  | zero => simp [up] at h; omega
  | succ g =>
    refine ⟨g, rfl, ?_⟩
    rw [up_succ hv] at h
    simpa [par, hv] using h

theorem rooted_parts {ps : List Int} (h : rootedB ps = true) : (∀ p ∈ ps, -1 ≤ p ∧ p < ps.length) ∧ rootsF ps = 1 ∧ ∀ i, i < ps.length → up ps ps.length (i : Int) < 0 := by
  unfold rootedB at h
  simp only [Bool.and_eq_true, List.all_eq_true, List.mem_range, decide_eq_true_eq, beq_iff_eq] at h
  refine ⟨?_, h.1.2, h.2⟩
  have h1 := h.1.1
  unfold validB at h1
  simp only [List.all_eq_true, Bool.and_eq_true, decide_eq_true_eq] at h1
  exact h1
theorem rooted_pos {ps : List Int} (h : rootedB ps = true) : 0 < ps.length := by
  have := (rooted_parts h).2.1
  cases ps with
  | nil => simp [rootsF] at this
  | cons => simp

/-! ### The reference's way to the order: the smallest ready node, found from above -/
def dnF (n : Nat) (D : List Nat) : List Bool := (List.range n).map fun u => D.contains u
theorem dnF_length (n : Nat) (D : List Nat) : (dnF n D).length = n := by simp [dnF]
theorem dnF_get (n : Nat) (D : List Nat) (u : Nat) (hu : u < (dnF n D).length) : (dnF n D)[u] = D.contains u := by simp [dnF]
theorem dnF_set (n : Nat) (D : List Nat) (v : Nat) : (dnF n D).set v true = dnF n (D ++ [v]) := by
  apply List.ext_getElem
  · simp [dnF]
  · intro i h1 h2
    rw [List.getElem_set, dnF_get]
    split
    · next h => subst h; rw [dnF_get]; simp
    · next h => rw [dnF_get]; simp; intro e; exact absurd e.symm h
theorem dnF_nil (n : Nat) : dnF n [] = List.replicate n false := by
  apply List.ext_getElem
  · simp [dnF]
  · intro i h1 h2
    rw [dnF_get]; simp

def rdyTo (ps : List Int) (D : List Nat) (i k : Nat) : Bool := !(D.contains i) && (List.range k).all fun k' => !(par ps k' == (i : Int)) || D.contains k'
theorem rdyTo_succ (ps : List Int) (D : List Nat) (i k : Nat) : rdyTo ps D i (k + 1) = (rdyTo ps D i k && (!(par ps k == (i : Int)) || D.contains k)) := by
  unfold rdyTo
  rw [List.range_succ, List.all_append, Bool.and_assoc]
  simp
theorem rdyTo_whole {ps : List Int} {D : List Nat} {i : Nat} (hi : i < ps.length) : rdyTo ps D i ps.length = true ↔ ready ps D i := by
  rw [← readyB_iff]
  unfold rdyTo readyB
  simp [hi]

/-- nx is the smallest ready node from j on, or -1. -/
def NextFrom (ps : List Int) (D : List Nat) (j : Nat) (nx : Int) : Prop := (nx = -1 ∧ ∀ u, j ≤ u → ¬ ready ps D u) ∨ ∃ u : Nat, nx = (u : Int) ∧ ready ps D u ∧ ∀ u', j ≤ u' → u' < u → ¬ ready ps D u'
theorem NextFrom.start (ps : List Int) (D : List Nat) : NextFrom ps D ps.length (-1) := .inl ⟨rfl, fun u hu hr => by have := hr.1; omega⟩
theorem NextFrom.yes {ps : List Int} {D : List Nat} {j : Nat} (hr : ready ps D j) : NextFrom ps D j (j : Int) := .inr ⟨j, rfl, hr, fun u' h1 h2 => by omega⟩
theorem NextFrom.no {ps : List Int} {D : List Nat} {j : Nat} {nx : Int} (h : NextFrom ps D (j + 1) nx) (hr : ¬ ready ps D j) : NextFrom ps D j nx := by
  rcases h with ⟨h1, h2⟩ | ⟨u, h1, h2, h3⟩
  · refine .inl ⟨h1, fun u hu => ?_⟩
    by_cases he : u = j
    · subst he; exact hr
    · exact h2 u (by omega)
  · refine .inr ⟨u, h1, h2, fun u' hu hlt => ?_⟩
    by_cases he : u' = j
    · subst he; exact hr
    · exact h3 u' (by omega) hlt
theorem exists_ready {ps : List Int} {D : List Nat} (hr : rootedB ps = true) (hG : Greedy ps D) (hl : D.length < ps.length) : ∃ u, ready ps D u := by
  refine Classical.byContradiction fun hn => ?_
  have hO : IsOrder ps D := ⟨hG, fun u hu => hn ⟨u, hu⟩⟩
  have h1 := order_unique hO
  obtain ⟨h2, _, h3⟩ := rooted_parts hr
  have h4 := (order_whole h2).2 h3
  rw [← h1] at h4
  omega
theorem NextFrom.found {ps : List Int} {D : List Nat} {nx : Int} (h : NextFrom ps D 0 nx) (hr : rootedB ps = true) (hG : Greedy ps D) (hl : D.length < ps.length) :
    ∃ v : Nat, nx = (v : Int) ∧ v < ps.length ∧ Greedy ps (D ++ [v]) := by
  rcases h with ⟨_, h2⟩ | ⟨u, h1, h2, h3⟩
  · obtain ⟨u, hu⟩ := exists_ready hr hG hl
    exact absurd hu (h2 u (by omega))
  · exact ⟨u, h1, h2.1, hG.snoc h2 fun u' hu' => h3 u' (by omega) hu'⟩
theorem greedy_whole {ps : List Int} {D : List Nat} (hG : Greedy ps D) (hl : ps.length ≤ D.length) : IsOrder ps D := by
  refine ⟨hG, fun u hu => ?_⟩
  have := (hG.snoc' hu)
  omega

end Go.Proofs.Ytfiegiifoekfmaa.JT

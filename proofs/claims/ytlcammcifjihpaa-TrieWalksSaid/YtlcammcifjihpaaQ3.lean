/- Parts of the proof, merged: TPlain, I1, I2, I3, I4, E7, I5. -/
import Derived.Test.YtlcammcifjihpaaQ2
import Derived.StillTailTactics
import Derived.Outline
import Derived.IntWalk
import Derived.Test.YtlcammcifjihpaaQ1
import Derived.Deep.RegionHeld3

section
/- Plain: the nodes of a trie over ascending rows, level by level, and where the children of a node lie. -/
namespace Go.Proofs.Ytlcammcifjihpaa.RL

theorem cmpR_nil_le (y : R) : cmpR [] y ≤ 0 := by cases y <;> simp [cmpR, cmpL]
theorem cmpR_cons (a b : V) (x y : R) : cmpR (a :: x) (b :: y) = if cmpV a b = 0 then cmpR x y else cmpV a b := rfl
theorem take_mono : ∀ (n : Nat) (x y : R), cmpR x y ≤ 0 → cmpR (x.take n) (y.take n) ≤ 0
  | 0, x, y, _ => by simp [tot_cmpR.self]
  | n + 1, [], y, _ => by rw [List.take_nil]; exact cmpR_nil_le _
  | n + 1, a :: x, [], h => by simp [cmpR, cmpL] at h
  | n + 1, a :: x, b :: y, h => by
    rw [List.take_succ_cons, List.take_succ_cons, cmpR_cons]
    rw [cmpR_cons] at h
    split at h
    · rename_i e; rw [if_pos e]; exact take_mono n x y h
    · rename_i e; rw [if_neg e]; exact h
theorem take_le_self : ∀ (x : R) (m n : Nat), m ≤ n → cmpR (x.take m) (x.take n) ≤ 0
  | [], m, n, _ => by simp [tot_cmpR.self]
  | a :: x, 0, n, _ => by rw [List.take_zero]; exact cmpR_nil_le _
  | a :: x, m + 1, 0, h => by omega
  | a :: x, m + 1, n + 1, h => by
    rw [List.take_succ_cons, List.take_succ_cons, cmpR_cons, if_pos (tot_cmpV.self a)]
    exact take_le_self x m n (by omega)
/-- A strict comparison of two rows of one length is not turned by what stands behind them. -/
theorem lt_ext : ∀ (a b s t : R), a.length = b.length → cmpR a b < 0 → cmpR (a ++ s) (b ++ t) < 0
  | [], [], _, _, _, h => by simp [cmpR, cmpL] at h
  | [], _ :: _, _, _, hl, _ => by simp at hl
  | _ :: _, [], _, _, hl, _ => by simp at hl
  | a :: x, b :: y, s, t, hl, h => by
    rw [List.cons_append, List.cons_append, cmpR_cons]
    rw [cmpR_cons] at h
    split at h
    · rename_i e; rw [if_pos e]; exact lt_ext x y s t (by simpa using hl) h
    · rename_i e; rw [if_neg e]; exact h

/-- How many values two rows have in common at their beginning. -/
def sharedN : R → R → Nat
  | a :: x, b :: y => if a = b then sharedN x y + 1 else 0
  | [], _ => 0
  | _ :: _, [] => 0
theorem sharedN_take : ∀ (x y : R) (l : Nat), l ≤ sharedN x y → x.take l = y.take l
  | [], y, l, h => by simp [sharedN] at h; subst h; simp
  | a :: x, [], l, h => by simp [sharedN] at h; subst h; simp
  | a :: x, b :: y, 0, _ => by simp
  | a :: x, b :: y, l + 1, h => by
    unfold sharedN at h
    split at h
    · rename_i e
      rw [List.take_succ_cons, List.take_succ_cons, e, sharedN_take x y l (by omega)]
    · omega
theorem sharedN_ne : ∀ (x y : R) (l : Nat), sharedN x y < l → l ≤ x.length → l ≤ y.length → x.take l ≠ y.take l
  | [], y, l, h, h1, _ => by simp at h1; omega
  | a :: x, [], l, h, _, h2 => by simp at h2; omega
  | a :: x, b :: y, 0, h, _, _ => by omega
  | a :: x, b :: y, l + 1, h, h1, h2 => by
    unfold sharedN at h
    rw [List.take_succ_cons, List.take_succ_cons]
    intro e
    injection e with e1 e2
    rw [if_pos e1] at h
    exact sharedN_ne x y l (by omega) (by simpa using h1) (by simpa using h2) e2
theorem sharedN_le : ∀ (x y : R), sharedN x y ≤ x.length
  | [], y => by simp [sharedN]
  | a :: x, [] => by simp [sharedN]
  | a :: x, b :: y => by
    unfold sharedN
    have := sharedN_le x y
    split <;> simp <;> omega

/-- The nodes of a level: the distinct beginnings of the rows. -/
def nodes (d : Nat) (P : List R) (l : Nat) : List R := if l < d then ofF (P.map (List.take (l + 1))) else []
theorem nodes_ss (d : Nat) (P : List R) (l : Nat) : SS (nodes d P l) := by
  unfold nodes
  split
  · exact SS.of _
  · exact ss_nil
theorem mem_nodes {d : Nat} {P : List R} {l : Nat} (hl : l < d) (q : R) : q ∈ nodes d P l ↔ ∃ y ∈ P, y.take (l + 1) = q := by
  unfold nodes
  rw [if_pos hl, mem_ofF, List.mem_map]
theorem nodes_out {d : Nat} {P : List R} {l : Nat} (hl : d ≤ l) : nodes d P l = [] := by unfold nodes; rw [if_neg (by omega)]
theorem nodes_len (d : Nat) (P : List R) (l : Nat) : (nodes d P l).length ≤ P.length := by
  unfold nodes
  split
  · have := ofF_length_le (P.map (List.take (l + 1))); simpa using this
  · simp
theorem nodes_nil (d l : Nat) : nodes d [] l = [] := by unfold nodes; split <;> rfl
theorem mem_nodes_len {d : Nat} {P : List R} (hd : ∀ r ∈ P, r.length = d) {l : Nat} {q : R} (h : q ∈ nodes d P l) : q.length = l + 1 := by
  by_cases hl : l < d
  · obtain ⟨y, hy, rfl⟩ := (mem_nodes hl q).1 h
    have := hd y hy
    simp; omega
  · rw [nodes_out (by omega)] at h; cases h

theorem insF_end {L : List R} {a : R} (h : ∀ y ∈ L, cmpR y a < 0) : insF L a = L ++ [a] := by
  unfold insF
  have hn : ¬ a ∈ L := fun hm => by have := h a hm; rw [tot_cmpR.self] at this; omega
  rw [if_neg hn]
  have hr : rank L a = L.length := List.countP_eq_length.2 fun y hy => by simpa using h y hy
  rw [hr, List.take_length, List.drop_length]
theorem ofF_append (X : List R) (r : R) : ofF (X ++ [r]) = insF (ofF X) r := by unfold ofF; rw [List.foldl_append]; rfl
theorem nodes_same {d : Nat} {P : List R} {x : R} {l : Nat} (h : ∃ y ∈ P, y.take (l + 1) = x.take (l + 1)) : nodes d (P ++ [x]) l = nodes d P l := by
  unfold nodes
  split
  · rw [List.map_append, List.map_singleton, ofF_append]
    unfold insF
    rw [if_pos]
    rw [mem_ofF, List.mem_map]
    exact h
  · rfl
theorem nodes_new {d : Nat} {P : List R} {x : R} {l : Nat} (hl : l < d) (h : ∀ y ∈ P, cmpR (y.take (l + 1)) (x.take (l + 1)) < 0) : nodes d (P ++ [x]) l = nodes d P l ++ [x.take (l + 1)] := by
  unfold nodes
  rw [if_pos hl, if_pos hl, List.map_append, List.map_singleton, ofF_append]
  apply insF_end
  intro q hq
  rw [mem_ofF, List.mem_map] at hq
  obtain ⟨y, hy, rfl⟩ := hq
  exact h y hy

theorem rank_append_ge {L : List R} {q p : R} (h : 0 ≤ cmpR q p) : rank (L ++ [q]) p = rank L p := by
  unfold rank
  rw [List.countP_append, List.countP_singleton, if_neg (by simpa using h)]
  rfl
section
variable {d : Nat} {P : List R} {x : R} (hS : SS (P ++ [x])) (hd : ∀ r ∈ P ++ [x], r.length = d)
include hS hd
theorem shared_lt {l : Nat} (hl : l < d) (h : sharedN (P.getLastD []) x ≤ l) : ∀ y ∈ P, cmpR (y.take (l + 1)) (x.take (l + 1)) < 0 := by
  intro y hy
  rcases List.eq_nil_or_concat P with rfl | ⟨Q, z, rfl⟩
  · cases hy
  · simp only [List.concat_eq_append] at *
    rw [List.getLastD_concat] at h
    have hz : z.length = d := hd z (by simp)
    have hx : x.length = d := hd x (by simp)
    have hzx : cmpR z x < 0 := by
      unfold SS at hS
      rw [List.pairwise_append] at hS
      exact hS.2.2 z (by simp) x (by simp)
    have h1 : cmpR (z.take (l + 1)) (x.take (l + 1)) < 0 := by
      have h2 := take_mono (l + 1) z x (by omega)
      have h3 := sharedN_ne z x (l + 1) (by omega) (by omega) (by omega)
      rcases Int.lt_or_eq_of_le h2 with h4 | h4
      · exact h4
      · exact absurd ((tot_cmpR.z _ _).1 h4) h3
    have h5 : cmpR y z ≤ 0 := by
      rw [List.mem_append, List.mem_singleton] at hy
      rcases hy with hy | rfl
      · unfold SS at hS
        rw [List.pairwise_append, List.pairwise_append] at hS
        exact Int.le_of_lt (hS.1.2.2 y hy z (by simp))
      · rw [tot_cmpR.self]; omega
    exact tot_cmpR.lt_of_le_of_lt (take_mono (l + 1) y z h5) h1
theorem nodes_snoc {l : Nat} (hl : l < d) : nodes d (P ++ [x]) l = if l < sharedN (P.getLastD []) x then nodes d P l else nodes d P l ++ [x.take (l + 1)] := by
  split
  · rename_i h
    apply nodes_same
    rcases List.eq_nil_or_concat P with rfl | ⟨Q, z, rfl⟩
    · simp [sharedN] at h
    · simp only [List.concat_eq_append] at *
      rw [List.getLastD_concat] at h
      exact ⟨z, by simp, sharedN_take z x (l + 1) (by omega)⟩
  · rename_i h
    exact nodes_new hl (shared_lt hS hd hl (by omega))
omit hS hd in
theorem node_le {l : Nat} {p : R} (hP : ∀ y ∈ P, cmpR y x < 0) (hl : l < d) (hp : p ∈ nodes d P l) : cmpR p (x.take (l + 1)) ≤ 0 := by
  obtain ⟨y, hy, rfl⟩ := (mem_nodes hl p).1 hp
  exact take_mono (l + 1) y x (by have := hP y hy; omega)
end

/-- Where the children of each node of a level begin in the next level. -/
def firsts (d : Nat) (P : List R) (l : Nat) : List Nat := (nodes d P l).map (rank (nodes d P (l + 1)))

section
variable {d : Nat} {P : List R} {x : R} (hS : SS (P ++ [x])) (hd : ∀ r ∈ P ++ [x], r.length = d)
include hS hd
theorem rank_step {l : Nat} {p : R} (hl : l < d) (hp : cmpR p (x.take (l + 1)) ≤ 0) : rank (nodes d (P ++ [x]) (l + 1)) p = rank (nodes d P (l + 1)) p := by
  by_cases hl1 : l + 1 < d
  · rw [nodes_snoc hS hd hl1]
    split
    · rfl
    · apply rank_append_ge
      have h1 := tot_cmpR.le_trans hp (take_le_self x (l + 1) (l + 1 + 1) (by omega))
      rw [tot_cmpR.sw p]
      omega
  · rw [nodes_out (by omega), nodes_out (by omega)]
theorem firsts_snoc {l : Nat} (hl : l < d) : firsts d (P ++ [x]) l = if l < sharedN (P.getLastD []) x then firsts d P l else firsts d P l ++ [(nodes d P (l + 1)).length] := by
  have hPx : ∀ y ∈ P, cmpR y x < 0 := fun y hy => by
    unfold SS at hS
    rw [List.pairwise_append] at hS
    exact hS.2.2 y hy x (by simp)
  have hold : (nodes d P l).map (rank (nodes d (P ++ [x]) (l + 1))) = (nodes d P l).map (rank (nodes d P (l + 1))) := by
    apply List.map_congr_left
    intro p hp
    exact rank_step hS hd hl (node_le hPx hl hp)
  unfold firsts
  rw [nodes_snoc hS hd hl]
  by_cases h : l < sharedN (P.getLastD []) x
  · rw [if_pos h, if_pos h]
    exact hold
  · rw [if_neg h, if_neg h, List.map_append, hold, List.map_singleton]
    congr 2
    rw [rank_step hS hd hl (by rw [tot_cmpR.self]; omega)]
    apply List.countP_eq_length.2
    intro q hq
    by_cases hl1 : l + 1 < d
    · obtain ⟨y, hy, rfl⟩ := (mem_nodes hl1 q).1 hq
      have h1 := shared_lt hS hd hl (by omega) y hy
      have hyl : y.length = d := hd y (by simp [hy])
      have hxl : x.length = d := hd x (by simp)
      have h2 := lt_ext (y.take (l + 1)) (x.take (l + 1)) ((y.take (l + 2)).drop (l + 1)) [] (by simp; omega) h1
      have e : y.take (l + 1) ++ (y.take (l + 2)).drop (l + 1) = y.take (l + 2) := by
        conv => rhs; rw [← List.take_append_drop (l + 1) (y.take (l + 2))]
        rw [List.take_take, Nat.min_eq_left (by omega)]
      rw [e, List.append_nil] at h2
      simpa using h2
    · rw [nodes_out (by omega)] at hq; cases hq
end
theorem firsts_nil (d l : Nat) : firsts d [] l = [] := by unfold firsts; rw [nodes_nil d l]; rfl

section
variable {d : Nat} {P : List R} (hd : ∀ r ∈ P, r.length = d)
include hd
omit hd in
/-- A node's beginning is a node one level up. -/
theorem parent_mem {l : Nat} (hl : l + 1 < d) {q : R} (hq : q ∈ nodes d P (l + 1)) : q.take (l + 1) ∈ nodes d P l := by
  obtain ⟨y, hy, rfl⟩ := (mem_nodes hl q).1 hq
  refine (mem_nodes (by omega) _).2 ⟨y, hy, ?_⟩
  rw [List.take_take, Nat.min_eq_left (by omega)]
omit hd in
/-- Every node has a child. -/
theorem child_mem {l : Nat} (hl : l + 1 < d) {p : R} (hp : p ∈ nodes d P l) : ∃ q ∈ nodes d P (l + 1), q.take (l + 1) = p := by
  obtain ⟨y, hy, rfl⟩ := (mem_nodes (by omega) p).1 hp
  refine ⟨y.take (l + 2), (mem_nodes hl _).2 ⟨y, hy, rfl⟩, ?_⟩
  rw [List.take_take, Nat.min_eq_left (by omega)]
/-- A node one level down against a node: its beginning tells. -/
theorem child_cmp {l : Nat} {q p : R} (hq : q ∈ nodes d P (l + 1)) (hp : p.length = l + 1) : (cmpR q p < 0 ↔ cmpR (q.take (l + 1)) p < 0) ∧ (beginsB q p = true ↔ q.take (l + 1) = p) := by
  have hql := mem_nodes_len hd hq
  have e : q.take (l + 1) ++ q.drop (l + 1) = q := List.take_append_drop _ _
  refine ⟨⟨fun h => ?_, fun h => ?_⟩, ?_⟩
  · rcases Int.lt_or_le (cmpR (q.take (l + 1)) p) 0 with h1 | h1
    · exact h1
    · exfalso
      have h2 : cmpR p (q.take (l + 1)) ≤ 0 := by rw [tot_cmpR.sw]; omega
      have h3 := tot_cmpR.le_trans h2 (by have := take_le_self q (l + 1) q.length (by omega); rw [List.take_length] at this; exact this)
      rw [tot_cmpR.sw] at h3
      omega
  · have h2 := lt_ext (q.take (l + 1)) p (q.drop (l + 1)) [] (by simp; omega) h
    rw [e, List.append_nil] at h2
    exact h2
  · unfold beginsB
    rw [hp]
    simp only [Bool.and_eq_true, decide_eq_true_eq]
    exact ⟨fun h => h.2, fun h => ⟨by omega, h⟩⟩
/-- The children of a node end where those of the next node begin. -/
theorem firsts_next {l : Nat} (hl : l + 1 < d) {i : Nat} (hi : i + 1 < (nodes d P l).length) :
    rank (nodes d P (l + 1)) (nodes d P l)[i + 1] = rank (nodes d P (l + 1)) ((nodes d P l)[i]'(by omega)) + manyB (nodes d P (l + 1)) ((nodes d P l)[i]'(by omega)) := by
  have hN := nodes_ss d P (l + 1)
  have hM := nodes_ss d P l
  have hi0 : i < (nodes d P l).length := by omega
  have hpl : ((nodes d P l)[i]).length = l + 1 := mem_nodes_len hd (List.getElem_mem hi0)
  have hpl2 : ((nodes d P l)[i + 1]).length = l + 1 := mem_nodes_len hd (List.getElem_mem hi)
  have hlt := hM.get (show i < i + 1 by omega) hi
  obtain ⟨a1, a2⟩ := rank_split hN ((nodes d P l)[i])
  obtain ⟨b1, b2⟩ := rank_split hN ((nodes d P l)[i + 1])
  have hle : rank (nodes d P (l + 1)) ((nodes d P l)[i]) ≤ rank (nodes d P (l + 1)) ((nodes d P l)[i + 1]) := by
    unfold rank
    apply List.countP_mono_left
    intro q _ hq
    simp only [decide_eq_true_eq] at hq ⊢
    exact tot_cmpR.tr _ _ _ hq hlt
  have hbl := rank_le (nodes d P (l + 1)) ((nodes d P l)[i + 1])
  have key := manyB_eq hN ((nodes d P l)[i]) (j := rank (nodes d P (l + 1)) ((nodes d P l)[i + 1]) - rank (nodes d P (l + 1)) ((nodes d P l)[i])) (by omega) ?_ ?_
  · omega
  · intro k hk hkj
    have hq := List.getElem_mem hk
    obtain ⟨c1, c2⟩ := child_cmp hd hq hpl
    obtain ⟨c3, _⟩ := child_cmp hd hq hpl2
    have hge := a2 _ hk (by omega)
    have hlt2 := c3.1 (b1 _ hk (by omega))
    refine c2.2 ?_
    -- its beginning is a node between the two
    obtain ⟨j, hj, e⟩ := List.getElem_of_mem (parent_mem hl hq)
    rw [← e] at hlt2 c1 ⊢
    have hji : j ≤ i := by
      refine Classical.byContradiction fun hn => ?_
      rcases Nat.lt_or_ge (i + 1) j with h1 | h1
      · have := hM.get h1 hj
        rw [tot_cmpR.sw] at this
        omega
      · obtain rfl : j = i + 1 := by omega
        rw [tot_cmpR.self] at hlt2
        omega
    rcases Nat.lt_or_ge j i with h1 | h1
    · have := c1.2 (hM.get h1 hi0)
      omega
    · obtain rfl : j = i := by omega
      rfl
  · intro hk
    have hq := List.getElem_mem hk
    obtain ⟨_, c2⟩ := child_cmp hd hq hpl
    obtain ⟨c3, _⟩ := child_cmp hd hq hpl2
    have hge := b2 _ hk (by omega)
    cases hb : beginsB (nodes d P (l + 1))[rank (nodes d P (l + 1)) ((nodes d P l)[i]) + (rank (nodes d P (l + 1)) ((nodes d P l)[i + 1]) - rank (nodes d P (l + 1)) ((nodes d P l)[i]))] ((nodes d P l)[i])
    · rfl
    · exfalso
      have := c3.2 (by rw [c2.1 hb]; exact hlt)
      omega
theorem firsts_last {l : Nat} (hl : l + 1 < d) {i : Nat} (hi : i + 1 = (nodes d P l).length) :
    (nodes d P (l + 1)).length = rank (nodes d P (l + 1)) ((nodes d P l)[i]'(by omega)) + manyB (nodes d P (l + 1)) ((nodes d P l)[i]'(by omega)) := by
  have hN := nodes_ss d P (l + 1)
  have hM := nodes_ss d P l
  have hi0 : i < (nodes d P l).length := by omega
  have hpl : ((nodes d P l)[i]).length = l + 1 := mem_nodes_len hd (List.getElem_mem hi0)
  obtain ⟨a1, a2⟩ := rank_split hN ((nodes d P l)[i])
  have hbl := rank_le (nodes d P (l + 1)) ((nodes d P l)[i])
  have key := manyB_eq hN ((nodes d P l)[i]) (j := (nodes d P (l + 1)).length - rank (nodes d P (l + 1)) ((nodes d P l)[i])) (by omega) ?_ (fun hk => by omega)
  · omega
  · intro k hk hkj
    have hq := List.getElem_mem hk
    obtain ⟨c1, c2⟩ := child_cmp hd hq hpl
    have hge := a2 _ hk (by omega)
    refine c2.2 ?_
    obtain ⟨j, hj, e⟩ := List.getElem_of_mem (parent_mem hl hq)
    rw [← e] at c1 ⊢
    rcases Nat.lt_or_ge j i with h1 | h1
    · have := c1.2 (hM.get h1 hi0)
      omega
    · obtain rfl : j = i := by omega
      rfl
end

end Go.Proofs.Ytlcammcifjihpaa.RL
end

section
/- Words for tries and iterators in memory; walks: onValue, Level, Steps, Depth, size, Iter. -/
namespace Go.Proofs.Ytlcammcifjihpaa
open Go.RowKit Go.Sort

/-- The levels of a trie in memory: the values of each level, and where the children of each node begin. -/
def TrM (B : Nat) (w : World) (LA : Option Addr) (d : Nat) (vs : Nat → RL.R) (fs : Nat → List Nat) : Prop :=
  ∀ l, l < d → ∃ b o VA VC FA FC, LA = some ⟨b, o, none⟩ ∧ b < B ∧ w.cell? ⟨b, o + l * 2, none⟩ = some (.slice VA (vs l).length VC) ∧ w.cell? ⟨b, o + l * 2 + 1, none⟩ = some (.slice FA (fs l).length FC) ∧ (vs l).length ≤ VC ∧ VC ≤ 9223372036854775807 ∧ SlR B w VA (vs l) ∧ SlN .i64 B w FA (fs l)
theorem TrM.keep {B : Nat} {w w' : World} {LA : Option Addr} {d : Nat} {vs : Nat → RL.R} {fs : Nat → List Nat} (h : TrM B w LA d vs fs) (hk : ∀ p : Addr, p.block < B → w'.cell? p = w.cell? p) : TrM B w' LA d vs fs := fun l hl => by
  obtain ⟨b, o, VA, VC, FA, FC, h1, h2, h3, h4, h5, h6, h7, h8⟩ := h l hl
  exact ⟨b, o, VA, VC, FA, FC, h1, h2, (hk ⟨b, o + l * 2, none⟩ h2).trans h3, (hk ⟨b, o + l * 2 + 1, none⟩ h2).trans h4, h5, h6, Sl.keep h7 hk, Sl.keep h8 hk⟩
theorem TrM.grown {B g : Nat} {w w' : World} {LA : Option Addr} {d : Nat} {vs : Nat → RL.R} {fs : Nat → List Nat} (h : TrM B w LA d vs fs) (hg : w.grownBy w' (some g)) (hB : B ≤ g) (hz : B ≤ w.heap.size) : TrM B w' LA d vs fs :=
  h.keep fun _p hp => (below_of_grown hg hB hz).cell hp
theorem TrM.below {B C : Nat} {w w' : World} {LA : Option Addr} {d : Nat} {vs : Nat → RL.R} {fs : Nat → List Nat} (h : TrM B w LA d vs fs) (hb : Below C w w') (hB : B ≤ C) : TrM B w' LA d vs fs :=
  h.keep fun p hp => hb.cell (by omega)
theorem TrM.more {B B' : Nat} {w : World} {LA : Option Addr} {d : Nat} {vs : Nat → RL.R} {fs : Nat → List Nat} (h : TrM B w LA d vs fs) (hB : B ≤ B') : TrM B' w LA d vs fs := fun l hl => by
  obtain ⟨b, o, VA, VC, FA, FC, h1, h2, h3, h4, h5, h6, h7, h8⟩ := h l hl
  exact ⟨b, o, VA, VC, FA, FC, h1, by omega, h3, h4, h5, h6, Sl.more h7 hB, Sl.more h8 hB⟩

/-- An iterator: its level, its place among its siblings and their end, its steps, the places above. -/
structure It where
  L : Nat
  pos : Nat
  fin : Nat
  steps : Nat
  ab : Nat → Nat × Nat
/-- The cells of an iterator. -/
def ItC (xs : List Value) (LA : Option Addr) (d C : Nat) (t : It) : Prop :=
  xs.length = 69 ∧ xs[0]? = some (.slice LA d C) ∧ xs[1]? = some (.int .i64 t.L) ∧ xs[2]? = some (.int .i64 t.pos) ∧ xs[3]? = some (.int .i64 t.fin) ∧ (∀ j, j < 32 → xs[4 + j * 2]? = some (.int .i64 (t.ab j).1) ∧ xs[4 + j * 2 + 1]? = some (.int .i64 (t.ab j).2)) ∧ xs[68]? = some (.int .i64 t.steps)
/-- An iterator in memory. -/
def ItM (w : World) (g : Nat) (LA : Option Addr) (d C : Nat) (t : It) : Prop := ∃ xs, Row w g 71 xs ∧ ItC xs LA d C t

section
variable {w w' : World} {g : Nat} {LA : Option Addr} {d C : Nat} {t : It} {xs : List Value}
theorem ItM.lt (h : ItM w g LA d C t) : g < w.heap.size := by obtain ⟨xs, h1, _⟩ := h; exact h1.lt
theorem ItM.c0 (h : ItM w g LA d C t) : w.cell? ⟨g, 0, none⟩ = some (.slice LA d C) := by obtain ⟨xs, h1, h2⟩ := h; rw [h1.cell]; exact h2.2.1
theorem ItM.c1 (h : ItM w g LA d C t) : w.cell? ⟨g, 1, none⟩ = some (.int .i64 t.L) := by obtain ⟨xs, h1, h2⟩ := h; rw [h1.cell]; exact h2.2.2.1
theorem ItM.c2 (h : ItM w g LA d C t) : w.cell? ⟨g, 2, none⟩ = some (.int .i64 t.pos) := by obtain ⟨xs, h1, h2⟩ := h; rw [h1.cell]; exact h2.2.2.2.1
theorem ItM.c3 (h : ItM w g LA d C t) : w.cell? ⟨g, 3, none⟩ = some (.int .i64 t.fin) := by obtain ⟨xs, h1, h2⟩ := h; rw [h1.cell]; exact h2.2.2.2.2.1
theorem ItM.ca (h : ItM w g LA d C t) {j : Nat} (hj : j < 32) : w.cell? ⟨g, 4 + j * 2, none⟩ = some (.int .i64 (t.ab j).1) ∧ w.cell? ⟨g, 4 + j * 2 + 1, none⟩ = some (.int .i64 (t.ab j).2) := by
  obtain ⟨xs, h1, h2⟩ := h
  rw [h1.cell, h1.cell]
  exact h2.2.2.2.2.2.1 j hj
theorem ItM.c68 (h : ItM w g LA d C t) : w.cell? ⟨g, 68, none⟩ = some (.int .i64 t.steps) := by obtain ⟨xs, h1, h2⟩ := h; rw [h1.cell]; exact h2.2.2.2.2.2.2
theorem ItM.fr (h : ItM w g LA d C t) (o : Nat) : w.frozen? ⟨g, o, none⟩ = false := by obtain ⟨xs, h1, _⟩ := h; exact h1.frozen o
theorem ItM.up (h : ItM w g LA d C t) (hb : Below w.heap.size w w') : ItM w' g LA d C t := by obtain ⟨xs, h1, h2⟩ := h; exact ⟨xs, h1.up hb, h2⟩
theorem ItM.ext (h : ItM w g LA d C t) (hb : Ext w w') : ItM w' g LA d C t := h.up hb.below
theorem ItM.grown {row : Option Nat} (h : ItM w g LA d C t) (hb : w.grownBy w' row) (hne : some g ≠ row) : ItM w' g LA d C t := by obtain ⟨xs, h1, h2⟩ := h; exact ⟨xs, h1.grown hb hne, h2⟩
theorem ItM.setL (h : ItM w g LA d C t) (n : Nat) : ItM (w.setCell ⟨g, 1, none⟩ (.int .i64 n)) g LA d C { t with L := n } := by
  obtain ⟨xs, h1, hl, h2, h3, h4, h5, h6, h7⟩ := h
  refine ⟨_, h1.set 1 _, by simpa using hl, ?_, ?_, ?_, ?_, fun j hj => ?_, ?_⟩
  · rw [List.getElem?_set_ne (by omega)]; exact h2
  · rw [List.getElem?_set_self (by omega)]
  · rw [List.getElem?_set_ne (by omega)]; exact h4
  · rw [List.getElem?_set_ne (by omega)]; exact h5
  · rw [List.getElem?_set_ne (by omega), List.getElem?_set_ne (by omega)]; exact h6 j hj
  · rw [List.getElem?_set_ne (by omega)]; exact h7
theorem ItM.setPos (h : ItM w g LA d C t) (n : Nat) : ItM (w.setCell ⟨g, 2, none⟩ (.int .i64 n)) g LA d C { t with pos := n } := by
  obtain ⟨xs, h1, hl, h2, h3, h4, h5, h6, h7⟩ := h
  refine ⟨_, h1.set 2 _, by simpa using hl, ?_, ?_, ?_, ?_, fun j hj => ?_, ?_⟩
  · rw [List.getElem?_set_ne (by omega)]; exact h2
  · rw [List.getElem?_set_ne (by omega)]; exact h3
  · rw [List.getElem?_set_self (by omega)]
  · rw [List.getElem?_set_ne (by omega)]; exact h5
  · rw [List.getElem?_set_ne (by omega), List.getElem?_set_ne (by omega)]; exact h6 j hj
  · rw [List.getElem?_set_ne (by omega)]; exact h7
theorem ItM.setFin (h : ItM w g LA d C t) (n : Nat) : ItM (w.setCell ⟨g, 3, none⟩ (.int .i64 n)) g LA d C { t with fin := n } := by
  obtain ⟨xs, h1, hl, h2, h3, h4, h5, h6, h7⟩ := h
  refine ⟨_, h1.set 3 _, by simpa using hl, ?_, ?_, ?_, ?_, fun j hj => ?_, ?_⟩
  · rw [List.getElem?_set_ne (by omega)]; exact h2
  · rw [List.getElem?_set_ne (by omega)]; exact h3
  · rw [List.getElem?_set_ne (by omega)]; exact h4
  · rw [List.getElem?_set_self (by omega)]
  · rw [List.getElem?_set_ne (by omega), List.getElem?_set_ne (by omega)]; exact h6 j hj
  · rw [List.getElem?_set_ne (by omega)]; exact h7
theorem ItM.setSteps (h : ItM w g LA d C t) (n : Nat) : ItM (w.setCell ⟨g, 68, none⟩ (.int .i64 n)) g LA d C { t with steps := n } := by
  obtain ⟨xs, h1, hl, h2, h3, h4, h5, h6, h7⟩ := h
  refine ⟨_, h1.set 68 _, by simpa using hl, ?_, ?_, ?_, ?_, fun j hj => ?_, ?_⟩
  · rw [List.getElem?_set_ne (by omega)]; exact h2
  · rw [List.getElem?_set_ne (by omega)]; exact h3
  · rw [List.getElem?_set_ne (by omega)]; exact h4
  · rw [List.getElem?_set_ne (by omega)]; exact h5
  · rw [List.getElem?_set_ne (by omega), List.getElem?_set_ne (by omega)]; exact h6 j hj
  · rw [List.getElem?_set_self (by omega)]
/-- The place above at a level is laid down. -/
theorem ItM.setAb (h : ItM w g LA d C t) {k : Nat} (hk : k < 32) (p f : Nat) : ItM ((w.setCell ⟨g, 4 + k * 2, none⟩ (.int .i64 p)).setCell ⟨g, 4 + k * 2 + 1, none⟩ (.int .i64 f)) g LA d C { t with ab := fun j => if j = k then (p, f) else t.ab j } := by
  obtain ⟨xs, h1, hl, h2, h3, h4, h5, h6, h7⟩ := h
  refine ⟨_, (h1.set _ _).set _ _, by simpa using hl, ?_, ?_, ?_, ?_, fun j hj => ?_, ?_⟩
  · rw [List.getElem?_set_ne (by omega), List.getElem?_set_ne (by omega)]; exact h2
  · rw [List.getElem?_set_ne (by omega), List.getElem?_set_ne (by omega)]; exact h3
  · rw [List.getElem?_set_ne (by omega), List.getElem?_set_ne (by omega)]; exact h4
  · rw [List.getElem?_set_ne (by omega), List.getElem?_set_ne (by omega)]; exact h5
  · by_cases e : j = k
    · subst e
      simp only [if_true]
      refine ⟨?_, ?_⟩
      · rw [List.getElem?_set_ne (by omega), List.getElem?_set_self (by omega)]
      · rw [List.getElem?_set_self (by simp; omega)]
    · simp only [if_neg e]
      rw [List.getElem?_set_ne (by omega), List.getElem?_set_ne (by omega), List.getElem?_set_ne (by omega), List.getElem?_set_ne (by omega)]
      exact h6 j hj
  · rw [List.getElem?_set_ne (by omega), List.getElem?_set_ne (by omega)]; exact h7
end

theorem tiOnValue_nil (w : World) : Calls Try.prog 31 #[.pointer none] w fun e w' => e = .returned (.bool false) ∧ Ext w w' := by
  go_enter Try.func31, Try.ntmps31
  go_wp2
  go_quiet (fail)
  go_wp2
  go_ret
  exact ⟨rfl, (Ext.refl w).drewN _⟩

set_option maxHeartbeats 400000 in
set_option maxRecDepth 100000 in
theorem tiOnValue_any (g : Nat) (LA : Option Addr) (d C : Nat) (t : It) (w : World) (h : ItM w g LA d C t) :
    Calls Try.prog 31 #[.pointer (some ⟨g, 0, none⟩)] w fun e w' => e = .returned (.bool (decide (0 < t.L) && decide (t.pos < t.fin))) ∧ Ext w w' := by
  have c1 := h.c1
  have c2 := h.c2
  have c3 := h.c3
  clear h
  obtain ⟨L, pos, fin, steps, ab⟩ := t
  simp only at c1 c2 c3 ⊢
  by_cases h0 : 0 < L
  rotate_left
  · obtain rfl : L = 0 := by omega
    clear h0
    simp only [Int.natCast_zero] at c1
    go_enter Try.func31, Try.ntmps31
    go_wp2
    go_quiet (fail)
    go_wp2
    go_ret
    exact ⟨rfl, (Ext.refl w).drewN _⟩
  · have hd0 : decide ((0 : Int) < (L : Int)) = true := by simpa using h0
    by_cases h1 : pos < fin
    · have hd1 : decide ((pos : Int) < (fin : Int)) = true := by simpa using h1
      have HD : Hid ((decide (0 < L) && decide (pos < fin)) = true) := by show _ = _; simp [h0, h1]
      rw [HD.out]
      go_enter Try.func31, Try.ntmps31
      go_wp2
      go_quiet (fail)
      go_wp2
      go_ret
      exact ⟨rfl, (Ext.refl w).drewN _⟩
    · have hd1 : decide ((pos : Int) < (fin : Int)) = false := by simpa using h1
      have hd2 : decide (pos < fin) = false := by simpa using h1
      have HD : Hid ((decide (0 < L) && decide (pos < fin)) = false) := by show _ = _; simp [h1]
      rw [HD.out]
      go_enter Try.func31, Try.ntmps31
      go_wp2
      go_quiet (fail)
      go_wp2
      go_ret
      exact ⟨rfl, (Ext.refl w).drewN _⟩

end Go.Proofs.Ytlcammcifjihpaa
end

section
/- Walks: Level, Steps, Depth, size, value, less, Key, Next, Up, Iter. -/
namespace Go.Proofs.Ytlcammcifjihpaa
open Go.RowKit Go.Sort

theorem tiLevel_nil (w : World) : Calls Try.prog 18 #[.pointer none] w fun e w' => e = .returned (.int .i64 0) ∧ w = w' := by
  go_enter Try.func18, Try.ntmps18
  go_wp2
  go_ret
  exact ⟨rfl, rfl⟩
theorem tiLevel_any (g : Nat) (LA : Option Addr) (d C : Nat) (t : It) (w : World) (h : ItM w g LA d C t) :
    Calls Try.prog 18 #[.pointer (some ⟨g, 0, none⟩)] w fun e w' => e = .returned (.int .i64 t.L) ∧ w = w' := by
  have c1 := h.c1
  clear h
  go_enter Try.func18, Try.ntmps18
  go_wp2
  go_ret
  exact ⟨rfl, rfl⟩
theorem tiSteps_nil (w : World) : Calls Try.prog 21 #[.pointer none] w fun e w' => e = .returned (.int .i64 0) ∧ w = w' := by
  go_enter Try.func21, Try.ntmps21
  go_wp2
  go_ret
  exact ⟨rfl, rfl⟩
theorem tiSteps_any (g : Nat) (LA : Option Addr) (d C : Nat) (t : It) (w : World) (h : ItM w g LA d C t) :
    Calls Try.prog 21 #[.pointer (some ⟨g, 0, none⟩)] w fun e w' => e = .returned (.int .i64 t.steps) ∧ w = w' := by
  have c1 := h.c68
  clear h
  go_enter Try.func21, Try.ntmps21
  go_wp2
  go_ret
  exact ⟨rfl, rfl⟩

theorem trDepth_any (LA : Option Addr) (d C : Nat) (w : World) : Calls Try.prog 22 #[.agg #[.slice LA d C]] w fun e w' => e = .returned (.int .i64 d) ∧ Ext w w' := by
  go_enter Try.func22, Try.ntmps22
  go_wp2
  go_ret
  exact ⟨rfl, (Ext.refl w).alloc _⟩

/-- How many nodes a level has. -/
def sizeF (d : Nat) (vs : Nat → RL.R) (l : Nat) : Nat := if l < d then (vs l).length else 0
set_option maxHeartbeats 400000 in
theorem trSize_any (B : Nat) (LA : Option Addr) (d C : Nat) (vs : Nat → RL.R) (fs : Nat → List Nat) (l : Nat) (w : World) (h : TrM B w LA d vs fs) (hB : B ≤ w.heap.size) (_hd : d ≤ 1000000) (_hl : l ≤ 1000000) :
    Calls Try.prog 32 #[.agg #[.slice LA d C], .int .i64 l] w fun e w' => e = .returned (.int .i64 (sizeF d vs l)) ∧ Ext w w' := by
  by_cases hld : l < d
  · obtain ⟨b, o, VA, VC, FA, FC, rfl, hb, h3, h4, h5, h6, h7, h8⟩ := h l hld
    have HD : Hid (sizeF d vs l = (vs l).length) := by show _ = _; unfold sizeF; rw [if_pos hld]
    have hb' : b < w.heap.size := by omega
    rw [HD.out]
    clear h h7 h8 h4
    generalize (vs l).length = n at *
    go_enter Try.func32, Try.ntmps32
    go_wp2
    go_ret
    exact ⟨rfl, (Ext.refl w).alloc _⟩
  · have HD : Hid (sizeF d vs l = 0) := by show _ = _; unfold sizeF; rw [if_neg hld]
    rw [HD.out]
    clear h
    go_enter Try.func32, Try.ntmps32
    go_wp2
    go_ret
    exact ⟨rfl, (Ext.refl w).alloc _⟩

theorem grown_set (w : World) (g o : Nat) (u : Value) : w.grownBy (w.setCell ⟨g, o, none⟩ u) (some g) := ⟨rfl, rfl, rfl, by simp, fun b _ hne => Below.heap_setCell w ⟨g, o, none⟩ u b (fun e => hne (by rw [e]))⟩
theorem Row.set3 {w : World} {g : Nat} {e : TypeId} {a0 b0 c0 : Value} (h : Row w g e [a0, b0, c0]) (a b c : Value) : Row (((w.setCell ⟨g, 0, none⟩ a).setCell ⟨g, 1, none⟩ b).setCell ⟨g, 2, none⟩ c) g e [a, b, c] := ((h.set 0 a).set 1 b).set 2 c

set_option maxHeartbeats 1000000 in
set_option maxRecDepth 100000 in
theorem tiValue_any (B g : Nat) (LA : Option Addr) (d C : Nat) (vs : Nat → RL.R) (fs : Nat → List Nat) (t : It) (p : Nat) (w : World) (h : TrM B w LA d vs fs) (hB : B ≤ w.heap.size) (hi : ItM w g LA d C t) (hd : d ≤ 1000000) (hL : 0 < t.L) (hLd : t.L ≤ d) (hp : p < (vs (t.L - 1)).length) (_hvl : (vs (t.L - 1)).length ≤ 1000000) :
    Calls Try.prog 34 #[.pointer (some ⟨g, 0, none⟩), .int .i64 p] w fun e w' => e = .returned (vv (vs (t.L - 1))[p]) ∧ Below w.heap.size w w' := by
  have HW : Hid (∃ W0, W0 = w.alloc (.cells #[.int .i64 0, .int .i64 0, .string ⟨#[]⟩] 38) ∧ Ext w W0 ∧ Row W0 w.heap.size 38 [.int .i64 0, .int .i64 0, .string ⟨#[]⟩]) := ⟨_, rfl, (Ext.refl w).alloc _, Row.new w 38 [.int .i64 0, .int .i64 0, .string ⟨#[]⟩]⟩
  obtain ⟨W0, hW0, he, hrow⟩ := HW.out
  clear HW
  have hi' := hi.ext he
  have h' := h.below he.below hB
  have hB' : B ≤ W0.heap.size := Nat.le_trans hB he.size
  have c0 := hi'.c0
  have c1 := hi'.c1
  have hg := hi.lt
  obtain ⟨b, o, VA, VC, FA, FC, rfl, hb, h3, h4, h5, h6, h7, h8⟩ := h' (t.L - 1) (by omega)
  obtain ⟨b2, o2, rfl, hb2, e1, e2, e3⟩ := slR_at h7 hp
  generalize (vs (t.L - 1))[p] = z at *
  generalize (vs (t.L - 1)).length = n at *
  obtain ⟨L, hL'⟩ : ∃ L, t.L = L + 1 := ⟨t.L - 1, by omega⟩
  rw [hL'] at c1 h3 hLd
  rw [Nat.add_sub_cancel] at h3
  rw [Int.natCast_add, Int.natCast_one] at c1
  have HE := Lib.hid he
  have HROW := Lib.hid hrow
  have r0 := hrow.cell 0
  have r1 := hrow.cell 1
  have r2 := hrow.cell 2
  have f0 := hrow.frozen 0
  have f1 := hrow.frozen 1
  have f2 := hrow.frozen 2
  simp only [List.getElem?_cons_zero, List.getElem?_cons_succ] at r0 r1 r2
  clear h h' h7 h8 h4 hi hi' hL hL' he hrow
  have g1 : (0 : Int) ≤ (L : Int) := by omega
  have g2 : (L : Int) < (d : Int) := by omega
  have g3 : (0 : Int) ≤ (p : Int) := by omega
  have g4 : (p : Int) < (n : Int) := by omega
  have hw1 : IntKind.i64.wrap (L : Int) = (L : Int) := IntWalk.i64_in _ (by omega)
  go_enter Try.func34, Try.ntmps34
  go_wp2
  rw [← hW0]
  clear hW0
  go_still_tail 16, (by kernel_rfl)
  go_wp2
  refine bodyPost_ret (v := vv z) ?_ rfl ⟨rfl, ?_⟩
  · have z0 := (HROW.out.set 0 (.int .i64 z.kind)).cell 0
    have z1 := ((HROW.out.set 0 (.int .i64 z.kind)).set 1 (.int .i64 z.int)).cell 1
    have z2 := (((HROW.out.set 0 (.int .i64 z.kind)).set 1 (.int .i64 z.int)).set 2 (.string z.str)).cell 2
    simp only [List.set_cons_zero, List.set_cons_succ, List.getElem?_cons_zero, List.getElem?_cons_succ] at z0 z1 z2
    simp [results, Try.results34, go_sem, z0, z1, z2]
  · exact ((HE.out.drew.below.setCell (p := ⟨w.heap.size, 0, none⟩) (Nat.le_refl _) _).setCell (p := ⟨w.heap.size, 1, none⟩) (Nat.le_refl _) _).setCell (p := ⟨w.heap.size, 2, none⟩) (Nat.le_refl _) _

set_option maxHeartbeats 1000000 in
set_option maxRecDepth 100000 in
theorem tiLess_any (B g : Nat) (LA : Option Addr) (d C : Nat) (vs : Nat → RL.R) (fs : Nat → List Nat) (t : It) (p : Nat) (v : RL.V) (w : World) (h : TrM B w LA d vs fs) (hB : B ≤ w.heap.size) (hBg : B ≤ g) (hi : ItM w g LA d C t) (hd : d ≤ 1000000) (hL : 0 < t.L) (hLd : t.L ≤ d) (hp : p < (vs (t.L - 1)).length) (hvl : (vs (t.L - 1)).length ≤ 1000000) (hst : t.steps ≤ 1000000000000000000) :
    Calls Try.prog 33 #[.pointer (some ⟨g, 0, none⟩), .int .i64 p, vv v] w fun e w' => e = .returned (.bool (decide (RL.cmpV (vs (t.L - 1))[p] v < 0))) ∧ ItM w' g LA d C { t with steps := t.steps + 1 } ∧ w.grownBy w' (some g) := by
  obtain ⟨W1, hW1⟩ : ∃ W1, W1 = (w.setCell ⟨g, 68, none⟩ (.int .i64 ((t.steps + 1 : Nat) : Int))).alloc (.cells #[.int .i64 v.kind, .int .i64 v.int, .string v.str] 38) := ⟨_, rfl⟩
  have hg := hi.lt
  have hgr : w.grownBy W1 (some g) := by
    rw [hW1]
    exact grown_trans (grown_set w g 68 _) (((Ext.refl (w.setCell ⟨g, 68, none⟩ (.int .i64 ((t.steps + 1 : Nat) : Int)))).alloc _).grown _)
  have hi1 : ItM W1 g LA d C { t with steps := t.steps + 1 } := by rw [hW1]; exact (hi.setSteps (t.steps + 1)).ext ((Ext.refl _).alloc _)
  have hr1 : Row W1 w.heap.size 38 (vcells v) := by
    rw [hW1]
    have hh := Row.new (w.setCell ⟨g, 68, none⟩ (.int .i64 ((t.steps + 1 : Nat) : Int))) 38 (vcells v)
    rw [show (w.setCell ⟨g, 68, none⟩ (.int .i64 ((t.steps + 1 : Nat) : Int))).heap.size = w.heap.size by simp] at hh
    exact hh
  have hT1 : TrM B W1 LA d vs fs := h.grown hgr hBg hB
  have HV := Lib.hid (tiValue_any B g LA d C vs fs { t with steps := t.steps + 1 } p W1.drew hT1 (Nat.le_trans hB hgr.size) hi1 hd hL hLd hp hvl)
  have c68 := hi.c68
  have f68 := hi.fr 68
  have HI1 := Lib.hid hi1
  have HGR := Lib.hid hgr
  have HR1 := Lib.hid hr1
  have HCMP := Lib.hid (fun W => vCompare_any (vs (t.L - 1))[p] v W)
  have n0 : W1.cell? ⟨w.heap.size, 0, none⟩ = some (.int .i64 v.kind) := hr1.cell 0
  have n1 : W1.cell? ⟨w.heap.size, 1, none⟩ = some (.int .i64 v.int) := hr1.cell 1
  have n2 : W1.cell? ⟨w.heap.size, 2, none⟩ = some (.string v.str) := hr1.cell 2
  have hz1 := hr1.lt
  simp only at HV
  clear h hi hi1 hgr hr1 hT1
  generalize (vs (t.L - 1))[p] = z at *
  generalize t.steps = st at *
  obtain ⟨q, hq⟩ : ∃ q, q = RL.cmpV z v := ⟨_, rfl⟩
  rw [← hq] at HCMP
  rw [← hq]
  clear hq
  go_enter Try.func33, Try.ntmps33
  go_wp2
  rw [show (st : Int) + 1 = ((st + 1 : Nat) : Int) by omega, ← hW1]
  clear hW1
  go_region_held3 (fun w' => w'.cell? ⟨w.heap.size, 0, none⟩ = some (.int .i64 v.kind) ∧ w'.cell? ⟨w.heap.size, 1, none⟩ = some (.int .i64 v.int) ∧ w'.cell? ⟨w.heap.size, 2, none⟩ = some (.string v.str)) (first | exact KEEP2 | exact KEEP | exact ⟨n0, n1, n2⟩ | go_keep)
    (first
      | (go_at_call 46; refine (HCMP.out w2).mono ?_; rintro e w3 ⟨rfl, hx⟩
         have HB3 := Lib.hid (Below.then HB2.out hx.below HB2.out.size)
         have KEEP2 : w3.cell? ⟨w.heap.size, 0, none⟩ = some (.int .i64 v.kind) ∧ w3.cell? ⟨w.heap.size, 1, none⟩ = some (.int .i64 v.int) ∧ w3.cell? ⟨w.heap.size, 2, none⟩ = some (.string v.str) := ⟨(HR1.out.up HB3.out).cell 0, (HR1.out.up HB3.out).cell 1, (HR1.out.up HB3.out).cell 2⟩
         clear hx)
      | (go_at_call 34; refine HV.out.mono ?_; rintro e w2 ⟨rfl, hb0⟩
         have hb := Below.undrew hb0
         have HB2 := Lib.hid hb
         have KEEP : w2.cell? ⟨w.heap.size, 0, none⟩ = some (.int .i64 v.kind) ∧ w2.cell? ⟨w.heap.size, 1, none⟩ = some (.int .i64 v.int) ∧ w2.cell? ⟨w.heap.size, 2, none⟩ = some (.string v.str) := ⟨(HR1.out.up hb).cell 0, (HR1.out.up hb).cell 1, (HR1.out.up hb).cell 2⟩
         clear hb hb0)
      | fail)
  all_goals
    go_wp2
    go_ret
    exact ⟨rfl, HI1.out.up HB3.out, grown_below HGR.out HB3.out HGR.out.size⟩

end Go.Proofs.Ytlcammcifjihpaa
end

section
/- Walks: Key, Next, Up, Iter. -/
namespace Go.Proofs.Ytlcammcifjihpaa
open Go.RowKit Go.Sort

/-- The iterator stands on a value. -/
def onV (t : It) : Bool := decide (0 < t.L) && decide (t.pos < t.fin)
theorem onV_true {t : It} : onV t = true ↔ 0 < t.L ∧ t.pos < t.fin := by simp [onV]
theorem tiOnV_any (g : Nat) (LA : Option Addr) (d C : Nat) (t : It) (w : World) (h : ItM w g LA d C t) : Calls Try.prog 31 #[.pointer (some ⟨g, 0, none⟩)] w fun e w' => e = .returned (.bool (onV t)) ∧ Ext w w' := tiOnValue_any g LA d C t w h
/-- What an iterator keeps. -/
def ItOk (d : Nat) (vs : Nat → RL.R) (t : It) : Prop := t.L ≤ d ∧ (0 < t.L → t.fin ≤ (vs (t.L - 1)).length ∧ (vs (t.L - 1)).length ≤ 1000000)

theorem tiKey_nil (w : World) : Calls Try.prog 15 #[.pointer none] w fun e w' => e = .returned (.tuple #[vv ⟨0, 0, ⟨#[]⟩⟩, .bool false]) ∧ Below w.heap.size w w' := by
  have HC := Lib.hid (fun W => tiOnValue_nil W)
  obtain ⟨W0, hW0⟩ : ∃ W0, W0 = w.alloc (.cells #[.int .i64 0, .int .i64 0, .string ⟨#[]⟩] 38) := ⟨_, rfl⟩
  have hrow : Row W0 w.heap.size 38 [.int .i64 0, .int .i64 0, .string ⟨#[]⟩] := by rw [hW0]; exact Row.new w 38 [.int .i64 0, .int .i64 0, .string ⟨#[]⟩]
  have he : Ext w W0 := by rw [hW0]; exact (Ext.refl w).alloc _
  have HROW := Lib.hid hrow
  have HE := Lib.hid he
  clear hrow he
  go_enter Try.func15, Try.ntmps15
  go_wp2_with fail
  rw [← hW0]
  clear hW0
  refine (HC.out W0).mono ?_
  rintro e w1 ⟨rfl, hx⟩
  have hr := HROW.out.up hx.below
  have r0 := hr.cell 0
  have r1 := hr.cell 1
  have r2 := hr.cell 2
  have f0 := hr.frozen 0
  have f1 := hr.frozen 1
  have f2 := hr.frozen 2
  simp only [List.getElem?_cons_zero, List.getElem?_cons_succ] at r0 r1 r2
  have HB := Lib.hid (HE.out.trans hx).below
  clear hr hx
  go_wp2
  refine bodyPost_ret (v := .tuple #[vv ⟨0, 0, ⟨#[]⟩⟩, .bool false]) (by simp [results, Try.results15, go_sem, r0, r1, r2]) rfl ⟨rfl, ?_⟩
  exact ((HB.out.setCell (p := ⟨w.heap.size, 0, none⟩) (Nat.le_refl _) _).setCell (p := ⟨w.heap.size, 1, none⟩) (Nat.le_refl _) _).setCell (p := ⟨w.heap.size, 2, none⟩) (Nat.le_refl _) _

set_option maxHeartbeats 400000 in
theorem tiKey_no (g : Nat) (LA : Option Addr) (d C : Nat) (t : It) (w : World) (hi : ItM w g LA d C t) (hn : onV t = false) :
    Calls Try.prog 15 #[.pointer (some ⟨g, 0, none⟩)] w fun e w' => e = .returned (.tuple #[vv ⟨0, 0, ⟨#[]⟩⟩, .bool false]) ∧ Below w.heap.size w w' := by
  obtain ⟨W0, hW0⟩ : ∃ W0, W0 = w.alloc (.cells #[.int .i64 0, .int .i64 0, .string ⟨#[]⟩] 38) := ⟨_, rfl⟩
  have hrow : Row W0 w.heap.size 38 [.int .i64 0, .int .i64 0, .string ⟨#[]⟩] := by rw [hW0]; exact Row.new w 38 [.int .i64 0, .int .i64 0, .string ⟨#[]⟩]
  have he : Ext w W0 := by rw [hW0]; exact (Ext.refl w).alloc _
  have HC := Lib.hid (tiOnValue_any g LA d C t W0 (hi.ext he))
  rw [show (decide (0 < t.L) && decide (t.pos < t.fin)) = false from hn] at HC
  have HROW := Lib.hid hrow
  have HE := Lib.hid he
  clear hrow he hi hn
  go_enter Try.func15, Try.ntmps15
  go_wp2_with fail
  rw [← hW0]
  clear hW0
  refine HC.out.mono ?_
  rintro e w1 ⟨rfl, hx⟩
  have hr := HROW.out.up hx.below
  have r0 := hr.cell 0
  have r1 := hr.cell 1
  have r2 := hr.cell 2
  have f0 := hr.frozen 0
  have f1 := hr.frozen 1
  have f2 := hr.frozen 2
  simp only [List.getElem?_cons_zero, List.getElem?_cons_succ] at r0 r1 r2
  have HB := Lib.hid (HE.out.trans hx).below
  clear hr hx
  go_wp2
  refine bodyPost_ret (v := .tuple #[vv ⟨0, 0, ⟨#[]⟩⟩, .bool false]) (by simp [results, Try.results15, go_sem, r0, r1, r2]) rfl ⟨rfl, ?_⟩
  exact ((HB.out.setCell (p := ⟨w.heap.size, 0, none⟩) (Nat.le_refl _) _).setCell (p := ⟨w.heap.size, 1, none⟩) (Nat.le_refl _) _).setCell (p := ⟨w.heap.size, 2, none⟩) (Nat.le_refl _) _

set_option maxHeartbeats 1000000 in
theorem tiKey_yes (B g : Nat) (LA : Option Addr) (d C : Nat) (vs : Nat → RL.R) (fs : Nat → List Nat) (t : It) (w : World) (h : TrM B w LA d vs fs) (hB : B ≤ w.heap.size) (hi : ItM w g LA d C t) (hd : d ≤ 1000000) (hn : onV t = true) (hok : ItOk d vs t) (hp : t.pos < (vs (t.L - 1)).length) :
    Calls Try.prog 15 #[.pointer (some ⟨g, 0, none⟩)] w fun e w' => e = .returned (.tuple #[vv (vs (t.L - 1))[t.pos], .bool true]) ∧ Below w.heap.size w w' := by
  obtain ⟨hL, -⟩ := onV_true.1 hn
  obtain ⟨W0, hW0⟩ : ∃ W0, W0 = w.alloc (.cells #[.int .i64 0, .int .i64 0, .string ⟨#[]⟩] 38) := ⟨_, rfl⟩
  have hrow : Row W0 w.heap.size 38 [.int .i64 0, .int .i64 0, .string ⟨#[]⟩] := by rw [hW0]; exact Row.new w 38 [.int .i64 0, .int .i64 0, .string ⟨#[]⟩]
  have he : Ext w W0 := by rw [hW0]; exact (Ext.refl w).alloc _
  have HC := Lib.hid (tiOnValue_any g LA d C t W0 (hi.ext he))
  rw [show (decide (0 < t.L) && decide (t.pos < t.fin)) = true from hn] at HC
  have HV := Lib.hid (fun (W : World) (hx : Ext W0 W) => tiValue_any B g LA d C vs fs t t.pos W (h.below (he.trans hx).below hB) (Nat.le_trans hB (he.trans hx).size) (hi.ext (he.trans hx)) hd hL hok.1 hp (hok.2 hL).2)
  have HI := Lib.hid (hi.ext he)
  have HROW := Lib.hid hrow
  have HE := Lib.hid he
  clear hrow he hi hn hok h
  generalize (vs (t.L - 1))[t.pos] = z at *
  go_enter Try.func15, Try.ntmps15
  go_wp2_with fail
  rw [← hW0]
  clear hW0
  refine HC.out.mono ?_
  rintro e w1 ⟨rfl, hx⟩
  have c2 := (HI.out.ext hx).c2
  have HX := Lib.hid hx
  clear hx
  go_wp2_with fail
  refine (HV.out w1 HX.out).mono ?_
  rintro e w2 ⟨rfl, hb⟩
  have hr := (HROW.out.up HX.out.below).up hb
  have r0 := hr.cell 0
  have r1 := hr.cell 1
  have r2 := hr.cell 2
  have f0 := hr.frozen 0
  have f1 := hr.frozen 1
  have f2 := hr.frozen 2
  simp only [List.getElem?_cons_zero, List.getElem?_cons_succ] at r0 r1 r2
  have HB := Lib.hid (Below.then (HE.out.trans HX.out).below hb (HE.out.trans HX.out).size)
  have HR := Lib.hid hr
  clear hr hb c2
  go_wp2
  refine bodyPost_ret (v := .tuple #[vv z, .bool true]) ?_ rfl ⟨rfl, ?_⟩
  · have z0 := (HR.out.set 0 (.int .i64 z.kind)).cell 0
    have z1 := ((HR.out.set 0 (.int .i64 z.kind)).set 1 (.int .i64 z.int)).cell 1
    have z2 := (((HR.out.set 0 (.int .i64 z.kind)).set 1 (.int .i64 z.int)).set 2 (.string z.str)).cell 2
    simp only [List.set_cons_zero, List.set_cons_succ, List.getElem?_cons_zero, List.getElem?_cons_succ] at z0 z1 z2
    simp [results, Try.results15, go_sem, z0, z1, z2]
  · exact ((HB.out.setCell (p := ⟨w.heap.size, 0, none⟩) (Nat.le_refl _) _).setCell (p := ⟨w.heap.size, 1, none⟩) (Nat.le_refl _) _).setCell (p := ⟨w.heap.size, 2, none⟩) (Nat.le_refl _) _

theorem tiNext_nil (w : World) : Calls Try.prog 17 #[.pointer none] w fun e w' => e = .returned (.bool false) ∧ Ext w w' := by
  have HC := Lib.hid (tiOnValue_nil w)
  go_enter Try.func17, Try.ntmps17
  go_wp2_with fail
  refine HC.out.mono ?_
  rintro e w1 ⟨rfl, hx⟩
  go_wp2
  go_ret
  exact ⟨rfl, hx⟩
theorem tiNext_no (g : Nat) (LA : Option Addr) (d C : Nat) (t : It) (w : World) (hi : ItM w g LA d C t) (hn : onV t = false) :
    Calls Try.prog 17 #[.pointer (some ⟨g, 0, none⟩)] w fun e w' => e = .returned (.bool false) ∧ Ext w w' := by
  have HC := Lib.hid (tiOnValue_any g LA d C t w hi)
  rw [show (decide (0 < t.L) && decide (t.pos < t.fin)) = false from hn] at HC
  clear hi hn
  go_enter Try.func17, Try.ntmps17
  go_wp2_with fail
  refine HC.out.mono ?_
  rintro e w1 ⟨rfl, hx⟩
  go_wp2
  go_ret
  exact ⟨rfl, hx⟩
theorem tiNext_yes (g : Nat) (LA : Option Addr) (d C : Nat) (t : It) (w : World) (hi : ItM w g LA d C t) (hn : onV t = true) (hm : t.fin ≤ 1000000) :
    Calls Try.prog 17 #[.pointer (some ⟨g, 0, none⟩)] w fun e w' => e = .returned (.bool (onV { t with pos := t.pos + 1 })) ∧ ItM w' g LA d C { t with pos := t.pos + 1 } ∧ w.grownBy w' (some g) := by
  have hlt := (onV_true.1 hn).2
  have HC := Lib.hid (tiOnValue_any g LA d C t w hi)
  rw [show (decide (0 < t.L) && decide (t.pos < t.fin)) = true from hn] at HC
  have HC2 := Lib.hid (fun (W : World) (h : ItM W g LA d C { t with pos := t.pos + 1 }) => tiOnV_any g LA d C { t with pos := t.pos + 1 } W h)
  have HI := Lib.hid hi
  clear hi hn
  obtain ⟨q, hq⟩ : ∃ q, q = onV { t with pos := t.pos + 1 } := ⟨_, rfl⟩
  rw [← hq] at HC2
  rw [← hq]
  clear hq
  go_enter Try.func17, Try.ntmps17
  go_wp2_with fail
  refine HC.out.mono ?_
  rintro e w1 ⟨rfl, hx⟩
  have hi1 := HI.out.ext hx
  have c2 := hi1.c2
  have f2 := hi1.fr 2
  have HI1 := Lib.hid (hi1.setPos (t.pos + 1))
  have HX := Lib.hid hx
  clear hi1 hx
  go_wp2_with fail
  rw [show ((t.pos : Int) + 1) = ((t.pos + 1 : Nat) : Int) by omega]
  refine (HC2.out _ HI1.out).mono ?_
  rintro e w2 ⟨rfl, hx2⟩
  have HX2 := Lib.hid hx2
  clear hx2 c2 f2
  go_wp2
  go_ret
  exact ⟨rfl, HI1.out.ext HX2.out, grown_trans (HX.out.grown _) (grown_trans (grown_set w1 g 2 _) (HX2.out.grown _))⟩

end Go.Proofs.Ytlcammcifjihpaa
end

section
/- Walks: Up, Iter. -/
namespace Go.Proofs.Ytlcammcifjihpaa
open Go.RowKit Go.Sort

theorem tiUp_nil (w : World) : Calls Try.prog 20 #[.pointer none] w fun e w' => e = .returned (.bool false) ∧ w = w' := by
  go_enter Try.func20, Try.ntmps20
  go_wp2
  go_ret
  exact ⟨rfl, rfl⟩
theorem tiUp_no (g : Nat) (LA : Option Addr) (d C : Nat) (t : It) (w : World) (hi : ItM w g LA d C t) (hn : t.L = 0) :
    Calls Try.prog 20 #[.pointer (some ⟨g, 0, none⟩)] w fun e w' => e = .returned (.bool false) ∧ w = w' := by
  have c1 := hi.c1
  rw [hn] at c1
  simp only [Int.natCast_zero] at c1
  clear hi hn
  go_enter Try.func20, Try.ntmps20
  go_wp2
  go_ret
  exact ⟨rfl, rfl⟩
/-- The iterator one level up. -/
def upT (t : It) : It := { t with L := t.L - 1, pos := (t.ab (t.L - 1)).1, fin := (t.ab (t.L - 1)).2 }
set_option maxHeartbeats 1000000 in
set_option maxRecDepth 100000 in
theorem tiUp_yes (g : Nat) (LA : Option Addr) (d C : Nat) (t : It) (w : World) (hi : ItM w g LA d C t) (hn : 0 < t.L) (h32 : t.L ≤ 32) :
    Calls Try.prog 20 #[.pointer (some ⟨g, 0, none⟩)] w fun e w' => e = .returned (.bool true) ∧ ItM w' g LA d C (upT t) ∧ w.grownBy w' (some g) := by
  obtain ⟨k, hk⟩ : ∃ k, t.L = k + 1 := ⟨t.L - 1, by omega⟩
  have c1 := hi.c1
  have f1 := hi.fr 1
  rw [hk] at c1
  obtain ⟨W1, hW1⟩ : ∃ W1, W1 = w.setCell ⟨g, 1, none⟩ (.int .i64 (k : Int)) := ⟨_, rfl⟩
  have hi1 : ItM W1 g LA d C { t with L := k } := by rw [hW1]; exact hi.setL k
  have hgr : w.grownBy W1 (some g) := by rw [hW1]; exact grown_set w g 1 _
  have HUP : Hid (upT t = { t with L := k, pos := (t.ab k).1, fin := (t.ab k).2 }) := by show _ = _; unfold upT; rw [hk]; rfl
  rw [HUP.out]
  have hk32 : k < 32 := by omega
  have d1 : W1.cell? ⟨g, 1, none⟩ = some (.int .i64 (k : Int)) := hi1.c1
  obtain ⟨a0, a1⟩ := hi1.ca hk32
  have e2 := hi1.c2
  have e3 := hi1.c3
  have f2 := hi1.fr 2
  have f3 := hi1.fr 3
  simp only at a0 a1 e2 e3
  have HI1 := Lib.hid hi1
  have HGR := Lib.hid hgr
  have h0k : (k : Int) + 1 ≠ 0 := by omega
  have hne : ((k : Int) + 1 == 0) = false := by simpa using h0k
  rw [Int.natCast_add, Int.natCast_one] at c1
  have hw1 : IntKind.i64.wrap (k : Int) = (k : Int) := IntWalk.i64_in _ (by omega)
  have g1 : (0 : Int) ≤ (k : Int) := by omega
  have g2 : (k : Int) < 32 := by omega
  clear hi hi1 hgr hn hk h0k
  generalize (t.ab k).1 = ap at *
  generalize (t.ab k).2 = af at *
  go_enter Try.func20, Try.ntmps20
  go_wp2
  rw [← hW1]
  clear hW1
  go_still_tail 12, (by kernel_rfl)
  go_wp2
  go_ret
  exact ⟨rfl, (HI1.out.setPos ap).setFin af, grown_trans HGR.out (grown_trans (grown_set W1 g 2 _) (grown_trans (grown_set _ g 3 _) ((Ext.refl _).drew.grown _)))⟩

/-- An iterator at the root. -/
def it0 : It := ⟨0, 0, 0, 0, fun _ => (0, 0)⟩
theorem ItC_new (LA : Option Addr) (d C : Nat) : ItC (.slice LA d C :: List.replicate 68 (.int .i64 0)) LA d C it0 := by
  refine ⟨rfl, rfl, rfl, rfl, rfl, fun j hj => ?_, rfl⟩
  have e1 : 4 + j * 2 = (3 + j * 2) + 1 := by omega
  have e2 : 4 + j * 2 + 1 = (3 + j * 2 + 1) + 1 := by omega
  rw [e2]
  rw [e1, List.getElem?_cons_succ, List.getElem?_cons_succ, List.getElem?_replicate, List.getElem?_replicate, if_pos (by omega), if_pos (by omega)]
  exact ⟨rfl, rfl⟩
set_option maxHeartbeats 1000000 in
set_option maxRecDepth 100000 in
theorem tiIter_any (LA : Option Addr) (d C : Nat) (w : World) :
    Calls Try.prog 11 #[.agg #[.slice LA d C]] w fun e w' => ∃ g, e = .returned (.pointer (some ⟨g, 0, none⟩)) ∧ w.heap.size ≤ g ∧ ItM w' g LA d C it0 ∧ Below w.heap.size w w' := by
  go_enter Try.func11, Try.ntmps11
  go_wp2
  go_ret
  refine ⟨w.heap.size + 1, rfl, by omega, ⟨_, ?_, ItC_new LA d C⟩, (((Ext.refl w).alloc _).alloc _).below⟩
  have h := Row.new (w.alloc (.cells #[.slice LA d C] 31)) 71 (.slice LA d C :: List.replicate 68 (.int .i64 0))
  simp only [World.size_alloc] at h
  exact h

end Go.Proofs.Ytlcammcifjihpaa
end

section
/- A move for regions that draw their order. -/
namespace Go.Proofs.Ytlcammcifjihpaa
open Go.RowKit Go.Sort

/-- wpAnyH_take with the slot written out. -/
theorem takeOp {P : Program} {md : Region.Mode} {ops : Array Oper} {Q : Exit → Act → World → Prop} {S : World → Prop} {i : Nat} {oi : Oper} {v : Value} {fuel : Nat} {listed : Array Bool} {a : Act} {w : World} (d : Option Tmp) (hi : ops[i]? = some oi) (hd : oi.dst = d)
    (hs : Region.noSelect ops = true) (hf : Region.free md ops listed i = true) (hr : (Region.ready md ops listed).contains i = true)
    (hQ : ∀ c a w, Q (.panic c) (a.put d v) w → Q (.panic c) a w) (hy : YieldsIf P ops S oi v a) (hS : S w)
    (h : wpAnyH P md ops Q S fuel (listed.setIfInBounds i true) (a.put d v) w) : wpAnyH P md ops Q S (fuel + 1) listed a w := by
  subst hd
  exact wpAnyH_take hi hs hf hr hQ hy hS h

end Go.Proofs.Ytlcammcifjihpaa
end

section
/- Walks: Open, where it does not move. -/
namespace Go.Proofs.Ytlcammcifjihpaa
open Go.RowKit Go.Sort

set_option maxHeartbeats 1000000 in
set_option maxRecDepth 100000 in
theorem tiOpen_nil (w : World) : Calls Try.prog 12 #[.pointer none] w fun e w' => e = .returned (.bool false) ∧ Ext w w' := by
  go_enter Try.func12, Try.ntmps12
  go_wp2
  go_quiet (fail)
  go_wp2
  go_ret
  exact ⟨rfl, (Ext.refl w).drewN _⟩

set_option maxHeartbeats 2000000 in
set_option maxRecDepth 100000 in
/-- Behind the last sibling Open does not move. -/
theorem tiOpen_end (g : Nat) (LA : Option Addr) (d C : Nat) (t : It) (w : World) (hi : ItM w g LA d C t) (hL : 0 < t.L) (hn : onV t = false) :
    Calls Try.prog 12 #[.pointer (some ⟨g, 0, none⟩)] w fun e w' => e = .returned (.bool false) ∧ Ext w w' := by
  have c0 := hi.c0
  have c1 := hi.c1
  have hg := hi.lt
  have HI := Lib.hid hi
  have HC := Lib.hid (fun W (h : ItM W g LA d C t) => tiOnV_any g LA d C t W h)
  rw [hn] at HC
  generalize t.L = L at *
  clear hi hn
  go_enter Try.func12, Try.ntmps12
  go_wp2
  refine wp_region_held_drew (S := (fun w' => w'.cell? ⟨g, 0, none⟩ = some (.slice LA d C) ∧ w'.cell? ⟨g, 1, none⟩ = some (.int .i64 L))) (by kernel_rfl) ⟨c0, c1⟩ (fun hHeld => ?_)
  refine takeOp (i := 0) (v := ?_) (some 5) rfl rfl (by kernel_rfl) (by kernel_rfl) (by kernel_rfl) (fun _ _ _ h => h) (Or.inl ⟨by rfl, ?_⟩) (by assumption) ?_
  rotate_left 1
  · (intro w0 hSw; (try dsimp only at hSw); go_simp; try (with_reducible rfl))
  try simp only [Act.put]
  try simp only [List.setIfInBounds_toArray]
  try simp only [List.set_cons_succ]
  try simp only [List.set_cons_zero]
  refine takeOp (i := 1) (v := ?_) (some 6) rfl rfl (by kernel_rfl) (by kernel_rfl) (by kernel_rfl) (fun _ _ _ h => h) (Or.inl ⟨by rfl, ?_⟩) (by assumption) ?_
  rotate_left 1
  · (intro w0 hSw; (try dsimp only at hSw); go_simp; try (with_reducible rfl))
  try simp only [Act.put]
  try simp only [List.setIfInBounds_toArray]
  try simp only [List.set_cons_succ]
  try simp only [List.set_cons_zero]
  refine takeOp (i := 2) (v := ?_) (some 7) rfl rfl (by kernel_rfl) (by kernel_rfl) (by kernel_rfl) (fun _ _ _ h => h) (Or.inl ⟨by rfl, ?_⟩) (by assumption) ?_
  rotate_left 1
  · (intro w0 hSw; (try dsimp only at hSw); go_simp; try (with_reducible rfl))
  try simp only [Act.put]
  try simp only [List.setIfInBounds_toArray]
  try simp only [List.set_cons_succ]
  try simp only [List.set_cons_zero]
  refine takeOp (i := 3) (v := ?_) (some 8) rfl rfl (by kernel_rfl) (by kernel_rfl) (by kernel_rfl) (fun _ _ _ h => h) (Or.inl ⟨by rfl, ?_⟩) (by assumption) ?_
  rotate_left 1
  · (intro w0 hSw; (try dsimp only at hSw); go_simp; try (with_reducible rfl))
  try simp only [Act.put]
  try simp only [List.setIfInBounds_toArray]
  try simp only [List.set_cons_succ]
  try simp only [List.set_cons_zero]
  refine takeOp (i := 4) (v := ?_) (some 9) rfl rfl (by kernel_rfl) (by kernel_rfl) (by kernel_rfl) (fun _ _ _ h => h) (Or.inl ⟨by rfl, ?_⟩) (by assumption) ?_
  rotate_left 1
  · (intro w0 hSw; (try dsimp only at hSw); go_simp; try (with_reducible rfl))
  try simp only [Act.put]
  try simp only [List.setIfInBounds_toArray]
  try simp only [List.set_cons_succ]
  try simp only [List.set_cons_zero]
  refine takeOp (i := 5) (v := ?_) (some 10) rfl rfl (by kernel_rfl) (by kernel_rfl) (by kernel_rfl) (fun _ _ _ h => h) (Or.inl ⟨by rfl, ?_⟩) (by assumption) ?_
  rotate_left 1
  · (intro w0 hSw; (try dsimp only at hSw); go_simp; try (with_reducible rfl))
  try simp only [Act.put]
  try simp only [List.setIfInBounds_toArray]
  try simp only [List.set_cons_succ]
  try simp only [List.set_cons_zero]
  refine takeOp (i := 6) (v := ?_) (some 11) rfl rfl (by kernel_rfl) (by kernel_rfl) (by kernel_rfl) (fun _ _ _ h => h) (Or.inl ⟨by rfl, ?_⟩) (by assumption) ?_
  rotate_left 1
  · (intro w0 hSw; (try dsimp only at hSw); go_simp; try (with_reducible rfl))
  try simp only [Act.put]
  try simp only [List.setIfInBounds_toArray]
  try simp only [List.set_cons_succ]
  try simp only [List.set_cons_zero]
  refine takeOp (i := 7) (v := ?_) (some 12) rfl rfl (by kernel_rfl) (by kernel_rfl) (by kernel_rfl) (fun _ _ _ h => h) (Or.inl ⟨by rfl, ?_⟩) (by assumption) ?_
  rotate_left 1
  · (intro w0 hSw; (try dsimp only at hSw); go_simp; try (with_reducible rfl))
  try simp only [Act.put]
  try simp only [List.setIfInBounds_toArray]
  try simp only [List.set_cons_succ]
  try simp only [List.set_cons_zero]
  refine takeOp (i := 8) (v := ?_) (some 13) rfl rfl (by kernel_rfl) (by kernel_rfl) (by kernel_rfl) (fun _ _ _ h => h) (Or.inl ⟨by rfl, ?_⟩) (by assumption) ?_
  rotate_left 1
  · (intro w0 hSw; (try dsimp only at hSw); go_simp; try (with_reducible rfl))
  try simp only [Act.put]
  try simp only [List.setIfInBounds_toArray]
  try simp only [List.set_cons_succ]
  try simp only [List.set_cons_zero]
  refine takeOp (i := 9) (v := ?_) (some 14) rfl rfl (by kernel_rfl) (by kernel_rfl) (by kernel_rfl) (fun _ _ _ h => h) (Or.inl ⟨by rfl, ?_⟩) (by assumption) ?_
  rotate_left 1
  · (intro w0 hSw; (try dsimp only at hSw); go_simp; try (with_reducible rfl))
  try simp only [Act.put]
  try simp only [List.setIfInBounds_toArray]
  try simp only [List.set_cons_succ]
  try simp only [List.set_cons_zero]
  refine wpAnyH_ready (rs := [10]) (by kernel_rfl) (by simp) ?_
  refine AllReadyH.cons rfl (fun K hK => ?_) AllReadyH.nil
  go_simp
  refine (HC.out _ (HI.out.ext (Ext.refl w).drew)).mono ?_
  rintro e w1 ⟨rfl, hx0⟩
  have hx : Ext w w1 := (Ext.refl w).drew.trans hx0
  have KEEP : w1.cell? ⟨g, 0, none⟩ = some (.slice LA d C) ∧ w1.cell? ⟨g, 1, none⟩ = some (.int .i64 L) := ⟨(hx.cell hg).trans c0, (hx.cell hg).trans c1⟩
  have HX := Lib.hid hx
  clear hx hx0
  go_wp2_with fail
  refine hK.out _ _ KEEP (fun hHeld => ?_)
  clear hK K
  try simp only [Act.put]
  try simp only [List.setIfInBounds_toArray]
  try simp only [List.set_cons_succ]
  try simp only [List.set_cons_zero]
  refine takeOp (i := 11) (v := ?_) (some 16) rfl rfl (by kernel_rfl) (by kernel_rfl) (by kernel_rfl) (fun _ _ _ h => h) (Or.inl ⟨by rfl, ?_⟩) (by assumption) ?_
  rotate_left 1
  · (intro w0 hSw; (try dsimp only at hSw); go_simp; try (with_reducible rfl))
  try simp only [Act.put]
  try simp only [List.setIfInBounds_toArray]
  try simp only [List.set_cons_succ]
  try simp only [List.set_cons_zero]
  refine takeOp (i := 12) (v := ?_) (some 17) rfl rfl (by kernel_rfl) (by kernel_rfl) (by kernel_rfl) (fun _ _ _ h => h) (Or.inl ⟨by rfl, ?_⟩) (by assumption) ?_
  rotate_left 1
  · (intro w0 hSw; (try dsimp only at hSw); go_simp; try (with_reducible rfl))
  try simp only [Act.put]
  try simp only [List.setIfInBounds_toArray]
  try simp only [List.set_cons_succ]
  try simp only [List.set_cons_zero]
  refine takeOp (i := 13) (v := ?_) (some 18) rfl rfl (by kernel_rfl) (by kernel_rfl) (by kernel_rfl) (fun _ _ _ h => h) (Or.inl ⟨by rfl, ?_⟩) (by assumption) ?_
  rotate_left 1
  · (intro w0 hSw; (try dsimp only at hSw); go_simp; try (with_reducible rfl))
  try simp only [Act.put]
  try simp only [List.setIfInBounds_toArray]
  try simp only [List.set_cons_succ]
  try simp only [List.set_cons_zero]
  refine takeOp (i := 14) (v := ?_) (some 19) rfl rfl (by kernel_rfl) (by kernel_rfl) (by kernel_rfl) (fun _ _ _ h => h) (Or.inl ⟨by rfl, ?_⟩) (by assumption) ?_
  rotate_left 1
  · (intro w0 hSw; (try dsimp only at hSw); go_simp; try (with_reducible rfl))
  try simp only [Act.put]
  try simp only [List.setIfInBounds_toArray]
  try simp only [List.set_cons_succ]
  try simp only [List.set_cons_zero]
  refine takeOp (i := 15) (v := undef) (some 20) rfl rfl (by kernel_rfl) (by kernel_rfl) (by kernel_rfl) (fun _ _ _ h => h) (Or.inr ⟨by rfl, rfl⟩) (by assumption) ?_
  try simp only [Act.put]
  try simp only [List.setIfInBounds_toArray]
  try simp only [List.set_cons_succ]
  try simp only [List.set_cons_zero]
  refine takeOp (i := 16) (v := undef) (some 21) rfl rfl (by kernel_rfl) (by kernel_rfl) (by kernel_rfl) (fun _ _ _ h => h) (Or.inr ⟨by rfl, rfl⟩) (by assumption) ?_
  try simp only [Act.put]
  try simp only [List.setIfInBounds_toArray]
  try simp only [List.set_cons_succ]
  try simp only [List.set_cons_zero]
  refine takeOp (i := 17) (v := undef) (some 22) rfl rfl (by kernel_rfl) (by kernel_rfl) (by kernel_rfl) (fun _ _ _ h => h) (Or.inr ⟨by rfl, rfl⟩) (by assumption) ?_
  try simp only [Act.put]
  try simp only [List.setIfInBounds_toArray]
  try simp only [List.set_cons_succ]
  try simp only [List.set_cons_zero]
  refine takeOp (i := 18) (v := undef) (some 23) rfl rfl (by kernel_rfl) (by kernel_rfl) (by kernel_rfl) (fun _ _ _ h => h) (Or.inr ⟨by rfl, rfl⟩) (by assumption) ?_
  try simp only [Act.put]
  try simp only [List.setIfInBounds_toArray]
  try simp only [List.set_cons_succ]
  try simp only [List.set_cons_zero]
  refine takeOp (i := 19) (v := undef) (some 24) rfl rfl (by kernel_rfl) (by kernel_rfl) (by kernel_rfl) (fun _ _ _ h => h) (Or.inr ⟨by rfl, rfl⟩) (by assumption) ?_
  try simp only [Act.put]
  try simp only [List.setIfInBounds_toArray]
  try simp only [List.set_cons_succ]
  try simp only [List.set_cons_zero]
  refine takeOp (i := 20) (v := undef) (some 25) rfl rfl (by kernel_rfl) (by kernel_rfl) (by kernel_rfl) (fun _ _ _ h => h) (Or.inr ⟨by rfl, rfl⟩) (by assumption) ?_
  try simp only [Act.put]
  try simp only [List.setIfInBounds_toArray]
  try simp only [List.set_cons_succ]
  try simp only [List.set_cons_zero]
  refine takeOp (i := 21) (v := undef) (some 26) rfl rfl (by kernel_rfl) (by kernel_rfl) (by kernel_rfl) (fun _ _ _ h => h) (Or.inr ⟨by rfl, rfl⟩) (by assumption) ?_
  try simp only [Act.put]
  try simp only [List.setIfInBounds_toArray]
  try simp only [List.set_cons_succ]
  try simp only [List.set_cons_zero]
  refine takeOp (i := 22) (v := undef) (some 27) rfl rfl (by kernel_rfl) (by kernel_rfl) (by kernel_rfl) (fun _ _ _ h => h) (Or.inr ⟨by rfl, rfl⟩) (by assumption) ?_
  try simp only [Act.put]
  try simp only [List.setIfInBounds_toArray]
  try simp only [List.set_cons_succ]
  try simp only [List.set_cons_zero]
  refine takeOp (i := 23) (v := undef) (some 28) rfl rfl (by kernel_rfl) (by kernel_rfl) (by kernel_rfl) (fun _ _ _ h => h) (Or.inr ⟨by rfl, rfl⟩) (by assumption) ?_
  try simp only [Act.put]
  try simp only [List.setIfInBounds_toArray]
  try simp only [List.set_cons_succ]
  try simp only [List.set_cons_zero]
  refine takeOp (i := 24) (v := undef) (some 29) rfl rfl (by kernel_rfl) (by kernel_rfl) (by kernel_rfl) (fun _ _ _ h => h) (Or.inr ⟨by rfl, rfl⟩) (by assumption) ?_
  try simp only [Act.put]
  try simp only [List.setIfInBounds_toArray]
  try simp only [List.set_cons_succ]
  try simp only [List.set_cons_zero]
  refine takeOp (i := 25) (v := ?_) (some 30) rfl rfl (by kernel_rfl) (by kernel_rfl) (by kernel_rfl) (fun _ _ _ h => h) (Or.inl ⟨by rfl, ?_⟩) (by assumption) ?_
  rotate_left 1
  · (intro w0 hSw; (try dsimp only at hSw); go_simp; try (with_reducible rfl))
  try simp only [Act.put]
  try simp only [List.setIfInBounds_toArray]
  try simp only [List.set_cons_succ]
  try simp only [List.set_cons_zero]
  refine wpAnyH_done (by kernel_rfl) ?_ _
  all_goals
    go_wp2
    go_ret
    exact ⟨rfl, HX.out⟩

set_option maxHeartbeats 2000000 in
set_option maxRecDepth 100000 in
/-- On the last level Open does not move. -/
theorem tiOpen_last (g : Nat) (LA : Option Addr) (d C : Nat) (t : It) (w : World) (hi : ItM w g LA d C t) (hL : 0 < t.L) (hn : onV t = true) (hd : d ≤ t.L) :
    Calls Try.prog 12 #[.pointer (some ⟨g, 0, none⟩)] w fun e w' => e = .returned (.bool false) ∧ Ext w w' := by
  have c0 := hi.c0
  have c1 := hi.c1
  have hg := hi.lt
  have HI := Lib.hid hi
  have HC := Lib.hid (fun W (h : ItM W g LA d C t) => tiOnV_any g LA d C t W h)
  rw [hn] at HC
  have HDP := Lib.hid (fun W => trDepth_any LA d C W)
  generalize t.L = L at *
  clear hi hn
  go_enter Try.func12, Try.ntmps12
  go_wp2
  refine wp_region_held_drew (S := (fun w' => w'.cell? ⟨g, 0, none⟩ = some (.slice LA d C) ∧ w'.cell? ⟨g, 1, none⟩ = some (.int .i64 L))) (by kernel_rfl) ⟨c0, c1⟩ (fun hHeld => ?_)
  refine takeOp (i := 0) (v := ?_) (some 5) rfl rfl (by kernel_rfl) (by kernel_rfl) (by kernel_rfl) (fun _ _ _ h => h) (Or.inl ⟨by rfl, ?_⟩) (by assumption) ?_
  rotate_left 1
  · (intro w0 hSw; (try dsimp only at hSw); go_simp; try (with_reducible rfl))
  try simp only [Act.put]
  try simp only [List.setIfInBounds_toArray]
  try simp only [List.set_cons_succ]
  try simp only [List.set_cons_zero]
  refine takeOp (i := 1) (v := ?_) (some 6) rfl rfl (by kernel_rfl) (by kernel_rfl) (by kernel_rfl) (fun _ _ _ h => h) (Or.inl ⟨by rfl, ?_⟩) (by assumption) ?_
  rotate_left 1
  · (intro w0 hSw; (try dsimp only at hSw); go_simp; try (with_reducible rfl))
  try simp only [Act.put]
  try simp only [List.setIfInBounds_toArray]
  try simp only [List.set_cons_succ]
  try simp only [List.set_cons_zero]
  refine takeOp (i := 2) (v := ?_) (some 7) rfl rfl (by kernel_rfl) (by kernel_rfl) (by kernel_rfl) (fun _ _ _ h => h) (Or.inl ⟨by rfl, ?_⟩) (by assumption) ?_
  rotate_left 1
  · (intro w0 hSw; (try dsimp only at hSw); go_simp; try (with_reducible rfl))
  try simp only [Act.put]
  try simp only [List.setIfInBounds_toArray]
  try simp only [List.set_cons_succ]
  try simp only [List.set_cons_zero]
  refine takeOp (i := 3) (v := ?_) (some 8) rfl rfl (by kernel_rfl) (by kernel_rfl) (by kernel_rfl) (fun _ _ _ h => h) (Or.inl ⟨by rfl, ?_⟩) (by assumption) ?_
  rotate_left 1
  · (intro w0 hSw; (try dsimp only at hSw); go_simp; try (with_reducible rfl))
  try simp only [Act.put]
  try simp only [List.setIfInBounds_toArray]
  try simp only [List.set_cons_succ]
  try simp only [List.set_cons_zero]
  refine takeOp (i := 4) (v := ?_) (some 9) rfl rfl (by kernel_rfl) (by kernel_rfl) (by kernel_rfl) (fun _ _ _ h => h) (Or.inl ⟨by rfl, ?_⟩) (by assumption) ?_
  rotate_left 1
  · (intro w0 hSw; (try dsimp only at hSw); go_simp; try (with_reducible rfl))
  try simp only [Act.put]
  try simp only [List.setIfInBounds_toArray]
  try simp only [List.set_cons_succ]
  try simp only [List.set_cons_zero]
  refine takeOp (i := 5) (v := ?_) (some 10) rfl rfl (by kernel_rfl) (by kernel_rfl) (by kernel_rfl) (fun _ _ _ h => h) (Or.inl ⟨by rfl, ?_⟩) (by assumption) ?_
  rotate_left 1
  · (intro w0 hSw; (try dsimp only at hSw); go_simp; try (with_reducible rfl))
  try simp only [Act.put]
  try simp only [List.setIfInBounds_toArray]
  try simp only [List.set_cons_succ]
  try simp only [List.set_cons_zero]
  refine takeOp (i := 6) (v := ?_) (some 11) rfl rfl (by kernel_rfl) (by kernel_rfl) (by kernel_rfl) (fun _ _ _ h => h) (Or.inl ⟨by rfl, ?_⟩) (by assumption) ?_
  rotate_left 1
  · (intro w0 hSw; (try dsimp only at hSw); go_simp; try (with_reducible rfl))
  try simp only [Act.put]
  try simp only [List.setIfInBounds_toArray]
  try simp only [List.set_cons_succ]
  try simp only [List.set_cons_zero]
  refine takeOp (i := 7) (v := ?_) (some 12) rfl rfl (by kernel_rfl) (by kernel_rfl) (by kernel_rfl) (fun _ _ _ h => h) (Or.inl ⟨by rfl, ?_⟩) (by assumption) ?_
  rotate_left 1
  · (intro w0 hSw; (try dsimp only at hSw); go_simp; try (with_reducible rfl))
  try simp only [Act.put]
  try simp only [List.setIfInBounds_toArray]
  try simp only [List.set_cons_succ]
  try simp only [List.set_cons_zero]
  refine takeOp (i := 8) (v := ?_) (some 13) rfl rfl (by kernel_rfl) (by kernel_rfl) (by kernel_rfl) (fun _ _ _ h => h) (Or.inl ⟨by rfl, ?_⟩) (by assumption) ?_
  rotate_left 1
  · (intro w0 hSw; (try dsimp only at hSw); go_simp; try (with_reducible rfl))
  try simp only [Act.put]
  try simp only [List.setIfInBounds_toArray]
  try simp only [List.set_cons_succ]
  try simp only [List.set_cons_zero]
  refine takeOp (i := 9) (v := ?_) (some 14) rfl rfl (by kernel_rfl) (by kernel_rfl) (by kernel_rfl) (fun _ _ _ h => h) (Or.inl ⟨by rfl, ?_⟩) (by assumption) ?_
  rotate_left 1
  · (intro w0 hSw; (try dsimp only at hSw); go_simp; try (with_reducible rfl))
  try simp only [Act.put]
  try simp only [List.setIfInBounds_toArray]
  try simp only [List.set_cons_succ]
  try simp only [List.set_cons_zero]
  refine wpAnyH_ready (rs := [10]) (by kernel_rfl) (by simp) ?_
  refine AllReadyH.cons rfl (fun K hK => ?_) AllReadyH.nil
  go_simp
  refine (HC.out _ (HI.out.ext (Ext.refl w).drew)).mono ?_
  rintro e w1 ⟨rfl, hx0⟩
  have hx : Ext w w1 := (Ext.refl w).drew.trans hx0
  have KEEP : w1.cell? ⟨g, 0, none⟩ = some (.slice LA d C) ∧ w1.cell? ⟨g, 1, none⟩ = some (.int .i64 L) := ⟨(hx.cell hg).trans c0, (hx.cell hg).trans c1⟩
  have HX := Lib.hid hx
  clear hx hx0
  go_wp2_with fail
  refine hK.out _ _ KEEP (fun hHeld => ?_)
  clear hK K
  try simp only [Act.put]
  try simp only [List.setIfInBounds_toArray]
  try simp only [List.set_cons_succ]
  try simp only [List.set_cons_zero]
  refine takeOp (i := 11) (v := ?_) (some 16) rfl rfl (by kernel_rfl) (by kernel_rfl) (by kernel_rfl) (fun _ _ _ h => h) (Or.inl ⟨by rfl, ?_⟩) (by assumption) ?_
  rotate_left 1
  · (intro w0 hSw; (try dsimp only at hSw); go_simp; try (with_reducible rfl))
  try simp only [Act.put]
  try simp only [List.setIfInBounds_toArray]
  try simp only [List.set_cons_succ]
  try simp only [List.set_cons_zero]
  refine takeOp (i := 12) (v := ?_) (some 17) rfl rfl (by kernel_rfl) (by kernel_rfl) (by kernel_rfl) (fun _ _ _ h => h) (Or.inl ⟨by rfl, ?_⟩) (by assumption) ?_
  rotate_left 1
  · (intro w0 hSw; (try dsimp only at hSw); go_simp; try (with_reducible rfl))
  try simp only [Act.put]
  try simp only [List.setIfInBounds_toArray]
  try simp only [List.set_cons_succ]
  try simp only [List.set_cons_zero]
  refine takeOp (i := 13) (v := ?_) (some 18) rfl rfl (by kernel_rfl) (by kernel_rfl) (by kernel_rfl) (fun _ _ _ h => h) (Or.inl ⟨by rfl, ?_⟩) (by assumption) ?_
  rotate_left 1
  · (intro w0 hSw; (try dsimp only at hSw); go_simp; try (with_reducible rfl))
  try simp only [Act.put]
  try simp only [List.setIfInBounds_toArray]
  try simp only [List.set_cons_succ]
  try simp only [List.set_cons_zero]
  refine takeOp (i := 14) (v := ?_) (some 19) rfl rfl (by kernel_rfl) (by kernel_rfl) (by kernel_rfl) (fun _ _ _ h => h) (Or.inl ⟨by rfl, ?_⟩) (by assumption) ?_
  rotate_left 1
  · (intro w0 hSw; (try dsimp only at hSw); go_simp; try (with_reducible rfl))
  try simp only [Act.put]
  try simp only [List.setIfInBounds_toArray]
  try simp only [List.set_cons_succ]
  try simp only [List.set_cons_zero]
  refine takeOp (i := 15) (v := ?_) (some 20) rfl rfl (by kernel_rfl) (by kernel_rfl) (by kernel_rfl) (fun _ _ _ h => h) (Or.inl ⟨by rfl, ?_⟩) (by assumption) ?_
  rotate_left 1
  · (intro w0 hSw; (try dsimp only at hSw); go_simp; try (with_reducible rfl))
  try simp only [Act.put]
  try simp only [List.setIfInBounds_toArray]
  try simp only [List.set_cons_succ]
  try simp only [List.set_cons_zero]
  refine takeOp (i := 16) (v := ?_) (some 21) rfl rfl (by kernel_rfl) (by kernel_rfl) (by kernel_rfl) (fun _ _ _ h => h) (Or.inl ⟨by rfl, ?_⟩) (by assumption) ?_
  rotate_left 1
  · (intro w0 hSw; (try dsimp only at hSw); go_simp; try (with_reducible rfl))
  try simp only [Act.put]
  try simp only [List.setIfInBounds_toArray]
  try simp only [List.set_cons_succ]
  try simp only [List.set_cons_zero]
  refine takeOp (i := 17) (v := ?_) (some 22) rfl rfl (by kernel_rfl) (by kernel_rfl) (by kernel_rfl) (fun _ _ _ h => h) (Or.inl ⟨by rfl, ?_⟩) (by assumption) ?_
  rotate_left 1
  · (intro w0 hSw; (try dsimp only at hSw); go_simp; try (with_reducible rfl))
  try simp only [Act.put]
  try simp only [List.setIfInBounds_toArray]
  try simp only [List.set_cons_succ]
  try simp only [List.set_cons_zero]
  refine takeOp (i := 18) (v := ?_) (some 23) rfl rfl (by kernel_rfl) (by kernel_rfl) (by kernel_rfl) (fun _ _ _ h => h) (Or.inl ⟨by rfl, ?_⟩) (by assumption) ?_
  rotate_left 1
  · (intro w0 hSw; (try dsimp only at hSw); go_simp; try (with_reducible rfl))
  try simp only [Act.put]
  try simp only [List.setIfInBounds_toArray]
  try simp only [List.set_cons_succ]
  try simp only [List.set_cons_zero]
  refine takeOp (i := 19) (v := ?_) (some 24) rfl rfl (by kernel_rfl) (by kernel_rfl) (by kernel_rfl) (fun _ _ _ h => h) (Or.inl ⟨by rfl, ?_⟩) (by assumption) ?_
  rotate_left 1
  · (intro w0 hSw; (try dsimp only at hSw); go_simp; try (with_reducible rfl))
  try simp only [Act.put]
  try simp only [List.setIfInBounds_toArray]
  try simp only [List.set_cons_succ]
  try simp only [List.set_cons_zero]
  refine takeOp (i := 20) (v := ?_) (some 25) rfl rfl (by kernel_rfl) (by kernel_rfl) (by kernel_rfl) (fun _ _ _ h => h) (Or.inl ⟨by rfl, ?_⟩) (by assumption) ?_
  rotate_left 1
  · (intro w0 hSw; (try dsimp only at hSw); go_simp; try (with_reducible rfl))
  try simp only [Act.put]
  try simp only [List.setIfInBounds_toArray]
  try simp only [List.set_cons_succ]
  try simp only [List.set_cons_zero]
  refine takeOp (i := 21) (v := ?_) (some 26) rfl rfl (by kernel_rfl) (by kernel_rfl) (by kernel_rfl) (fun _ _ _ h => h) (Or.inl ⟨by rfl, ?_⟩) (by assumption) ?_
  rotate_left 1
  · (intro w0 hSw; (try dsimp only at hSw); go_simp; try (with_reducible rfl))
  try simp only [Act.put]
  try simp only [List.setIfInBounds_toArray]
  try simp only [List.set_cons_succ]
  try simp only [List.set_cons_zero]
  refine takeOp (i := 22) (v := ?_) (some 27) rfl rfl (by kernel_rfl) (by kernel_rfl) (by kernel_rfl) (fun _ _ _ h => h) (Or.inl ⟨by rfl, ?_⟩) (by assumption) ?_
  rotate_left 1
  · (intro w0 hSw; (try dsimp only at hSw); go_simp; try (with_reducible rfl))
  try simp only [Act.put]
  try simp only [List.setIfInBounds_toArray]
  try simp only [List.set_cons_succ]
  try simp only [List.set_cons_zero]
  refine wpAnyH_ready (rs := [23]) (by kernel_rfl) (by simp) ?_
  refine AllReadyH.cons rfl (fun K hK => ?_) AllReadyH.nil
  go_simp
  refine (HDP.out _).mono ?_
  rintro e w2 ⟨rfl, hx0⟩
  have hx : Ext w w2 := HX.out.trans hx0
  have KEEP2 : w2.cell? ⟨g, 0, none⟩ = some (.slice LA d C) ∧ w2.cell? ⟨g, 1, none⟩ = some (.int .i64 L) := ⟨(hx.cell hg).trans c0, (hx.cell hg).trans c1⟩
  have HX2 := Lib.hid hx
  clear hx hx0
  go_wp2_with fail
  refine hK.out _ _ KEEP2 (fun hHeld => ?_)
  clear hK K
  try simp only [Act.put]
  try simp only [List.setIfInBounds_toArray]
  try simp only [List.set_cons_succ]
  try simp only [List.set_cons_zero]
  refine takeOp (i := 24) (v := ?_) (some 29) rfl rfl (by kernel_rfl) (by kernel_rfl) (by kernel_rfl) (fun _ _ _ h => h) (Or.inl ⟨by rfl, ?_⟩) (by assumption) ?_
  rotate_left 1
  · (intro w0 hSw; (try dsimp only at hSw); go_simp; try (with_reducible rfl))
  try simp only [Act.put]
  try simp only [List.setIfInBounds_toArray]
  try simp only [List.set_cons_succ]
  try simp only [List.set_cons_zero]
  refine takeOp (i := 25) (v := ?_) (some 30) rfl rfl (by kernel_rfl) (by kernel_rfl) (by kernel_rfl) (fun _ _ _ h => h) (Or.inl ⟨by rfl, ?_⟩) (by assumption) ?_
  rotate_left 1
  · (intro w0 hSw; (try dsimp only at hSw); go_simp; try (with_reducible rfl))
  try simp only [Act.put]
  try simp only [List.setIfInBounds_toArray]
  try simp only [List.set_cons_succ]
  try simp only [List.set_cons_zero]
  refine wpAnyH_done (by kernel_rfl) ?_ _
  all_goals
    go_wp2
    go_ret
    exact ⟨rfl, HX2.out⟩

set_option maxHeartbeats 2000000 in
set_option maxRecDepth 100000 in
/-- A trie without levels has no children. -/
theorem tiOpen_flat (g : Nat) (LA : Option Addr) (C : Nat) (t : It) (w : World) (hi : ItM w g LA 0 C t) (hL : t.L = 0) :
    Calls Try.prog 12 #[.pointer (some ⟨g, 0, none⟩)] w fun e w' => e = .returned (.bool false) ∧ Ext w w' := by
  have c0 := hi.c0
  have c1 := hi.c1
  rw [hL] at c1
  simp only [Int.natCast_zero] at c1
  have hg := hi.lt
  have HDP := Lib.hid (fun W => trDepth_any LA 0 C W)
  clear hi hL
  go_enter Try.func12, Try.ntmps12
  go_wp2
  refine wp_region_held_drew (S := (fun w' => w'.cell? ⟨g, 0, none⟩ = some (.slice LA 0 C) ∧ w'.cell? ⟨g, 1, none⟩ = some (.int .i64 0))) (by kernel_rfl) ⟨c0, c1⟩ (fun hHeld => ?_)
  refine takeOp (i := 0) (v := ?_) (some 5) rfl rfl (by kernel_rfl) (by kernel_rfl) (by kernel_rfl) (fun _ _ _ h => h) (Or.inl ⟨by rfl, ?_⟩) (by assumption) ?_
  rotate_left 1
  · (intro w0 hSw; (try dsimp only at hSw); go_simp; try (with_reducible rfl))
  try simp only [Act.put]
  try simp only [List.setIfInBounds_toArray]
  try simp only [List.set_cons_succ]
  try simp only [List.set_cons_zero]
  refine takeOp (i := 1) (v := ?_) (some 6) rfl rfl (by kernel_rfl) (by kernel_rfl) (by kernel_rfl) (fun _ _ _ h => h) (Or.inl ⟨by rfl, ?_⟩) (by assumption) ?_
  rotate_left 1
  · (intro w0 hSw; (try dsimp only at hSw); go_simp; try (with_reducible rfl))
  try simp only [Act.put]
  try simp only [List.setIfInBounds_toArray]
  try simp only [List.set_cons_succ]
  try simp only [List.set_cons_zero]
  refine takeOp (i := 2) (v := ?_) (some 7) rfl rfl (by kernel_rfl) (by kernel_rfl) (by kernel_rfl) (fun _ _ _ h => h) (Or.inl ⟨by rfl, ?_⟩) (by assumption) ?_
  rotate_left 1
  · (intro w0 hSw; (try dsimp only at hSw); go_simp; try (with_reducible rfl))
  try simp only [Act.put]
  try simp only [List.setIfInBounds_toArray]
  try simp only [List.set_cons_succ]
  try simp only [List.set_cons_zero]
  refine takeOp (i := 3) (v := ?_) (some 8) rfl rfl (by kernel_rfl) (by kernel_rfl) (by kernel_rfl) (fun _ _ _ h => h) (Or.inl ⟨by rfl, ?_⟩) (by assumption) ?_
  rotate_left 1
  · (intro w0 hSw; (try dsimp only at hSw); go_simp; try (with_reducible rfl))
  try simp only [Act.put]
  try simp only [List.setIfInBounds_toArray]
  try simp only [List.set_cons_succ]
  try simp only [List.set_cons_zero]
  refine takeOp (i := 4) (v := ?_) (some 9) rfl rfl (by kernel_rfl) (by kernel_rfl) (by kernel_rfl) (fun _ _ _ h => h) (Or.inl ⟨by rfl, ?_⟩) (by assumption) ?_
  rotate_left 1
  · (intro w0 hSw; (try dsimp only at hSw); go_simp; try (with_reducible rfl))
  try simp only [Act.put]
  try simp only [List.setIfInBounds_toArray]
  try simp only [List.set_cons_succ]
  try simp only [List.set_cons_zero]
  refine takeOp (i := 5) (v := ?_) (some 10) rfl rfl (by kernel_rfl) (by kernel_rfl) (by kernel_rfl) (fun _ _ _ h => h) (Or.inl ⟨by rfl, ?_⟩) (by assumption) ?_
  rotate_left 1
  · (intro w0 hSw; (try dsimp only at hSw); go_simp; try (with_reducible rfl))
  try simp only [Act.put]
  try simp only [List.setIfInBounds_toArray]
  try simp only [List.set_cons_succ]
  try simp only [List.set_cons_zero]
  refine takeOp (i := 6) (v := ?_) (some 11) rfl rfl (by kernel_rfl) (by kernel_rfl) (by kernel_rfl) (fun _ _ _ h => h) (Or.inl ⟨by rfl, ?_⟩) (by assumption) ?_
  rotate_left 1
  · (intro w0 hSw; (try dsimp only at hSw); go_simp; try (with_reducible rfl))
  try simp only [Act.put]
  try simp only [List.setIfInBounds_toArray]
  try simp only [List.set_cons_succ]
  try simp only [List.set_cons_zero]
  refine takeOp (i := 7) (v := ?_) (some 12) rfl rfl (by kernel_rfl) (by kernel_rfl) (by kernel_rfl) (fun _ _ _ h => h) (Or.inl ⟨by rfl, ?_⟩) (by assumption) ?_
  rotate_left 1
  · (intro w0 hSw; (try dsimp only at hSw); go_simp; try (with_reducible rfl))
  try simp only [Act.put]
  try simp only [List.setIfInBounds_toArray]
  try simp only [List.set_cons_succ]
  try simp only [List.set_cons_zero]
  refine takeOp (i := 8) (v := ?_) (some 13) rfl rfl (by kernel_rfl) (by kernel_rfl) (by kernel_rfl) (fun _ _ _ h => h) (Or.inl ⟨by rfl, ?_⟩) (by assumption) ?_
  rotate_left 1
  · (intro w0 hSw; (try dsimp only at hSw); go_simp; try (with_reducible rfl))
  try simp only [Act.put]
  try simp only [List.setIfInBounds_toArray]
  try simp only [List.set_cons_succ]
  try simp only [List.set_cons_zero]
  refine takeOp (i := 9) (v := undef) (some 14) rfl rfl (by kernel_rfl) (by kernel_rfl) (by kernel_rfl) (fun _ _ _ h => h) (Or.inr ⟨by rfl, rfl⟩) (by assumption) ?_
  try simp only [Act.put]
  try simp only [List.setIfInBounds_toArray]
  try simp only [List.set_cons_succ]
  try simp only [List.set_cons_zero]
  refine takeOp (i := 10) (v := undef) (some 15) rfl rfl (by kernel_rfl) (by kernel_rfl) (by kernel_rfl) (fun _ _ _ h => h) (Or.inr ⟨by rfl, rfl⟩) (by assumption) ?_
  try simp only [Act.put]
  try simp only [List.setIfInBounds_toArray]
  try simp only [List.set_cons_succ]
  try simp only [List.set_cons_zero]
  refine takeOp (i := 11) (v := undef) (some 16) rfl rfl (by kernel_rfl) (by kernel_rfl) (by kernel_rfl) (fun _ _ _ h => h) (Or.inr ⟨by rfl, rfl⟩) (by assumption) ?_
  try simp only [Act.put]
  try simp only [List.setIfInBounds_toArray]
  try simp only [List.set_cons_succ]
  try simp only [List.set_cons_zero]
  refine takeOp (i := 12) (v := ?_) (some 17) rfl rfl (by kernel_rfl) (by kernel_rfl) (by kernel_rfl) (fun _ _ _ h => h) (Or.inl ⟨by rfl, ?_⟩) (by assumption) ?_
  rotate_left 1
  · (intro w0 hSw; (try dsimp only at hSw); go_simp; try (with_reducible rfl))
  try simp only [Act.put]
  try simp only [List.setIfInBounds_toArray]
  try simp only [List.set_cons_succ]
  try simp only [List.set_cons_zero]
  refine takeOp (i := 13) (v := ?_) (some 18) rfl rfl (by kernel_rfl) (by kernel_rfl) (by kernel_rfl) (fun _ _ _ h => h) (Or.inl ⟨by rfl, ?_⟩) (by assumption) ?_
  rotate_left 1
  · (intro w0 hSw; (try dsimp only at hSw); go_simp; try (with_reducible rfl))
  try simp only [Act.put]
  try simp only [List.setIfInBounds_toArray]
  try simp only [List.set_cons_succ]
  try simp only [List.set_cons_zero]
  refine takeOp (i := 14) (v := ?_) (some 19) rfl rfl (by kernel_rfl) (by kernel_rfl) (by kernel_rfl) (fun _ _ _ h => h) (Or.inl ⟨by rfl, ?_⟩) (by assumption) ?_
  rotate_left 1
  · (intro w0 hSw; (try dsimp only at hSw); go_simp; try (with_reducible rfl))
  try simp only [Act.put]
  try simp only [List.setIfInBounds_toArray]
  try simp only [List.set_cons_succ]
  try simp only [List.set_cons_zero]
  refine takeOp (i := 15) (v := ?_) (some 20) rfl rfl (by kernel_rfl) (by kernel_rfl) (by kernel_rfl) (fun _ _ _ h => h) (Or.inl ⟨by rfl, ?_⟩) (by assumption) ?_
  rotate_left 1
  · (intro w0 hSw; (try dsimp only at hSw); go_simp; try (with_reducible rfl))
  try simp only [Act.put]
  try simp only [List.setIfInBounds_toArray]
  try simp only [List.set_cons_succ]
  try simp only [List.set_cons_zero]
  refine takeOp (i := 16) (v := ?_) (some 21) rfl rfl (by kernel_rfl) (by kernel_rfl) (by kernel_rfl) (fun _ _ _ h => h) (Or.inl ⟨by rfl, ?_⟩) (by assumption) ?_
  rotate_left 1
  · (intro w0 hSw; (try dsimp only at hSw); go_simp; try (with_reducible rfl))
  try simp only [Act.put]
  try simp only [List.setIfInBounds_toArray]
  try simp only [List.set_cons_succ]
  try simp only [List.set_cons_zero]
  refine takeOp (i := 17) (v := ?_) (some 22) rfl rfl (by kernel_rfl) (by kernel_rfl) (by kernel_rfl) (fun _ _ _ h => h) (Or.inl ⟨by rfl, ?_⟩) (by assumption) ?_
  rotate_left 1
  · (intro w0 hSw; (try dsimp only at hSw); go_simp; try (with_reducible rfl))
  try simp only [Act.put]
  try simp only [List.setIfInBounds_toArray]
  try simp only [List.set_cons_succ]
  try simp only [List.set_cons_zero]
  refine takeOp (i := 18) (v := ?_) (some 23) rfl rfl (by kernel_rfl) (by kernel_rfl) (by kernel_rfl) (fun _ _ _ h => h) (Or.inl ⟨by rfl, ?_⟩) (by assumption) ?_
  rotate_left 1
  · (intro w0 hSw; (try dsimp only at hSw); go_simp; try (with_reducible rfl))
  try simp only [Act.put]
  try simp only [List.setIfInBounds_toArray]
  try simp only [List.set_cons_succ]
  try simp only [List.set_cons_zero]
  refine takeOp (i := 19) (v := ?_) (some 24) rfl rfl (by kernel_rfl) (by kernel_rfl) (by kernel_rfl) (fun _ _ _ h => h) (Or.inl ⟨by rfl, ?_⟩) (by assumption) ?_
  rotate_left 1
  · (intro w0 hSw; (try dsimp only at hSw); go_simp; try (with_reducible rfl))
  try simp only [Act.put]
  try simp only [List.setIfInBounds_toArray]
  try simp only [List.set_cons_succ]
  try simp only [List.set_cons_zero]
  refine takeOp (i := 20) (v := ?_) (some 25) rfl rfl (by kernel_rfl) (by kernel_rfl) (by kernel_rfl) (fun _ _ _ h => h) (Or.inl ⟨by rfl, ?_⟩) (by assumption) ?_
  rotate_left 1
  · (intro w0 hSw; (try dsimp only at hSw); go_simp; try (with_reducible rfl))
  try simp only [Act.put]
  try simp only [List.setIfInBounds_toArray]
  try simp only [List.set_cons_succ]
  try simp only [List.set_cons_zero]
  refine takeOp (i := 21) (v := ?_) (some 26) rfl rfl (by kernel_rfl) (by kernel_rfl) (by kernel_rfl) (fun _ _ _ h => h) (Or.inl ⟨by rfl, ?_⟩) (by assumption) ?_
  rotate_left 1
  · (intro w0 hSw; (try dsimp only at hSw); go_simp; try (with_reducible rfl))
  try simp only [Act.put]
  try simp only [List.setIfInBounds_toArray]
  try simp only [List.set_cons_succ]
  try simp only [List.set_cons_zero]
  refine takeOp (i := 22) (v := ?_) (some 27) rfl rfl (by kernel_rfl) (by kernel_rfl) (by kernel_rfl) (fun _ _ _ h => h) (Or.inl ⟨by rfl, ?_⟩) (by assumption) ?_
  rotate_left 1
  · (intro w0 hSw; (try dsimp only at hSw); go_simp; try (with_reducible rfl))
  try simp only [Act.put]
  try simp only [List.setIfInBounds_toArray]
  try simp only [List.set_cons_succ]
  try simp only [List.set_cons_zero]
  refine wpAnyH_ready (rs := [23]) (by kernel_rfl) (by simp) ?_
  refine AllReadyH.cons rfl (fun K hK => ?_) AllReadyH.nil
  go_simp
  refine (HDP.out _).mono ?_
  rintro e w2 ⟨rfl, hx0⟩
  have hx : Ext w w2 := (Ext.refl w).drew.trans hx0
  have KEEP2 : w2.cell? ⟨g, 0, none⟩ = some (.slice LA 0 C) ∧ w2.cell? ⟨g, 1, none⟩ = some (.int .i64 0) := ⟨(hx.cell hg).trans c0, (hx.cell hg).trans c1⟩
  have HX2 := Lib.hid hx
  clear hx hx0
  go_wp2_with fail
  refine hK.out _ _ KEEP2 (fun hHeld => ?_)
  clear hK K
  try simp only [Act.put]
  try simp only [List.setIfInBounds_toArray]
  try simp only [List.set_cons_succ]
  try simp only [List.set_cons_zero]
  refine takeOp (i := 24) (v := ?_) (some 29) rfl rfl (by kernel_rfl) (by kernel_rfl) (by kernel_rfl) (fun _ _ _ h => h) (Or.inl ⟨by rfl, ?_⟩) (by assumption) ?_
  rotate_left 1
  · (intro w0 hSw; (try dsimp only at hSw); go_simp; try (with_reducible rfl))
  try simp only [Act.put]
  try simp only [List.setIfInBounds_toArray]
  try simp only [List.set_cons_succ]
  try simp only [List.set_cons_zero]
  refine takeOp (i := 25) (v := ?_) (some 30) rfl rfl (by kernel_rfl) (by kernel_rfl) (by kernel_rfl) (fun _ _ _ h => h) (Or.inl ⟨by rfl, ?_⟩) (by assumption) ?_
  rotate_left 1
  · (intro w0 hSw; (try dsimp only at hSw); go_simp; try (with_reducible rfl))
  try simp only [Act.put]
  try simp only [List.setIfInBounds_toArray]
  try simp only [List.set_cons_succ]
  try simp only [List.set_cons_zero]
  refine wpAnyH_done (by kernel_rfl) ?_ _
  all_goals
    go_wp2
    go_ret
    exact ⟨rfl, HX2.out⟩

end Go.Proofs.Ytlcammcifjihpaa
end

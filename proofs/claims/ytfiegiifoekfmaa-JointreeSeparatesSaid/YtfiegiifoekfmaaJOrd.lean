/- Plain facts about the order of the nodes of a tree of parents: always the smallest node whose children have all been returned. -/
import Derived.Test.YtfiegiifoekfmaaJPlain
namespace Go.Proofs.Ytfiegiifoekfmaa.JT

theorem nodup_le {l m : List Nat} (hl : l.Nodup) (h : ∀ x ∈ l, x ∈ m) : l.length ≤ m.length := by
  induction l generalizing m with
  | nil => simp
  | cons a l ih =>
    have ha : a ∈ m := h a (by simp)
    rw [List.nodup_cons] at hl
    have h2 : l.length ≤ (m.erase a).length := ih hl.2 fun x hx => by
      have hne : x ≠ a := fun e => hl.1 (e ▸ hx)
      exact (List.mem_erase_of_ne hne).2 (h x (by simp [hx]))
    rw [List.length_erase_of_mem ha] at h2
    have : 0 < m.length := List.length_pos_of_mem ha
    simp; omega

theorem nodup_ne {l : List Nat} (h : l.Nodup) {i j : Nat} (hij : i < j) (hj : j < l.length) : l[i]? ≠ l[j]? := by
  unfold List.Nodup at h
  rw [List.pairwise_iff_getElem] at h
  rw [List.getElem?_eq_getElem hj, List.getElem?_eq_getElem (by omega)]
  intro e
  exact h i j (by omega) hj hij (by injection e)
theorem nodup_of {l : List Nat} (h : ∀ i j, i < j → j < l.length → l[i]? ≠ l[j]?) : l.Nodup := by
  unfold List.Nodup
  rw [List.pairwise_iff_getElem]
  intro i j hi hj hij e
  apply h i j hij hj
  rw [List.getElem?_eq_getElem hj, List.getElem?_eq_getElem hi, e]

/-- The parent of node k. -/
def par (ps : List Int) (k : Nat) : Int := ps[k]?.getD (-1)

def ready (ps : List Int) (D : List Nat) (v : Nat) : Prop := v < ps.length ∧ v ∉ D ∧ ∀ k, k < ps.length → par ps k = (v : Int) → k ∈ D
def readyB (ps : List Int) (D : List Nat) (v : Nat) : Bool := decide (v < ps.length) && !(D.contains v) && (List.range ps.length).all fun k => !(par ps k == (v : Int)) || D.contains k
theorem readyB_iff {ps : List Int} {D : List Nat} {v : Nat} : readyB ps D v = true ↔ ready ps D v := by
  unfold readyB ready
  simp only [Bool.and_eq_true, decide_eq_true_eq, Bool.not_eq_true', List.all_eq_true, List.mem_range, Bool.or_eq_true, and_assoc]
  constructor
  · rintro ⟨h1, h2, h3⟩
    refine ⟨h1, by simpa using h2, fun k hk hp => ?_⟩
    rcases h3 k hk with h | h
    · simp at h; exact absurd hp h
    · simpa using h
  · rintro ⟨h1, h2, h3⟩
    refine ⟨h1, by simpa using h2, fun k hk => ?_⟩
    by_cases hp : par ps k = (v : Int)
    · exact .inr (by simpa using h3 k hk hp)
    · exact .inl (by simpa using hp)

/-- How many children of u are not in D. -/
def cntF (ps : List Int) (D : List Nat) (u : Nat) : Nat := (List.range ps.length).countP fun k => (par ps k == (u : Int)) && !(D.contains k)

theorem cnt_zero {ps : List Int} {D : List Nat} {u : Nat} : cntF ps D u = 0 ↔ ∀ k, k < ps.length → par ps k = (u : Int) → k ∈ D := by
  unfold cntF
  rw [List.countP_eq_zero]
  simp only [List.mem_range, Bool.and_eq_true, Bool.not_eq_true', not_and, Bool.not_eq_false]
  constructor
  · intro h k hk hp
    have := h k hk (by simpa using hp)
    simpa using this
  · intro h k hk hp
    simpa using h k hk (by simpa using hp)

theorem countP_one_less (l : List Nat) (hl : l.Nodup) (p q : Nat → Bool) (v : Nat) (hv : v ∈ l) (hp : p v = true) (hq : q v = false) (hpq : ∀ x ∈ l, x ≠ v → p x = q x) : l.countP q + 1 = l.countP p := by
  induction l with
  | nil => simp at hv
  | cons a l ih =>
    rw [List.nodup_cons] at hl
    by_cases ha : a = v
    · subst ha
      have : l.countP q = l.countP p := List.countP_congr fun x hx => by
        rw [hpq x (by simp [hx]) (fun e => hl.1 (e ▸ hx))]
      simp [List.countP_cons, hp, hq, this]
    · have hv' : v ∈ l := by simp at hv; rcases hv with h | h; exact absurd h.symm ha; exact h
      have := ih hl.2 hv' fun x hx hne => hpq x (by simp [hx]) hne
      simp only [List.countP_cons, hpq a (by simp) ha]
      omega

theorem cnt_emit {ps : List Int} {D : List Nat} {v u : Nat} (hv : v < ps.length) (hn : v ∉ D) : cntF ps D u = cntF ps (D ++ [v]) u + (if par ps v = (u : Int) then 1 else 0) := by
  by_cases hp : par ps v = (u : Int)
  · rw [if_pos hp]
    unfold cntF
    symm
    apply countP_one_less _ List.nodup_range _ _ v (List.mem_range.2 hv)
    · simp [hp, hn]
    · simp
    · intro x _ hne
      simp [hne]
  · rw [if_neg hp]
    unfold cntF
    rw [Nat.add_zero]
    apply List.countP_congr
    intro x _
    by_cases hx : x = v
    · subst hx; simp [hp]
    · simp [hx]

/-- Each node of the list was the smallest one that was ready. -/
def Greedy (ps : List Int) (D : List Nat) : Prop := ∀ i v, D[i]? = some v → ready ps (D.take i) v ∧ ∀ u, u < v → ¬ ready ps (D.take i) u

theorem Greedy.nil (ps : List Int) : Greedy ps [] := fun i v h => by simp at h

theorem Greedy.snoc {ps : List Int} {D : List Nat} {v : Nat} (h : Greedy ps D) (hr : ready ps D v) (hm : ∀ u, u < v → ¬ ready ps D u) : Greedy ps (D ++ [v]) := by
  intro i x hx
  by_cases hi : i < D.length
  · rw [List.getElem?_append_left hi] at hx
    rw [List.take_append_of_le_length (by omega)]
    exact h i x hx
  · have : i = D.length := by
      have := (List.getElem?_eq_some_iff.1 hx).1
      simp at this; omega
    subst this
    simp at hx
    subst hx
    simpa using ⟨hr, hm⟩

theorem Greedy.lt {ps : List Int} {D : List Nat} (h : Greedy ps D) {v : Nat} (hv : v ∈ D) : v < ps.length := by
  obtain ⟨i, hi, rfl⟩ := List.getElem_of_mem hv
  exact (h i _ (List.getElem?_eq_getElem hi)).1.1

theorem Greedy.nodup {ps : List Int} {D : List Nat} (h : Greedy ps D) : D.Nodup := by
  apply nodup_of
  intro i j hij hj hc
  have h2 := (h j _ (List.getElem?_eq_getElem hj)).1.2.1
  apply h2
  rw [List.getElem?_eq_getElem hj] at hc
  rw [List.mem_take_iff_getElem]
  obtain ⟨hi, hi2⟩ := List.getElem?_eq_some_iff.1 hc
  exact ⟨i, by omega, hi2⟩

theorem Greedy.length {ps : List Int} {D : List Nat} (h : Greedy ps D) : D.length ≤ ps.length := by
  have := nodup_le (m := List.range ps.length) h.nodup fun x hx => List.mem_range.2 (h.lt hx)
  simpa using this

theorem Greedy.snoc' {ps : List Int} {D : List Nat} (h : Greedy ps D) {u : Nat} (hu : ready ps D u) : D.length < ps.length := by
  have h1 : (u :: D).Nodup := List.nodup_cons.2 ⟨hu.2.1, h.nodup⟩
  have h2 := nodup_le (m := List.range ps.length) h1 fun x hx => by
    simp at hx; rcases hx with rfl | hx
    · exact List.mem_range.2 hu.1
    · exact List.mem_range.2 (h.lt hx)
  simp at h2; omega

/-- The parent of a node comes behind it. -/
theorem Greedy.after {ps : List Int} {D : List Nat} (h : Greedy ps D) {v p : Nat} (hv : v < ps.length) (hp : par ps v = (p : Int)) {j : Nat} (hj : D[j]? = some p) : v ∈ D.take j :=
  (h j p hj).1.2.2 v hv hp

theorem Greedy.parent_out {ps : List Int} {D : List Nat} {v p : Nat} (h : Greedy ps (D ++ [v])) (hp : par ps v = (p : Int)) : p ∉ D ++ [v] := by
  intro hm
  obtain ⟨j, hj, hjp⟩ := List.getElem_of_mem hm
  have hjs : (D ++ [v])[j]? = some p := by rw [List.getElem?_eq_getElem hj, hjp]
  have hv : v < ps.length := h.lt (by simp)
  have hin := h.after hv hp hjs
  have hnd := h.nodup
  rw [List.nodup_append] at hnd
  have : v ∈ D := by
    rw [List.take_append_of_le_length (by simp at hj; omega)] at hin
    exact List.mem_of_mem_take hin
  exact hnd.2.2 v this v (by simp) rfl

theorem ready_emit {ps : List Int} {D : List Nat} {v u : Nat} (h : ready ps (D ++ [v]) u) : ready ps D u ∨ par ps v = (u : Int) := by
  by_cases hp : par ps v = (u : Int)
  · exact .inr hp
  · refine .inl ⟨h.1, fun hu => h.2.1 (by simp [hu]), fun k hk hkp => ?_⟩
    have := h.2.2 k hk hkp
    simp at this
    rcases this with h1 | h1
    · exact h1
    · subst h1; exact absurd hkp hp

/-- The whole order: greedy, and nothing is ready any more. -/
def IsOrder (ps : List Int) (D : List Nat) : Prop := Greedy ps D ∧ ∀ u, ¬ ready ps D u

def nextF (ps : List Int) (D : List Nat) : Option Nat := (List.range ps.length).find? (readyB ps D)
def orderGo (ps : List Int) : Nat → List Nat → List Nat
  | 0, D => D
  | f + 1, D => match nextF ps D with | none => D | some v => orderGo ps f (D ++ [v])
def orderF (ps : List Int) : List Nat := orderGo ps ps.length []

theorem nextF_none {ps : List Int} {D : List Nat} (h : ∀ u, ¬ ready ps D u) : nextF ps D = none := by
  unfold nextF
  rw [List.find?_eq_none]
  intro x _ hx
  exact h x (readyB_iff.1 hx)

theorem nextF_some {ps : List Int} {D : List Nat} {v : Nat} (h : ready ps D v) (hm : ∀ u, u < v → ¬ ready ps D u) : nextF ps D = some v := by
  unfold nextF
  rw [List.find?_range_eq_some]
  exact ⟨readyB_iff.2 h, List.mem_range.2 h.1, fun j hj => by
    have := hm j hj
    rw [← readyB_iff] at this
    simpa using this⟩

theorem nextF_of {ps : List Int} {D : List Nat} {v : Nat} (h : nextF ps D = some v) : ready ps D v ∧ ∀ u, u < v → ¬ ready ps D u := by
  unfold nextF at h
  rw [List.find?_range_eq_some] at h
  refine ⟨readyB_iff.1 h.1, fun u hu hr => ?_⟩
  have := h.2.2 u hu
  rw [readyB_iff.2 hr] at this
  simp at this

theorem orderGo_of {ps : List Int} {D : List Nat} (h : IsOrder ps D) : ∀ f j, j ≤ D.length → D.length - j ≤ f → orderGo ps f (D.take j) = D := by
  intro f
  induction f with
  | zero => intro j h1 h2; rw [List.take_of_length_le (by omega)]; rfl
  | succ f ih =>
    intro j h1 h2
    by_cases hj : j < D.length
    · have h3 := h.1 j D[j] (List.getElem?_eq_getElem hj)
      rw [orderGo, nextF_some h3.1 h3.2]
      show orderGo ps f (D.take j ++ [D[j]]) = D
      rw [← List.take_succ_eq_append_getElem hj]
      exact ih (j + 1) hj (by omega)
    · rw [List.take_of_length_le (by omega), orderGo, nextF_none h.2]

theorem order_unique {ps : List Int} {D : List Nat} (h : IsOrder ps D) : D = orderF ps := by
  have := orderGo_of h ps.length 0 (by omega) (by have := h.1.length; omega)
  simpa [orderF] using this.symm

theorem orderGo_is {ps : List Int} : ∀ f D, Greedy ps D → ps.length - D.length ≤ f → IsOrder ps (orderGo ps f D) := by
  intro f
  induction f with
  | zero =>
    intro D hD hf
    refine ⟨hD, fun u hu => ?_⟩
    have h1 : (u :: D).Nodup := List.nodup_cons.2 ⟨hu.2.1, hD.nodup⟩
    have h2 := nodup_le (m := List.range ps.length) h1 fun x hx => by
      simp at hx; rcases hx with rfl | hx
      · exact List.mem_range.2 hu.1
      · exact List.mem_range.2 (hD.lt hx)
    simp at h2; omega
  | succ f ih =>
    intro D hD hf
    unfold orderGo
    cases hn : nextF ps D with
    | none =>
      refine ⟨hD, fun u hu => ?_⟩
      unfold nextF at hn
      rw [List.find?_eq_none] at hn
      exact hn u (List.mem_range.2 hu.1) (readyB_iff.2 hu)
    | some v =>
      obtain ⟨h1, h2⟩ := nextF_of hn
      exact ih _ (hD.snoc h1 h2) (by simp; omega)

theorem orderF_is (ps : List Int) : IsOrder ps (orderF ps) := orderGo_is _ _ (Greedy.nil ps) (by simp)

/-! ### The order is whole just where every node leads to a root -/

theorem up_neg {ps : List Int} {v : Int} (h : v < 0) : ∀ k, up ps k v = v
  | 0 => rfl
  | k + 1 => by rw [up, if_pos h]

theorem up_succ {ps : List Int} {v : Nat} (hv : v < ps.length) (k : Nat) : up ps (k + 1) (v : Int) = up ps k (par ps v) := by
  rw [up, if_neg (by omega)]
  simp [par, hv]

theorem whole_up {ps : List Int} {D : List Nat} (h : Greedy ps D) (hv : ∀ p ∈ ps, -1 ≤ p ∧ p < ps.length) (hall : ∀ u, u < ps.length → u ∈ D) :
    ∀ k i v : Nat, D[i]? = some v → up ps k (v : Int) < 0 ∨ ∃ j x : Nat, D[j]? = some x ∧ up ps k (v : Int) = (x : Int) ∧ i + k ≤ j := by
  intro k
  induction k with
  | zero => intro i v hi; exact .inr ⟨i, v, hi, rfl, by omega⟩
  | succ k ih =>
    intro i v hi
    have hvl : v < ps.length := (h i v hi).1.1
    rw [up_succ hvl]
    have hpar : par ps v = ps[v] := by simp [par, hvl]
    have hb := hv ps[v] (List.getElem_mem hvl)
    by_cases hp : par ps v < 0
    · exact .inl (by rw [up_neg hp]; exact hp)
    · obtain ⟨p, hpp⟩ := Int.eq_ofNat_of_zero_le (show 0 ≤ par ps v by omega)
      have hpin : p ∈ D := hall p (by omega)
      obtain ⟨j, hj, hjp⟩ := List.getElem_of_mem hpin
      have hjs : D[j]? = some p := by rw [List.getElem?_eq_getElem hj, hjp]
      have hin := h.after hvl hpp hjs
      have hij : i < j := by
        rw [List.mem_take_iff_getElem] at hin
        obtain ⟨i', hi', he⟩ := hin
        have hii : i' = i := by
          have hnd := h.nodup
          have hil := (List.getElem?_eq_some_iff.1 hi).1
          have h1 : D[i']? = D[i]? := by rw [List.getElem?_eq_getElem (by omega), he, hi]
          rcases Nat.lt_trichotomy i' i with hlt | heq | hgt
          · exact absurd h1 (nodup_ne hnd hlt hil)
          · exact heq
          · exact absurd h1.symm (nodup_ne hnd hgt (by omega))
        omega
      rw [hpp]
      rcases ih j p hjs with h1 | ⟨j', x, h1, h2, h3⟩
      · exact .inl h1
      · exact .inr ⟨j', x, h1, h2, by omega⟩

theorem order_whole {ps : List Int} (hv : ∀ p ∈ ps, -1 ≤ p ∧ p < ps.length) : (orderF ps).length = ps.length ↔ ∀ i, i < ps.length → up ps ps.length (i : Int) < 0 := by
  have hO := orderF_is ps
  generalize orderF ps = D at *
  constructor
  · intro hl i hi
    have hall : ∀ u, u < ps.length → u ∈ D := by
      intro u hu
      refine Classical.byContradiction fun hn => ?_
      have h1 : (u :: D).Nodup := List.nodup_cons.2 ⟨hn, hO.1.nodup⟩
      have h2 := nodup_le (m := List.range ps.length) h1 fun x hx => by
        simp at hx; rcases hx with rfl | hx
        · exact List.mem_range.2 hu
        · exact List.mem_range.2 (hO.1.lt hx)
      simp at h2; omega
    obtain ⟨j, hj, hji⟩ := List.getElem_of_mem (hall i hi)
    rcases whole_up hO.1 hv hall ps.length j i (by rw [List.getElem?_eq_getElem hj, hji]) with h1 | ⟨j', x, h1, _, h3⟩
    · exact h1
    · have := (List.getElem?_eq_some_iff.1 h1).1
      omega
  · intro hall
    have hle := hO.1.length
    refine Classical.byContradiction fun hne => ?_
    have hex : ∃ u, u < ps.length ∧ u ∉ D := by
      refine Classical.byContradiction fun hn => ?_
      have h2 := nodup_le (l := List.range ps.length) (m := D) List.nodup_range fun x hx => by
        refine Classical.byContradiction fun hx2 => hn ⟨x, List.mem_range.1 hx, hx2⟩
      simp at h2; omega
    obtain ⟨u, hu, hun⟩ := hex
    have hch : ∀ k, ∃ x, x < ps.length ∧ x ∉ D ∧ up ps k (x : Int) = (u : Int) := by
      intro k
      induction k with
      | zero => exact ⟨u, hu, hun, rfl⟩
      | succ k ih =>
        obtain ⟨x, hx, hxn, hxu⟩ := ih
        have hnr := hO.2 x
        have : ∃ y, y < ps.length ∧ par ps y = (x : Int) ∧ y ∉ D := by
          refine Classical.byContradiction fun hn => hnr ⟨hx, hxn, fun y hy hyp => ?_⟩
          refine Classical.byContradiction fun hyn => hn ⟨y, hy, hyp, hyn⟩
        obtain ⟨y, hy, hyp, hyn⟩ := this
        exact ⟨y, hy, hyn, by rw [up_succ hy, hyp, hxu]⟩
    obtain ⟨x, hx, _, hxu⟩ := hch ps.length
    have := hall x hx
    omega

theorem rootedB_of {ps : List Int} (hv : ∀ p ∈ ps, -1 ≤ p ∧ p < ps.length) : rootedB ps = ((rootsF ps == 1) && decide ((orderF ps).length = ps.length)) := by
  have h1 : validB ps = true := by
    unfold validB
    simp only [List.all_eq_true, Bool.and_eq_true, decide_eq_true_eq]
    exact hv
  unfold rootedB
  rw [h1, Bool.true_and]
  congr 1
  rw [Bool.eq_iff_iff, decide_eq_true_eq, order_whole hv]
  simp [List.all_eq_true]

theorem rootedB_bad {ps : List Int} (h : ¬ ∀ p ∈ ps, -1 ≤ p ∧ p < ps.length) : rootedB ps = false := by
  have h1 : validB ps = false := by
    rw [Bool.eq_false_iff]
    intro h2
    unfold validB at h2
    simp only [List.all_eq_true, Bool.and_eq_true, decide_eq_true_eq] at h2
    exact h h2
  simp [rootedB, h1]

theorem up_self {ps : List Int} {i : Nat} (hi : i < ps.length) (h : ps[i] = (i : Int)) : ∀ k, up ps k (i : Int) = (i : Int)
  | 0 => rfl
  | k + 1 => by
    rw [up_succ hi, show par ps i = (i : Int) by simp [par, hi, h]]
    exact up_self hi h k

theorem rootedB_self {ps : List Int} {i : Nat} (hi : i < ps.length) (h : ps[i] = (i : Int)) : rootedB ps = false := by
  rw [Bool.eq_false_iff]
  intro h2
  unfold rootedB at h2
  simp only [Bool.and_eq_true, List.all_eq_true, List.mem_range, decide_eq_true_eq] at h2
  have := h2.2 i hi
  rw [up_self hi h] at this
  omega

theorem roots_snoc (ps : List Int) {k : Nat} (hk : k < ps.length) : rootsF (ps.take (k + 1)) = rootsF (ps.take k) + if ps[k] < 0 then 1 else 0 := by
  unfold rootsF
  rw [List.take_succ_eq_append_getElem hk, List.countP_append]
  by_cases h : ps[k] < 0 <;> simp [h]
theorem roots_le (ps : List Int) : rootsF ps ≤ ps.length := List.countP_le_length
theorem all_snoc {α : Type} {ps : List α} {P : α → Prop} {k : Nat} (hk : k < ps.length) (h : ∀ p ∈ ps.take k, P p) : P ps[k] → ∀ p ∈ ps.take (k + 1), P p := by
  intro hp p hm
  rw [List.take_succ_eq_append_getElem hk, List.mem_append] at hm
  rcases hm with hm | hm
  · exact h p hm
  · simp at hm; rw [hm]; exact hp
theorem rootedB_bad' {ps : List Int} {k : Nat} (hk : k < ps.length) : ¬ (-1 ≤ ps[k] ∧ ps[k] < ps.length) → rootedB ps = false :=
  fun h => rootedB_bad fun h2 => h (h2 _ (List.getElem_mem hk))
theorem rootedB_self' {ps : List Int} {k : Nat} (hk : k < ps.length) : ps[k] = (k : Int) → rootedB ps = false := rootedB_self hk

theorem up_tail (ps : List Int) : ∀ (k : Nat) (v : Int), up ps (k + 1) v = if up ps k v < 0 then up ps k v else ps[(up ps k v).toNat]?.getD 0
  | 0, v => rfl
  | k + 1, v => by
    rw [up]
    by_cases h : v < 0
    · rw [if_pos h, up_neg h, if_pos h]
    · rw [if_neg h, up_tail ps k]
      have : up ps (k + 1) v = up ps k (ps[v.toNat]?.getD 0) := by rw [up, if_neg h]
      rw [this]
theorem up_stop {ps : List Int} {k n : Nat} {v : Int} (h : up ps k v < 0) (hkn : k ≤ n) : up ps n v < 0 := by
  induction n with
  | zero => obtain rfl : k = 0 := by omega
            exact h
  | succ n ih =>
    by_cases hk : k = n + 1
    · subst hk; exact h
    · have := ih (by omega)
      rw [up_tail, if_pos this]; exact this
theorem rootedB_true {ps : List Int} (hv : ∀ p ∈ ps, -1 ≤ p ∧ p < ps.length) (hr : rootsF ps = 1) (h : ∀ i, i < ps.length → up ps ps.length (i : Int) < 0) : rootedB ps = true := by
  rw [rootedB_of hv, hr]
  simp
  exact (order_whole hv).2 h
theorem rootedB_false {ps : List Int} {i : Nat} (hi : i < ps.length) (h : ¬ up ps ps.length (i : Int) < 0) : rootedB ps = false := by
  rw [Bool.eq_false_iff]
  intro h2
  unfold rootedB at h2
  simp only [Bool.and_eq_true, List.all_eq_true, List.mem_range, decide_eq_true_eq] at h2
  exact h (h2.2 i hi)

/-! ### Counters in a list -/
def Cnts (n : Nat) (cs : List Int) (f : Nat → Nat) : Prop := cs.length = n ∧ ∀ u, u < n → cs[u]? = some (f u : Int)
theorem Cnts.zero (n : Nat) : Cnts n (List.replicate n 0) fun _ => 0 := ⟨by simp, fun u hu => by simp [hu]⟩
theorem Cnts.congr {n : Nat} {cs : List Int} {f g : Nat → Nat} (h : Cnts n cs f) (hfg : ∀ u, u < n → f u = g u) : Cnts n cs g := ⟨h.1, fun u hu => by rw [h.2 u hu, hfg u hu]⟩
theorem Cnts.put {n : Nat} {cs : List Int} {f g : Nat → Nat} {j : Nat} {c : Int} (h : Cnts n cs f) (hj : c = (g j : Int)) (hfg : ∀ u, u < n → u ≠ j → f u = g u) : Cnts n (cs.set j c) g := by
  refine ⟨by simp [h.1], fun u hu => ?_⟩
  by_cases he : j = u
  · subst he
    rw [List.getElem?_set_self (by rw [h.1]; exact hu), hj]
  · rw [List.getElem?_set_ne he, h.2 u hu, hfg u hu (fun e => he e.symm)]
theorem Cnts.get {n : Nat} {cs : List Int} {f : Nat → Nat} (h : Cnts n cs f) {u : Nat} (hu : u < n) (hl : u < cs.length) : cs[u] = (f u : Int) := by
  have := h.2 u hu
  rw [List.getElem?_eq_getElem hl] at this
  injection this

def cnt1 (ps : List Int) (k u : Nat) : Nat := (List.range k).countP fun j => par ps j == (u : Int)
theorem cnt1_succ (ps : List Int) (k u : Nat) : cnt1 ps (k + 1) u = cnt1 ps k u + if par ps k = (u : Int) then 1 else 0 := by
  unfold cnt1
  rw [List.range_succ, List.countP_append]
  by_cases h : par ps k = (u : Int) <;> simp [h]
theorem cnt1_le (ps : List Int) (k u : Nat) : cnt1 ps k u ≤ k := by
  have := List.countP_le_length (l := List.range k) (p := fun j => par ps j == (u : Int))
  simpa [cnt1] using this
theorem cnt1_whole (ps : List Int) (u : Nat) : cnt1 ps ps.length u = cntF ps [] u := by
  unfold cnt1 cntF
  simp
theorem cntF_le (ps : List Int) (D : List Nat) (u : Nat) : cntF ps D u ≤ ps.length := by
  have := List.countP_le_length (l := List.range ps.length) (p := fun k => (par ps k == (u : Int)) && !(D.contains k))
  simpa [cntF] using this

/-- The state inside round k of the order's loop: the nodes D are out, the counters cs are right, v is the only node up to k that may be ready. -/
structure InnerI (ps : List Int) (k : Nat) (D : List Nat) (cs : List Int) (v : Int) : Prop where
  greedy : Greedy ps D
  cnts : Cnts ps.length cs (cntF ps D)
  le : ∀ d ∈ D, d ≤ k
  only : ∀ u, ready ps D u → k < u ∨ (u : Int) = v
  out : ∀ p : Nat, v = (p : Int) → p ∉ D

theorem InnerI.start {ps : List Int} {k : Nat} {D : List Nat} {cs : List Int} (hG : Greedy ps D) (hc : Cnts ps.length cs (cntF ps D)) (hl : ∀ d ∈ D, d < k) (hr : ∀ u, ready ps D u → k ≤ u) : InnerI ps k D cs (k : Int) :=
  ⟨hG, hc, fun d hd => by have := hl d hd; omega, fun u hu => by have := hr u hu; omega, fun p hp hm => by have := hl p hm; omega⟩

theorem InnerI.ready {ps : List Int} {k : Nat} {D : List Nat} {cs : List Int} {v : Nat} (h : InnerI ps k D cs (v : Int)) (hv : v < ps.length) (h0 : cntF ps D v = 0) : ready ps D v :=
  ⟨hv, h.out v rfl, cnt_zero.1 h0⟩

theorem InnerI.length {ps : List Int} {k : Nat} {D : List Nat} {cs : List Int} {v : Nat} (h : InnerI ps k D cs (v : Int)) (hv : v < ps.length) : D.length < ps.length := by
  have h1 : (v :: D).Nodup := List.nodup_cons.2 ⟨h.out v rfl, h.greedy.nodup⟩
  have h2 := nodup_le (m := List.range ps.length) h1 fun x hx => by
    simp at hx; rcases hx with rfl | hx
    · exact List.mem_range.2 hv
    · exact List.mem_range.2 (h.greedy.lt hx)
  simp at h2; omega

theorem InnerI.emit {ps : List Int} {k : Nat} {D : List Nat} {cs : List Int} {v : Nat} (h : InnerI ps k D cs (v : Int)) (hv : v < ps.length) (hvk : v ≤ k) (h0 : cntF ps D v = 0) {cs' : List Int} (hc : Cnts ps.length cs' (cntF ps (D ++ [v]))) :
    InnerI ps k (D ++ [v]) cs' (par ps v) := by
  have hr := h.ready hv h0
  have hG : Greedy ps (D ++ [v]) := h.greedy.snoc hr fun u hu hru => by
    rcases h.only u hru with h1 | h1
    · omega
    · omega
  refine ⟨hG, hc, fun d hd => ?_, fun u hu => ?_, fun p hp => hG.parent_out hp⟩
  · simp at hd; rcases hd with hd | rfl
    · exact h.le d hd
    · exact hvk
  · rcases ready_emit hu with h1 | h1
    · rcases h.only u h1 with h2 | h2
      · exact .inl h2
      · exfalso
        have : u = v := by omega
        subst this
        exact hu.2.1 (by simp)
    · exact .inr h1.symm

theorem InnerI.done {ps : List Int} {k : Nat} {D : List Nat} {cs : List Int} {v : Int} (h : InnerI ps k D cs v) (hx : v < 0 ∨ (k : Int) < v ∨ ∃ p : Nat, v = (p : Int) ∧ cntF ps D p ≠ 0) : ∀ u, JT.ready ps D u → k + 1 ≤ u := by
  intro u hu
  rcases h.only u hu with h1 | h1
  · omega
  · rcases hx with h2 | h2 | ⟨p, hp, h2⟩
    · omega
    · omega
    · exfalso
      have : u = p := by omega
      subst this
      exact h2 (cnt_zero.2 hu.2.2)

end Go.Proofs.Ytfiegiifoekfmaa.JT

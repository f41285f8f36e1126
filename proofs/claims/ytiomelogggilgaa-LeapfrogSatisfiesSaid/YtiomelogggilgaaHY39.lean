/- Plain: the join's own rows joined again; a variable that is fixed. -/
import Derived.Test.YtiomelogggilgaaQ12
namespace Go.Proofs.Ytiomelogggilgaa
open Go.RowKit Go.Sort

theorem range_dv {m : Nat} {y : RL.R} (h : y.length = m) : (List.range m).map (dv y) = y := by
  refine List.ext_getElem (by simp [h]) fun i h1 h2 => ?_
  rw [List.getElem_map, List.getElem_range]
  unfold dv
  rw [List.getD_eq_getElem?_getD, List.getElem?_eq_getElem h2]
  rfl
theorem ints_nat (l : List Nat) : (ints l).map Int.toNat = l := by
  unfold ints
  rw [List.map_map]
  conv => rhs; rw [← List.map_id l]
  exact List.map_congr_left fun k _ => by simp
theorem errAt_ints {m : Nat} {l : List Nat} {ar : Int} {P : List RL.R} (h1 : l.Pairwise (· < ·)) (h2 : ∀ v ∈ l, v < m) (h3 : ar = (l.length : Nat)) : errAt (m : Int) ⟨ints l, ar, P⟩ = 0 := by
  rw [errAt_arity]
  · rw [if_pos]
    show ((ints l).length : Int) = ar
    unfold ints
    rw [List.length_map]
    omega
  · show (ints l).Pairwise (· < ·)
    unfold ints
    exact List.pairwise_map.2 (h1.imp fun h => by omega)
  · intro v hv
    have hv' : v ∈ ints l := hv
    unfold ints at hv'
    obtain ⟨k, hk, rfl⟩ := List.mem_map.1 hv'
    have := h2 k hk
    omega
/-- The rows of a join as an atom over all variables. -/
def ownA (m : Nat) (J : List RL.R) : RA := ⟨ints (List.range m), (m : Nat), J⟩
/-- The atom that fixes a variable. -/
def fixA (k : Nat) (c : RL.V) : RA := ⟨ints [k], 1, [[c]]⟩
section
variable {m : Nat} {X : List RA}
theorem Good0.addl (h : Good0 m X) {a : RA} (hs : Small a) (he : errAt (m : Int) a = 0) (hl : X.length + 1 ≤ 32) : Good0 m (a :: X) where
  le := h.le
  many := by rw [List.length_cons]; exact hl
  sm x hx := by
    rcases List.mem_cons.1 hx with rfl | hx
    · exact hs
    · exact h.sm x hx
  ok x hx := by
    rcases List.mem_cons.1 hx with rfl | hx
    · exact he
    · exact h.ok x hx
  cov v hv := by
    obtain ⟨x, hx, hm⟩ := h.cov v hv
    exact ⟨x, List.mem_cons_of_mem _ hx, hm⟩
theorem Good0.perm (h : Good0 m X) {Y : List RA} (hl : Y.length ≤ 32) (hm : ∀ a, a ∈ X ↔ a ∈ Y) : Good0 m Y where
  le := h.le
  many := hl
  sm x hx := h.sm x ((hm x).2 hx)
  ok x hx := h.ok x ((hm x).2 hx)
  cov v hv := by
    obtain ⟨x, hx, hv⟩ := h.cov v hv
    exact ⟨x, (hm x).1 hx, hv⟩
theorem Good0.errA (h : Good0 m X) : errA (m : Int) X = 0 := errA_of h.le h.many h.ok h.cov
theorem Good0.own (h : Good0 m X) (hl : (joinF m (X.map RA.at)).length ≤ 60000) : Small (ownA m (joinF m (X.map RA.at))) where
  ss := h.joinSS
  len r hr := by have := ((h.mem r).1 hr).1; show (r.length : Int) = (m : Nat); omega
  ar := by have := h.le; show ((m : Nat) : Int) ≤ 1000; omega
  many := hl
  vl := by
    have := h.le
    show (ints (List.range m)).length ≤ 1000
    unfold ints
    rw [List.length_map, List.length_range]
    omega
  I := h.I
theorem own_err (J : List RL.R) : errAt (m : Int) (ownA m J) = 0 := errAt_ints List.pairwise_lt_range (fun v hv => List.mem_range.1 hv) (by rw [List.length_range])
theorem own_sat (J : List RL.R) {y : RL.R} (hy : y.length = m) : satA (ownA m J).at y ↔ y ∈ J := by
  unfold satA
  show ((ints (List.range m)).map Int.toNat).map (dv y) ∈ J ↔ y ∈ J
  rw [ints_nat, range_dv hy]
/-- The join's own rows joined with all atoms are the join again. -/
theorem Good0.again (h : Good0 m X) (hl : (joinF m (X.map RA.at)).length ≤ 60000) (hX : X.length + 1 ≤ 32) : Good0 m (ownA m (joinF m (X.map RA.at)) :: X) ∧ joinF m ((ownA m (joinF m (X.map RA.at)) :: X).map RA.at) = joinF m (X.map RA.at) := by
  have hg := h.addl (h.own hl) (own_err _) hX
  refine ⟨hg, hg.ext h fun y hy => ⟨fun hs a ha => hs a (List.mem_cons_of_mem _ ha), fun hs a ha => ?_⟩⟩
  rcases List.mem_cons.1 ha with rfl | ha
  · exact (own_sat _ hy).2 ((h.mem y).2 ⟨hy, hs⟩)
  · exact hs a ha
theorem fix_small (k : Nat) (x : Nat) : Small (fixA k (valI x)) where
  ss := List.pairwise_singleton _ _
  len r hr := by have hr' : r ∈ [[valI x]] := hr; simp at hr'; subst hr'; rfl
  ar := by show (1 : Int) ≤ 1000; omega
  many := by show [[valI x]].length ≤ 60000; simp
  vl := by show (ints [k]).length ≤ 1000; simp [ints]
  I r hr c hc := by have hr' : r ∈ [[valI x]] := hr; simp at hr'; subst hr'; simp at hc; subst hc; exact ⟨x, rfl⟩
theorem fix_err {k : Nat} (hk : k < m) (c : RL.V) : errAt (m : Int) (fixA k c) = 0 := errAt_ints (List.pairwise_singleton _ _) (fun v hv => by simp at hv; subst hv; exact hk) rfl
theorem fix_sat (k : Nat) (c : RL.V) (y : RL.R) : satA (fixA k c).at y ↔ dv y k = c := by
  unfold satA
  show ((ints [k]).map Int.toNat).map (dv y) ∈ [[c]] ↔ _
  rw [ints_nat]
  simp
theorem Good0.fixed (h : Good0 m X) {k : Nat} (hk : k < m) (x : Nat) (hX : X.length + 1 ≤ 32) : Good0 m (X ++ [fixA k (valI x)]) ∧ joinF m ((X ++ [fixA k (valI x)]).map RA.at) = (joinF m (X.map RA.at)).filter fun r => decide (dv r k = valI x) := by
  have hg : Good0 m (X ++ [fixA k (valI x)]) := (h.addl (fix_small k x) (fix_err hk _) hX).perm (by rw [List.length_append]; exact hX) fun a => by simp [or_comm]
  refine ⟨hg, RL.SS.ext hg.joinSS (h.joinSS.filter _) fun y => ?_⟩
  rw [hg.mem, List.mem_filter, h.mem]
  constructor
  · intro ⟨h1, h2⟩
    exact ⟨⟨h1, fun a ha => h2 a (List.mem_append_left _ ha)⟩, decide_eq_true ((fix_sat k _ y).1 (h2 _ (List.mem_append_right _ (by simp))))⟩
  · intro ⟨⟨h1, h2⟩, h3⟩
    refine ⟨h1, fun a ha => ?_⟩
    rcases List.mem_append.1 ha with ha | ha
    · exact h2 a ha
    · simp at ha; subst ha; exact (fix_sat k _ y).2 (of_decide_eq_true h3)
end

end Go.Proofs.Ytiomelogggilgaa

/- Walks: slices.Grow of the nil slice of rows, slices.Concat of two lists of rows, relation's Delete. -/
import Derived.Test.YtiomelogggilgaaHV23
import Derived.Lib.AppendZerosOnto
namespace Go.Proofs.Ytiomelogggilgaa
open Go.RowKit Go.Sort

/-- append of n zero headers to the nil slice. -/
theorem appZ {w : World} {ops : Array Oper} {rest : List Oper} {o : Oper} {a : Act} {Q : Exit → Act → World → Prop} (hgd : o.guard = none) (s x : Operand)
    (ho : o.op = .call { callee := .builtin .append, args := #[s, x], argTypes := #[32, 3] })
    (n : Nat) (hs : a.eval s = .slice none 0 0) (hx : a.eval x = .int .i64 (n : Int)) (h0 : 0 < n) (hn : n ≤ 1000000)
    (h : ∀ G w', n ≤ G → G ≤ 9223372036854775807 → w'.ownsRow w.heap.size 34 1 (.slice (some ⟨w.heap.size, 0, none⟩) 0 G) 0 [] → Below w.heap.size w w' → wpList Try.prog ops Q rest (a.put o.dst (.slice (some ⟨w.heap.size, 0, none⟩) n G)) w') : wpList Try.prog ops Q (o :: rest) a w := by
  obtain ⟨i0, hi0, hz0, hz1, hz2⟩ := info_parts rowInfo
  have hold : (Builtin.firstCells i0.size 0 (.slice none 0 0)).run Try.prog w.drew = .ok ([] : List Value).toArray w.drew := run_firstCells_none w.drew i0.size 0 0 0
  have hrz := Lib.run_append_grow_zeros w 32 3 o.type 34 i0 _ .i64 .i64 Try.underlying32 Try.underlying3 hi0 hz0 none 0 0 [] hold n h0 (by rw [hz1]; omega) (by omega) (by omega) (by rw [hz2]; omega) (by rw [hz2]; exact growslice_fits (by omega) (by omega))
  rw [Nat.zero_add] at hrz
  have hGn : n ≤ grownCap w n 0 34 := grownCap_ge w _ _ _
  have hG63 : grownCap w n 0 34 ≤ maxLen := grownCap_le_maxLen w n 0 34 (by unfold maxLen; omega)
  refine wpList_plain hgd fun K hK => ?_
  unfold Oper.wp execOp
  simp only [ho, resolve, invoke, builtin, Sem.run_bind, Sem.run_pure, Result.andThen_ok, List.map_toArray, List.map_cons, List.map_nil, hs, hx, hrz]
  refine hK _ _ (h _ _ hGn (by unfold maxLen at hG63; omega) ?_ ((Below.refl _ w).drew.alloc (Nat.le_refl _) _))
  exact ⟨by simp, .inr ⟨w.heap.size, _, _, rfl, Nat.le_refl _, heap_alloc_new w.drew _, Nat.zero_le _, hG63, by simp [Builtin.zeroCells, Value.cells]; omega, by simp⟩⟩

/-- Without one place. -/
theorem del_at {X : List RL.R} (h : RL.SS X) {x : RL.R} (hm : x ∈ X) : RL.delF X x = X.take (RL.rank X x) ++ X.drop (RL.rank X x + 1) := by
  obtain ⟨hi, e⟩ := (RL.mem_iff_rank h x).1 hm
  have hsplit : X = X.take (RL.rank X x) ++ (X[RL.rank X x] :: X.drop (RL.rank X x + 1)) := by
    conv => lhs; rw [← List.take_append_drop (RL.rank X x) X, List.drop_eq_getElem_cons hi]
  unfold RL.delF
  conv => lhs; rw [hsplit]
  rw [List.filter_append, List.filter_cons_of_neg (by rw [e, RL.tot_cmpR.self]; simp)]
  congr 1
  · rw [List.filter_eq_self]
    intro y hy
    have := RL.lt_rank h x y hy
    simp
    omega
  · rw [List.filter_eq_self]
    intro y hy
    obtain ⟨j, hj, rfl⟩ := List.getElem_of_mem hy
    rw [List.getElem_drop]
    have hj' : RL.rank X x + 1 + j < X.length := by simp at hj; omega
    have := h.get (i := RL.rank X x) (j := RL.rank X x + 1 + j) (by omega) hj'
    rw [e, RL.tot_cmpR.sw X[RL.rank X x + 1 + j] x] at this
    simp
    omega
theorem del_none {X : List RL.R} {x : RL.R} (hm : x ∉ X) : RL.delF X x = X := by
  unfold RL.delF
  rw [List.filter_eq_self]
  intro y hy
  simp [RL.tot_cmpR.z]
  intro e; subst e; exact hm hy

end Go.Proofs.Ytiomelogggilgaa

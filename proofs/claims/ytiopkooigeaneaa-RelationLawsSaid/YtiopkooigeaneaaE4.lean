/- append of many rows to a list of rows that the call owns; the source nil, empty or not (the run's two laws turned from the kit's extra-words.md). -/
import Derived.Test.YtiopkooigeaneaaV11
import Derived.Maps.AppendAt
namespace Go.Proofs.Ytiopkooigeaneaa
open Go.RowKit Go.Sort

theorem SlRs.hdrs {B : Nat} {w : World} {A : Option Addr} {Y : List RL.R} (h : SlRs B w A Y) : ∃ hs : List Value, hs.length = Y.length ∧ (∀ u ∈ hs, u.oneCell' = true) ∧ (∀ ad, A = some ad → ∀ j u, hs[j]? = some u → w.cell? (ad.add j) = some u) ∧ (A = none → Y = []) ∧
    ∀ i (h : i < Y.length), ∃ A' C', hs[i]? = some (.slice A' Y[i].length C') ∧ Y[i].length ≤ C' ∧ C' ≤ 9223372036854775807 ∧ SlR B w A' Y[i] := by
  by_cases hn : Y = []
  · subst hn
    exact ⟨[], rfl, by simp, fun _ _ j u hu => by simp at hu, fun _ => rfl, fun i hi => absurd hi (by simp)⟩
  obtain ⟨b, o, rfl, hb, hc⟩ := h hn
  refine ⟨(List.range Y.length).map fun i => (w.cell? ⟨b, o + i, none⟩).getD (.slice none 0 0), by simp, ?_, ?_, by simp, ?_⟩
  · intro u hu
    simp at hu
    obtain ⟨i, hi, rfl⟩ := hu
    obtain ⟨A', C', h1, _⟩ := hc i hi
    rw [h1]; rfl
  · intro ad e j u hu
    injection e with e
    subst e
    rw [Addr.add_lit]
    obtain ⟨hj, e⟩ := List.getElem?_eq_some_iff.1 hu
    simp at hj
    simp at e
    obtain ⟨A', C', h1, _⟩ := hc j hj
    rw [h1] at e ⊢
    rw [← e]; rfl
  · intro i hi
    obtain ⟨A', C', h1, h2, h3, h4⟩ := hc i hi
    refine ⟨A', C', ?_, h2, h3, h4⟩
    rw [List.getElem?_eq_getElem (by simpa using hi)]
    simp [h1]

theorem run_append_none {P : Program} (w : World) (base : Nat) (t ty e : TypeId) (i : TypeInfo) (size : Nat) (ht : P.underlying t = some (.slice e)) (hi : P.info? e = some i)
    (v : Value) (n : Nat) (xs : List Value) (hown : w.ownsRow base e size v n xs) (c : Nat) : (Builtin.append_ #[t, t] ty #[v, .slice none 0 c]).run P w = .ok v w := by
  rcases hown.2 with ⟨rfl, rfl⟩ | ⟨g, cap, cur, rfl, _, _, hnc, _⟩
  · simp [Builtin.append_, run_underlying ht, sizeOf, typeInfo, hi, Builtin.lenOf, Builtin.firstCells]
  · simp [Builtin.append_, run_underlying ht, sizeOf, typeInfo, hi, Builtin.lenOf, Builtin.firstCells, hnc, storeCells]

/-- What an append of rows from below leaves of a list of rows under way. -/
theorem OwnRs.many {w w' : World} {B : Nat} {E : TypeId} {v v' : Value} {X Y : List RL.R} {hs ns : List Value} (h1 : w.ownsRow B E 1 v X.length hs)
    (h2 : ∀ i (h : i < X.length), ∃ A' C', hs[i]? = some (.slice A' X[i].length C') ∧ X[i].length ≤ C' ∧ C' ≤ 9223372036854775807 ∧ SlR w.heap.size w A' X[i] ∧ (X[i] ≠ [] → ∀ ad, A' = some ad → v.ownBlock ≠ some ad.block))
    (hB : B ≤ w.heap.size) (hn : ∀ i (h : i < Y.length), ∃ A' C', ns[i]? = some (.slice A' Y[i].length C') ∧ Y[i].length ≤ C' ∧ C' ≤ 9223372036854775807 ∧ SlR B w A' Y[i])
    (hown : w'.ownsRow B E 1 v' (X.length + Y.length) (hs ++ ns)) (hg : w.grownBy w' v.ownBlock) (hat : v'.ownBlock = v.ownBlock ∨ v'.ownBlock = some w.heap.size) : OwnRs w' B E v' (X ++ Y) := by
  have hl : hs.length = X.length := by have := h1.1; omega
  refine ⟨hs ++ ns, by rw [List.length_append]; exact hown, fun i hi => ?_⟩
  have other : ∀ (y : RL.R) (A : Option Addr), SlR w.heap.size w A y → (y ≠ [] → ∀ ad, A = some ad → v.ownBlock ≠ some ad.block) → SlR w'.heap.size w' A y ∧ (y ≠ [] → ∀ ad, A = some ad → v'.ownBlock ≠ some ad.block) := fun y A g4 g5 => by
    refine ⟨g4.grown hg g5, fun hy ad e e2 => ?_⟩
    rcases hat with h3 | h3
    · exact g5 hy ad e (by rw [← h3]; exact e2)
    · obtain ⟨b, o, e', hb, _⟩ := g4 (by
        intro h0
        have := congrArg List.length h0
        rw [rcells_length] at this
        exact hy (List.eq_nil_of_length_eq_zero (by simp only [List.length_nil] at this; omega)))
      rw [e] at e'
      injection e' with e'
      rw [h3, e'] at e2
      injection e2 with e2
      simp only at e2
      omega
  by_cases hlt : i < X.length
  · obtain ⟨A, C, g1, g2, g3, g4, g5⟩ := h2 i hlt
    have e1 : (X ++ Y)[i] = X[i] := List.getElem_append_left hlt
    obtain ⟨k1, k2⟩ := other X[i] A g4 g5
    rw [e1]
    exact ⟨A, C, by rw [List.getElem?_append_left (by omega)]; exact g1, g2, g3, k1, k2⟩
  · have hi' : i - X.length < Y.length := by simp at hi; omega
    obtain ⟨A, C, g1, g2, g3, g4⟩ := hn (i - X.length) hi'
    have e1 : (X ++ Y)[i] = Y[i - X.length] := List.getElem_append_right (by omega)
    obtain ⟨k1, k2⟩ := other Y[i - X.length] A (g4.more hB) (fun hy ad e e2 => by
      obtain ⟨b, o, e', hb, _⟩ := g4 (by
        intro h0
        have := congrArg List.length h0
        rw [rcells_length] at this
        exact hy (List.eq_nil_of_length_eq_zero (by simp only [List.length_nil] at this; omega)))
      rw [e] at e'
      injection e' with e'
      have := own_base h1 e2
      rw [e'] at this
      simp only at this
      omega)
    rw [e1]
    exact ⟨A, C, by rw [List.getElem?_append_right (by omega), hl]; exact g1, g2, g3, k1, k2⟩

/-- append(out, src...): rows of a source below the call's own memory. -/
theorem appManyRow {w : World} {ops : Array Oper} {rest : List Oper} {o : Oper} {a : Act} {Q : Exit → Act → World → Prop} (hgd : o.guard = none) (s x : Operand)
    (ho : o.op = .call { callee := .builtin .append, args := #[s, x], argTypes := #[22, 22] })
    (base : Nat) (v : Value) (X : List RL.R) (hs : a.eval s = v) (hown : OwnRs w base 24 v X)
    (A : Option Addr) (C : Nat) (Y : List RL.R) (hx : a.eval x = .slice A Y.length C) (hY : SlRs base w A Y)
    (hn : (X.length + Y.length) * 24 ≤ 140737488355328) (hbase : base ≤ w.heap.size)
    (h : ∀ v' w', OwnRs w' base 24 v' (X ++ Y) → w.grownBy w' v.ownBlock → wpList Try.prog ops Q rest (a.put o.dst v') w') : wpList Try.prog ops Q (o :: rest) a w := by
  obtain ⟨i0, hi0, hz0, hz1, hz2⟩ := info_parts rowInfo
  obtain ⟨hs0, h1, h2⟩ := hown
  obtain ⟨ns, hl, ho1, hcell, hnone, hrows⟩ := hY.hdrs
  refine wpList_plain hgd fun K hK => ?_
  rcases A with _ | ad
  · have hy := hnone rfl
    subst hy
    have hrun := run_append_none (P := Try.prog) w base 22 o.type 24 i0 1 Try.underlying22 hi0 v X.length hs0 h1 C
    unfold Oper.wp execOp
    simp only [List.length_nil] at hx
    simp only [ho, resolve, invoke, builtin, Sem.run_bind, Sem.run_pure, Result.andThen_ok, List.map_toArray, List.map_cons, List.map_nil, hs, hx, hrun]
    exact hK _ _ (h v w (by rw [List.append_nil]; exact ⟨hs0, h1, h2⟩) ⟨rfl, rfl, rfl, Nat.le_refl _, fun _ _ _ => rfl⟩)
  · obtain ⟨v', w', hrun, k2, k3, _, k5⟩ := run_append_own_at (P := Try.prog) w base 22 o.type 24 i0 _ 1 24 Try.underlying22 hi0 hz0 hz1 hz2 rfl (by decide) v X.length hs0 h1 ad Y.length C ns (by omega) (hcell ad rfl) ho1 (by simp only [maxLen]; omega) (by omega) hbase
    unfold Oper.wp execOp
    simp only [ho, resolve, invoke, builtin, Sem.run_bind, Sem.run_pure, Result.andThen_ok, List.map_toArray, List.map_cons, List.map_nil, hs, hx, hrun]
    exact hK _ _ (h v' w' (OwnRs.many h1 h2 hbase hrows k2 k3 k5) k3)
/-- append(out, src...): rows of a source below the call's own memory. -/
theorem appManyR7 {w : World} {ops : Array Oper} {rest : List Oper} {o : Oper} {a : Act} {Q : Exit → Act → World → Prop} (hgd : o.guard = none) (s x : Operand)
    (ho : o.op = .call { callee := .builtin .append, args := #[s, x], argTypes := #[30, 30] })
    (base : Nat) (v : Value) (X : List RL.R) (hs : a.eval s = v) (hown : OwnRs w base 39 v X)
    (A : Option Addr) (C : Nat) (Y : List RL.R) (hx : a.eval x = .slice A Y.length C) (hY : SlRs base w A Y)
    (hn : (X.length + Y.length) * 24 ≤ 140737488355328) (hbase : base ≤ w.heap.size)
    (h : ∀ v' w', OwnRs w' base 39 v' (X ++ Y) → w.grownBy w' v.ownBlock → wpList Try.prog ops Q rest (a.put o.dst v') w') : wpList Try.prog ops Q (o :: rest) a w := by
  obtain ⟨i0, hi0, hz0, hz1, hz2⟩ := info_parts r7rowInfo
  obtain ⟨hs0, h1, h2⟩ := hown
  obtain ⟨ns, hl, ho1, hcell, hnone, hrows⟩ := hY.hdrs
  refine wpList_plain hgd fun K hK => ?_
  rcases A with _ | ad
  · have hy := hnone rfl
    subst hy
    have hrun := run_append_none (P := Try.prog) w base 30 o.type 39 i0 1 Try.underlying30 hi0 v X.length hs0 h1 C
    unfold Oper.wp execOp
    simp only [List.length_nil] at hx
    simp only [ho, resolve, invoke, builtin, Sem.run_bind, Sem.run_pure, Result.andThen_ok, List.map_toArray, List.map_cons, List.map_nil, hs, hx, hrun]
    exact hK _ _ (h v w (by rw [List.append_nil]; exact ⟨hs0, h1, h2⟩) ⟨rfl, rfl, rfl, Nat.le_refl _, fun _ _ _ => rfl⟩)
  · obtain ⟨v', w', hrun, k2, k3, _, k5⟩ := run_append_own_at (P := Try.prog) w base 30 o.type 39 i0 _ 1 24 Try.underlying30 hi0 hz0 hz1 hz2 rfl (by decide) v X.length hs0 h1 ad Y.length C ns (by omega) (hcell ad rfl) ho1 (by simp only [maxLen]; omega) (by omega) hbase
    unfold Oper.wp execOp
    simp only [ho, resolve, invoke, builtin, Sem.run_bind, Sem.run_pure, Result.andThen_ok, List.map_toArray, List.map_cons, List.map_nil, hs, hx, hrun]
    exact hK _ _ (h v' w' (OwnRs.many h1 h2 hbase hrows k2 k3 k5) k3)

end Go.Proofs.Ytiopkooigeaneaa

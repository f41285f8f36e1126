/- Rows and lists of rows that a call builds by append. -/
import Derived.Test.YtiopkooigeaneaaE1
import Derived.Deep.AppendLies
namespace Go.Proofs.Ytiopkooigeaneaa
open Go.RowKit Go.Sort

theorem valInfo : (Try.prog.info? 60).map (fun i => (i.zero, i.size, i.bytes)) = some (some (.agg #[.int .i64 0, .int .i64 0, .string ⟨#[]⟩]), 3, 32) := by kernel_rfl
theorem r1Info : (Try.prog.info? 70).map (fun i => (i.zero, i.size, i.bytes)) = some (some (.agg #[.int .i64 0, .int .i64 0, .string ⟨#[]⟩]), 3, 32) := by kernel_rfl
theorem rowInfo : (Try.prog.info? 24).map (fun i => (i.zero, i.size, i.bytes)) = some (some (.slice none 0 0), 1, 24) := by kernel_rfl
theorem r7rowInfo : (Try.prog.info? 39).map (fun i => (i.zero, i.size, i.bytes)) = some (some (.slice none 0 0), 1, 24) := by kernel_rfl

/-- A row of the call's own, as the slice that it is. -/
theorem SlR.of_own {w : World} {base : Nat} {e : TypeId} {v : Value} {n : Nat} {x : RL.R} (h : w.ownsRow base e 3 v n (rcells x)) :
    n = x.length ∧ ∃ A c, v = .slice A x.length c ∧ x.length ≤ c ∧ c ≤ 9223372036854775807 ∧ SlR w.heap.size w A x ∧ ∀ ad, A = some ad → base ≤ ad.block := by
  have hn : n = x.length := by have := h.1; rw [rcells_length] at this; omega
  subst hn
  refine ⟨rfl, ?_⟩
  obtain ⟨A, c, e1, hc, hs⟩ := Sl.of_own_n h
  refine ⟨A, c, e1, hc, ?_, hs, ?_⟩
  · rcases h.2 with ⟨h1, h0⟩ | ⟨g, cap, cur, h1, _, _, _, hm, _⟩
    · rw [h1] at e1; injection e1 with _ _ e3; omega
    · rw [h1] at e1; injection e1 with _ _ e3; unfold maxLen at hm; omega
  · intro ad had
    subst had
    exact own_base h (k := ad.block) (by rw [e1]; rfl)

/-- append of one value to a row of the call's own. -/
theorem app1V {w : World} {ops : Array Oper} {rest : List Oper} {o : Oper} {a : Act} {Q : Exit → Act → World → Prop} (hgd : o.guard = none) (s x : Operand)
    (ho : o.op = .call { callee := .builtin .append, args := #[s, x], argTypes := #[24, 24] })
    (base : Nat) (v : Value) (l : RL.R) (hs : a.eval s = v) (hown : w.ownsRow base 60 3 v l.length (rcells l))
    (gt : Nat) (z : RL.V) (hx : a.eval x = .slice (some ⟨gt, 0, none⟩) 1 1) (h0 : w.cell? ⟨gt, 0, none⟩ = some (.int .i64 z.kind)) (h1 : w.cell? ⟨gt, 1, none⟩ = some (.int .i64 z.int)) (h2 : w.cell? ⟨gt, 2, none⟩ = some (.string z.str))
    (hn : l.length ≤ 100000000) (hbase : base ≤ w.heap.size)
    (h : ∀ v' w', w'.ownsRow base 60 3 v' (l ++ [z]).length (rcells (l ++ [z])) → w.grownBy w' v.ownBlock → wpList Try.prog ops Q rest (a.put o.dst v') w') : wpList Try.prog ops Q (o :: rest) a w := by
  obtain ⟨i0, hi0, hz0, hz1, hz2⟩ := info_parts valInfo
  refine wpList_append_own w hgd s x 24 ho base 60 i0 _ 3 32 Try.underlying24 hi0 hz0 hz1 hz2 rfl (by decide) v l.length (rcells l) hs hown ⟨gt, 0, none⟩ 1 1 (vcells z) hx rfl ?_ ?_ (by simp only [maxLen]; omega) (by omega) hbase ?_
  · intro j u hu
    match j with
    | 0 => simp [vcells] at hu; subst hu; exact h0
    | 1 => simp [vcells] at hu; subst hu; exact h1
    | 2 => simp [vcells] at hu; subst hu; exact h2
    | j + 3 => simp [vcells] at hu
  · intro u hu; simp [vcells] at hu; rcases hu with rfl | rfl | rfl <;> rfl
  · intro v' w' h1 h2 _
    refine h v' w' ?_ h2
    rw [rcells_append, List.length_append]
    have : rcells [z] = vcells z := by simp [rcells]
    rw [this]
    exact h1
/-- append of one value to a row of the call's own. -/
theorem app1W {w : World} {ops : Array Oper} {rest : List Oper} {o : Oper} {a : Act} {Q : Exit → Act → World → Prop} (hgd : o.guard = none) (s x : Operand)
    (ho : o.op = .call { callee := .builtin .append, args := #[s, x], argTypes := #[39, 39] })
    (base : Nat) (v : Value) (l : RL.R) (hs : a.eval s = v) (hown : w.ownsRow base 70 3 v l.length (rcells l))
    (gt : Nat) (z : RL.V) (hx : a.eval x = .slice (some ⟨gt, 0, none⟩) 1 1) (h0 : w.cell? ⟨gt, 0, none⟩ = some (.int .i64 z.kind)) (h1 : w.cell? ⟨gt, 1, none⟩ = some (.int .i64 z.int)) (h2 : w.cell? ⟨gt, 2, none⟩ = some (.string z.str))
    (hn : l.length ≤ 100000000) (hbase : base ≤ w.heap.size)
    (h : ∀ v' w', w'.ownsRow base 70 3 v' (l ++ [z]).length (rcells (l ++ [z])) → w.grownBy w' v.ownBlock → wpList Try.prog ops Q rest (a.put o.dst v') w') : wpList Try.prog ops Q (o :: rest) a w := by
  obtain ⟨i0, hi0, hz0, hz1, hz2⟩ := info_parts r1Info
  refine wpList_append_own w hgd s x 39 ho base 70 i0 _ 3 32 Try.underlying39 hi0 hz0 hz1 hz2 rfl (by decide) v l.length (rcells l) hs hown ⟨gt, 0, none⟩ 1 1 (vcells z) hx rfl ?_ ?_ (by simp only [maxLen]; omega) (by omega) hbase ?_
  · intro j u hu
    match j with
    | 0 => simp [vcells] at hu; subst hu; exact h0
    | 1 => simp [vcells] at hu; subst hu; exact h1
    | 2 => simp [vcells] at hu; subst hu; exact h2
    | j + 3 => simp [vcells] at hu
  · intro u hu; simp [vcells] at hu; rcases hu with rfl | rfl | rfl <;> rfl
  · intro v' w' h1 h2 _
    refine h v' w' ?_ h2
    rw [rcells_append, List.length_append]
    have : rcells [z] = vcells z := by simp [rcells]
    rw [this]
    exact h1

/-- A list of rows under way: the call owns the headers; the rows lie elsewhere. -/
def OwnRs (w : World) (B : Nat) (E : TypeId) (v : Value) (X : List RL.R) : Prop :=
  ∃ hs : List Value, w.ownsRow B E 1 v X.length hs ∧ ∀ i (h : i < X.length), ∃ A' C', hs[i]? = some (.slice A' X[i].length C') ∧ X[i].length ≤ C' ∧ C' ≤ 9223372036854775807 ∧ SlR w.heap.size w A' X[i] ∧ (X[i] ≠ [] → ∀ ad, A' = some ad → v.ownBlock ≠ some ad.block)

section
variable {w w' : World} {B : Nat} {E : TypeId} {v : Value} {X : List RL.R}
theorem OwnRs.nil (w : World) (B : Nat) (E : TypeId) : OwnRs w B E (.slice none 0 0) [] := ⟨[], own_nil _ _ _ _, fun i h => absurd h (by simp)⟩
theorem OwnRs.keep (h : OwnRs w B E v X) (hb : Below w.heap.size w w') : OwnRs w' B E v X := by
  obtain ⟨hs, h1, h2⟩ := h
  refine ⟨hs, own_keep h1 hb, fun i hi => ?_⟩
  obtain ⟨A', C', g1, g2, g3, g4, g5⟩ := h2 i hi
  exact ⟨A', C', g1, g2, g3, (g4.below hb (Nat.le_refl _)).more hb.size, g5⟩
theorem OwnRs.base (h : OwnRs w B E v X) : ∀ k, v.ownBlock = some k → B ≤ k := by
  obtain ⟨hs, h1, _⟩ := h
  exact fun k hk => own_base h1 hk
theorem SlR.grown {w w' : World} {A : Option Addr} {x : RL.R} {row : Option Nat} (h : SlR w.heap.size w A x) (hg : w.grownBy w' row) (hne : x ≠ [] → ∀ ad, A = some ad → row ≠ some ad.block) : SlR w'.heap.size w' A x := by
  intro hn
  have hx : x ≠ [] := by intro e; subst e; exact hn rfl
  obtain ⟨b, o, e, hb, hc⟩ := h hn
  refine ⟨b, o, e, Nat.lt_of_lt_of_le hb hg.size, fun i u hu => ?_⟩
  exact (grown_cell hg (p := ⟨b, o + i, none⟩) hb (fun e' => hne hx _ e e'.symm)).trans (hc i u hu)
theorem OwnRs.snoc {hs : List Value} (h1 : w.ownsRow B E 1 v X.length hs) (h2 : ∀ i (h : i < X.length), ∃ A' C', hs[i]? = some (.slice A' X[i].length C') ∧ X[i].length ≤ C' ∧ C' ≤ 9223372036854775807 ∧ SlR w.heap.size w A' X[i] ∧ (X[i] ≠ [] → ∀ ad, A' = some ad → v.ownBlock ≠ some ad.block)) {A' : Option Addr} {C' : Nat} {x : RL.R} {v' : Value} (hr : SlR w.heap.size w A' x) (hc : x.length ≤ C') (hm : C' ≤ 9223372036854775807) (hne : x ≠ [] → ∀ ad, A' = some ad → v.ownBlock ≠ some ad.block)
    (hown : w'.ownsRow B E 1 v' (X.length + 1) (hs ++ [.slice A' x.length C'])) (hg : w.grownBy w' v.ownBlock) (hat : ∀ g, v'.ownBlock = some g → v.ownBlock = some g ∨ w.heap.size ≤ g) : OwnRs w' B E v' (X ++ [x]) := by
  have hl : hs.length = X.length := by have := h1.1; omega
  refine ⟨hs ++ [.slice A' x.length C'], by rw [List.length_append]; exact hown, fun i hi => ?_⟩
  have other : ∀ (y : RL.R) (A : Option Addr), SlR w.heap.size w A y → (y ≠ [] → ∀ ad, A = some ad → v.ownBlock ≠ some ad.block) → SlR w'.heap.size w' A y ∧ (y ≠ [] → ∀ ad, A = some ad → v'.ownBlock ≠ some ad.block) := fun y A g4 g5 => by
    refine ⟨g4.grown hg g5, fun hy ad e e2 => ?_⟩
    rcases hat _ e2 with h3 | h3
    · exact g5 hy ad e h3
    · obtain ⟨b, o, e', hb, _⟩ := g4 (by
        intro h0
        have := congrArg List.length h0
        rw [rcells_length] at this
        exact hy (List.eq_nil_of_length_eq_zero (by simp only [List.length_nil] at this; omega)))
      rw [e] at e'
      injection e' with e'
      rw [e'] at h3
      simp only at h3
      omega
  by_cases hlt : i < X.length
  · obtain ⟨A, C, g1, g2, g3, g4, g5⟩ := h2 i hlt
    have e1 : (X ++ [x])[i] = X[i] := List.getElem_append_left hlt
    obtain ⟨k1, k2⟩ := other X[i] A g4 g5
    refine ⟨A, C, ?_, ?_, g3, ?_, ?_⟩
    · rw [List.getElem?_append_left (by omega), e1]; exact g1
    · rw [e1]; exact g2
    · rw [e1]; exact k1
    · rw [e1]; exact k2
  · have hi' : i = X.length := by simp at hi; omega
    subst hi'
    have e1 : (X ++ [x])[X.length] = x := by simp
    obtain ⟨k1, k2⟩ := other x A' hr hne
    refine ⟨A', C', ?_, ?_, hm, ?_, ?_⟩
    · rw [List.getElem?_append_right (by omega), e1, hl]; simp
    · rw [e1]; exact hc
    · rw [e1]; exact k1
    · rw [e1]; exact k2
theorem OwnRs.sl (h : OwnRs w B E v X) : ∃ A C, v = .slice A X.length C ∧ X.length ≤ C ∧ C ≤ 9223372036854775807 ∧ SlRs w.heap.size w A X := by
  obtain ⟨hs, h1, h2⟩ := h
  have hl : hs.length = X.length := by have := h1.1; omega
  obtain ⟨A, c, e1, hc, e3, hsl⟩ := Sl.of_own h1
  rw [hl] at e1 hc
  refine ⟨A, c, e1, hc, ?_, ?_⟩
  · rcases h1.2 with ⟨g1, g0⟩ | ⟨g, cap, cur, g1, _, _, _, hm, _⟩
    · rw [g1] at e1; injection e1 with _ _ e3; omega
    · rw [g1] at e1; injection e1 with _ _ e3; unfold maxLen at hm; omega
  · intro hn
    obtain ⟨b, o, e, hb, hcell⟩ := hsl (by intro h0; rw [h0] at hl; exact hn (List.eq_nil_of_length_eq_zero hl.symm))
    refine ⟨b, o, e, hb, fun i hi => ?_⟩
    obtain ⟨A', C', g1, g2, g3, g4, _⟩ := h2 i hi
    exact ⟨A', C', hcell i _ g1, g2, g3, g4⟩
end

/-- append of one row's header to a list of rows of the call's own. -/
theorem app1Row {w : World} {ops : Array Oper} {rest : List Oper} {o : Oper} {a : Act} {Q : Exit → Act → World → Prop} (hgd : o.guard = none) (s x : Operand)
    (ho : o.op = .call { callee := .builtin .append, args := #[s, x], argTypes := #[22, 22] })
    (base : Nat) (v : Value) (X : List RL.R) (hs : a.eval s = v) (hown : OwnRs w base 24 v X)
    (gt : Nat) (A' : Option Addr) (C' : Nat) (y : RL.R) (hx : a.eval x = .slice (some ⟨gt, 0, none⟩) 1 1) (hg : w.cell? ⟨gt, 0, none⟩ = some (.slice A' y.length C'))
    (hr : SlR w.heap.size w A' y) (hc : y.length ≤ C') (hm : C' ≤ 9223372036854775807) (hne : y ≠ [] → ∀ ad, A' = some ad → v.ownBlock ≠ some ad.block)
    (hn : (X.length + 1) * 24 ≤ 140737488355328) (hbase : base ≤ w.heap.size)
    (h : ∀ v' w', OwnRs w' base 24 v' (X ++ [y]) → w.grownBy w' v.ownBlock → wpList Try.prog ops Q rest (a.put o.dst v') w') : wpList Try.prog ops Q (o :: rest) a w := by
  obtain ⟨i0, hi0, hz0, hz1, hz2⟩ := info_parts rowInfo
  obtain ⟨hs0, h1, h2⟩ := hown
  refine wpList_append_lies w hgd s x 22 ho base 24 i0 _ 1 24 Try.underlying22 hi0 hz0 hz1 hz2 rfl (by decide) v X.length hs0 hs h1 ⟨gt, 0, none⟩ 1 1 [.slice A' y.length C'] hx rfl ?_ (by simp [Value.oneCell']) (by decide) (by simp only [maxLen]; omega) (by omega) hbase w.heap.size rfl ?_
  · intro j u hu
    cases j with
    | zero => simp at hu; subst hu; exact hg
    | succ j => simp at hu
  · intro g cap w' k1 k2 k3 k4
    refine h _ w' ?_ k2
    have hl : hs0.length = X.length := by have := h1.1; omega
    refine OwnRs.snoc h1 h2 hr hc hm hne k1 k2 ?_
    · intro g' hg'
      simp [Value.ownBlock] at hg'
      subst hg'
      rcases k3 with k3 | k3
      · exact .inl k3
      · exact .inr (by omega)
/-- append of one row's header to a list of rows of the call's own. -/
theorem app1R7 {w : World} {ops : Array Oper} {rest : List Oper} {o : Oper} {a : Act} {Q : Exit → Act → World → Prop} (hgd : o.guard = none) (s x : Operand)
    (ho : o.op = .call { callee := .builtin .append, args := #[s, x], argTypes := #[30, 30] })
    (base : Nat) (v : Value) (X : List RL.R) (hs : a.eval s = v) (hown : OwnRs w base 39 v X)
    (gt : Nat) (A' : Option Addr) (C' : Nat) (y : RL.R) (hx : a.eval x = .slice (some ⟨gt, 0, none⟩) 1 1) (hg : w.cell? ⟨gt, 0, none⟩ = some (.slice A' y.length C'))
    (hr : SlR w.heap.size w A' y) (hc : y.length ≤ C') (hm : C' ≤ 9223372036854775807) (hne : y ≠ [] → ∀ ad, A' = some ad → v.ownBlock ≠ some ad.block)
    (hn : (X.length + 1) * 24 ≤ 140737488355328) (hbase : base ≤ w.heap.size)
    (h : ∀ v' w', OwnRs w' base 39 v' (X ++ [y]) → w.grownBy w' v.ownBlock → wpList Try.prog ops Q rest (a.put o.dst v') w') : wpList Try.prog ops Q (o :: rest) a w := by
  obtain ⟨i0, hi0, hz0, hz1, hz2⟩ := info_parts r7rowInfo
  obtain ⟨hs0, h1, h2⟩ := hown
  refine wpList_append_lies w hgd s x 30 ho base 39 i0 _ 1 24 Try.underlying30 hi0 hz0 hz1 hz2 rfl (by decide) v X.length hs0 hs h1 ⟨gt, 0, none⟩ 1 1 [.slice A' y.length C'] hx rfl ?_ (by simp [Value.oneCell']) (by decide) (by simp only [maxLen]; omega) (by omega) hbase w.heap.size rfl ?_
  · intro j u hu
    cases j with
    | zero => simp at hu; subst hu; exact hg
    | succ j => simp at hu
  · intro g cap w' k1 k2 k3 k4
    refine h _ w' ?_ k2
    have hl : hs0.length = X.length := by have := h1.1; omega
    refine OwnRs.snoc h1 h2 hr hc hm hne k1 k2 ?_
    · intro g' hg'
      simp [Value.ownBlock] at hg'
      subst hg'
      rcases k3 with k3 | k3
      · exact .inl k3
      · exact .inr (by omega)

end Go.Proofs.Ytiopkooigeaneaa

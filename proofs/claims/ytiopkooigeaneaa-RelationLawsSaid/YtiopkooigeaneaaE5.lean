/- Rows' headers as lists of values; lists of rows that lie only in blocks of a given kind. -/
import Derived.Test.YtiopkooigeaneaaV19
namespace Go.Proofs.Ytiopkooigeaneaa
open Go.RowKit Go.Sort

/-- The header u reads as the row y, which lies below block B, in blocks that P allows. -/
def HR (P : Nat → Prop) (B : Nat) (w : World) (u : Value) (y : RL.R) : Prop :=
  ∃ A' C', u = .slice A' y.length C' ∧ y.length ≤ C' ∧ C' ≤ 9223372036854775807 ∧ SlR B w A' y ∧ (y ≠ [] → ∀ ad, A' = some ad → P ad.block)
/-- A list of headers, and the rows that they read. -/
def Hdrs (P : Nat → Prop) (B : Nat) (w : World) (hs : List Value) (Y : List RL.R) : Prop :=
  hs.length = Y.length ∧ ∀ (i : Nat) u y, hs[i]? = some u → Y[i]? = some y → HR P B w u y

theorem SlR.keepP {P : Nat → Prop} {B : Nat} {w w' : World} {A : Option Addr} {y : RL.R} (h : SlR B w A y) (hP : y ≠ [] → ∀ ad, A = some ad → P ad.block) (hk : ∀ p : Addr, p.block < B → P p.block → w'.cell? p = w.cell? p) : SlR B w' A y := fun hn => by
  have hy : y ≠ [] := by intro e; subst e; exact hn rfl
  obtain ⟨b, o, e, hb, hc⟩ := h hn
  have hp := hP hy _ e
  exact ⟨b, o, e, hb, fun i u hu => (hk ⟨b, o + i, none⟩ hb hp).trans (hc i u hu)⟩
theorem SlR.lt_of {B : Nat} {w : World} {A : Option Addr} {y : RL.R} (h : SlR B w A y) : y ≠ [] → ∀ ad, A = some ad → ad.block < B := fun hy ad e => by
  obtain ⟨b, o, e', hb, _⟩ := h (ne_rcells hy)
  rw [e] at e'
  injection e' with e'
  rw [e']
  exact hb

section
variable {P P' : Nat → Prop} {B B' : Nat} {w w' : World} {hs ks : List Value} {Y Z : List RL.R} {u : Value} {y : RL.R}
theorem HR.keep (h : HR P B w u y) (hk : ∀ p : Addr, p.block < B → P p.block → w'.cell? p = w.cell? p) : HR P B w' u y := by
  obtain ⟨A', C', h1, h2, h3, h4, h5⟩ := h
  exact ⟨A', C', h1, h2, h3, h4.keepP h5 hk, h5⟩
theorem HR.more (h : HR P B w u y) (hB : B ≤ B') : HR P B' w u y := by
  obtain ⟨A', C', h1, h2, h3, h4, h5⟩ := h
  exact ⟨A', C', h1, h2, h3, h4.more hB, h5⟩
theorem HR.weak (h : HR P B w u y) (hP : ∀ b, b < B → P b → P' b) : HR P' B w u y := by
  obtain ⟨A', C', h1, h2, h3, h4, h5⟩ := h
  exact ⟨A', C', h1, h2, h3, h4, fun hy ad e => hP _ (h4.lt_of hy ad e) (h5 hy ad e)⟩
theorem HR.one (h : HR P B w u y) : u.oneCell' = true := by
  obtain ⟨A', C', rfl, _⟩ := h
  rfl
theorem Hdrs.nil : Hdrs P B w [] [] := ⟨rfl, fun i u y h => by simp at h⟩
theorem Hdrs.one (h : HR P B w u y) : Hdrs P B w [u] [y] := ⟨rfl, fun i u' y' h1 h2 => by
  cases i with
  | zero => simp at h1 h2; subst h1 h2; exact h
  | succ i => simp at h1⟩
theorem Hdrs.append (h : Hdrs P B w hs Y) (k : Hdrs P B w ks Z) : Hdrs P B w (hs ++ ks) (Y ++ Z) := by
  refine ⟨by simp [h.1, k.1], fun i u y h1 h2 => ?_⟩
  have hl := h.1
  by_cases hi : i < hs.length
  · rw [List.getElem?_append_left hi] at h1
    rw [List.getElem?_append_left (by omega)] at h2
    exact h.2 i u y h1 h2
  · rw [List.getElem?_append_right (by omega)] at h1
    rw [List.getElem?_append_right (by omega), ← hl] at h2
    exact k.2 _ u y h1 h2
theorem Hdrs.take (h : Hdrs P B w hs Y) (n : Nat) : Hdrs P B w (hs.take n) (Y.take n) := by
  refine ⟨by simp [h.1], fun i u y h1 h2 => ?_⟩
  rw [List.getElem?_take] at h1 h2
  split at h1
  · rename_i hi
    rw [if_pos hi] at h2
    exact h.2 i u y h1 h2
  · cases h1
theorem Hdrs.drop (h : Hdrs P B w hs Y) (n : Nat) : Hdrs P B w (hs.drop n) (Y.drop n) := by
  refine ⟨by simp [h.1], fun i u y h1 h2 => ?_⟩
  rw [List.getElem?_drop] at h1 h2
  exact h.2 _ u y h1 h2
theorem Hdrs.keep (h : Hdrs P B w hs Y) (hk : ∀ p : Addr, p.block < B → P p.block → w'.cell? p = w.cell? p) : Hdrs P B w' hs Y := ⟨h.1, fun i u y h1 h2 => (h.2 i u y h1 h2).keep hk⟩
theorem Hdrs.more (h : Hdrs P B w hs Y) (hB : B ≤ B') : Hdrs P B' w hs Y := ⟨h.1, fun i u y h1 h2 => (h.2 i u y h1 h2).more hB⟩
theorem Hdrs.weak (h : Hdrs P B w hs Y) (hP : ∀ b, b < B → P b → P' b) : Hdrs P' B w hs Y := ⟨h.1, fun i u y h1 h2 => (h.2 i u y h1 h2).weak hP⟩
theorem Hdrs.cells (h : Hdrs P B w hs Y) : ∀ u ∈ hs, u.oneCell' = true := fun u hu => by
  obtain ⟨i, hi, rfl⟩ := List.getElem_of_mem hu
  exact (h.2 i _ (Y[i]'(by rw [← h.1]; exact hi)) (List.getElem?_eq_getElem hi) (List.getElem?_eq_getElem _)).one
theorem Hdrs.at_ (h : Hdrs P B w hs Y) {i : Nat} (hi : i < Y.length) : ∃ A' C', hs[i]? = some (.slice A' Y[i].length C') ∧ Y[i].length ≤ C' ∧ C' ≤ 9223372036854775807 ∧ SlR B w A' Y[i] ∧ (Y[i] ≠ [] → ∀ ad, A' = some ad → P ad.block) := by
  have hi' : i < hs.length := by rw [h.1]; exact hi
  obtain ⟨A', C', h1, h2⟩ := h.2 i _ _ (List.getElem?_eq_getElem hi') (List.getElem?_eq_getElem hi)
  exact ⟨A', C', by rw [List.getElem?_eq_getElem hi', h1], h2⟩
end

/-- The slice at address A reads as the rows X; all of it lies below B, in blocks that P allows. -/
def SlRsP (P : Nat → Prop) (B : Nat) (w : World) (A : Option Addr) (X : List RL.R) : Prop :=
  X ≠ [] → ∃ b o, A = some ⟨b, o, none⟩ ∧ b < B ∧ P b ∧ ∃ hs, Hdrs P B w hs X ∧ ∀ i u, hs[i]? = some u → w.cell? ⟨b, o + i, none⟩ = some u

section
variable {P P' : Nat → Prop} {B B' : Nat} {w w' : World} {A : Option Addr} {X : List RL.R}
theorem SlRsP.nil : SlRsP P B w A [] := fun h => absurd rfl h
theorem SlRs.toP (h : SlRs B w A X) : SlRsP (fun b => b < B) B w A X := fun hn => by
  obtain ⟨hs, h1, h2, h3, h4, h5⟩ := h.hdrs
  obtain ⟨b, o, rfl, hb, hc⟩ := h hn
  refine ⟨b, o, rfl, hb, hb, hs, ⟨h1, fun i u y hu hy => ?_⟩, fun i u hu => by have := h3 _ rfl i u hu; rwa [Addr.add_lit] at this⟩
  obtain ⟨hi, rfl⟩ := List.getElem?_eq_some_iff.1 hy
  obtain ⟨A', C', g1, g2, g3, g4⟩ := h5 i hi
  rw [hu] at g1
  injection g1 with g1
  exact ⟨A', C', g1, g2, g3, g4, g4.lt_of⟩
theorem SlRsP.sl (h : SlRsP P B w A X) : SlRs B w A X := fun hn => by
  obtain ⟨b, o, e, hb, _, hs, hH, hc⟩ := h hn
  refine ⟨b, o, e, hb, fun i hi => ?_⟩
  obtain ⟨A', C', g1, g2, g3, g4, _⟩ := hH.at_ hi
  exact ⟨A', C', hc i _ g1, g2, g3, g4⟩
theorem SlRsP.keep (h : SlRsP P B w A X) (hk : ∀ p : Addr, p.block < B → P p.block → w'.cell? p = w.cell? p) : SlRsP P B w' A X := fun hn => by
  obtain ⟨b, o, e, hb, hp, hs, hH, hc⟩ := h hn
  exact ⟨b, o, e, hb, hp, hs, hH.keep hk, fun i u hu => (hk ⟨b, o + i, none⟩ hb hp).trans (hc i u hu)⟩
theorem SlRsP.more (h : SlRsP P B w A X) (hB : B ≤ B') : SlRsP P B' w A X := fun hn => by
  obtain ⟨b, o, e, hb, hp, hs, hH, hc⟩ := h hn
  exact ⟨b, o, e, by omega, hp, hs, hH.more hB, hc⟩
theorem SlRsP.weak (h : SlRsP P B w A X) (hP : ∀ b, b < B → P b → P' b) : SlRsP P' B w A X := fun hn => by
  obtain ⟨b, o, e, hb, hp, hs, hH, hc⟩ := h hn
  exact ⟨b, o, e, hb, hP b hb hp, hs, hH.weak hP, hc⟩
theorem SlRsP.hdrs (h : SlRsP P B w A X) : ∃ hs, Hdrs P B w hs X ∧ (∀ ad, A = some ad → ∀ j u, hs[j]? = some u → w.cell? (ad.add j) = some u) ∧ (A = none → X = []) := by
  by_cases hn : X = []
  · subst hn
    exact ⟨[], Hdrs.nil, fun _ _ j u hu => by simp at hu, fun _ => rfl⟩
  obtain ⟨b, o, rfl, hb, hp, hs, hH, hc⟩ := h hn
  exact ⟨hs, hH, fun ad e j u hu => by injection e with e; subst e; rw [Addr.add_lit]; exact hc j u hu, fun e => by cases e⟩
theorem SlRsP.at_ (h : SlRsP P B w A X) {i : Nat} (hi : i < X.length) : ∃ b o A' C', A = some ⟨b, o, none⟩ ∧ b < B ∧ P b ∧ w.cell? ⟨b, o + i, none⟩ = some (.slice A' X[i].length C') ∧ HR P B w (.slice A' X[i].length C') X[i] := by
  obtain ⟨b, o, e, hb, hp, hs, hH, hc⟩ := h (by intro h0; subst h0; simp at hi)
  obtain ⟨A', C', g1, g2, g3, g4, g5⟩ := hH.at_ hi
  exact ⟨b, o, A', C', e, hb, hp, hc i _ g1, A', C', rfl, g2, g3, g4, g5⟩
end

/-- The rows' headers that the call owns, as a list of rows that is read. -/
theorem own_slrs {P : Nat → Prop} {w : World} {base B : Nat} {E : TypeId} {v : Value} {hs : List Value} {Y : List RL.R} (h : w.ownsRow base E 1 v Y.length hs) (hd : Hdrs P B w hs Y) (hB : B ≤ w.heap.size) (hP : ∀ b, base ≤ b → P b) :
    ∃ A C, v = .slice A Y.length C ∧ Y.length ≤ C ∧ C ≤ 9223372036854775807 ∧ SlRsP P w.heap.size w A Y := by
  have hl := hd.1
  obtain ⟨A, c, e1, hc, e3, hsl⟩ := Sl.of_own h
  rw [hl] at e1 hc
  refine ⟨A, c, e1, hc, ?_, fun hn => ?_⟩
  · rcases h.2 with ⟨g1, g0⟩ | ⟨g, cap, cur, g1, _, _, _, hm, _⟩
    · rw [g1] at e1; injection e1 with _ _ e3; omega
    · rw [g1] at e1; injection e1 with _ _ e3; unfold maxLen at hm; omega
  · obtain ⟨b, o, e, hb, hcell⟩ := hsl (by intro h0; rw [h0] at hl; exact hn (List.eq_nil_of_length_eq_zero hl.symm))
    refine ⟨b, o, e, hb, hP b (own_base h (k := b) (by rw [e1, e]; rfl)), hs, hd.more hB, hcell⟩

theorem own_grown {w w' : World} {base : Nat} {e : TypeId} {size : Nat} {v : Value} {n : Nat} {xs : List Value} {row : Option Nat} (h : w.ownsRow base e size v n xs) (hg : w.grownBy w' row) (hne : ∀ k, v.ownBlock = some k → some k ≠ row) : w'.ownsRow base e size v n xs := by
  have hlt := own_lt h
  refine ⟨h.1, ?_⟩
  rcases h.2 with h1 | ⟨g, cap, cur, h1, h2, h3, h4⟩
  · exact .inl h1
  · refine .inr ⟨g, cap, cur, h1, h2, ?_, h4⟩
    have ho : v.ownBlock = some g := by rw [h1]; rfl
    rw [hg.block g (hlt g ho) (hne g ho)]
    exact h3

theorem grown_trans {a w w' : World} {row : Option Nat} (h : a.grownBy w row) (k : w.grownBy w' row) : a.grownBy w' row :=
  ⟨k.os.trans h.os, k.tape.trans h.tape, k.output.trans h.output, Nat.le_trans h.size k.size, fun b hb hne => (k.block b (Nat.lt_of_lt_of_le hb h.size) hne).trans (h.block b hb hne)⟩
theorem grown_below {a w w' : World} {row : Option Nat} {C : Nat} (h : a.grownBy w row) (hb : Below C w w') (hC : a.heap.size ≤ C) : a.grownBy w' row :=
  ⟨hb.os.trans h.os, hb.tape.trans h.tape, hb.output.trans h.output, Nat.le_trans h.size hb.size, fun b hb' hne => (hb.block b (by omega)).trans (h.block b hb' hne)⟩
theorem Ext.grown {w w' : World} (h : Ext w w') (row : Option Nat) : w.grownBy w' row := by
  have hb := h.below
  exact ⟨hb.os, hb.tape, hb.output, hb.size, fun b hb' _ => hb.block b hb'⟩
theorem grown_of_below {w w' : World} (h : Below w.heap.size w w') (row : Option Nat) : w.grownBy w' row := ⟨h.os, h.tape, h.output, h.size, fun b hb' _ => h.block b hb'⟩
/-- Blocks below B, where the one that turns lies from B on. -/
theorem below_of_grown {w w' : World} {g B : Nat} (h : w.grownBy w' (some g)) (hB : B ≤ g) (hz : B ≤ w.heap.size) : Below B w w' := ⟨h.os, h.tape, h.output, h.size, fun b hb => h.block b (by omega) (fun e => by injection e with e; omega)⟩

/-- append of headers to a list of headers of the call's own. -/
theorem appH {w : World} {ops : Array Oper} {rest : List Oper} {o : Oper} {a : Act} {Q : Exit → Act → World → Prop} (hgd : o.guard = none) (s x : Operand)
    (ho : o.op = .call { callee := .builtin .append, args := #[s, x], argTypes := #[22, 22] })
    (base : Nat) (v : Value) (n : Nat) (hs : List Value) (hs0 : a.eval s = v) (hown : w.ownsRow base 24 1 v n hs)
    (A : Option Addr) (m C : Nat) (ns : List Value) (hm : ns.length = m) (hx : a.eval x = .slice A m C) (hcell : ∀ ad, A = some ad → ∀ j u, ns[j]? = some u → w.cell? (ad.add j) = some u) (hnone : A = none → ns = []) (ho1 : ∀ u ∈ ns, u.oneCell' = true)
    (hn : (n + m) * 24 ≤ 140737488355328) (hbase : base ≤ w.heap.size)
    (h : ∀ v' w', w'.ownsRow base 24 1 v' (n + m) (hs ++ ns) → w.grownBy w' v.ownBlock → (v'.ownBlock = v.ownBlock ∨ v'.ownBlock = some w.heap.size) → wpList Try.prog ops Q rest (a.put o.dst v') w') : wpList Try.prog ops Q (o :: rest) a w := by
  subst hm
  obtain ⟨i0, hi0, hz0, hz1, hz2⟩ := info_parts rowInfo
  refine wpList_plain hgd fun K hK => ?_
  rcases A with _ | ad
  · have hy := hnone rfl
    subst hy
    have hrun := run_append_none (P := Try.prog) w base 22 o.type 24 i0 1 Try.underlying22 hi0 v n hs hown C
    unfold Oper.wp execOp
    simp only [List.length_nil] at hx
    simp only [ho, resolve, invoke, builtin, Sem.run_bind, Sem.run_pure, Result.andThen_ok, List.map_toArray, List.map_cons, List.map_nil, hs0, hx, hrun]
    exact hK _ _ (h v w (by rw [List.append_nil]; exact hown) ⟨rfl, rfl, rfl, Nat.le_refl _, fun _ _ _ => rfl⟩ (.inl rfl))
  · obtain ⟨v', w', hrun, k2, k3, _, k5⟩ := run_append_own_at (P := Try.prog) w base 22 o.type 24 i0 _ 1 24 Try.underlying22 hi0 hz0 hz1 hz2 rfl (by decide) v n hs hown ad ns.length C ns (by omega) (hcell ad rfl) ho1 (by simp only [maxLen]; omega) (by omega) hbase
    unfold Oper.wp execOp
    simp only [ho, resolve, invoke, builtin, Sem.run_bind, Sem.run_pure, Result.andThen_ok, List.map_toArray, List.map_cons, List.map_nil, hs0, hx, hrun]
    exact hK _ _ (h v' w' k2 k3 k5)
/-- append of one header that lies in a block of its own. -/
theorem appH1 {w : World} {ops : Array Oper} {rest : List Oper} {o : Oper} {a : Act} {Q : Exit → Act → World → Prop} (hgd : o.guard = none) (s x : Operand)
    (ho : o.op = .call { callee := .builtin .append, args := #[s, x], argTypes := #[22, 22] })
    (base : Nat) (v : Value) (n : Nat) (hs : List Value) (hs0 : a.eval s = v) (hown : w.ownsRow base 24 1 v n hs)
    (gt : Nat) (u : Value) (hx : a.eval x = .slice (some ⟨gt, 0, none⟩) 1 1) (hg : w.cell? ⟨gt, 0, none⟩ = some u) (ho1 : u.oneCell' = true)
    (hn : (n + 1) * 24 ≤ 140737488355328) (hbase : base ≤ w.heap.size)
    (h : ∀ v' w', w'.ownsRow base 24 1 v' (n + 1) (hs ++ [u]) → w.grownBy w' v.ownBlock → (v'.ownBlock = v.ownBlock ∨ v'.ownBlock = some w.heap.size) → wpList Try.prog ops Q rest (a.put o.dst v') w') : wpList Try.prog ops Q (o :: rest) a w :=
  appH hgd s x ho base v n hs hs0 hown (some ⟨gt, 0, none⟩) 1 1 [u] rfl hx (fun ad e j u' hu => by
    injection e with e
    subst e
    rw [Addr.add_lit]
    cases j with
    | zero => simp at hu; subst hu; exact hg
    | succ j => simp at hu) (fun e => by cases e) (by simpa using ho1) hn hbase h

end Go.Proofs.Ytiopkooigeaneaa

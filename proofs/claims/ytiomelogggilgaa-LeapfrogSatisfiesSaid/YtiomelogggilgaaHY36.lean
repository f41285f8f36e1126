/- Lists of atoms as cells; append of a whole list of atoms. -/
import Derived.Test.YtiomelogggilgaaQ11
import Derived.Deep.Slices
namespace Go.Proofs.Ytiomelogggilgaa
open Go.RowKit Go.Sort

/-- What the headers of an atom point at. -/
structure ElM (B : Nat) (w : World) (z : RA × HM) : Prop where
  v1 : z.1.vs.length ≤ z.2.VC
  v2 : z.2.VC ≤ 9223372036854775807
  p1 : z.1.P.length ≤ z.2.PC
  p2 : z.2.PC ≤ 9223372036854775807
  V : SlI .i64 B w z.2.VA z.1.vs
  P : SlRs B w z.2.PA z.1.P
theorem ElM.upB {w w' : World} {z : RA × HM} (h : ElM w.heap.size w z) (hb : Below w.heap.size w w') : ElM w'.heap.size w' z :=
  ⟨h.v1, h.v2, h.p1, h.p2, (Sl.below h.V hb (Nat.le_refl _)).more hb.size, h.P.upB hb⟩
/-- The cells of a list of atoms. -/
theorem AtsM.zs {B : Nat} {w : World} {A : Option Addr} {X : List RA} (h : AtsM B w A X) : ∃ Z : List (RA × HM), Z.map Prod.fst = X ∧ Sl B w A (Z.flatMap outC) ∧ ∀ z ∈ Z, ElM B w z := by
  by_cases hX : X = []
  · subst hX
    exact ⟨[], rfl, fun h => absurd rfl h, fun z hz => by simp at hz⟩
  obtain ⟨b, o, rfl, hb, hc⟩ := h hX
  have hch : ∀ i, i < X.length → ∃ z : RA × HM, X[i]? = some z.1 ∧ (∀ j u, (outC z)[j]? = some u → w.cell? ⟨b, o + i * 3 + j, none⟩ = some u) ∧ ElM B w z := fun i hi => by
    obtain ⟨VA, VC, PA, PC, h1, h2, h3, h4, h5, h6, h7, h8, h9⟩ := hc i hi
    refine ⟨(X[i], ⟨VA, VC, PA, PC, none, 0⟩), List.getElem?_eq_getElem hi, fun j u hu => ?_, ⟨h4, h5, h6, h7, h8, h9⟩⟩
    match j, hu with
    | 0, hu => rw [← hu]; exact h1
    | 1, hu => rw [← hu]; exact h2
    | 2, hu => rw [← hu]; exact h3
    | j + 3, hu => exact absurd hu (by simp [outC])
  haveI : Inhabited (RA × HM) := ⟨(⟨[], 0, []⟩, ⟨none, 0, none, 0, none, 0⟩)⟩
  obtain ⟨f, hf⟩ := Go.Deep.choose_lt hch
  refine ⟨(List.range X.length).map f, ?_, fun _ => ⟨b, o, rfl, hb, fun i u hu => ?_⟩, fun z hz => ?_⟩
  · refine List.ext_getElem (by simp) fun i h1 h2 => ?_
    have := (hf i h2).1
    rw [List.getElem?_eq_getElem h2] at this
    simpa using (Option.some.inj this).symm
  · have hl : (((List.range X.length).map f).flatMap outC).length = X.length * 3 := by
      have : ∀ L : List (RA × HM), (L.flatMap outC).length = L.length * 3 := fun L => by
        induction L with
        | nil => rfl
        | cons z t ih => rw [List.flatMap_cons, List.length_append, ih, List.length_cons]; show 3 + _ = _; omega
      rw [this]; simp
    have hi : i < X.length * 3 := by
      have := (List.getElem?_eq_some_iff.1 hu).1
      omega
    have hi3 : i / 3 < X.length := by omega
    have g := flat_get outC 3 (fun _ => rfl) ((List.range X.length).map f) (i / 3) (i % 3) (by simpa using hi3) (by omega)
    rw [show i / 3 * 3 + i % 3 = i by omega, hu] at g
    have := (hf (i / 3) hi3).2.1 (i % 3) u (by rw [g]; simp)
    rw [← this]
    congr 2
    omega
  · obtain ⟨i, hi, rfl⟩ := List.mem_map.1 hz
    exact (hf i (List.mem_range.1 hi)).2.2
theorem AtsM.of_zs {B : Nat} {w : World} {A : Option Addr} {Z : List (RA × HM)} (h : Sl B w A (Z.flatMap outC)) (hz : ∀ z ∈ Z, ElM B w z) : AtsM B w A (Z.map Prod.fst) := fun hn => by
  have hne : Z ≠ [] := fun e => hn (by rw [e]; rfl)
  obtain ⟨b, o, rfl, hb, hc⟩ := h (fun h0 => by
    obtain ⟨z, t, rfl⟩ := List.exists_cons_of_ne_nil hne
    rw [List.flatMap_cons] at h0
    have := congrArg List.length h0
    rw [List.length_append] at this
    have h3 : (outC z).length = 3 := rfl
    simp only [List.length_nil] at this
    omega)
  refine ⟨b, o, rfl, hb, fun i hi => ?_⟩
  rw [List.length_map] at hi
  have he := hz _ (List.getElem_mem hi)
  have g := fun j hj => flat_get outC 3 (fun _ => rfl) Z i j hi hj
  rw [List.getElem_map]
  exact ⟨_, _, _, _, hc _ _ (g 0 (by omega)), by rw [Nat.add_assoc]; exact hc _ _ (g 1 (by omega)), by rw [Nat.add_assoc]; exact hc _ _ (g 2 (by omega)), he.v1, he.v2, he.p1, he.p2, he.V, he.P⟩
theorem outC_len : ∀ L : List (RA × HM), (L.flatMap outC).length = L.length * 3
  | [] => rfl
  | z :: t => by rw [List.flatMap_cons, List.length_append, outC_len t, List.length_cons]; show 3 + _ = _; omega
theorem outC_one : ∀ L : List (RA × HM), ∀ x ∈ L.flatMap outC, x.oneCell' = true := fun L x hx => by
  obtain ⟨z, _, hx⟩ := List.mem_flatMap.1 hx
  simp [outC] at hx
  rcases hx with rfl | rfl | rfl <;> rfl

set_option maxRecDepth 4000 in
theorem runLAs {w : World} (ty : TypeId) (base : Nat) (v : Value) (n : Nat) (xs : List Value) (hown : w.ownsRow base 52 3 v n xs)
    (A : Option Addr) (m C : Nat) (Z : List (RA × HM)) (hm : Z.length = m) (hz : Sl w.heap.size w A (Z.flatMap outC)) (hn : n + m ≤ 1000000) (hbase : base ≤ w.heap.size) :
    ∃ v' w', (Builtin.append_ #[23, 23] ty #[v, .slice A m C]).run Try.prog w = .ok v' w' ∧ w'.ownsRow base 52 3 v' (n + m) (xs ++ Z.flatMap outC) ∧ w.grownBy w' v.ownBlock := by
  subst hm
  obtain ⟨i0, hi0, hz0, hz1, hz2⟩ := info_parts atomInfo
  have hcell : ∀ ad, A = some ad → ∀ j u, (Z.flatMap outC)[j]? = some u → w.cell? (ad.add j) = some u := fun ad e j u hu => by
    obtain ⟨b, o, e', hb, hc⟩ := hz (by intro h0; rw [h0] at hu; simp at hu)
    rw [e] at e'
    injection e' with e'
    subst e'
    rw [Addr.add_lit]
    exact hc j u hu
  rcases A with _ | ad
  · have hy : Z = [] := by
      refine Classical.byContradiction fun hne => ?_
      obtain ⟨b, o, e', hb, hc⟩ := hz (fun h0 => hne (List.eq_nil_of_length_eq_zero (by have := outC_len Z; rw [h0] at this; simp at this; omega)))
      cases e'
    subst hy
    exact ⟨v, w, run_append_none (P := Try.prog) w base 23 ty 52 i0 3 Try.underlying23 hi0 v n xs hown C, by simpa using hown, rfl, rfl, rfl, Nat.le_refl _, fun _ _ _ => rfl⟩
  · obtain ⟨v', w', hrun, k2, k3, _, k5⟩ := run_append_own_at (P := Try.prog) w base 23 ty 52 i0 _ 3 56 Try.underlying23 hi0 hz0 hz1 hz2 rfl (by decide) v n xs hown ad Z.length C (Z.flatMap outC) (outC_len Z) (hcell ad rfl) (outC_one Z) (by simp only [maxLen]; omega) (by omega) hbase
    exact ⟨v', w', hrun, k2, k3⟩
/-- append(l, atoms...). -/
theorem appLAs {w : World} {ops : Array Oper} {rest : List Oper} {o : Oper} {a : Act} {Q : Exit → Act → World → Prop} (hgd : o.guard = none) (s x : Operand)
    (ho : o.op = .call { callee := .builtin .append, args := #[s, x], argTypes := #[23, 23] })
    (base : Nat) (v : Value) (n : Nat) (xs : List Value) (hs0 : a.eval s = v) (hown : w.ownsRow base 52 3 v n xs)
    (A : Option Addr) (m C : Nat) (Z : List (RA × HM)) (hm : Z.length = m) (hx : a.eval x = .slice A m C) (hz : Sl w.heap.size w A (Z.flatMap outC))
    (hn : n + m ≤ 1000000) (hbase : base ≤ w.heap.size)
    (h : ∀ v' w', w'.ownsRow base 52 3 v' (n + m) (xs ++ Z.flatMap outC) → w.grownBy w' v.ownBlock → wpList Try.prog ops Q rest (a.put o.dst v') w') : wpList Try.prog ops Q (o :: rest) a w := by
  refine wpList_plain hgd fun K hK => ?_
  obtain ⟨v', w', hrun, k2, k3⟩ := runLAs o.type base v n xs hown A m C Z hm hz hn hbase
  unfold Oper.wp execOp
  simp only [ho, resolve, invoke, builtin, Sem.run_bind, Sem.run_pure, Result.andThen_ok, List.map_toArray, List.map_cons, List.map_nil, hs0, hx, hrun]
  exact hK _ _ (h v' w' k2 k3)
/-- The same at a step of a drawn region. -/
theorem stepLAs {w : World} {ops : Array Oper} {o : Oper} {a : Act} {K : Act → World → Prop} {Q : Exit → Act → World → Prop} {E : Prop} (hgd : o.guard = none) (s x : Operand)
    (ho : o.op = .call { callee := .builtin .append, args := #[s, x], argTypes := #[23, 23] })
    (base : Nat) (v : Value) (n : Nat) (xs : List Value) (hs0 : a.eval s = v) (hown : w.ownsRow base 52 3 v n xs)
    (A : Option Addr) (m C : Nat) (Z : List (RA × HM)) (hm : Z.length = m) (hx : a.eval x = .slice A m C) (hz : Sl w.heap.size w A (Z.flatMap outC))
    (hn : n + m ≤ 1000000) (hbase : base ≤ w.heap.size)
    (h : ∀ v' w', w'.ownsRow base 52 3 v' (n + m) (xs ++ Z.flatMap outC) → w.grownBy w' v.ownBlock → K (a.put o.dst v') w') :
    if Region.wanted o (yielded ops a.tmps) = true then Oper.wp Try.prog o a w K Q else E := by
  obtain ⟨v', w', hrun, k2, k3⟩ := runLAs o.type base v n xs hown A m C Z hm hz hn hbase
  have hw : Region.wanted o (yielded ops a.tmps) = true := by unfold Region.wanted; rw [hgd]
  rw [if_pos hw]
  unfold Oper.wp execOp
  simp only [ho, resolve, invoke, builtin, Sem.run_bind, Sem.run_pure, Result.andThen_ok, List.map_toArray, List.map_cons, List.map_nil, hs0, hx, hrun]
  exact h v' w' k2 k3
/-- A list of atoms that a call made, read as atoms. -/
theorem own_atsM {w : World} {base : Nat} {v : Value} {n : Nat} {Z : List (RA × HM)} (_hn : Z.length = n) (h : w.ownsRow base 52 3 v n (Z.flatMap outC)) (hz : ∀ z ∈ Z, ElM w.heap.size w z) :
    ∃ A C, v = .slice A n C ∧ n ≤ C ∧ C ≤ 9223372036854775807 ∧ AtsM w.heap.size w A (Z.map Prod.fst) := by
  obtain ⟨A, C, e, h1, h2, h3⟩ := own_slice h (by decide)
  refine ⟨A, C, e, h1, h2, AtsM.of_zs (fun hne => ?_) hz⟩
  obtain ⟨b, rfl, hb, hc⟩ := h3 hne
  exact ⟨b, 0, rfl, hb, fun i u hu => by rw [Nat.zero_add]; exact hc i u hu⟩
theorem own_oneL (w : World) (base : Nat) (T : TypeId) (size : Nat) (u : List Value) (hu : u.length = size) (hb : base ≤ w.heap.size) : (w.alloc (.cells u.toArray T)).ownsRow base T size (.slice (some ⟨w.heap.size, 0, none⟩) 1 1) 1 u :=
  ⟨by rw [hu, Nat.one_mul], .inr ⟨w.heap.size, 1, u.toArray, rfl, hb, Row.new w T u, Nat.le_refl _, by simp [maxLen], by simp [hu], by simp [hu, List.take_of_length_le]⟩⟩
theorem Sl.part {B : Nat} {w : World} {b o : Nat} {xs ys zs : List Value} (h : Sl B w (some ⟨b, o, none⟩) (xs ++ ys ++ zs)) : Sl B w (some ⟨b, o + xs.length, none⟩) ys := fun hn => by
  obtain ⟨b', o', e, hb, hc⟩ := h (by simp [hn])
  injection e with e
  injection e with e1 e2
  subst e1 e2
  refine ⟨b, o + xs.length, rfl, hb, fun i u hu => ?_⟩
  rw [Nat.add_assoc]
  refine hc _ _ ?_
  rw [List.append_assoc, List.getElem?_append_right (by omega), Nat.add_sub_cancel_left, List.getElem?_append_left (List.getElem?_eq_some_iff.1 hu).1]
  exact hu

end Go.Proofs.Ytiomelogggilgaa

/- Words for the walk of JointreeSeparates: what lies in memory, and the two rows that the law collects. -/
import Derived.Test.YtfiegiifoekfmaaL2
import Derived.Test.YtfiegiifoekfmaaJSep
import Derived.Test.YtfiegiifoekfmaaW9
import Derived.Test.YtfiegiifoekfmaaW18
import Derived.Test.YtfiegiifoekfmaaW19
import Derived.Deep.AppendLies
namespace Go.Proofs.Ytfiegiifoekfmaa
open Go.RowKit

/-- The law's boxes of its graph and of its tree, and its arguments, in a later world. -/
structure S1 (w : World) (N : Int) (EA : Option Addr) (EC : Nat) (es : List Nat) (PA : Option Addr) (PC : Nat) (ps : List Int) (tb : Nat) (W : World) : Prop where
  gp : GP w N EA EC es PA ps W
  t0 : W.cell? ⟨tb, 0, none⟩ = some (.slice PA ps.length PC)
  lt : tb < W.heap.size
section
variable {w W W' : World} {N : Int} {EA PA : Option Addr} {EC PC tb : Nat} {es : List Nat} {ps : List Int}
theorem S1.keep (h : S1 w N EA EC es PA PC ps tb W) (hb : Below W.heap.size W W') : S1 w N EA EC es PA PC ps tb W' :=
  ⟨h.gp.keep hb, (hb.cell (p := ⟨tb, 0, none⟩) h.lt).trans h.t0, Nat.lt_of_lt_of_le h.lt hb.size⟩
theorem S1.start (h : GP w N EA EC es PA ps W) : S1 w N EA EC es PA PC ps W.heap.size (W.alloc (.cells #[.slice PA ps.length PC] 34)) :=
  ⟨h.alloc _, (Row.new W 34 [.slice PA ps.length PC]).cell 0, by simp⟩
theorem S1.drewN (h : S1 w N EA EC es PA PC ps tb W) (n : Nat) : S1 w N EA EC es PA PC ps tb (W.drewN n) := h.keep (Below.drewN' (Below.refl _ _) n)
theorem S1.alloc (h : S1 w N EA EC es PA PC ps tb W) (o : Obj) : S1 w N EA EC es PA PC ps tb (W.alloc o) := h.keep ((Below.refl _ _).alloc (Nat.le_refl _) o)
end

/-- What the second loop reads (all of it below block B) and the two rows that it owns. -/
structure S2 (w : World) (N : Int) (EA : Option Addr) (EC : Nat) (es : List Nat) (PA : Option Addr) (PC : Nat) (ps : List Int) (tb ub B : Nat) (UA : Option Addr) (UC : Nat) (q : List Int) (va vb : Value) (la lb : List Nat) (W : World) : Prop where
  c0 : W.cell? ⟨w.heap.size, 0, none⟩ = some (.int .i64 N)
  c1 : W.cell? ⟨w.heap.size, 1, none⟩ = some (.slice EA es.length EC)
  t0 : W.cell? ⟨tb, 0, none⟩ = some (.slice PA ps.length PC)
  u0 : W.cell? ⟨ub, 0, none⟩ = some (.slice UA ps.length UC)
  sE : SlN .u32 B W EA es
  sP : SlI .i64 B W PA ps
  sU : SlI .i64 B W UA q
  bel : Below w.heap.size w W
  l0 : w.heap.size < B
  l1 : tb < B
  l2 : ub < B
  sz : B ≤ W.heap.size
  oa : W.ownsRow B 44 1 va la.length (la.map fun z : Nat => Value.int .u32 (z : Int))
  ob : W.ownsRow B 44 1 vb lb.length (lb.map fun z : Nat => Value.int .u32 (z : Int))
  ab : ∀ g, va.ownBlock = some g → vb.ownBlock ≠ some g

section
variable {w W W' : World} {N : Int} {EA PA UA : Option Addr} {EC PC UC tb ub B : Nat} {es la lb : List Nat} {ps q : List Int} {va vb : Value}
theorem S2.E (h : S2 w N EA EC es PA PC ps tb ub B UA UC q va vb la lb W) : SlN .u32 W.heap.size W EA es := h.sE.more h.sz
theorem S2.P (h : S2 w N EA EC es PA PC ps tb ub B UA UC q va vb la lb W) : SlI .i64 W.heap.size W PA ps := h.sP.more h.sz
theorem S2.U (h : S2 w N EA EC es PA PC ps tb ub B UA UC q va vb la lb W) : SlI .i64 W.heap.size W UA q := h.sU.more h.sz
theorem S2.keep (h : S2 w N EA EC es PA PC ps tb ub B UA UC q va vb la lb W) (hb : Below W.heap.size W W') : S2 w N EA EC es PA PC ps tb ub B UA UC q va vb la lb W' := by
  have hs := h.sz
  exact ⟨(hb.cell (p := ⟨w.heap.size, 0, none⟩) (Nat.lt_of_lt_of_le h.l0 hs)).trans h.c0, (hb.cell (p := ⟨w.heap.size, 1, none⟩) (Nat.lt_of_lt_of_le h.l0 hs)).trans h.c1,
    (hb.cell (p := ⟨tb, 0, none⟩) (Nat.lt_of_lt_of_le h.l1 hs)).trans h.t0, (hb.cell (p := ⟨ub, 0, none⟩) (Nat.lt_of_lt_of_le h.l2 hs)).trans h.u0,
    h.sE.below hb hs, h.sP.below hb hs, h.sU.below hb hs, Below.then h.bel hb (by have := h.l0; omega), h.l0, h.l1, h.l2, Nat.le_trans hs hb.size, own_keep h.oa hb, own_keep h.ob hb, h.ab⟩
theorem S2.start (h : S1 w N EA EC es PA PC ps tb W) (hu : W.cell? ⟨ub, 0, none⟩ = some (.slice UA ps.length UC)) (hl : ub < W.heap.size) (hU : SlI .i64 W.heap.size W UA q) : S2 w N EA EC es PA PC ps tb ub W.heap.size UA UC q (.slice none 0 0) (.slice none 0 0) [] [] W :=
  ⟨h.gp.c0, h.gp.c1, h.t0, hu, h.gp.E, h.gp.P, hU, h.gp.bel, h.gp.sz, h.lt, hl, Nat.le_refl _, own_nil _ _ _ _, own_nil _ _ _ _, fun g hg => by simp [Value.ownBlock] at hg⟩
/-- Behind a step that turned only the first row (and made new blocks). -/
theorem S2.stepA (h : S2 w N EA EC es PA PC ps tb ub B UA UC q va vb la lb W) {va' : Value} {la' : List Nat} (hg : W.grownBy W' va.ownBlock) (ha : W'.ownsRow B 44 1 va' la'.length (la'.map fun z : Nat => Value.int .u32 (z : Int))) (hat : ∀ g, va'.ownBlock = some g → va.ownBlock = some g ∨ W.heap.size ≤ g) :
    S2 w N EA EC es PA PC ps tb ub B UA UC q va' vb la' lb W' := by
  have hs := h.sz
  have hb : Below B W W' := (Below.refl B W).grown hg hs (fun k hk => own_base h.oa hk)
  refine ⟨(hb.cell (p := ⟨w.heap.size, 0, none⟩) h.l0).trans h.c0, (hb.cell (p := ⟨w.heap.size, 1, none⟩) h.l0).trans h.c1, (hb.cell (p := ⟨tb, 0, none⟩) h.l1).trans h.t0, (hb.cell (p := ⟨ub, 0, none⟩) h.l2).trans h.u0,
    h.sE.below hb (Nat.le_refl _), h.sP.below hb (Nat.le_refl _), h.sU.below hb (Nat.le_refl _), Below.then h.bel hb (by have := h.l0; omega), h.l0, h.l1, h.l2, Nat.le_trans hs hb.size, ha, ?_, ?_⟩
  · refine h.ob.kept hg ?_
    cases hv : vb.ownBlock with
    | none => exact .inl rfl
    | some g => exact .inr fun e => h.ab g e.symm hv
  · intro g hg' hv
    rcases hat g hg' with h1 | h1
    · exact h.ab g h1 hv
    · have := own_lt h.ob g hv; omega
theorem S2.stepB (h : S2 w N EA EC es PA PC ps tb ub B UA UC q va vb la lb W) {vb' : Value} {lb' : List Nat} (hg : W.grownBy W' vb.ownBlock) (hb' : W'.ownsRow B 44 1 vb' lb'.length (lb'.map fun z : Nat => Value.int .u32 (z : Int))) (hat : ∀ g, vb'.ownBlock = some g → vb.ownBlock = some g ∨ W.heap.size ≤ g) :
    S2 w N EA EC es PA PC ps tb ub B UA UC q va vb' la lb' W' := by
  have hs := h.sz
  have hb : Below B W W' := (Below.refl B W).grown hg hs (fun k hk => own_base h.ob hk)
  refine ⟨(hb.cell (p := ⟨w.heap.size, 0, none⟩) h.l0).trans h.c0, (hb.cell (p := ⟨w.heap.size, 1, none⟩) h.l0).trans h.c1, (hb.cell (p := ⟨tb, 0, none⟩) h.l1).trans h.t0, (hb.cell (p := ⟨ub, 0, none⟩) h.l2).trans h.u0,
    h.sE.below hb (Nat.le_refl _), h.sP.below hb (Nat.le_refl _), h.sU.below hb (Nat.le_refl _), Below.then h.bel hb (by have := h.l0; omega), h.l0, h.l1, h.l2, Nat.le_trans hs hb.size, ?_, hb', ?_⟩
  · refine h.oa.kept hg ?_
    cases hv : va.ownBlock with
    | none => exact .inl rfl
    | some g => exact .inr fun e => h.ab g hv e.symm
  · intro g hv hg'
    rcases hat g hg' with h1 | h1
    · exact h.ab g hv h1
    · have := own_lt h.oa g hv; omega
end

/-- append of one number to a row of the call's own, and where the new row lies. -/
theorem app1U32L {w : World} {ops : Array Oper} {rest : List Oper} {o : Oper} {a : Act} {Q : Exit → Act → World → Prop} (hgd : o.guard = none) (s x : Operand)
    (ho : o.op = .call { callee := .builtin .append, args := #[s, x], argTypes := #[22, 22] })
    (base : Nat) (v : Value) (l : List Nat) (hs : a.eval s = v) (hown : w.ownsRow base 44 1 v l.length (l.map fun z : Nat => Value.int .u32 (z : Int)))
    (gt : Nat) (z : Nat) (hx : a.eval x = .slice (some ⟨gt, 0, none⟩) 1 1) (hg : w.cell? ⟨gt, 0, none⟩ = some (.int .u32 z))
    (hn : l.length ≤ 100000000) (hbase : base ≤ w.heap.size)
    (h : ∀ v' w', w'.ownsRow base 44 1 v' (l ++ [z]).length ((l ++ [z]).map fun z : Nat => Value.int .u32 (z : Int)) → w.grownBy w' v.ownBlock → (∀ g, v'.ownBlock = some g → v.ownBlock = some g ∨ w.heap.size ≤ g) → wpList Try.prog ops Q rest (a.put o.dst v') w') : wpList Try.prog ops Q (o :: rest) a w := by
  obtain ⟨i0, hi0, hz0, hz1, hz2⟩ := info_parts u32Info
  refine wpList_append_lies w hgd s x 22 ho base 44 i0 _ 1 4 Try.underlying22 hi0 hz0 hz1 hz2 rfl (by decide) v l.length _ hs hown ⟨gt, 0, none⟩ 1 1 [.int .u32 z] hx rfl ?_ (by simp [Value.oneCell']) (by decide) (by simp only [maxLen]; omega) (by omega) hbase w.heap.size rfl ?_
  · intro j u hu
    cases j with
    | zero => simp at hu; subst hu; exact hg
    | succ j => simp at hu
  · intro g cap w' h1 h2 h3 h4
    refine h _ w' ?_ h2 ?_
    · simpa using h1
    · intro g' hg'
      simp [Value.ownBlock] at hg'
      subst hg'
      rcases h3 with h3 | h3
      · exact .inl h3
      · exact .inr (by omega)

namespace JT
theorem sepsOf_snoc (es : List Nat) (ps : List Int) (k : Nat) : sepsOf es ps (List.range (k + 1)) = sepsOf es ps (List.range k) ++ (if 0 ≤ par ps k then [sepF es ps (k : Int)] else []) := by
  rw [List.range_succ, sepsOf_append, sepsOf_cons]
  simp [sepsOf]
theorem sepsOf_range_le (es : List Nat) (ps : List Int) (k : Nat) : (sepsOf es ps (List.range k)).length ≤ k := by
  unfold sepsOf
  have := List.length_filter_le (fun i => decide (0 ≤ par ps i)) (List.range k)
  simp at this ⊢
  exact this
theorem chkF_parts {N : Int} {es : List Nat} {ps : List Int} (h : chkF N es ps = 0) : ps.length = es.length ∧ ∃ n : Nat, N = n := by
  have hg : hgCheckF N es = 0 := by
    refine Classical.byContradiction fun h2 => ?_
    rw [chkF_hg h2] at h; exact h2 h
  refine ⟨?_, ?_⟩
  · refine Classical.byContradiction fun h2 => ?_
    rw [chkF_len hg h2] at h; omega
  · obtain ⟨n, hn, _⟩ := hgCheckF_zero hg
    exact ⟨n, hn⟩
end JT

theorem sortedI_nat (la : List Nat) : ∃ la' : List Nat, la'.length = la.length ∧ la'.map (fun z : Nat => (z : Int)) = sortedI (la.map fun z : Nat => (z : Int)) := by
  have hp : (sortedI (la.map fun z : Nat => (z : Int))).Perm (la.map fun z : Nat => (z : Int)) := by
    have h := JT.insSort_list (la.map fun z : Nat => (z : Int)).toArray
    simp only [List.size_toArray] at h
    unfold sortedI
    rw [h]
    exact List.mergeSort_perm _ _
  refine ⟨(sortedI (la.map fun z : Nat => (z : Int))).map Int.toNat, by simp [sortedI_length], ?_⟩
  rw [List.map_map]
  refine (List.map_congr_left fun z hz => ?_).trans (List.map_id _)
  have := hp.mem_iff.1 hz
  simp at this
  obtain ⟨m, _, rfl⟩ := this
  simp

end Go.Proofs.Ytfiegiifoekfmaa

/- Parts of the proof, merged: U2, I3, I4, I5, I6. -/
import Derived.Test.YtlcammcifjihpaaQ3

section
/- Walk: trie.add. -/
namespace Go.Proofs.Ytlcammcifjihpaa
open Go.RowKit Go.Sort

/-- Below block B nothing turns but block lb. -/
def KeepX (B lb : Nat) (w w' : World) : Prop := w'.os = w.os ∧ w'.tape = w.tape ∧ w'.output = w.output ∧ w.heap.size ≤ w'.heap.size ∧ ∀ b, b < B → b ≠ lb → w'.heap[b]? = w.heap[b]?
theorem KeepX.refl (B lb : Nat) (w : World) : KeepX B lb w w := ⟨rfl, rfl, rfl, Nat.le_refl _, fun _ _ _ => rfl⟩
theorem KeepX.trans {B lb : Nat} {a b c : World} (h : KeepX B lb a b) (k : KeepX B lb b c) : KeepX B lb a c :=
  ⟨k.1.trans h.1, k.2.1.trans h.2.1, k.2.2.1.trans h.2.2.1, Nat.le_trans h.2.2.2.1 k.2.2.2.1, fun x hx hn => (k.2.2.2.2 x hx hn).trans (h.2.2.2.2 x hx hn)⟩
theorem KeepX.below {B lb C : Nat} {a b : World} (h : Below C a b) (hB : B ≤ C) : KeepX B lb a b := ⟨h.os, h.tape, h.output, h.size, fun x hx _ => h.block x (by omega)⟩
theorem KeepX.grown {B lb : Nat} {a b : World} {row : Option Nat} (h : a.grownBy b row) (hB : B ≤ a.heap.size) (hr : ∀ k, row = some k → B ≤ k) : KeepX B lb a b := ⟨h.os, h.tape, h.output, h.size, fun x hx _ => h.block x (by omega) (fun e => by have := hr x e.symm; omega)⟩
theorem KeepX.set {B lb : Nat} (w : World) (o : Nat) (u : Value) : KeepX B lb w (w.setCell ⟨lb, o, none⟩ u) := ⟨rfl, rfl, rfl, by simp, fun x _ hn => Below.heap_setCell w ⟨lb, o, none⟩ u x hn⟩
theorem KeepX.cell {B lb : Nat} {w w' : World} (h : KeepX B lb w w') {p : Addr} (hp : p.block < B) (hn : p.block ≠ lb) : w'.cell? p = w.cell? p := World.cell?_of_block (h.2.2.2.2 p.block hp hn)

/-- What the levels hold when a row has been added up to level k. -/
def addV (vs : Nat → RL.R) (x : RL.R) (frm k : Nat) (j : Nat) : RL.R := if frm ≤ j ∧ j < k then vs j ++ [x.getD j default] else vs j
def addF (d : Nat) (vs : Nat → RL.R) (fs : Nat → List Nat) (frm k : Nat) (j : Nat) : List Nat := if frm ≤ j ∧ j < k then fs j ++ [sizeF d vs (j + 1)] else fs j
theorem addV_step (vs : Nat → RL.R) (x : RL.R) {frm k : Nat} (h : frm ≤ k) : addV vs x frm (k + 1) = upd (addV vs x frm k) k (vs k ++ [x.getD k default]) := by
  funext j
  unfold addV upd
  by_cases e : j = k
  · subst e; rw [if_pos ⟨h, by omega⟩, if_pos rfl]
  · rw [if_neg e]
    dsimp only
    by_cases h2 : frm ≤ j ∧ j < k
    · rw [if_pos h2, if_pos ⟨h2.1, by omega⟩]
    · rw [if_neg h2, if_neg (by omega)]
theorem addF_step (d : Nat) (vs : Nat → RL.R) (fs : Nat → List Nat) {frm k : Nat} (h : frm ≤ k) : addF d vs fs frm (k + 1) = upd (addF d vs fs frm k) k (fs k ++ [sizeF d vs (k + 1)]) := by
  funext j
  unfold addF upd
  by_cases e : j = k
  · subst e; rw [if_pos ⟨h, by omega⟩, if_pos rfl]
  · rw [if_neg e]
    dsimp only
    by_cases h2 : frm ≤ j ∧ j < k
    · rw [if_pos h2, if_pos ⟨h2.1, by omega⟩]
    · rw [if_neg h2, if_neg (by omega)]
theorem addV_at (vs : Nat → RL.R) (x : RL.R) (frm k : Nat) : addV vs x frm k k = vs k := by unfold addV; rw [if_neg (by omega)]
theorem addF_at (d : Nat) (vs : Nat → RL.R) (fs : Nat → List Nat) (frm k : Nat) : addF d vs fs frm k k = fs k := by unfold addF; rw [if_neg (by omega)]

set_option maxHeartbeats 8000000 in
set_option maxRecDepth 100000 in
theorem trAdd_any (B lb d dc : Nat) (vs : Nat → RL.R) (fs : Nat → List Nat) (XA : Option Addr) (XC frm : Nat) (x : RL.R) (w : World) (h : BldM B (fun _ => True) w lb d vs fs) (hx : HR (fun b => b ≠ lb) B w (.slice XA x.length XC) x) (hxd : x.length = d) (hf : frm ≤ d) (hd : d ≤ 32) (hv : ∀ l, (vs l).length ≤ 100000) (hfl : ∀ l, (fs l).length ≤ 100000) :
    Calls Try.prog 43 #[.agg #[.slice (some ⟨lb, 0, none⟩) d dc], .slice XA x.length XC, .int .i64 frm] w fun e w' => e = .returned (.tuple #[]) ∧ BldM B (fun _ => True) w' lb d (addV vs x frm d) (addF d vs fs frm d) ∧ KeepX B lb w w' := by
  have hBz : B ≤ w.heap.size := by obtain ⟨hs, _, _, _, h3', _⟩ := h; exact h3'
  have hlB : lb < B := by obtain ⟨hs, _, _, h3, _⟩ := h; exact h3
  obtain ⟨W0, hW0⟩ : ∃ W0, W0 = w.alloc (.cells #[.slice (some ⟨lb, 0, none⟩) d dc] 31) := ⟨_, rfl⟩
  have he0 : Ext w W0 := by rw [hW0]; exact (Ext.refl w).alloc _
  have hr0 : Row W0 w.heap.size 31 [.slice (some ⟨lb, 0, none⟩) d dc] := by rw [hW0]; exact Row.new w 31 _
  have HB0 : Hid (BldM B (fun b => b ≠ w.heap.size) W0 lb d vs fs) := (h.weak (fun k hk _ => by show k ≠ w.heap.size; omega)).up he0.below
  have HR0 := Lib.hid hr0
  have HK0 : Hid (KeepX B lb w W0) := KeepX.below he0.below hBz
  have HX := Lib.hid hx
  have HV := Lib.hid hv
  have HF := Lib.hid hfl
  have HXD := Lib.hid hxd
  have hxd1 : d ≤ x.length := by omega
  have hxd2 : x.length ≤ d := by omega
  clear h hx hv hfl he0 hr0 hxd
  go_enter Try.func43, Try.ntmps43
  go_wp2
  rw [← hW0]
  clear hW0
  go_loopw [6] (fun i wr => ∃ k : Nat, frm ≤ k ∧ k ≤ d ∧ i = .int .i64 k ∧ BldM B (fun b => b ≠ w.heap.size) wr lb d (addV vs x frm k) (addF d vs fs frm k) ∧ Row wr w.heap.size 31 [.slice (some ⟨lb, 0, none⟩) d dc] ∧ KeepX B lb w wr) (fun i _ => d - (intOf i).toNat)
  case atStart =>
    refine ⟨frm, Nat.le_refl _, hf, rfl, ?_, HR0.out, HK0.out⟩
    rw [show addV vs x frm frm = vs from by funext j; unfold addV; rw [if_neg (by omega)], show addF d vs fs frm frm = fs from by funext j; unfold addF; rw [if_neg (by omega)]]
    exact HB0.out
  case round =>
    obtain ⟨k, hk1, hk2, rfl, hbld, hrow, hkeep⟩ := hrel
    have hzz := hkeep.2.2.2.1
    have HBLD := Lib.hid hbld
    have HROW := Lib.hid hrow
    have HKEEP := Lib.hid hkeep
    clear HB0 HR0 HK0
    by_cases h1 : k < d
    rotate_left
    · obtain rfl : k = d := by omega
      rw [HXD.out]
      go_wp2
      go_end0
      exact ⟨rfl, OwnAll.weak HBLD.out (fun _ _ _ => trivial), HKEEP.out⟩
    obtain ⟨v, cv, ov, qv, fv⟩ := OwnAll.at_ hbld (show k * 2 < d * 2 by omega)
    rw [spF_v, addV_at] at ov
    have hkx : k < x.length := by omega
    obtain ⟨b, o, rfl, hb, c1, c2, c3⟩ := slR_at HX.out.sl hkx
    have hbl : b ≠ lb := by
      obtain ⟨A', C', e, -, -, -, hP⟩ := HX.out
      injection e with e1 _ _
      exact hP (by intro e; subst e; simp at hkx) _ e1.symm
    have HZ : Hid (x.getD k default = x[k]) := by show _ = _; rw [List.getD_eq_getElem?_getD, List.getElem?_eq_getElem hkx]; rfl
    generalize x[k] = z at *
    have t0 : wr.cell? ⟨w.heap.size, 0, none⟩ = some (.slice (some ⟨lb, 0, none⟩) d dc) := hrow.cell 0
    have c1 := (hkeep.cell (p := ⟨b, o + k * 3, none⟩) hb hbl).trans c1
    have c2 := (hkeep.cell (p := ⟨b, o + k * 3 + 1, none⟩) hb hbl).trans c2
    have c3 := (hkeep.cell (p := ⟨b, o + k * 3 + 2, none⟩) hb hbl).trans c3
    have hlw : lb < wr.heap.size := OwnAll.lt hbld
    have hbw : b < wr.heap.size := by omega
    have htw : w.heap.size < wr.heap.size := hrow.lt
    have HOV := Lib.hid ov
    have HQV := Lib.hid qv
    have hvk := HV.out k
    have HOB : Hid (∀ j, v.ownBlock = some j → B ≤ j) := fun j hj => own_base ov hj
    clear hbld hrow hkeep ov qv
    have g1 : (0 : Int) ≤ (k : Int) := by omega
    have g2 : (k : Int) < (d : Int) := by omega
    have g3 : (k : Int) < (x.length : Int) := by omega
    go_wp2
    refine regionZ (S := (fun w' => w'.cell? ⟨w.heap.size, 0, none⟩ = some (.slice (some ⟨lb, 0, none⟩) d dc) ∧ w'.cell? ⟨lb, k * 2, none⟩ = some v ∧ w'.cell? ⟨b, o + k * 3, none⟩ = some (.int .i64 z.kind) ∧ w'.cell? ⟨b, o + k * 3 + 1, none⟩ = some (.int .i64 z.int) ∧ w'.cell? ⟨b, o + k * 3 + 2, none⟩ = some (.string z.str))) 17 (by kernel_rfl) ⟨t0, cv, c1, c2, c3⟩ (fun hHeld => ?_)
    refine takeZ (i := 0) (v := ?_) (some 14) rfl rfl (by kernel_rfl) (by decide) (by kernel_rfl) (by kernel_rfl) (by kernel_rfl) (by kernel_rfl) (fun _ _ _ h => h) (Or.inl ⟨by rfl, ?_⟩) (by assumption) ?_
    rotate_left 1
    · (intro w0 hSw; (try dsimp only at hSw); go_simp; try (with_reducible rfl))
    try simp only [Act.put]
    try simp only [List.setIfInBounds_toArray]
    try simp only [List.set_cons_succ]
    try simp only [List.set_cons_zero]
    refine takeZ (i := 1) (v := ?_) (some 15) rfl rfl (by kernel_rfl) (by decide) (by kernel_rfl) (by kernel_rfl) (by kernel_rfl) (by kernel_rfl) (fun _ _ _ h => h) (Or.inl ⟨by rfl, ?_⟩) (by assumption) ?_
    rotate_left 1
    · (intro w0 hSw; (try dsimp only at hSw); go_simp; try (with_reducible rfl))
    try simp only [Act.put]
    try simp only [List.setIfInBounds_toArray]
    try simp only [List.set_cons_succ]
    try simp only [List.set_cons_zero]
    refine takeZ (i := 2) (v := ?_) (some 16) rfl rfl (by kernel_rfl) (by decide) (by kernel_rfl) (by kernel_rfl) (by kernel_rfl) (by kernel_rfl) (fun _ _ _ h => h) (Or.inl ⟨by rfl, ?_⟩) (by assumption) ?_
    rotate_left 1
    · (intro w0 hSw; (try dsimp only at hSw); go_simp; try (with_reducible rfl))
    try simp only [Act.put]
    try simp only [List.setIfInBounds_toArray]
    try simp only [List.set_cons_succ]
    try simp only [List.set_cons_zero]
    refine takeZ (i := 3) (v := ?_) (some 17) rfl rfl (by kernel_rfl) (by decide) (by kernel_rfl) (by kernel_rfl) (by kernel_rfl) (by kernel_rfl) (fun _ _ _ h => h) (Or.inl ⟨by rfl, ?_⟩) (by assumption) ?_
    rotate_left 1
    · (intro w0 hSw; (try dsimp only at hSw); go_simp; try (with_reducible rfl))
    try simp only [Act.put]
    try simp only [List.setIfInBounds_toArray]
    try simp only [List.set_cons_succ]
    try simp only [List.set_cons_zero]
    refine takeZ (i := 4) (v := ?_) (some 18) rfl rfl (by kernel_rfl) (by decide) (by kernel_rfl) (by kernel_rfl) (by kernel_rfl) (by kernel_rfl) (fun _ _ _ h => h) (Or.inl ⟨by rfl, ?_⟩) (by assumption) ?_
    rotate_left 1
    · (intro w0 hSw; (try dsimp only at hSw); go_simp; try (with_reducible rfl))
    try simp only [Act.put]
    try simp only [List.setIfInBounds_toArray]
    try simp only [List.set_cons_succ]
    try simp only [List.set_cons_zero]
    refine takeZ (i := 5) (v := ?_) (some 19) rfl rfl (by kernel_rfl) (by decide) (by kernel_rfl) (by kernel_rfl) (by kernel_rfl) (by kernel_rfl) (fun _ _ _ h => h) (Or.inl ⟨by rfl, ?_⟩) (by assumption) ?_
    rotate_left 1
    · (intro w0 hSw; (try dsimp only at hSw); go_simp; try (with_reducible rfl))
    try simp only [Act.put]
    try simp only [List.setIfInBounds_toArray]
    try simp only [List.set_cons_succ]
    try simp only [List.set_cons_zero]
    refine takeZ (i := 6) (v := ?_) (some 20) rfl rfl (by kernel_rfl) (by decide) (by kernel_rfl) (by kernel_rfl) (by kernel_rfl) (by kernel_rfl) (fun _ _ _ h => h) (Or.inl ⟨by rfl, ?_⟩) (by assumption) ?_
    rotate_left 1
    · (intro w0 hSw; (try dsimp only at hSw); go_simp; try (with_reducible rfl))
    try simp only [Act.put]
    try simp only [List.setIfInBounds_toArray]
    try simp only [List.set_cons_succ]
    try simp only [List.set_cons_zero]
    refine takeZ (i := 7) (v := ?_) (some 21) rfl rfl (by kernel_rfl) (by decide) (by kernel_rfl) (by kernel_rfl) (by kernel_rfl) (by kernel_rfl) (fun _ _ _ h => h) (Or.inl ⟨by rfl, ?_⟩) (by assumption) ?_
    rotate_left 1
    · (intro w0 hSw; (try dsimp only at hSw); go_simp; try (with_reducible rfl))
    try simp only [Act.put]
    try simp only [List.setIfInBounds_toArray]
    try simp only [List.set_cons_succ]
    try simp only [List.set_cons_zero]
    refine takeZ (i := 8) (v := ?_) (some 22) rfl rfl (by kernel_rfl) (by decide) (by kernel_rfl) (by kernel_rfl) (by kernel_rfl) (by kernel_rfl) (fun _ _ _ h => h) (Or.inl ⟨by rfl, ?_⟩) (by assumption) ?_
    rotate_left 1
    · (intro w0 hSw; (try dsimp only at hSw); go_simp; try (with_reducible rfl))
    try simp only [Act.put]
    try simp only [List.setIfInBounds_toArray]
    try simp only [List.set_cons_succ]
    try simp only [List.set_cons_zero]
    refine takeZ (i := 9) (v := ?_) (some 23) rfl rfl (by kernel_rfl) (by decide) (by kernel_rfl) (by kernel_rfl) (by kernel_rfl) (by kernel_rfl) (fun _ _ _ h => h) (Or.inl ⟨by rfl, ?_⟩) (by assumption) ?_
    rotate_left 1
    · (intro w0 hSw; (try dsimp only at hSw); go_simp; try (with_reducible rfl))
    try simp only [Act.put]
    try simp only [List.setIfInBounds_toArray]
    try simp only [List.set_cons_succ]
    try simp only [List.set_cons_zero]
    refine takeZ (i := 10) (v := ?_) (some 24) rfl rfl (by kernel_rfl) (by decide) (by kernel_rfl) (by kernel_rfl) (by kernel_rfl) (by kernel_rfl) (fun _ _ _ h => h) (Or.inl ⟨by rfl, ?_⟩) (by assumption) ?_
    rotate_left 1
    · (intro w0 hSw; (try dsimp only at hSw); go_simp; try (with_reducible rfl))
    try simp only [Act.put]
    try simp only [List.setIfInBounds_toArray]
    try simp only [List.set_cons_succ]
    try simp only [List.set_cons_zero]
    refine takeZ (i := 11) (v := ?_) (some 25) rfl rfl (by kernel_rfl) (by decide) (by kernel_rfl) (by kernel_rfl) (by kernel_rfl) (by kernel_rfl) (fun _ _ _ h => h) (Or.inl ⟨by rfl, ?_⟩) (by assumption) ?_
    rotate_left 1
    · (intro w0 hSw; (try dsimp only at hSw); go_simp; try (with_reducible rfl))
    try simp only [Act.put]
    try simp only [List.setIfInBounds_toArray]
    try simp only [List.set_cons_succ]
    try simp only [List.set_cons_zero]
    refine takeZ (i := 12) (v := ?_) (some 26) rfl rfl (by kernel_rfl) (by decide) (by kernel_rfl) (by kernel_rfl) (by kernel_rfl) (by kernel_rfl) (fun _ _ _ h => h) (Or.inl ⟨by rfl, ?_⟩) (by assumption) ?_
    rotate_left 1
    · (intro w0 hSw; (try dsimp only at hSw); go_simp; try (with_reducible rfl))
    try simp only [Act.put]
    try simp only [List.setIfInBounds_toArray]
    try simp only [List.set_cons_succ]
    try simp only [List.set_cons_zero]
    refine oneZ (i := 13) (by kernel_rfl) rfl (by decide) (fun K hK => ?_)
    go_simp
    have hxa : Ext wr ((wr.alloc (.cells #[.int .i64 z.kind, .int .i64 z.int, .string z.str] 38)).drew) := ((Ext.refl wr).alloc _).drew
    have KEEP := (⟨(hxa.cell htw).trans t0, (hxa.cell hlw).trans cv, (hxa.cell hbw).trans c1, (hxa.cell hbw).trans c2, (hxa.cell hbw).trans c3⟩ : _ ∧ _ ∧ _ ∧ _ ∧ _)
    clear hxa
    refine hK.out _ _ KEEP (fun hHeld => ?_)
    clear hK K
    try simp only [Act.put]
    try simp only [List.setIfInBounds_toArray]
    try simp only [List.set_cons_succ]
    try simp only [List.set_cons_zero]
    refine oneZ (i := 14) (by kernel_rfl) rfl (by decide) (fun K hK => ?_)
    refine stepV (w := (wr.alloc (.cells #[.int .i64 z.kind, .int .i64 z.int, .string z.str] 38)).drew) rfl (.tmp 22) (.tmp 27) rfl B v (vs k) (by simp [Act.eval]) (HOV.out.alloc _) wr.heap.size z (by simp [Act.eval]) (Row.new wr 38 (vcells z)) (by omega) (by simp; omega) ?_
    intro ng cap w2 hown2 hg2 hat2
    have KEEP2 : w2.cell? ⟨w.heap.size, 0, none⟩ = some (.slice (some ⟨lb, 0, none⟩) d dc) ∧ w2.cell? ⟨lb, k * 2, none⟩ = some v ∧ w2.cell? ⟨b, o + k * 3, none⟩ = some (.int .i64 z.kind) ∧ w2.cell? ⟨b, o + k * 3 + 1, none⟩ = some (.int .i64 z.int) ∧ w2.cell? ⟨b, o + k * 3 + 2, none⟩ = some (.string z.str) := by
      have hz : wr.heap.size ≤ ((wr.alloc (.cells #[.int .i64 z.kind, .int .i64 z.int, .string z.str] 38)).drew).heap.size := by simp
      refine ⟨(grown_cell hg2 (p := ⟨w.heap.size, 0, none⟩) (Nat.lt_of_lt_of_le htw hz) (fun e => HQV.out _ e.symm rfl)).trans KEEP.1, (grown_cell hg2 (p := ⟨lb, k * 2, none⟩) (Nat.lt_of_lt_of_le hlw hz) (fun e => by have := HOB.out _ e.symm; simp only at this; omega)).trans KEEP.2.1, (grown_cell hg2 (p := ⟨b, o + k * 3, none⟩) (Nat.lt_of_lt_of_le hbw hz) (fun e => by have := HOB.out _ e.symm; simp only at this; omega)).trans KEEP.2.2.1, (grown_cell hg2 (p := ⟨b, o + k * 3 + 1, none⟩) (Nat.lt_of_lt_of_le hbw hz) (fun e => by have := HOB.out _ e.symm; simp only at this; omega)).trans KEEP.2.2.2.1, (grown_cell hg2 (p := ⟨b, o + k * 3 + 2, none⟩) (Nat.lt_of_lt_of_le hbw hz) (fun e => by have := HOB.out _ e.symm; simp only at this; omega)).trans KEEP.2.2.2.2⟩
    have hf2 : w2.frozen? ⟨lb, k * 2, none⟩ = false := by
      have h := OwnAll.up HBLD.out ((Ext.refl wr).alloc (.cells #[.int .i64 z.kind, .int .i64 z.int, .string z.str] 38)).below
      obtain ⟨hs, q1, -, -, -, -, -, -⟩ := h
      exact (q1.grown (w := wr.alloc (.cells #[.int .i64 z.kind, .int .i64 z.int, .string z.str] 38)) (w' := w2) (row := v.ownBlock) ⟨hg2.os, hg2.tape, hg2.output, hg2.size, hg2.block⟩ (fun e => by have := HOB.out _ e.symm; omega)).frozen _
    have HOWN2 := Lib.hid hown2
    have HG2 := Lib.hid hg2
    have HAT2 := Lib.hid hat2
    clear hown2 hg2 hat2
    refine hK.out _ _ KEEP2 (fun hHeld => ?_)
    clear hK K
    try simp only [Act.put]
    try simp only [List.setIfInBounds_toArray]
    try simp only [List.set_cons_succ]
    try simp only [List.set_cons_zero]
    refine takeZ (i := 15) (v := ?_) (some 29) rfl rfl (by kernel_rfl) (by decide) (by kernel_rfl) (by kernel_rfl) (by kernel_rfl) (by kernel_rfl) (fun _ _ _ h => h) (Or.inl ⟨by rfl, ?_⟩) (by assumption) ?_
    rotate_left 1
    · (intro w0 hSw; (try dsimp only at hSw); go_simp; try (with_reducible rfl))
    try simp only [Act.put]
    try simp only [List.setIfInBounds_toArray]
    try simp only [List.set_cons_succ]
    try simp only [List.set_cons_zero]
    refine takeZ (i := 16) (v := ?_) (some 30) rfl rfl (by kernel_rfl) (by decide) (by kernel_rfl) (by kernel_rfl) (by kernel_rfl) (by kernel_rfl) (fun _ _ _ h => h) (Or.inl ⟨by rfl, ?_⟩) (by assumption) ?_
    rotate_left 1
    · (intro w0 hSw; (try dsimp only at hSw); go_simp; try (with_reducible rfl))
    try simp only [Act.put]
    try simp only [List.setIfInBounds_toArray]
    try simp only [List.set_cons_succ]
    try simp only [List.set_cons_zero]
    refine lastZ (by kernel_rfl) rfl (by kernel_rfl) (fun K hK => ?_)
    go_simp
    go_wp2_with fail
    refine hK.out _ _ ?_
    clear hK K
    try simp only [Act.put]
    try simp only [List.setIfInBounds_toArray]
    try simp only [List.set_cons_succ]
    try simp only [List.set_cons_zero]
    go_wp2
    obtain ⟨W3, hW3⟩ : ∃ W3, W3 = w2.setCell ⟨lb, k * 2, none⟩ (.slice (some ⟨ng, 0, none⟩) ((vs k).length + 1) cap) := ⟨_, rfl⟩
    have hxa : Ext wr ((wr.alloc (.cells #[.int .i64 z.kind, .int .i64 z.int, .string z.str] 38)).drew) := ((Ext.refl wr).alloc _).drew
    have hB3 : BldM B (fun b => b ≠ w.heap.size) W3 lb d (addV vs x frm (k + 1)) (addF d vs fs frm k) := by
      rw [hW3, addV_step vs x hk1]
      refine OwnAll.put (OwnAll.up HBLD.out hxa.below) KEEP.2.1 (spF_updv _ _ _ _) ?_ HG2.out (fun j hj => ?_) (fun j hj => ?_)
      · rw [spF_v, upd_self, HZ.out, List.length_append]
        exact HOWN2.out
      · injection hj with hj
        subst hj
        rcases HAT2.out with h | h
        · exact .inl h
        · exact .inr (by rw [h]; exact Nat.le_refl _)
      · injection hj with hj
        subst hj
        rcases HAT2.out with h | h
        · exact HQV.out _ h
        · rw [h]; simp; omega
    have hR3 : Row W3 w.heap.size 31 [.slice (some ⟨lb, 0, none⟩) d dc] := by
      rw [hW3]
      exact ((HROW.out.up hxa.below).grown HG2.out (fun e => HQV.out _ e.symm rfl)).far (by simp; omega) _
    have hK3 : KeepX B lb w W3 := by
      rw [hW3]
      exact ((HKEEP.out.trans (KeepX.below hxa.below (by omega))).trans (KeepX.grown HG2.out (Nat.le_trans (by omega) hxa.size) (fun j hj => HOB.out j hj))).trans (KeepX.set w2 _ _)
    rw [← hW3]
    have h3z : wr.heap.size ≤ W3.heap.size := by rw [hW3]; have := HG2.out.size; have := hxa.size; simp at *; omega
    clear hW3 KEEP KEEP2 hf2 HOWN2 HG2 HAT2 HBLD HROW HKEEP HOV HQV HOB hxa t0 cv c1 c2 c3 fv hHeld
    have t0 : W3.cell? ⟨w.heap.size, 0, none⟩ = some (.slice (some ⟨lb, 0, none⟩) d dc) := hR3.cell 0
    obtain ⟨f, cf, of, qf, ff⟩ := OwnAll.at_ hB3 (show k * 2 + 1 < d * 2 by omega)
    rw [spF_f, addF_at] at of
    have HSZ : Hid (∀ W, Ext W3 W → Calls Try.prog 32 #[.agg #[.slice (some ⟨lb, 0, none⟩) d dc], .int .i64 ((k : Int) + 1)] W fun e w' => e = .returned (.int .i64 (sizeF d vs (k + 1) : Nat)) ∧ Ext W w') := fun W hW => by
      have h := trSize_any W3.heap.size (some ⟨lb, 0, none⟩) d dc (addV vs x frm (k + 1)) (addF d vs fs frm k) (k + 1) W ((BldM.tr hB3).below hW.below (Nat.le_refl _)) hW.size (by omega) (by omega)
      have e1 : sizeF d (addV vs x frm (k + 1)) (k + 1) = sizeF d vs (k + 1) := by unfold sizeF; rw [addV_at]
      rw [e1] at h
      exact h
    have HB3 := Lib.hid hB3
    have HR3 := Lib.hid hR3
    have HK3 := Lib.hid hK3
    have hlw3 : lb < W3.heap.size := by omega
    have htw3 : w.heap.size < W3.heap.size := by omega
    have HOF := Lib.hid of
    have HQF := Lib.hid qf
    have HOB : Hid (∀ j, f.ownBlock = some j → B ≤ j) := fun j hj => own_base of hj
    have hfk := HF.out k
    have hw1 : IntKind.i64.wrap ((k : Int) + 1) = (k : Int) + 1 := IntWalk.i64_in _ (by omega)
    clear hB3 hR3 hK3 of qf
    obtain ⟨n, hn⟩ : ∃ n, n = sizeF d vs (k + 1) := ⟨_, rfl⟩
    have HN : Hid (sizeF d vs (k + 1) = n) := hn.symm
    rw [← hn] at HSZ
    clear hn

    refine regionZ (S := (fun w' => w'.cell? ⟨w.heap.size, 0, none⟩ = some (.slice (some ⟨lb, 0, none⟩) d dc) ∧ w'.cell? ⟨lb, k * 2 + 1, none⟩ = some f)) 17 (by kernel_rfl) ⟨t0, cf⟩ (fun hHeld => ?_)
    refine takeZ (i := 0) (v := ?_) (some 31) rfl rfl (by kernel_rfl) (by decide) (by kernel_rfl) (by kernel_rfl) (by kernel_rfl) (by kernel_rfl) (fun _ _ _ h => h) (Or.inl ⟨by rfl, ?_⟩) (by assumption) ?_
    rotate_left 1
    · (intro w0 hSw; (try dsimp only at hSw); go_simp; try (with_reducible rfl))
    try simp only [Act.put]
    try simp only [List.setIfInBounds_toArray]
    try simp only [List.set_cons_succ]
    try simp only [List.set_cons_zero]
    refine takeZ (i := 1) (v := ?_) (some 32) rfl rfl (by kernel_rfl) (by decide) (by kernel_rfl) (by kernel_rfl) (by kernel_rfl) (by kernel_rfl) (fun _ _ _ h => h) (Or.inl ⟨by rfl, ?_⟩) (by assumption) ?_
    rotate_left 1
    · (intro w0 hSw; (try dsimp only at hSw); go_simp; try (with_reducible rfl))
    try simp only [Act.put]
    try simp only [List.setIfInBounds_toArray]
    try simp only [List.set_cons_succ]
    try simp only [List.set_cons_zero]
    refine takeZ (i := 2) (v := ?_) (some 33) rfl rfl (by kernel_rfl) (by decide) (by kernel_rfl) (by kernel_rfl) (by kernel_rfl) (by kernel_rfl) (fun _ _ _ h => h) (Or.inl ⟨by rfl, ?_⟩) (by assumption) ?_
    rotate_left 1
    · (intro w0 hSw; (try dsimp only at hSw); go_simp; try (with_reducible rfl))
    try simp only [Act.put]
    try simp only [List.setIfInBounds_toArray]
    try simp only [List.set_cons_succ]
    try simp only [List.set_cons_zero]
    refine takeZ (i := 3) (v := ?_) (some 34) rfl rfl (by kernel_rfl) (by decide) (by kernel_rfl) (by kernel_rfl) (by kernel_rfl) (by kernel_rfl) (fun _ _ _ h => h) (Or.inl ⟨by rfl, ?_⟩) (by assumption) ?_
    rotate_left 1
    · (intro w0 hSw; (try dsimp only at hSw); go_simp; try (with_reducible rfl))
    try simp only [Act.put]
    try simp only [List.setIfInBounds_toArray]
    try simp only [List.set_cons_succ]
    try simp only [List.set_cons_zero]
    refine takeZ (i := 4) (v := ?_) (some 35) rfl rfl (by kernel_rfl) (by decide) (by kernel_rfl) (by kernel_rfl) (by kernel_rfl) (by kernel_rfl) (fun _ _ _ h => h) (Or.inl ⟨by rfl, ?_⟩) (by assumption) ?_
    rotate_left 1
    · (intro w0 hSw; (try dsimp only at hSw); go_simp; try (with_reducible rfl))
    try simp only [Act.put]
    try simp only [List.setIfInBounds_toArray]
    try simp only [List.set_cons_succ]
    try simp only [List.set_cons_zero]
    refine takeZ (i := 5) (v := ?_) (some 36) rfl rfl (by kernel_rfl) (by decide) (by kernel_rfl) (by kernel_rfl) (by kernel_rfl) (by kernel_rfl) (fun _ _ _ h => h) (Or.inl ⟨by rfl, ?_⟩) (by assumption) ?_
    rotate_left 1
    · (intro w0 hSw; (try dsimp only at hSw); go_simp; try (with_reducible rfl))
    try simp only [Act.put]
    try simp only [List.setIfInBounds_toArray]
    try simp only [List.set_cons_succ]
    try simp only [List.set_cons_zero]
    refine takeZ (i := 6) (v := ?_) (some 37) rfl rfl (by kernel_rfl) (by decide) (by kernel_rfl) (by kernel_rfl) (by kernel_rfl) (by kernel_rfl) (fun _ _ _ h => h) (Or.inl ⟨by rfl, ?_⟩) (by assumption) ?_
    rotate_left 1
    · (intro w0 hSw; (try dsimp only at hSw); go_simp; try (with_reducible rfl))
    try simp only [Act.put]
    try simp only [List.setIfInBounds_toArray]
    try simp only [List.set_cons_succ]
    try simp only [List.set_cons_zero]
    refine takeZ (i := 7) (v := ?_) (some 38) rfl rfl (by kernel_rfl) (by decide) (by kernel_rfl) (by kernel_rfl) (by kernel_rfl) (by kernel_rfl) (fun _ _ _ h => h) (Or.inl ⟨by rfl, ?_⟩) (by assumption) ?_
    rotate_left 1
    · (intro w0 hSw; (try dsimp only at hSw); go_simp; try (with_reducible rfl))
    try simp only [Act.put]
    try simp only [List.setIfInBounds_toArray]
    try simp only [List.set_cons_succ]
    try simp only [List.set_cons_zero]
    refine takeZ (i := 8) (v := ?_) (some 39) rfl rfl (by kernel_rfl) (by decide) (by kernel_rfl) (by kernel_rfl) (by kernel_rfl) (by kernel_rfl) (fun _ _ _ h => h) (Or.inl ⟨by rfl, ?_⟩) (by assumption) ?_
    rotate_left 1
    · (intro w0 hSw; (try dsimp only at hSw); go_simp; try (with_reducible rfl))
    try simp only [Act.put]
    try simp only [List.setIfInBounds_toArray]
    try simp only [List.set_cons_succ]
    try simp only [List.set_cons_zero]
    refine takeZ (i := 9) (v := ?_) (some 40) rfl rfl (by kernel_rfl) (by decide) (by kernel_rfl) (by kernel_rfl) (by kernel_rfl) (by kernel_rfl) (fun _ _ _ h => h) (Or.inl ⟨by rfl, ?_⟩) (by assumption) ?_
    rotate_left 1
    · (intro w0 hSw; (try dsimp only at hSw); go_simp; try (with_reducible rfl))
    try simp only [Act.put]
    try simp only [List.setIfInBounds_toArray]
    try simp only [List.set_cons_succ]
    try simp only [List.set_cons_zero]
    refine takeZ (i := 10) (v := ?_) (some 41) rfl rfl (by kernel_rfl) (by decide) (by kernel_rfl) (by kernel_rfl) (by kernel_rfl) (by kernel_rfl) (fun _ _ _ h => h) (Or.inl ⟨by rfl, ?_⟩) (by assumption) ?_
    rotate_left 1
    · (intro w0 hSw; (try dsimp only at hSw); go_simp; try (with_reducible rfl))
    try simp only [Act.put]
    try simp only [List.setIfInBounds_toArray]
    try simp only [List.set_cons_succ]
    try simp only [List.set_cons_zero]
    refine takeZ (i := 11) (v := ?_) (some 42) rfl rfl (by kernel_rfl) (by decide) (by kernel_rfl) (by kernel_rfl) (by kernel_rfl) (by kernel_rfl) (fun _ _ _ h => h) (Or.inl ⟨by rfl, ?_⟩) (by assumption) ?_
    rotate_left 1
    · (intro w0 hSw; (try dsimp only at hSw); go_simp; try (with_reducible rfl))
    try simp only [Act.put]
    try simp only [List.setIfInBounds_toArray]
    try simp only [List.set_cons_succ]
    try simp only [List.set_cons_zero]
    refine oneZ (i := 12) (by kernel_rfl) rfl (by decide) (fun K hK => ?_)
    go_simp
    refine (HSZ.out _ (Ext.refl W3).drew).mono ?_
    rintro e w4 ⟨rfl, hx0⟩
    have hx : Ext W3 w4 := (Ext.refl W3).drew.trans hx0
    have KEEP : w4.cell? ⟨w.heap.size, 0, none⟩ = some (.slice (some ⟨lb, 0, none⟩) d dc) ∧ w4.cell? ⟨lb, k * 2 + 1, none⟩ = some f := ⟨(hx.cell htw3).trans t0, (hx.cell hlw3).trans cf⟩
    have HX4 := Lib.hid hx
    clear hx hx0
    go_wp2_with fail
    refine hK.out _ _ KEEP (fun hHeld => ?_)
    clear hK K
    try simp only [Act.put]
    try simp only [List.setIfInBounds_toArray]
    try simp only [List.set_cons_succ]
    try simp only [List.set_cons_zero]
    refine oneZ (i := 13) (by kernel_rfl) rfl (by decide) (fun K hK => ?_)
    go_simp
    have hxa : Ext W3 (w4.alloc (.cells #[.int .i64 (n : Int)] 3)) := HX4.out.alloc _
    have KEEP1 := (⟨(hxa.cell htw3).trans t0, (hxa.cell hlw3).trans cf⟩ : _ ∧ _)
    have KEEP2K := Lib.hid KEEP1.2
    clear hxa
    refine hK.out _ _ KEEP1 (fun hHeld => ?_)
    clear hK K
    try simp only [Act.put]
    try simp only [List.setIfInBounds_toArray]
    try simp only [List.set_cons_succ]
    try simp only [List.set_cons_zero]
    refine oneZ (i := 14) (by kernel_rfl) rfl (by decide) (fun K hK => ?_)
    refine stepI (w := w4.alloc (.cells #[.int .i64 (n : Int)] 3)) rfl (.tmp 39) (.tmp 44) rfl B f (fs k) (by simp [Act.eval]) (own_keep HOF.out (HX4.out.alloc _).below) w4.heap.size n (by simp [Act.eval]) (Row.new w4 3 [.int .i64 (n : Int)]) (by omega) (by have := HX4.out.size; simp; omega) ?_
    intro ng cap w2 hown2 hg2 hat2
    have hza := (HX4.out.alloc (.cells #[.int .i64 (n : Int)] 3)).size
    have KEEP2 : w2.cell? ⟨w.heap.size, 0, none⟩ = some (.slice (some ⟨lb, 0, none⟩) d dc) ∧ w2.cell? ⟨lb, k * 2 + 1, none⟩ = some f :=
      ⟨(grown_cell hg2 (p := ⟨w.heap.size, 0, none⟩) (Nat.lt_of_lt_of_le htw3 hza) (fun e => HQF.out _ e.symm rfl)).trans KEEP1.1, (grown_cell hg2 (p := ⟨lb, k * 2 + 1, none⟩) (Nat.lt_of_lt_of_le hlw3 hza) (fun e => by have := HOB.out _ e.symm; simp only at this; omega)).trans KEEP1.2⟩
    have hf2 : w2.frozen? ⟨lb, k * 2 + 1, none⟩ = false := by
      have h := OwnAll.up HB3.out (HX4.out.alloc (.cells #[.int .i64 (n : Int)] 3)).below
      obtain ⟨hs, q1, -, -, -, -, -, -⟩ := h
      exact (q1.grown hg2 (fun e => by have := HOB.out _ e.symm; omega)).frozen _
    have HOWN2 := Lib.hid hown2
    have HG2 := Lib.hid hg2
    have HAT2 := Lib.hid hat2
    clear hown2 hg2 hat2 hza
    refine hK.out _ _ KEEP2 (fun hHeld => ?_)
    clear hK K
    try simp only [Act.put]
    try simp only [List.setIfInBounds_toArray]
    try simp only [List.set_cons_succ]
    try simp only [List.set_cons_zero]
    refine takeZ (i := 15) (v := ?_) (some 46) rfl rfl (by kernel_rfl) (by decide) (by kernel_rfl) (by kernel_rfl) (by kernel_rfl) (by kernel_rfl) (fun _ _ _ h => h) (Or.inl ⟨by rfl, ?_⟩) (by assumption) ?_
    rotate_left 1
    · (intro w0 hSw; (try dsimp only at hSw); go_simp; try (with_reducible rfl))
    try simp only [Act.put]
    try simp only [List.setIfInBounds_toArray]
    try simp only [List.set_cons_succ]
    try simp only [List.set_cons_zero]
    refine takeZ (i := 16) (v := ?_) (some 47) rfl rfl (by kernel_rfl) (by decide) (by kernel_rfl) (by kernel_rfl) (by kernel_rfl) (by kernel_rfl) (fun _ _ _ h => h) (Or.inl ⟨by rfl, ?_⟩) (by assumption) ?_
    rotate_left 1
    · (intro w0 hSw; (try dsimp only at hSw); go_simp; try (with_reducible rfl))
    try simp only [Act.put]
    try simp only [List.setIfInBounds_toArray]
    try simp only [List.set_cons_succ]
    try simp only [List.set_cons_zero]
    refine lastZ (by kernel_rfl) rfl (by kernel_rfl) (fun K hK => ?_)
    go_simp
    go_wp2_with fail
    refine hK.out _ _ ?_
    clear hK K
    try simp only [Act.put]
    try simp only [List.setIfInBounds_toArray]
    try simp only [List.set_cons_succ]
    try simp only [List.set_cons_zero]
    go_wp2
    go_roundw
    case rel =>
      have hx5 : Ext W3 (w4.alloc (.cells #[.int .i64 (n : Int)] 3)) := HX4.out.alloc _
      refine ⟨k + 1, by omega, by omega, by go_num, ?_, ?_, ?_⟩
      · rw [addF_step d vs fs hk1]
        refine OwnAll.put (OwnAll.up HB3.out hx5.below) KEEP2K.out (spF_updf _ _ _ _) ?_ HG2.out (fun j hj => ?_) (fun j hj => ?_)
        · rw [spF_f, upd_self, List.length_append, HN.out]
          exact HOWN2.out
        · injection hj with hj
          subst hj
          rcases HAT2.out with h | h
          · exact .inl h
          · exact .inr (by rw [h]; exact Nat.le_refl _)
        · injection hj with hj
          subst hj
          rcases HAT2.out with h | h
          · exact HQF.out _ h
          · have := hx5.size; rw [h]; dsimp only; omega
      · exact ((HR3.out.up hx5.below).grown HG2.out (fun e => HQF.out _ e.symm rfl)).far (by simp; omega) _
      · exact ((HK3.out.trans (KeepX.below hx5.below (by omega))).trans (KeepX.grown HG2.out (Nat.le_trans (by omega) hx5.size) (fun j hj => HOB.out j hj))).trans (KeepX.set w2 _ _)
    case measure => simp [intOf]; omega

end Go.Proofs.Ytlcammcifjihpaa
end

section
/- Walks: Key, Next, Up, Iter. -/
namespace Go.Proofs.Ytlcammcifjihpaa
open Go.RowKit Go.Sort

/-- The iterator stands on a value. -/
def onV (t : It) : Bool := decide (0 < t.L) && decide (t.pos < t.fin)
theorem onV_true {t : It} : onV t = true ↔ 0 < t.L ∧ t.pos < t.fin := by simp [onV]
theorem tiOnV_any (g : Nat) (LA : Option Addr) (d C : Nat) (t : It) (w : World) (h : ItM w g LA d C t) : Calls Try.prog 31 #[.pointer (some ⟨g, 0, none⟩)] w fun e w' => e = .returned (.bool (onV t)) ∧ Ext w w' := tiOnValue_any g LA d C t w h
/-- What an iterator keeps. -/
def ItOk (d : Nat) (vs : Nat → RL.R) (t : It) : Prop := t.L ≤ d ∧ (0 < t.L → t.fin ≤ (vs (t.L - 1)).length ∧ (vs (t.L - 1)).length ≤ 1000000)

theorem tiKey_nil (w : World) : Calls Try.prog 15 #[.pointer none] w fun e w' => e = .returned (.tuple #[vv ⟨0, 0, ⟨#[]⟩⟩, .bool false]) ∧ Below w.heap.size w w' := by
  have HC := Lib.hid (fun W => tiOnValue_nil W)
  obtain ⟨W0, hW0⟩ : ∃ W0, W0 = w.alloc (.cells #[.int .i64 0, .int .i64 0, .string ⟨#[]⟩] 38) := ⟨_, rfl⟩
  have hrow : Row W0 w.heap.size 38 [.int .i64 0, .int .i64 0, .string ⟨#[]⟩] := by rw [hW0]; exact Row.new w 38 [.int .i64 0, .int .i64 0, .string ⟨#[]⟩]
  have he : Ext w W0 := by rw [hW0]; exact (Ext.refl w).alloc _
  have HROW := Lib.hid hrow
  have HE := Lib.hid he
  clear hrow he
  go_enter Try.func15, Try.ntmps15
  go_wp2_with fail
  rw [← hW0]
  clear hW0
  refine (HC.out W0).mono ?_
  rintro e w1 ⟨rfl, hx⟩
  have hr := HROW.out.up hx.below
  have r0 := hr.cell 0
  have r1 := hr.cell 1
  have r2 := hr.cell 2
  have f0 := hr.frozen 0
  have f1 := hr.frozen 1
  have f2 := hr.frozen 2
  simp only [List.getElem?_cons_zero, List.getElem?_cons_succ] at r0 r1 r2
  have HB := Lib.hid (HE.out.trans hx).below
  clear hr hx
  go_wp2
  refine bodyPost_ret (v := .tuple #[vv ⟨0, 0, ⟨#[]⟩⟩, .bool false]) (by simp [results, Try.results15, go_sem, r0, r1, r2]) rfl ⟨rfl, ?_⟩
  exact ((HB.out.setCell (p := ⟨w.heap.size, 0, none⟩) (Nat.le_refl _) _).setCell (p := ⟨w.heap.size, 1, none⟩) (Nat.le_refl _) _).setCell (p := ⟨w.heap.size, 2, none⟩) (Nat.le_refl _) _

set_option maxHeartbeats 400000 in
theorem tiKey_no (g : Nat) (LA : Option Addr) (d C : Nat) (t : It) (w : World) (hi : ItM w g LA d C t) (hn : onV t = false) :
    Calls Try.prog 15 #[.pointer (some ⟨g, 0, none⟩)] w fun e w' => e = .returned (.tuple #[vv ⟨0, 0, ⟨#[]⟩⟩, .bool false]) ∧ Below w.heap.size w w' := by
  obtain ⟨W0, hW0⟩ : ∃ W0, W0 = w.alloc (.cells #[.int .i64 0, .int .i64 0, .string ⟨#[]⟩] 38) := ⟨_, rfl⟩
  have hrow : Row W0 w.heap.size 38 [.int .i64 0, .int .i64 0, .string ⟨#[]⟩] := by rw [hW0]; exact Row.new w 38 [.int .i64 0, .int .i64 0, .string ⟨#[]⟩]
  have he : Ext w W0 := by rw [hW0]; exact (Ext.refl w).alloc _
  have HC := Lib.hid (tiOnValue_any g LA d C t W0 (hi.ext he))
  rw [show (decide (0 < t.L) && decide (t.pos < t.fin)) = false from hn] at HC
  have HROW := Lib.hid hrow
  have HE := Lib.hid he
  clear hrow he hi hn
  go_enter Try.func15, Try.ntmps15
  go_wp2_with fail
  rw [← hW0]
  clear hW0
  refine HC.out.mono ?_
  rintro e w1 ⟨rfl, hx⟩
  have hr := HROW.out.up hx.below
  have r0 := hr.cell 0
  have r1 := hr.cell 1
  have r2 := hr.cell 2
  have f0 := hr.frozen 0
  have f1 := hr.frozen 1
  have f2 := hr.frozen 2
  simp only [List.getElem?_cons_zero, List.getElem?_cons_succ] at r0 r1 r2
  have HB := Lib.hid (HE.out.trans hx).below
  clear hr hx
  go_wp2
  refine bodyPost_ret (v := .tuple #[vv ⟨0, 0, ⟨#[]⟩⟩, .bool false]) (by simp [results, Try.results15, go_sem, r0, r1, r2]) rfl ⟨rfl, ?_⟩
  exact ((HB.out.setCell (p := ⟨w.heap.size, 0, none⟩) (Nat.le_refl _) _).setCell (p := ⟨w.heap.size, 1, none⟩) (Nat.le_refl _) _).setCell (p := ⟨w.heap.size, 2, none⟩) (Nat.le_refl _) _

set_option maxHeartbeats 1000000 in
theorem tiKey_yes (B g : Nat) (LA : Option Addr) (d C : Nat) (vs : Nat → RL.R) (fs : Nat → List Nat) (t : It) (w : World) (h : TrM B w LA d vs fs) (hB : B ≤ w.heap.size) (hi : ItM w g LA d C t) (hd : d ≤ 1000000) (hn : onV t = true) (hok : ItOk d vs t) (hp : t.pos < (vs (t.L - 1)).length) :
    Calls Try.prog 15 #[.pointer (some ⟨g, 0, none⟩)] w fun e w' => e = .returned (.tuple #[vv (vs (t.L - 1))[t.pos], .bool true]) ∧ Below w.heap.size w w' := by
  obtain ⟨hL, -⟩ := onV_true.1 hn
  obtain ⟨W0, hW0⟩ : ∃ W0, W0 = w.alloc (.cells #[.int .i64 0, .int .i64 0, .string ⟨#[]⟩] 38) := ⟨_, rfl⟩
  have hrow : Row W0 w.heap.size 38 [.int .i64 0, .int .i64 0, .string ⟨#[]⟩] := by rw [hW0]; exact Row.new w 38 [.int .i64 0, .int .i64 0, .string ⟨#[]⟩]
  have he : Ext w W0 := by rw [hW0]; exact (Ext.refl w).alloc _
  have HC := Lib.hid (tiOnValue_any g LA d C t W0 (hi.ext he))
  rw [show (decide (0 < t.L) && decide (t.pos < t.fin)) = true from hn] at HC
  have HV := Lib.hid (fun (W : World) (hx : Ext W0 W) => tiValue_any B g LA d C vs fs t t.pos W (h.below (he.trans hx).below hB) (Nat.le_trans hB (he.trans hx).size) (hi.ext (he.trans hx)) hd hL hok.1 hp (hok.2 hL).2)
  have HI := Lib.hid (hi.ext he)
  have HROW := Lib.hid hrow
  have HE := Lib.hid he
  clear hrow he hi hn hok h
  generalize (vs (t.L - 1))[t.pos] = z at *
  go_enter Try.func15, Try.ntmps15
  go_wp2_with fail
  rw [← hW0]
  clear hW0
  refine HC.out.mono ?_
  rintro e w1 ⟨rfl, hx⟩
  have c2 := (HI.out.ext hx).c2
  have HX := Lib.hid hx
  clear hx
  go_wp2_with fail
  refine (HV.out w1 HX.out).mono ?_
  rintro e w2 ⟨rfl, hb⟩
  have hr := (HROW.out.up HX.out.below).up hb
  have r0 := hr.cell 0
  have r1 := hr.cell 1
  have r2 := hr.cell 2
  have f0 := hr.frozen 0
  have f1 := hr.frozen 1
  have f2 := hr.frozen 2
  simp only [List.getElem?_cons_zero, List.getElem?_cons_succ] at r0 r1 r2
  have HB := Lib.hid (Below.then (HE.out.trans HX.out).below hb (HE.out.trans HX.out).size)
  have HR := Lib.hid hr
  clear hr hb c2
  go_wp2
  refine bodyPost_ret (v := .tuple #[vv z, .bool true]) ?_ rfl ⟨rfl, ?_⟩
  · have z0 := (HR.out.set 0 (.int .i64 z.kind)).cell 0
    have z1 := ((HR.out.set 0 (.int .i64 z.kind)).set 1 (.int .i64 z.int)).cell 1
    have z2 := (((HR.out.set 0 (.int .i64 z.kind)).set 1 (.int .i64 z.int)).set 2 (.string z.str)).cell 2
    simp only [List.set_cons_zero, List.set_cons_succ, List.getElem?_cons_zero, List.getElem?_cons_succ] at z0 z1 z2
    simp [results, Try.results15, go_sem, z0, z1, z2]
  · exact ((HB.out.setCell (p := ⟨w.heap.size, 0, none⟩) (Nat.le_refl _) _).setCell (p := ⟨w.heap.size, 1, none⟩) (Nat.le_refl _) _).setCell (p := ⟨w.heap.size, 2, none⟩) (Nat.le_refl _) _

theorem tiNext_nil (w : World) : Calls Try.prog 17 #[.pointer none] w fun e w' => e = .returned (.bool false) ∧ Ext w w' := by
  have HC := Lib.hid (tiOnValue_nil w)
  go_enter Try.func17, Try.ntmps17
  go_wp2_with fail
  refine HC.out.mono ?_
  rintro e w1 ⟨rfl, hx⟩
  go_wp2
  go_ret
  exact ⟨rfl, hx⟩
theorem tiNext_no (g : Nat) (LA : Option Addr) (d C : Nat) (t : It) (w : World) (hi : ItM w g LA d C t) (hn : onV t = false) :
    Calls Try.prog 17 #[.pointer (some ⟨g, 0, none⟩)] w fun e w' => e = .returned (.bool false) ∧ Ext w w' := by
  have HC := Lib.hid (tiOnValue_any g LA d C t w hi)
  rw [show (decide (0 < t.L) && decide (t.pos < t.fin)) = false from hn] at HC
  clear hi hn
  go_enter Try.func17, Try.ntmps17
  go_wp2_with fail
  refine HC.out.mono ?_
  rintro e w1 ⟨rfl, hx⟩
  go_wp2
  go_ret
  exact ⟨rfl, hx⟩
theorem tiNext_yes (g : Nat) (LA : Option Addr) (d C : Nat) (t : It) (w : World) (hi : ItM w g LA d C t) (hn : onV t = true) (hm : t.fin ≤ 1000000) :
    Calls Try.prog 17 #[.pointer (some ⟨g, 0, none⟩)] w fun e w' => e = .returned (.bool (onV { t with pos := t.pos + 1 })) ∧ ItM w' g LA d C { t with pos := t.pos + 1 } ∧ w.grownBy w' (some g) := by
  have hlt := (onV_true.1 hn).2
  have HC := Lib.hid (tiOnValue_any g LA d C t w hi)
  rw [show (decide (0 < t.L) && decide (t.pos < t.fin)) = true from hn] at HC
  have HC2 := Lib.hid (fun (W : World) (h : ItM W g LA d C { t with pos := t.pos + 1 }) => tiOnV_any g LA d C { t with pos := t.pos + 1 } W h)
  have HI := Lib.hid hi
  clear hi hn
  obtain ⟨q, hq⟩ : ∃ q, q = onV { t with pos := t.pos + 1 } := ⟨_, rfl⟩
  rw [← hq] at HC2
  rw [← hq]
  clear hq
  go_enter Try.func17, Try.ntmps17
  go_wp2_with fail
  refine HC.out.mono ?_
  rintro e w1 ⟨rfl, hx⟩
  have hi1 := HI.out.ext hx
  have c2 := hi1.c2
  have f2 := hi1.fr 2
  have HI1 := Lib.hid (hi1.setPos (t.pos + 1))
  have HX := Lib.hid hx
  clear hi1 hx
  go_wp2_with fail
  rw [show ((t.pos : Int) + 1) = ((t.pos + 1 : Nat) : Int) by omega]
  refine (HC2.out _ HI1.out).mono ?_
  rintro e w2 ⟨rfl, hx2⟩
  have HX2 := Lib.hid hx2
  clear hx2 c2 f2
  go_wp2
  go_ret
  exact ⟨rfl, HI1.out.ext HX2.out, grown_trans (HX.out.grown _) (grown_trans (grown_set w1 g 2 _) (HX2.out.grown _))⟩

end Go.Proofs.Ytlcammcifjihpaa
end

section
/- Walks: Up, Iter. -/
namespace Go.Proofs.Ytlcammcifjihpaa
open Go.RowKit Go.Sort

theorem tiUp_nil (w : World) : Calls Try.prog 20 #[.pointer none] w fun e w' => e = .returned (.bool false) ∧ w = w' := by
  go_enter Try.func20, Try.ntmps20
  go_wp2
  go_ret
  exact ⟨rfl, rfl⟩
theorem tiUp_no (g : Nat) (LA : Option Addr) (d C : Nat) (t : It) (w : World) (hi : ItM w g LA d C t) (hn : t.L = 0) :
    Calls Try.prog 20 #[.pointer (some ⟨g, 0, none⟩)] w fun e w' => e = .returned (.bool false) ∧ w = w' := by
  have c1 := hi.c1
  rw [hn] at c1
  simp only [Int.natCast_zero] at c1
  clear hi hn
  go_enter Try.func20, Try.ntmps20
  go_wp2
  go_ret
  exact ⟨rfl, rfl⟩
/-- The iterator one level up. -/
def upT (t : It) : It := { t with L := t.L - 1, pos := (t.ab (t.L - 1)).1, fin := (t.ab (t.L - 1)).2 }
set_option maxHeartbeats 1000000 in
set_option maxRecDepth 100000 in
theorem tiUp_yes (g : Nat) (LA : Option Addr) (d C : Nat) (t : It) (w : World) (hi : ItM w g LA d C t) (hn : 0 < t.L) (h32 : t.L ≤ 32) :
    Calls Try.prog 20 #[.pointer (some ⟨g, 0, none⟩)] w fun e w' => e = .returned (.bool true) ∧ ItM w' g LA d C (upT t) ∧ w.grownBy w' (some g) := by
  obtain ⟨k, hk⟩ : ∃ k, t.L = k + 1 := ⟨t.L - 1, by omega⟩
  have c1 := hi.c1
  have f1 := hi.fr 1
  rw [hk] at c1
  obtain ⟨W1, hW1⟩ : ∃ W1, W1 = w.setCell ⟨g, 1, none⟩ (.int .i64 (k : Int)) := ⟨_, rfl⟩
  have hi1 : ItM W1 g LA d C { t with L := k } := by rw [hW1]; exact hi.setL k
  have hgr : w.grownBy W1 (some g) := by rw [hW1]; exact grown_set w g 1 _
  have HUP : Hid (upT t = { t with L := k, pos := (t.ab k).1, fin := (t.ab k).2 }) := by show _ = _; unfold upT; rw [hk]; rfl
  rw [HUP.out]
  have hk32 : k < 32 := by omega
  have d1 : W1.cell? ⟨g, 1, none⟩ = some (.int .i64 (k : Int)) := hi1.c1
  obtain ⟨a0, a1⟩ := hi1.ca hk32
  have e2 := hi1.c2
  have e3 := hi1.c3
  have f2 := hi1.fr 2
  have f3 := hi1.fr 3
  simp only at a0 a1 e2 e3
  have HI1 := Lib.hid hi1
  have HGR := Lib.hid hgr
  have h0k : (k : Int) + 1 ≠ 0 := by omega
  have hne : ((k : Int) + 1 == 0) = false := by simpa using h0k
  rw [Int.natCast_add, Int.natCast_one] at c1
  have hw1 : IntKind.i64.wrap (k : Int) = (k : Int) := IntWalk.i64_in _ (by omega)
  have g1 : (0 : Int) ≤ (k : Int) := by omega
  have g2 : (k : Int) < 32 := by omega
  clear hi hi1 hgr hn hk h0k
  generalize (t.ab k).1 = ap at *
  generalize (t.ab k).2 = af at *
  go_enter Try.func20, Try.ntmps20
  go_wp2
  rw [← hW1]
  clear hW1
  go_still_tail 12, (by kernel_rfl)
  go_wp2
  go_ret
  exact ⟨rfl, (HI1.out.setPos ap).setFin af, grown_trans HGR.out (grown_trans (grown_set W1 g 2 _) (grown_trans (grown_set _ g 3 _) ((Ext.refl _).drew.grown _)))⟩

/-- An iterator at the root. -/
def it0 : It := ⟨0, 0, 0, 0, fun _ => (0, 0)⟩
theorem ItC_new (LA : Option Addr) (d C : Nat) : ItC (.slice LA d C :: List.replicate 68 (.int .i64 0)) LA d C it0 := by
  refine ⟨rfl, rfl, rfl, rfl, rfl, fun j hj => ?_, rfl⟩
  have e1 : 4 + j * 2 = (3 + j * 2) + 1 := by omega
  have e2 : 4 + j * 2 + 1 = (3 + j * 2 + 1) + 1 := by omega
  rw [e2]
  rw [e1, List.getElem?_cons_succ, List.getElem?_cons_succ, List.getElem?_replicate, List.getElem?_replicate, if_pos (by omega), if_pos (by omega)]
  exact ⟨rfl, rfl⟩
set_option maxHeartbeats 1000000 in
set_option maxRecDepth 100000 in
theorem tiIter_any (LA : Option Addr) (d C : Nat) (w : World) :
    Calls Try.prog 11 #[.agg #[.slice LA d C]] w fun e w' => ∃ g, e = .returned (.pointer (some ⟨g, 0, none⟩)) ∧ w.heap.size ≤ g ∧ ItM w' g LA d C it0 ∧ Below w.heap.size w w' := by
  go_enter Try.func11, Try.ntmps11
  go_wp2
  go_ret
  refine ⟨w.heap.size + 1, rfl, by omega, ⟨_, ?_, ItC_new LA d C⟩, (((Ext.refl w).alloc _).alloc _).below⟩
  have h := Row.new (w.alloc (.cells #[.slice LA d C] 31)) 71 (.slice LA d C :: List.replicate 68 (.int .i64 0))
  simp only [World.size_alloc] at h
  exact h

end Go.Proofs.Ytlcammcifjihpaa
end

section
/- Walks: Open, where it does not move. -/
namespace Go.Proofs.Ytlcammcifjihpaa
open Go.RowKit Go.Sort

set_option maxHeartbeats 1000000 in
set_option maxRecDepth 100000 in
theorem tiOpen_nil (w : World) : Calls Try.prog 12 #[.pointer none] w fun e w' => e = .returned (.bool false) ∧ Ext w w' := by
  go_enter Try.func12, Try.ntmps12
  go_wp2
  go_quiet (fail)
  go_wp2
  go_ret
  exact ⟨rfl, (Ext.refl w).drewN _⟩

set_option maxHeartbeats 2000000 in
set_option maxRecDepth 100000 in
/-- Behind the last sibling Open does not move. -/
theorem tiOpen_end (g : Nat) (LA : Option Addr) (d C : Nat) (t : It) (w : World) (hi : ItM w g LA d C t) (hL : 0 < t.L) (hn : onV t = false) :
    Calls Try.prog 12 #[.pointer (some ⟨g, 0, none⟩)] w fun e w' => e = .returned (.bool false) ∧ Ext w w' := by
  have c0 := hi.c0
  have c1 := hi.c1
  have hg := hi.lt
  have HI := Lib.hid hi
  have HC := Lib.hid (fun W (h : ItM W g LA d C t) => tiOnV_any g LA d C t W h)
  rw [hn] at HC
  generalize t.L = L at *
  clear hi hn
  go_enter Try.func12, Try.ntmps12
  go_wp2
  refine wp_region_held_drew (S := (fun w' => w'.cell? ⟨g, 0, none⟩ = some (.slice LA d C) ∧ w'.cell? ⟨g, 1, none⟩ = some (.int .i64 L))) (by kernel_rfl) ⟨c0, c1⟩ (fun hHeld => ?_)
  refine takeOp (i := 0) (v := ?_) (some 5) rfl rfl (by kernel_rfl) (by kernel_rfl) (by kernel_rfl) (fun _ _ _ h => h) (Or.inl ⟨by rfl, ?_⟩) (by assumption) ?_
  rotate_left 1
  · (intro w0 hSw; (try dsimp only at hSw); go_simp; try (with_reducible rfl))
  try simp only [Act.put]
  try simp only [List.setIfInBounds_toArray]
  try simp only [List.set_cons_succ]
  try simp only [List.set_cons_zero]
  refine takeOp (i := 1) (v := ?_) (some 6) rfl rfl (by kernel_rfl) (by kernel_rfl) (by kernel_rfl) (fun _ _ _ h => h) (Or.inl ⟨by rfl, ?_⟩) (by assumption) ?_
  rotate_left 1
  · (intro w0 hSw; (try dsimp only at hSw); go_simp; try (with_reducible rfl))
  try simp only [Act.put]
  try simp only [List.setIfInBounds_toArray]
  try simp only [List.set_cons_succ]
  try simp only [List.set_cons_zero]
  refine takeOp (i := 2) (v := ?_) (some 7) rfl rfl (by kernel_rfl) (by kernel_rfl) (by kernel_rfl) (fun _ _ _ h => h) (Or.inl ⟨by rfl, ?_⟩) (by assumption) ?_
  rotate_left 1
  · (intro w0 hSw; (try dsimp only at hSw); go_simp; try (with_reducible rfl))
  try simp only [Act.put]
  try simp only [List.setIfInBounds_toArray]
  try simp only [List.set_cons_succ]
  try simp only [List.set_cons_zero]
  refine takeOp (i := 3) (v := ?_) (some 8) rfl rfl (by kernel_rfl) (by kernel_rfl) (by kernel_rfl) (fun _ _ _ h => h) (Or.inl ⟨by rfl, ?_⟩) (by assumption) ?_
  rotate_left 1
  · (intro w0 hSw; (try dsimp only at hSw); go_simp; try (with_reducible rfl))
  try simp only [Act.put]
  try simp only [List.setIfInBounds_toArray]
  try simp only [List.set_cons_succ]
  try simp only [List.set_cons_zero]
  refine takeOp (i := 4) (v := ?_) (some 9) rfl rfl (by kernel_rfl) (by kernel_rfl) (by kernel_rfl) (fun _ _ _ h => h) (Or.inl ⟨by rfl, ?_⟩) (by assumption) ?_
  rotate_left 1
  · (intro w0 hSw; (try dsimp only at hSw); go_simp; try (with_reducible rfl))
  try simp only [Act.put]
  try simp only [List.setIfInBounds_toArray]
  try simp only [List.set_cons_succ]
  try simp only [List.set_cons_zero]
  refine takeOp (i := 5) (v := ?_) (some 10) rfl rfl (by kernel_rfl) (by kernel_rfl) (by kernel_rfl) (fun _ _ _ h => h) (Or.inl ⟨by rfl, ?_⟩) (by assumption) ?_
  rotate_left 1
  · (intro w0 hSw; (try dsimp only at hSw); go_simp; try (with_reducible rfl))
  try simp only [Act.put]
  try simp only [List.setIfInBounds_toArray]
  try simp only [List.set_cons_succ]
  try simp only [List.set_cons_zero]
  refine takeOp (i := 6) (v := ?_) (some 11) rfl rfl (by kernel_rfl) (by kernel_rfl) (by kernel_rfl) (fun _ _ _ h => h) (Or.inl ⟨by rfl, ?_⟩) (by assumption) ?_
  rotate_left 1
  · (intro w0 hSw; (try dsimp only at hSw); go_simp; try (with_reducible rfl))
  try simp only [Act.put]
  try simp only [List.setIfInBounds_toArray]
  try simp only [List.set_cons_succ]
  try simp only [List.set_cons_zero]
  refine takeOp (i := 7) (v := ?_) (some 12) rfl rfl (by kernel_rfl) (by kernel_rfl) (by kernel_rfl) (fun _ _ _ h => h) (Or.inl ⟨by rfl, ?_⟩) (by assumption) ?_
  rotate_left 1
  · (intro w0 hSw; (try dsimp only at hSw); go_simp; try (with_reducible rfl))
  try simp only [Act.put]
  try simp only [List.setIfInBounds_toArray]
  try simp only [List.set_cons_succ]
  try simp only [List.set_cons_zero]
  refine takeOp (i := 8) (v := ?_) (some 13) rfl rfl (by kernel_rfl) (by kernel_rfl) (by kernel_rfl) (fun _ _ _ h => h) (Or.inl ⟨by rfl, ?_⟩) (by assumption) ?_
  rotate_left 1
  · (intro w0 hSw; (try dsimp only at hSw); go_simp; try (with_reducible rfl))
  try simp only [Act.put]
  try simp only [List.setIfInBounds_toArray]
  try simp only [List.set_cons_succ]
  try simp only [List.set_cons_zero]
  refine takeOp (i := 9) (v := ?_) (some 14) rfl rfl (by kernel_rfl) (by kernel_rfl) (by kernel_rfl) (fun _ _ _ h => h) (Or.inl ⟨by rfl, ?_⟩) (by assumption) ?_
  rotate_left 1
  · (intro w0 hSw; (try dsimp only at hSw); go_simp; try (with_reducible rfl))
  try simp only [Act.put]
  try simp only [List.setIfInBounds_toArray]
  try simp only [List.set_cons_succ]
  try simp only [List.set_cons_zero]
  refine wpAnyH_ready (rs := [10]) (by kernel_rfl) (by simp) ?_
  refine AllReadyH.cons rfl (fun K hK => ?_) AllReadyH.nil
  go_simp
  refine (HC.out _ (HI.out.ext (Ext.refl w).drew)).mono ?_
  rintro e w1 ⟨rfl, hx0⟩
  have hx : Ext w w1 := (Ext.refl w).drew.trans hx0
  have KEEP : w1.cell? ⟨g, 0, none⟩ = some (.slice LA d C) ∧ w1.cell? ⟨g, 1, none⟩ = some (.int .i64 L) := ⟨(hx.cell hg).trans c0, (hx.cell hg).trans c1⟩
  have HX := Lib.hid hx
  clear hx hx0
  go_wp2_with fail
  refine hK.out _ _ KEEP (fun hHeld => ?_)
  clear hK K
  try simp only [Act.put]
  try simp only [List.setIfInBounds_toArray]
  try simp only [List.set_cons_succ]
  try simp only [List.set_cons_zero]
  refine takeOp (i := 11) (v := ?_) (some 16) rfl rfl (by kernel_rfl) (by kernel_rfl) (by kernel_rfl) (fun _ _ _ h => h) (Or.inl ⟨by rfl, ?_⟩) (by assumption) ?_
  rotate_left 1
  · (intro w0 hSw; (try dsimp only at hSw); go_simp; try (with_reducible rfl))
  try simp only [Act.put]
  try simp only [List.setIfInBounds_toArray]
  try simp only [List.set_cons_succ]
  try simp only [List.set_cons_zero]
  refine takeOp (i := 12) (v := ?_) (some 17) rfl rfl (by kernel_rfl) (by kernel_rfl) (by kernel_rfl) (fun _ _ _ h => h) (Or.inl ⟨by rfl, ?_⟩) (by assumption) ?_
  rotate_left 1
  · (intro w0 hSw; (try dsimp only at hSw); go_simp; try (with_reducible rfl))
  try simp only [Act.put]
  try simp only [List.setIfInBounds_toArray]
  try simp only [List.set_cons_succ]
  try simp only [List.set_cons_zero]
  refine takeOp (i := 13) (v := ?_) (some 18) rfl rfl (by kernel_rfl) (by kernel_rfl) (by kernel_rfl) (fun _ _ _ h => h) (Or.inl ⟨by rfl, ?_⟩) (by assumption) ?_
  rotate_left 1
  · (intro w0 hSw; (try dsimp only at hSw); go_simp; try (with_reducible rfl))
  try simp only [Act.put]
  try simp only [List.setIfInBounds_toArray]
  try simp only [List.set_cons_succ]
  try simp only [List.set_cons_zero]
  refine takeOp (i := 14) (v := ?_) (some 19) rfl rfl (by kernel_rfl) (by kernel_rfl) (by kernel_rfl) (fun _ _ _ h => h) (Or.inl ⟨by rfl, ?_⟩) (by assumption) ?_
  rotate_left 1
  · (intro w0 hSw; (try dsimp only at hSw); go_simp; try (with_reducible rfl))
  try simp only [Act.put]
  try simp only [List.setIfInBounds_toArray]
  try simp only [List.set_cons_succ]
  try simp only [List.set_cons_zero]
  refine takeOp (i := 15) (v := undef) (some 20) rfl rfl (by kernel_rfl) (by kernel_rfl) (by kernel_rfl) (fun _ _ _ h => h) (Or.inr ⟨by rfl, rfl⟩) (by assumption) ?_
  try simp only [Act.put]
  try simp only [List.setIfInBounds_toArray]
  try simp only [List.set_cons_succ]
  try simp only [List.set_cons_zero]
  refine takeOp (i := 16) (v := undef) (some 21) rfl rfl (by kernel_rfl) (by kernel_rfl) (by kernel_rfl) (fun _ _ _ h => h) (Or.inr ⟨by rfl, rfl⟩) (by assumption) ?_
  try simp only [Act.put]
  try simp only [List.setIfInBounds_toArray]
  try simp only [List.set_cons_succ]
  try simp only [List.set_cons_zero]
  refine takeOp (i := 17) (v := undef) (some 22) rfl rfl (by kernel_rfl) (by kernel_rfl) (by kernel_rfl) (fun _ _ _ h => h) (Or.inr ⟨by rfl, rfl⟩) (by assumption) ?_
  try simp only [Act.put]
  try simp only [List.setIfInBounds_toArray]
  try simp only [List.set_cons_succ]
  try simp only [List.set_cons_zero]
  refine takeOp (i := 18) (v := undef) (some 23) rfl rfl (by kernel_rfl) (by kernel_rfl) (by kernel_rfl) (fun _ _ _ h => h) (Or.inr ⟨by rfl, rfl⟩) (by assumption) ?_
  try simp only [Act.put]
  try simp only [List.setIfInBounds_toArray]
  try simp only [List.set_cons_succ]
  try simp only [List.set_cons_zero]
  refine takeOp (i := 19) (v := undef) (some 24) rfl rfl (by kernel_rfl) (by kernel_rfl) (by kernel_rfl) (fun _ _ _ h => h) (Or.inr ⟨by rfl, rfl⟩) (by assumption) ?_
  try simp only [Act.put]
  try simp only [List.setIfInBounds_toArray]
  try simp only [List.set_cons_succ]
  try simp only [List.set_cons_zero]
  refine takeOp (i := 20) (v := undef) (some 25) rfl rfl (by kernel_rfl) (by kernel_rfl) (by kernel_rfl) (fun _ _ _ h => h) (Or.inr ⟨by rfl, rfl⟩) (by assumption) ?_
  try simp only [Act.put]
  try simp only [List.setIfInBounds_toArray]
  try simp only [List.set_cons_succ]
  try simp only [List.set_cons_zero]
  refine takeOp (i := 21) (v := undef) (some 26) rfl rfl (by kernel_rfl) (by kernel_rfl) (by kernel_rfl) (fun _ _ _ h => h) (Or.inr ⟨by rfl, rfl⟩) (by assumption) ?_
  try simp only [Act.put]
  try simp only [List.setIfInBounds_toArray]
  try simp only [List.set_cons_succ]
  try simp only [List.set_cons_zero]
  refine takeOp (i := 22) (v := undef) (some 27) rfl rfl (by kernel_rfl) (by kernel_rfl) (by kernel_rfl) (fun _ _ _ h => h) (Or.inr ⟨by rfl, rfl⟩) (by assumption) ?_
  try simp only [Act.put]
  try simp only [List.setIfInBounds_toArray]
  try simp only [List.set_cons_succ]
  try simp only [List.set_cons_zero]
  refine takeOp (i := 23) (v := undef) (some 28) rfl rfl (by kernel_rfl) (by kernel_rfl) (by kernel_rfl) (fun _ _ _ h => h) (Or.inr ⟨by rfl, rfl⟩) (by assumption) ?_
  try simp only [Act.put]
  try simp only [List.setIfInBounds_toArray]
  try simp only [List.set_cons_succ]
  try simp only [List.set_cons_zero]
  refine takeOp (i := 24) (v := undef) (some 29) rfl rfl (by kernel_rfl) (by kernel_rfl) (by kernel_rfl) (fun _ _ _ h => h) (Or.inr ⟨by rfl, rfl⟩) (by assumption) ?_
  try simp only [Act.put]
  try simp only [List.setIfInBounds_toArray]
  try simp only [List.set_cons_succ]
  try simp only [List.set_cons_zero]
  refine takeOp (i := 25) (v := ?_) (some 30) rfl rfl (by kernel_rfl) (by kernel_rfl) (by kernel_rfl) (fun _ _ _ h => h) (Or.inl ⟨by rfl, ?_⟩) (by assumption) ?_
  rotate_left 1
  · (intro w0 hSw; (try dsimp only at hSw); go_simp; try (with_reducible rfl))
  try simp only [Act.put]
  try simp only [List.setIfInBounds_toArray]
  try simp only [List.set_cons_succ]
  try simp only [List.set_cons_zero]
  refine wpAnyH_done (by kernel_rfl) ?_ _
  all_goals
    go_wp2
    go_ret
    exact ⟨rfl, HX.out⟩

set_option maxHeartbeats 2000000 in
set_option maxRecDepth 100000 in
/-- On the last level Open does not move. -/
theorem tiOpen_last (g : Nat) (LA : Option Addr) (d C : Nat) (t : It) (w : World) (hi : ItM w g LA d C t) (hL : 0 < t.L) (hn : onV t = true) (hd : d ≤ t.L) :
    Calls Try.prog 12 #[.pointer (some ⟨g, 0, none⟩)] w fun e w' => e = .returned (.bool false) ∧ Ext w w' := by
  have c0 := hi.c0
  have c1 := hi.c1
  have hg := hi.lt
  have HI := Lib.hid hi
  have HC := Lib.hid (fun W (h : ItM W g LA d C t) => tiOnV_any g LA d C t W h)
  rw [hn] at HC
  have HDP := Lib.hid (fun W => trDepth_any LA d C W)
  generalize t.L = L at *
  clear hi hn
  go_enter Try.func12, Try.ntmps12
  go_wp2
  refine wp_region_held_drew (S := (fun w' => w'.cell? ⟨g, 0, none⟩ = some (.slice LA d C) ∧ w'.cell? ⟨g, 1, none⟩ = some (.int .i64 L))) (by kernel_rfl) ⟨c0, c1⟩ (fun hHeld => ?_)
  refine takeOp (i := 0) (v := ?_) (some 5) rfl rfl (by kernel_rfl) (by kernel_rfl) (by kernel_rfl) (fun _ _ _ h => h) (Or.inl ⟨by rfl, ?_⟩) (by assumption) ?_
  rotate_left 1
  · (intro w0 hSw; (try dsimp only at hSw); go_simp; try (with_reducible rfl))
  try simp only [Act.put]
  try simp only [List.setIfInBounds_toArray]
  try simp only [List.set_cons_succ]
  try simp only [List.set_cons_zero]
  refine takeOp (i := 1) (v := ?_) (some 6) rfl rfl (by kernel_rfl) (by kernel_rfl) (by kernel_rfl) (fun _ _ _ h => h) (Or.inl ⟨by rfl, ?_⟩) (by assumption) ?_
  rotate_left 1
  · (intro w0 hSw; (try dsimp only at hSw); go_simp; try (with_reducible rfl))
  try simp only [Act.put]
  try simp only [List.setIfInBounds_toArray]
  try simp only [List.set_cons_succ]
  try simp only [List.set_cons_zero]
  refine takeOp (i := 2) (v := ?_) (some 7) rfl rfl (by kernel_rfl) (by kernel_rfl) (by kernel_rfl) (fun _ _ _ h => h) (Or.inl ⟨by rfl, ?_⟩) (by assumption) ?_
  rotate_left 1
  · (intro w0 hSw; (try dsimp only at hSw); go_simp; try (with_reducible rfl))
  try simp only [Act.put]
  try simp only [List.setIfInBounds_toArray]
  try simp only [List.set_cons_succ]
  try simp only [List.set_cons_zero]
  refine takeOp (i := 3) (v := ?_) (some 8) rfl rfl (by kernel_rfl) (by kernel_rfl) (by kernel_rfl) (fun _ _ _ h => h) (Or.inl ⟨by rfl, ?_⟩) (by assumption) ?_
  rotate_left 1
  · (intro w0 hSw; (try dsimp only at hSw); go_simp; try (with_reducible rfl))
  try simp only [Act.put]
  try simp only [List.setIfInBounds_toArray]
  try simp only [List.set_cons_succ]
  try simp only [List.set_cons_zero]
  refine takeOp (i := 4) (v := ?_) (some 9) rfl rfl (by kernel_rfl) (by kernel_rfl) (by kernel_rfl) (fun _ _ _ h => h) (Or.inl ⟨by rfl, ?_⟩) (by assumption) ?_
  rotate_left 1
  · (intro w0 hSw; (try dsimp only at hSw); go_simp; try (with_reducible rfl))
  try simp only [Act.put]
  try simp only [List.setIfInBounds_toArray]
  try simp only [List.set_cons_succ]
  try simp only [List.set_cons_zero]
  refine takeOp (i := 5) (v := ?_) (some 10) rfl rfl (by kernel_rfl) (by kernel_rfl) (by kernel_rfl) (fun _ _ _ h => h) (Or.inl ⟨by rfl, ?_⟩) (by assumption) ?_
  rotate_left 1
  · (intro w0 hSw; (try dsimp only at hSw); go_simp; try (with_reducible rfl))
  try simp only [Act.put]
  try simp only [List.setIfInBounds_toArray]
  try simp only [List.set_cons_succ]
  try simp only [List.set_cons_zero]
  refine takeOp (i := 6) (v := ?_) (some 11) rfl rfl (by kernel_rfl) (by kernel_rfl) (by kernel_rfl) (fun _ _ _ h => h) (Or.inl ⟨by rfl, ?_⟩) (by assumption) ?_
  rotate_left 1
  · (intro w0 hSw; (try dsimp only at hSw); go_simp; try (with_reducible rfl))
  try simp only [Act.put]
  try simp only [List.setIfInBounds_toArray]
  try simp only [List.set_cons_succ]
  try simp only [List.set_cons_zero]
  refine takeOp (i := 7) (v := ?_) (some 12) rfl rfl (by kernel_rfl) (by kernel_rfl) (by kernel_rfl) (fun _ _ _ h => h) (Or.inl ⟨by rfl, ?_⟩) (by assumption) ?_
  rotate_left 1
  · (intro w0 hSw; (try dsimp only at hSw); go_simp; try (with_reducible rfl))
  try simp only [Act.put]
  try simp only [List.setIfInBounds_toArray]
  try simp only [List.set_cons_succ]
  try simp only [List.set_cons_zero]
  refine takeOp (i := 8) (v := ?_) (some 13) rfl rfl (by kernel_rfl) (by kernel_rfl) (by kernel_rfl) (fun _ _ _ h => h) (Or.inl ⟨by rfl, ?_⟩) (by assumption) ?_
  rotate_left 1
  · (intro w0 hSw; (try dsimp only at hSw); go_simp; try (with_reducible rfl))
  try simp only [Act.put]
  try simp only [List.setIfInBounds_toArray]
  try simp only [List.set_cons_succ]
  try simp only [List.set_cons_zero]
  refine takeOp (i := 9) (v := ?_) (some 14) rfl rfl (by kernel_rfl) (by kernel_rfl) (by kernel_rfl) (fun _ _ _ h => h) (Or.inl ⟨by rfl, ?_⟩) (by assumption) ?_
  rotate_left 1
  · (intro w0 hSw; (try dsimp only at hSw); go_simp; try (with_reducible rfl))
  try simp only [Act.put]
  try simp only [List.setIfInBounds_toArray]
  try simp only [List.set_cons_succ]
  try simp only [List.set_cons_zero]
  refine wpAnyH_ready (rs := [10]) (by kernel_rfl) (by simp) ?_
  refine AllReadyH.cons rfl (fun K hK => ?_) AllReadyH.nil
  go_simp
  refine (HC.out _ (HI.out.ext (Ext.refl w).drew)).mono ?_
  rintro e w1 ⟨rfl, hx0⟩
  have hx : Ext w w1 := (Ext.refl w).drew.trans hx0
  have KEEP : w1.cell? ⟨g, 0, none⟩ = some (.slice LA d C) ∧ w1.cell? ⟨g, 1, none⟩ = some (.int .i64 L) := ⟨(hx.cell hg).trans c0, (hx.cell hg).trans c1⟩
  have HX := Lib.hid hx
  clear hx hx0
  go_wp2_with fail
  refine hK.out _ _ KEEP (fun hHeld => ?_)
  clear hK K
  try simp only [Act.put]
  try simp only [List.setIfInBounds_toArray]
  try simp only [List.set_cons_succ]
  try simp only [List.set_cons_zero]
  refine takeOp (i := 11) (v := ?_) (some 16) rfl rfl (by kernel_rfl) (by kernel_rfl) (by kernel_rfl) (fun _ _ _ h => h) (Or.inl ⟨by rfl, ?_⟩) (by assumption) ?_
  rotate_left 1
  · (intro w0 hSw; (try dsimp only at hSw); go_simp; try (with_reducible rfl))
  try simp only [Act.put]
  try simp only [List.setIfInBounds_toArray]
  try simp only [List.set_cons_succ]
  try simp only [List.set_cons_zero]
  refine takeOp (i := 12) (v := ?_) (some 17) rfl rfl (by kernel_rfl) (by kernel_rfl) (by kernel_rfl) (fun _ _ _ h => h) (Or.inl ⟨by rfl, ?_⟩) (by assumption) ?_
  rotate_left 1
  · (intro w0 hSw; (try dsimp only at hSw); go_simp; try (with_reducible rfl))
  try simp only [Act.put]
  try simp only [List.setIfInBounds_toArray]
  try simp only [List.set_cons_succ]
  try simp only [List.set_cons_zero]
  refine takeOp (i := 13) (v := ?_) (some 18) rfl rfl (by kernel_rfl) (by kernel_rfl) (by kernel_rfl) (fun _ _ _ h => h) (Or.inl ⟨by rfl, ?_⟩) (by assumption) ?_
  rotate_left 1
  · (intro w0 hSw; (try dsimp only at hSw); go_simp; try (with_reducible rfl))
  try simp only [Act.put]
  try simp only [List.setIfInBounds_toArray]
  try simp only [List.set_cons_succ]
  try simp only [List.set_cons_zero]
  refine takeOp (i := 14) (v := ?_) (some 19) rfl rfl (by kernel_rfl) (by kernel_rfl) (by kernel_rfl) (fun _ _ _ h => h) (Or.inl ⟨by rfl, ?_⟩) (by assumption) ?_
  rotate_left 1
  · (intro w0 hSw; (try dsimp only at hSw); go_simp; try (with_reducible rfl))
  try simp only [Act.put]
  try simp only [List.setIfInBounds_toArray]
  try simp only [List.set_cons_succ]
  try simp only [List.set_cons_zero]
  refine takeOp (i := 15) (v := ?_) (some 20) rfl rfl (by kernel_rfl) (by kernel_rfl) (by kernel_rfl) (fun _ _ _ h => h) (Or.inl ⟨by rfl, ?_⟩) (by assumption) ?_
  rotate_left 1
  · (intro w0 hSw; (try dsimp only at hSw); go_simp; try (with_reducible rfl))
  try simp only [Act.put]
  try simp only [List.setIfInBounds_toArray]
  try simp only [List.set_cons_succ]
  try simp only [List.set_cons_zero]
  refine takeOp (i := 16) (v := ?_) (some 21) rfl rfl (by kernel_rfl) (by kernel_rfl) (by kernel_rfl) (fun _ _ _ h => h) (Or.inl ⟨by rfl, ?_⟩) (by assumption) ?_
  rotate_left 1
  · (intro w0 hSw; (try dsimp only at hSw); go_simp; try (with_reducible rfl))
  try simp only [Act.put]
  try simp only [List.setIfInBounds_toArray]
  try simp only [List.set_cons_succ]
  try simp only [List.set_cons_zero]
  refine takeOp (i := 17) (v := ?_) (some 22) rfl rfl (by kernel_rfl) (by kernel_rfl) (by kernel_rfl) (fun _ _ _ h => h) (Or.inl ⟨by rfl, ?_⟩) (by assumption) ?_
  rotate_left 1
  · (intro w0 hSw; (try dsimp only at hSw); go_simp; try (with_reducible rfl))
  try simp only [Act.put]
  try simp only [List.setIfInBounds_toArray]
  try simp only [List.set_cons_succ]
  try simp only [List.set_cons_zero]
  refine takeOp (i := 18) (v := ?_) (some 23) rfl rfl (by kernel_rfl) (by kernel_rfl) (by kernel_rfl) (fun _ _ _ h => h) (Or.inl ⟨by rfl, ?_⟩) (by assumption) ?_
  rotate_left 1
  · (intro w0 hSw; (try dsimp only at hSw); go_simp; try (with_reducible rfl))
  try simp only [Act.put]
  try simp only [List.setIfInBounds_toArray]
  try simp only [List.set_cons_succ]
  try simp only [List.set_cons_zero]
  refine takeOp (i := 19) (v := ?_) (some 24) rfl rfl (by kernel_rfl) (by kernel_rfl) (by kernel_rfl) (fun _ _ _ h => h) (Or.inl ⟨by rfl, ?_⟩) (by assumption) ?_
  rotate_left 1
  · (intro w0 hSw; (try dsimp only at hSw); go_simp; try (with_reducible rfl))
  try simp only [Act.put]
  try simp only [List.setIfInBounds_toArray]
  try simp only [List.set_cons_succ]
  try simp only [List.set_cons_zero]
  refine takeOp (i := 20) (v := ?_) (some 25) rfl rfl (by kernel_rfl) (by kernel_rfl) (by kernel_rfl) (fun _ _ _ h => h) (Or.inl ⟨by rfl, ?_⟩) (by assumption) ?_
  rotate_left 1
  · (intro w0 hSw; (try dsimp only at hSw); go_simp; try (with_reducible rfl))
  try simp only [Act.put]
  try simp only [List.setIfInBounds_toArray]
  try simp only [List.set_cons_succ]
  try simp only [List.set_cons_zero]
  refine takeOp (i := 21) (v := ?_) (some 26) rfl rfl (by kernel_rfl) (by kernel_rfl) (by kernel_rfl) (fun _ _ _ h => h) (Or.inl ⟨by rfl, ?_⟩) (by assumption) ?_
  rotate_left 1
  · (intro w0 hSw; (try dsimp only at hSw); go_simp; try (with_reducible rfl))
  try simp only [Act.put]
  try simp only [List.setIfInBounds_toArray]
  try simp only [List.set_cons_succ]
  try simp only [List.set_cons_zero]
  refine takeOp (i := 22) (v := ?_) (some 27) rfl rfl (by kernel_rfl) (by kernel_rfl) (by kernel_rfl) (fun _ _ _ h => h) (Or.inl ⟨by rfl, ?_⟩) (by assumption) ?_
  rotate_left 1
  · (intro w0 hSw; (try dsimp only at hSw); go_simp; try (with_reducible rfl))
  try simp only [Act.put]
  try simp only [List.setIfInBounds_toArray]
  try simp only [List.set_cons_succ]
  try simp only [List.set_cons_zero]
  refine wpAnyH_ready (rs := [23]) (by kernel_rfl) (by simp) ?_
  refine AllReadyH.cons rfl (fun K hK => ?_) AllReadyH.nil
  go_simp
  refine (HDP.out _).mono ?_
  rintro e w2 ⟨rfl, hx0⟩
  have hx : Ext w w2 := HX.out.trans hx0
  have KEEP2 : w2.cell? ⟨g, 0, none⟩ = some (.slice LA d C) ∧ w2.cell? ⟨g, 1, none⟩ = some (.int .i64 L) := ⟨(hx.cell hg).trans c0, (hx.cell hg).trans c1⟩
  have HX2 := Lib.hid hx
  clear hx hx0
  go_wp2_with fail
  refine hK.out _ _ KEEP2 (fun hHeld => ?_)
  clear hK K
  try simp only [Act.put]
  try simp only [List.setIfInBounds_toArray]
  try simp only [List.set_cons_succ]
  try simp only [List.set_cons_zero]
  refine takeOp (i := 24) (v := ?_) (some 29) rfl rfl (by kernel_rfl) (by kernel_rfl) (by kernel_rfl) (fun _ _ _ h => h) (Or.inl ⟨by rfl, ?_⟩) (by assumption) ?_
  rotate_left 1
  · (intro w0 hSw; (try dsimp only at hSw); go_simp; try (with_reducible rfl))
  try simp only [Act.put]
  try simp only [List.setIfInBounds_toArray]
  try simp only [List.set_cons_succ]
  try simp only [List.set_cons_zero]
  refine takeOp (i := 25) (v := ?_) (some 30) rfl rfl (by kernel_rfl) (by kernel_rfl) (by kernel_rfl) (fun _ _ _ h => h) (Or.inl ⟨by rfl, ?_⟩) (by assumption) ?_
  rotate_left 1
  · (intro w0 hSw; (try dsimp only at hSw); go_simp; try (with_reducible rfl))
  try simp only [Act.put]
  try simp only [List.setIfInBounds_toArray]
  try simp only [List.set_cons_succ]
  try simp only [List.set_cons_zero]
  refine wpAnyH_done (by kernel_rfl) ?_ _
  all_goals
    go_wp2
    go_ret
    exact ⟨rfl, HX2.out⟩

set_option maxHeartbeats 2000000 in
set_option maxRecDepth 100000 in
/-- A trie without levels has no children. -/
theorem tiOpen_flat (g : Nat) (LA : Option Addr) (C : Nat) (t : It) (w : World) (hi : ItM w g LA 0 C t) (hL : t.L = 0) :
    Calls Try.prog 12 #[.pointer (some ⟨g, 0, none⟩)] w fun e w' => e = .returned (.bool false) ∧ Ext w w' := by
  have c0 := hi.c0
  have c1 := hi.c1
  rw [hL] at c1
  simp only [Int.natCast_zero] at c1
  have hg := hi.lt
  have HDP := Lib.hid (fun W => trDepth_any LA 0 C W)
  clear hi hL
  go_enter Try.func12, Try.ntmps12
  go_wp2
  refine wp_region_held_drew (S := (fun w' => w'.cell? ⟨g, 0, none⟩ = some (.slice LA 0 C) ∧ w'.cell? ⟨g, 1, none⟩ = some (.int .i64 0))) (by kernel_rfl) ⟨c0, c1⟩ (fun hHeld => ?_)
  refine takeOp (i := 0) (v := ?_) (some 5) rfl rfl (by kernel_rfl) (by kernel_rfl) (by kernel_rfl) (fun _ _ _ h => h) (Or.inl ⟨by rfl, ?_⟩) (by assumption) ?_
  rotate_left 1
  · (intro w0 hSw; (try dsimp only at hSw); go_simp; try (with_reducible rfl))
  try simp only [Act.put]
  try simp only [List.setIfInBounds_toArray]
  try simp only [List.set_cons_succ]
  try simp only [List.set_cons_zero]
  refine takeOp (i := 1) (v := ?_) (some 6) rfl rfl (by kernel_rfl) (by kernel_rfl) (by kernel_rfl) (fun _ _ _ h => h) (Or.inl ⟨by rfl, ?_⟩) (by assumption) ?_
  rotate_left 1
  · (intro w0 hSw; (try dsimp only at hSw); go_simp; try (with_reducible rfl))
  try simp only [Act.put]
  try simp only [List.setIfInBounds_toArray]
  try simp only [List.set_cons_succ]
  try simp only [List.set_cons_zero]
  refine takeOp (i := 2) (v := ?_) (some 7) rfl rfl (by kernel_rfl) (by kernel_rfl) (by kernel_rfl) (fun _ _ _ h => h) (Or.inl ⟨by rfl, ?_⟩) (by assumption) ?_
  rotate_left 1
  · (intro w0 hSw; (try dsimp only at hSw); go_simp; try (with_reducible rfl))
  try simp only [Act.put]
  try simp only [List.setIfInBounds_toArray]
  try simp only [List.set_cons_succ]
  try simp only [List.set_cons_zero]
  refine takeOp (i := 3) (v := ?_) (some 8) rfl rfl (by kernel_rfl) (by kernel_rfl) (by kernel_rfl) (fun _ _ _ h => h) (Or.inl ⟨by rfl, ?_⟩) (by assumption) ?_
  rotate_left 1
  · (intro w0 hSw; (try dsimp only at hSw); go_simp; try (with_reducible rfl))
  try simp only [Act.put]
  try simp only [List.setIfInBounds_toArray]
  try simp only [List.set_cons_succ]
  try simp only [List.set_cons_zero]
  refine takeOp (i := 4) (v := ?_) (some 9) rfl rfl (by kernel_rfl) (by kernel_rfl) (by kernel_rfl) (fun _ _ _ h => h) (Or.inl ⟨by rfl, ?_⟩) (by assumption) ?_
  rotate_left 1
  · (intro w0 hSw; (try dsimp only at hSw); go_simp; try (with_reducible rfl))
  try simp only [Act.put]
  try simp only [List.setIfInBounds_toArray]
  try simp only [List.set_cons_succ]
  try simp only [List.set_cons_zero]
  refine takeOp (i := 5) (v := ?_) (some 10) rfl rfl (by kernel_rfl) (by kernel_rfl) (by kernel_rfl) (fun _ _ _ h => h) (Or.inl ⟨by rfl, ?_⟩) (by assumption) ?_
  rotate_left 1
  · (intro w0 hSw; (try dsimp only at hSw); go_simp; try (with_reducible rfl))
  try simp only [Act.put]
  try simp only [List.setIfInBounds_toArray]
  try simp only [List.set_cons_succ]
  try simp only [List.set_cons_zero]
  refine takeOp (i := 6) (v := ?_) (some 11) rfl rfl (by kernel_rfl) (by kernel_rfl) (by kernel_rfl) (fun _ _ _ h => h) (Or.inl ⟨by rfl, ?_⟩) (by assumption) ?_
  rotate_left 1
  · (intro w0 hSw; (try dsimp only at hSw); go_simp; try (with_reducible rfl))
  try simp only [Act.put]
  try simp only [List.setIfInBounds_toArray]
  try simp only [List.set_cons_succ]
  try simp only [List.set_cons_zero]
  refine takeOp (i := 7) (v := ?_) (some 12) rfl rfl (by kernel_rfl) (by kernel_rfl) (by kernel_rfl) (fun _ _ _ h => h) (Or.inl ⟨by rfl, ?_⟩) (by assumption) ?_
  rotate_left 1
  · (intro w0 hSw; (try dsimp only at hSw); go_simp; try (with_reducible rfl))
  try simp only [Act.put]
  try simp only [List.setIfInBounds_toArray]
  try simp only [List.set_cons_succ]
  try simp only [List.set_cons_zero]
  refine takeOp (i := 8) (v := ?_) (some 13) rfl rfl (by kernel_rfl) (by kernel_rfl) (by kernel_rfl) (fun _ _ _ h => h) (Or.inl ⟨by rfl, ?_⟩) (by assumption) ?_
  rotate_left 1
  · (intro w0 hSw; (try dsimp only at hSw); go_simp; try (with_reducible rfl))
  try simp only [Act.put]
  try simp only [List.setIfInBounds_toArray]
  try simp only [List.set_cons_succ]
  try simp only [List.set_cons_zero]
  refine takeOp (i := 9) (v := undef) (some 14) rfl rfl (by kernel_rfl) (by kernel_rfl) (by kernel_rfl) (fun _ _ _ h => h) (Or.inr ⟨by rfl, rfl⟩) (by assumption) ?_
  try simp only [Act.put]
  try simp only [List.setIfInBounds_toArray]
  try simp only [List.set_cons_succ]
  try simp only [List.set_cons_zero]
  refine takeOp (i := 10) (v := undef) (some 15) rfl rfl (by kernel_rfl) (by kernel_rfl) (by kernel_rfl) (fun _ _ _ h => h) (Or.inr ⟨by rfl, rfl⟩) (by assumption) ?_
  try simp only [Act.put]
  try simp only [List.setIfInBounds_toArray]
  try simp only [List.set_cons_succ]
  try simp only [List.set_cons_zero]
  refine takeOp (i := 11) (v := undef) (some 16) rfl rfl (by kernel_rfl) (by kernel_rfl) (by kernel_rfl) (fun _ _ _ h => h) (Or.inr ⟨by rfl, rfl⟩) (by assumption) ?_
  try simp only [Act.put]
  try simp only [List.setIfInBounds_toArray]
  try simp only [List.set_cons_succ]
  try simp only [List.set_cons_zero]
  refine takeOp (i := 12) (v := ?_) (some 17) rfl rfl (by kernel_rfl) (by kernel_rfl) (by kernel_rfl) (fun _ _ _ h => h) (Or.inl ⟨by rfl, ?_⟩) (by assumption) ?_
  rotate_left 1
  · (intro w0 hSw; (try dsimp only at hSw); go_simp; try (with_reducible rfl))
  try simp only [Act.put]
  try simp only [List.setIfInBounds_toArray]
  try simp only [List.set_cons_succ]
  try simp only [List.set_cons_zero]
  refine takeOp (i := 13) (v := ?_) (some 18) rfl rfl (by kernel_rfl) (by kernel_rfl) (by kernel_rfl) (fun _ _ _ h => h) (Or.inl ⟨by rfl, ?_⟩) (by assumption) ?_
  rotate_left 1
  · (intro w0 hSw; (try dsimp only at hSw); go_simp; try (with_reducible rfl))
  try simp only [Act.put]
  try simp only [List.setIfInBounds_toArray]
  try simp only [List.set_cons_succ]
  try simp only [List.set_cons_zero]
  refine takeOp (i := 14) (v := ?_) (some 19) rfl rfl (by kernel_rfl) (by kernel_rfl) (by kernel_rfl) (fun _ _ _ h => h) (Or.inl ⟨by rfl, ?_⟩) (by assumption) ?_
  rotate_left 1
  · (intro w0 hSw; (try dsimp only at hSw); go_simp; try (with_reducible rfl))
  try simp only [Act.put]
  try simp only [List.setIfInBounds_toArray]
  try simp only [List.set_cons_succ]
  try simp only [List.set_cons_zero]
  refine takeOp (i := 15) (v := ?_) (some 20) rfl rfl (by kernel_rfl) (by kernel_rfl) (by kernel_rfl) (fun _ _ _ h => h) (Or.inl ⟨by rfl, ?_⟩) (by assumption) ?_
  rotate_left 1
  · (intro w0 hSw; (try dsimp only at hSw); go_simp; try (with_reducible rfl))
  try simp only [Act.put]
  try simp only [List.setIfInBounds_toArray]
  try simp only [List.set_cons_succ]
  try simp only [List.set_cons_zero]
  refine takeOp (i := 16) (v := ?_) (some 21) rfl rfl (by kernel_rfl) (by kernel_rfl) (by kernel_rfl) (fun _ _ _ h => h) (Or.inl ⟨by rfl, ?_⟩) (by assumption) ?_
  rotate_left 1
  · (intro w0 hSw; (try dsimp only at hSw); go_simp; try (with_reducible rfl))
  try simp only [Act.put]
  try simp only [List.setIfInBounds_toArray]
  try simp only [List.set_cons_succ]
  try simp only [List.set_cons_zero]
  refine takeOp (i := 17) (v := ?_) (some 22) rfl rfl (by kernel_rfl) (by kernel_rfl) (by kernel_rfl) (fun _ _ _ h => h) (Or.inl ⟨by rfl, ?_⟩) (by assumption) ?_
  rotate_left 1
  · (intro w0 hSw; (try dsimp only at hSw); go_simp; try (with_reducible rfl))
  try simp only [Act.put]
  try simp only [List.setIfInBounds_toArray]
  try simp only [List.set_cons_succ]
  try simp only [List.set_cons_zero]
  refine takeOp (i := 18) (v := ?_) (some 23) rfl rfl (by kernel_rfl) (by kernel_rfl) (by kernel_rfl) (fun _ _ _ h => h) (Or.inl ⟨by rfl, ?_⟩) (by assumption) ?_
  rotate_left 1
  · (intro w0 hSw; (try dsimp only at hSw); go_simp; try (with_reducible rfl))
  try simp only [Act.put]
  try simp only [List.setIfInBounds_toArray]
  try simp only [List.set_cons_succ]
  try simp only [List.set_cons_zero]
  refine takeOp (i := 19) (v := ?_) (some 24) rfl rfl (by kernel_rfl) (by kernel_rfl) (by kernel_rfl) (fun _ _ _ h => h) (Or.inl ⟨by rfl, ?_⟩) (by assumption) ?_
  rotate_left 1
  · (intro w0 hSw; (try dsimp only at hSw); go_simp; try (with_reducible rfl))
  try simp only [Act.put]
  try simp only [List.setIfInBounds_toArray]
  try simp only [List.set_cons_succ]
  try simp only [List.set_cons_zero]
  refine takeOp (i := 20) (v := ?_) (some 25) rfl rfl (by kernel_rfl) (by kernel_rfl) (by kernel_rfl) (fun _ _ _ h => h) (Or.inl ⟨by rfl, ?_⟩) (by assumption) ?_
  rotate_left 1
  · (intro w0 hSw; (try dsimp only at hSw); go_simp; try (with_reducible rfl))
  try simp only [Act.put]
  try simp only [List.setIfInBounds_toArray]
  try simp only [List.set_cons_succ]
  try simp only [List.set_cons_zero]
  refine takeOp (i := 21) (v := ?_) (some 26) rfl rfl (by kernel_rfl) (by kernel_rfl) (by kernel_rfl) (fun _ _ _ h => h) (Or.inl ⟨by rfl, ?_⟩) (by assumption) ?_
  rotate_left 1
  · (intro w0 hSw; (try dsimp only at hSw); go_simp; try (with_reducible rfl))
  try simp only [Act.put]
  try simp only [List.setIfInBounds_toArray]
  try simp only [List.set_cons_succ]
  try simp only [List.set_cons_zero]
  refine takeOp (i := 22) (v := ?_) (some 27) rfl rfl (by kernel_rfl) (by kernel_rfl) (by kernel_rfl) (fun _ _ _ h => h) (Or.inl ⟨by rfl, ?_⟩) (by assumption) ?_
  rotate_left 1
  · (intro w0 hSw; (try dsimp only at hSw); go_simp; try (with_reducible rfl))
  try simp only [Act.put]
  try simp only [List.setIfInBounds_toArray]
  try simp only [List.set_cons_succ]
  try simp only [List.set_cons_zero]
  refine wpAnyH_ready (rs := [23]) (by kernel_rfl) (by simp) ?_
  refine AllReadyH.cons rfl (fun K hK => ?_) AllReadyH.nil
  go_simp
  refine (HDP.out _).mono ?_
  rintro e w2 ⟨rfl, hx0⟩
  have hx : Ext w w2 := (Ext.refl w).drew.trans hx0
  have KEEP2 : w2.cell? ⟨g, 0, none⟩ = some (.slice LA 0 C) ∧ w2.cell? ⟨g, 1, none⟩ = some (.int .i64 0) := ⟨(hx.cell hg).trans c0, (hx.cell hg).trans c1⟩
  have HX2 := Lib.hid hx
  clear hx hx0
  go_wp2_with fail
  refine hK.out _ _ KEEP2 (fun hHeld => ?_)
  clear hK K
  try simp only [Act.put]
  try simp only [List.setIfInBounds_toArray]
  try simp only [List.set_cons_succ]
  try simp only [List.set_cons_zero]
  refine takeOp (i := 24) (v := ?_) (some 29) rfl rfl (by kernel_rfl) (by kernel_rfl) (by kernel_rfl) (fun _ _ _ h => h) (Or.inl ⟨by rfl, ?_⟩) (by assumption) ?_
  rotate_left 1
  · (intro w0 hSw; (try dsimp only at hSw); go_simp; try (with_reducible rfl))
  try simp only [Act.put]
  try simp only [List.setIfInBounds_toArray]
  try simp only [List.set_cons_succ]
  try simp only [List.set_cons_zero]
  refine takeOp (i := 25) (v := ?_) (some 30) rfl rfl (by kernel_rfl) (by kernel_rfl) (by kernel_rfl) (fun _ _ _ h => h) (Or.inl ⟨by rfl, ?_⟩) (by assumption) ?_
  rotate_left 1
  · (intro w0 hSw; (try dsimp only at hSw); go_simp; try (with_reducible rfl))
  try simp only [Act.put]
  try simp only [List.setIfInBounds_toArray]
  try simp only [List.set_cons_succ]
  try simp only [List.set_cons_zero]
  refine wpAnyH_done (by kernel_rfl) ?_ _
  all_goals
    go_wp2
    go_ret
    exact ⟨rfl, HX2.out⟩

end Go.Proofs.Ytlcammcifjihpaa
end

section
/- Walks: Open, where it moves. -/
namespace Go.Proofs.Ytlcammcifjihpaa
open Go.RowKit Go.Sort

/-- The iterator at a first child; ch: its place and the end of its siblings. -/
def openT (t : It) (ch : Nat × Nat) : It := { t with L := t.L + 1, pos := ch.1, fin := ch.2, ab := fun j => if j = t.L then (t.pos, t.fin) else t.ab j }

set_option maxHeartbeats 4000000 in
set_option maxRecDepth 100000 in
/-- Open at the root of an empty trie. -/
theorem tiOpen_root0 (B g : Nat) (LA : Option Addr) (d C : Nat) (vs : Nat → RL.R) (fs : Nat → List Nat) (t : It) (w : World) (h : TrM B w LA d vs fs) (hB : B ≤ w.heap.size) (hi : ItM w g LA d C t) (hL : t.L = 0) (h0d : 0 < d) (hd : d ≤ 32) (_hv : (vs 0).length ≤ 1000000) (h0 : (vs 0).length = 0) :
    Calls Try.prog 12 #[.pointer (some ⟨g, 0, none⟩)] w fun e w' => e = .returned (.bool false) ∧ ItM w' g LA d C t ∧ w.grownBy w' (some g) := by
  have c0 := hi.c0
  have c1 := hi.c1
  rw [hL] at c1
  simp only [Int.natCast_zero] at c1
  have hg := hi.lt
  have HDP := Lib.hid (fun W => trDepth_any LA d C W)
  have HSZ := Lib.hid (fun (W : World) (hx : Ext w W) => trSize_any B LA d C vs fs 0 W (h.below hx.below hB) (Nat.le_trans hB hx.size) (by omega) (by omega))
  rw [show sizeF d vs 0 = (vs 0).length by unfold sizeF; rw [if_pos h0d]] at HSZ
  have HI := Lib.hid hi
  have HL := Lib.hid hL
  clear hi hL h
  obtain ⟨n, hn⟩ : ∃ n, n = (vs 0).length := ⟨_, rfl⟩
  rw [← hn] at HSZ _hv h0
  clear hn
  rw [h0] at HSZ
  simp only [Int.natCast_zero] at HSZ
  go_enter Try.func12, Try.ntmps12
  go_wp2
  refine wp_region_held_drew (S := (fun w' => w'.cell? ⟨g, 0, none⟩ = some (.slice LA d C) ∧ w'.cell? ⟨g, 1, none⟩ = some (.int .i64 0))) (by kernel_rfl) ⟨c0, c1⟩ (fun hHeld => ?_)
  refine takeOp (i := 0) (v := ?_) (some 5) rfl rfl (by kernel_rfl) (by kernel_rfl) (by kernel_rfl) (fun _ _ _ h => h) (Or.inl ⟨by rfl, ?_⟩) (by assumption) ?_
  rotate_left 1
  · (intro w0 hSw; (try dsimp only at hSw); go_simp; try (with_reducible rfl))
  try simp only [Act.put]
  try simp only [List.setIfInBounds_toArray]
  try simp only [List.set_cons_succ]
  try simp only [List.set_cons_zero]
  refine takeOp (i := 1) (v := ?_) (some 6) rfl rfl (by kernel_rfl) (by kernel_rfl) (by kernel_rfl) (fun _ _ _ h => h) (Or.inl ⟨by rfl, ?_⟩) (by assumption) ?_
  rotate_left 1
  · (intro w0 hSw; (try dsimp only at hSw); go_simp; try (with_reducible rfl))
  try simp only [Act.put]
  try simp only [List.setIfInBounds_toArray]
  try simp only [List.set_cons_succ]
  try simp only [List.set_cons_zero]
  refine takeOp (i := 2) (v := ?_) (some 7) rfl rfl (by kernel_rfl) (by kernel_rfl) (by kernel_rfl) (fun _ _ _ h => h) (Or.inl ⟨by rfl, ?_⟩) (by assumption) ?_
  rotate_left 1
  · (intro w0 hSw; (try dsimp only at hSw); go_simp; try (with_reducible rfl))
  try simp only [Act.put]
  try simp only [List.setIfInBounds_toArray]
  try simp only [List.set_cons_succ]
  try simp only [List.set_cons_zero]
  refine takeOp (i := 3) (v := ?_) (some 8) rfl rfl (by kernel_rfl) (by kernel_rfl) (by kernel_rfl) (fun _ _ _ h => h) (Or.inl ⟨by rfl, ?_⟩) (by assumption) ?_
  rotate_left 1
  · (intro w0 hSw; (try dsimp only at hSw); go_simp; try (with_reducible rfl))
  try simp only [Act.put]
  try simp only [List.setIfInBounds_toArray]
  try simp only [List.set_cons_succ]
  try simp only [List.set_cons_zero]
  refine takeOp (i := 4) (v := ?_) (some 9) rfl rfl (by kernel_rfl) (by kernel_rfl) (by kernel_rfl) (fun _ _ _ h => h) (Or.inl ⟨by rfl, ?_⟩) (by assumption) ?_
  rotate_left 1
  · (intro w0 hSw; (try dsimp only at hSw); go_simp; try (with_reducible rfl))
  try simp only [Act.put]
  try simp only [List.setIfInBounds_toArray]
  try simp only [List.set_cons_succ]
  try simp only [List.set_cons_zero]
  refine takeOp (i := 5) (v := ?_) (some 10) rfl rfl (by kernel_rfl) (by kernel_rfl) (by kernel_rfl) (fun _ _ _ h => h) (Or.inl ⟨by rfl, ?_⟩) (by assumption) ?_
  rotate_left 1
  · (intro w0 hSw; (try dsimp only at hSw); go_simp; try (with_reducible rfl))
  try simp only [Act.put]
  try simp only [List.setIfInBounds_toArray]
  try simp only [List.set_cons_succ]
  try simp only [List.set_cons_zero]
  refine takeOp (i := 6) (v := ?_) (some 11) rfl rfl (by kernel_rfl) (by kernel_rfl) (by kernel_rfl) (fun _ _ _ h => h) (Or.inl ⟨by rfl, ?_⟩) (by assumption) ?_
  rotate_left 1
  · (intro w0 hSw; (try dsimp only at hSw); go_simp; try (with_reducible rfl))
  try simp only [Act.put]
  try simp only [List.setIfInBounds_toArray]
  try simp only [List.set_cons_succ]
  try simp only [List.set_cons_zero]
  refine takeOp (i := 7) (v := ?_) (some 12) rfl rfl (by kernel_rfl) (by kernel_rfl) (by kernel_rfl) (fun _ _ _ h => h) (Or.inl ⟨by rfl, ?_⟩) (by assumption) ?_
  rotate_left 1
  · (intro w0 hSw; (try dsimp only at hSw); go_simp; try (with_reducible rfl))
  try simp only [Act.put]
  try simp only [List.setIfInBounds_toArray]
  try simp only [List.set_cons_succ]
  try simp only [List.set_cons_zero]
  refine takeOp (i := 8) (v := ?_) (some 13) rfl rfl (by kernel_rfl) (by kernel_rfl) (by kernel_rfl) (fun _ _ _ h => h) (Or.inl ⟨by rfl, ?_⟩) (by assumption) ?_
  rotate_left 1
  · (intro w0 hSw; (try dsimp only at hSw); go_simp; try (with_reducible rfl))
  try simp only [Act.put]
  try simp only [List.setIfInBounds_toArray]
  try simp only [List.set_cons_succ]
  try simp only [List.set_cons_zero]
  refine takeOp (i := 9) (v := undef) (some 14) rfl rfl (by kernel_rfl) (by kernel_rfl) (by kernel_rfl) (fun _ _ _ h => h) (Or.inr ⟨by rfl, rfl⟩) (by assumption) ?_
  try simp only [Act.put]
  try simp only [List.setIfInBounds_toArray]
  try simp only [List.set_cons_succ]
  try simp only [List.set_cons_zero]
  refine takeOp (i := 10) (v := undef) (some 15) rfl rfl (by kernel_rfl) (by kernel_rfl) (by kernel_rfl) (fun _ _ _ h => h) (Or.inr ⟨by rfl, rfl⟩) (by assumption) ?_
  try simp only [Act.put]
  try simp only [List.setIfInBounds_toArray]
  try simp only [List.set_cons_succ]
  try simp only [List.set_cons_zero]
  refine takeOp (i := 11) (v := undef) (some 16) rfl rfl (by kernel_rfl) (by kernel_rfl) (by kernel_rfl) (fun _ _ _ h => h) (Or.inr ⟨by rfl, rfl⟩) (by assumption) ?_
  try simp only [Act.put]
  try simp only [List.setIfInBounds_toArray]
  try simp only [List.set_cons_succ]
  try simp only [List.set_cons_zero]
  refine takeOp (i := 12) (v := ?_) (some 17) rfl rfl (by kernel_rfl) (by kernel_rfl) (by kernel_rfl) (fun _ _ _ h => h) (Or.inl ⟨by rfl, ?_⟩) (by assumption) ?_
  rotate_left 1
  · (intro w0 hSw; (try dsimp only at hSw); go_simp; try (with_reducible rfl))
  try simp only [Act.put]
  try simp only [List.setIfInBounds_toArray]
  try simp only [List.set_cons_succ]
  try simp only [List.set_cons_zero]
  refine takeOp (i := 13) (v := ?_) (some 18) rfl rfl (by kernel_rfl) (by kernel_rfl) (by kernel_rfl) (fun _ _ _ h => h) (Or.inl ⟨by rfl, ?_⟩) (by assumption) ?_
  rotate_left 1
  · (intro w0 hSw; (try dsimp only at hSw); go_simp; try (with_reducible rfl))
  try simp only [Act.put]
  try simp only [List.setIfInBounds_toArray]
  try simp only [List.set_cons_succ]
  try simp only [List.set_cons_zero]
  refine takeOp (i := 14) (v := ?_) (some 19) rfl rfl (by kernel_rfl) (by kernel_rfl) (by kernel_rfl) (fun _ _ _ h => h) (Or.inl ⟨by rfl, ?_⟩) (by assumption) ?_
  rotate_left 1
  · (intro w0 hSw; (try dsimp only at hSw); go_simp; try (with_reducible rfl))
  try simp only [Act.put]
  try simp only [List.setIfInBounds_toArray]
  try simp only [List.set_cons_succ]
  try simp only [List.set_cons_zero]
  refine takeOp (i := 15) (v := ?_) (some 20) rfl rfl (by kernel_rfl) (by kernel_rfl) (by kernel_rfl) (fun _ _ _ h => h) (Or.inl ⟨by rfl, ?_⟩) (by assumption) ?_
  rotate_left 1
  · (intro w0 hSw; (try dsimp only at hSw); go_simp; try (with_reducible rfl))
  try simp only [Act.put]
  try simp only [List.setIfInBounds_toArray]
  try simp only [List.set_cons_succ]
  try simp only [List.set_cons_zero]
  refine takeOp (i := 16) (v := ?_) (some 21) rfl rfl (by kernel_rfl) (by kernel_rfl) (by kernel_rfl) (fun _ _ _ h => h) (Or.inl ⟨by rfl, ?_⟩) (by assumption) ?_
  rotate_left 1
  · (intro w0 hSw; (try dsimp only at hSw); go_simp; try (with_reducible rfl))
  try simp only [Act.put]
  try simp only [List.setIfInBounds_toArray]
  try simp only [List.set_cons_succ]
  try simp only [List.set_cons_zero]
  refine takeOp (i := 17) (v := ?_) (some 22) rfl rfl (by kernel_rfl) (by kernel_rfl) (by kernel_rfl) (fun _ _ _ h => h) (Or.inl ⟨by rfl, ?_⟩) (by assumption) ?_
  rotate_left 1
  · (intro w0 hSw; (try dsimp only at hSw); go_simp; try (with_reducible rfl))
  try simp only [Act.put]
  try simp only [List.setIfInBounds_toArray]
  try simp only [List.set_cons_succ]
  try simp only [List.set_cons_zero]
  refine takeOp (i := 18) (v := ?_) (some 23) rfl rfl (by kernel_rfl) (by kernel_rfl) (by kernel_rfl) (fun _ _ _ h => h) (Or.inl ⟨by rfl, ?_⟩) (by assumption) ?_
  rotate_left 1
  · (intro w0 hSw; (try dsimp only at hSw); go_simp; try (with_reducible rfl))
  try simp only [Act.put]
  try simp only [List.setIfInBounds_toArray]
  try simp only [List.set_cons_succ]
  try simp only [List.set_cons_zero]
  refine takeOp (i := 19) (v := ?_) (some 24) rfl rfl (by kernel_rfl) (by kernel_rfl) (by kernel_rfl) (fun _ _ _ h => h) (Or.inl ⟨by rfl, ?_⟩) (by assumption) ?_
  rotate_left 1
  · (intro w0 hSw; (try dsimp only at hSw); go_simp; try (with_reducible rfl))
  try simp only [Act.put]
  try simp only [List.setIfInBounds_toArray]
  try simp only [List.set_cons_succ]
  try simp only [List.set_cons_zero]
  refine takeOp (i := 20) (v := ?_) (some 25) rfl rfl (by kernel_rfl) (by kernel_rfl) (by kernel_rfl) (fun _ _ _ h => h) (Or.inl ⟨by rfl, ?_⟩) (by assumption) ?_
  rotate_left 1
  · (intro w0 hSw; (try dsimp only at hSw); go_simp; try (with_reducible rfl))
  try simp only [Act.put]
  try simp only [List.setIfInBounds_toArray]
  try simp only [List.set_cons_succ]
  try simp only [List.set_cons_zero]
  refine takeOp (i := 21) (v := ?_) (some 26) rfl rfl (by kernel_rfl) (by kernel_rfl) (by kernel_rfl) (fun _ _ _ h => h) (Or.inl ⟨by rfl, ?_⟩) (by assumption) ?_
  rotate_left 1
  · (intro w0 hSw; (try dsimp only at hSw); go_simp; try (with_reducible rfl))
  try simp only [Act.put]
  try simp only [List.setIfInBounds_toArray]
  try simp only [List.set_cons_succ]
  try simp only [List.set_cons_zero]
  refine takeOp (i := 22) (v := ?_) (some 27) rfl rfl (by kernel_rfl) (by kernel_rfl) (by kernel_rfl) (fun _ _ _ h => h) (Or.inl ⟨by rfl, ?_⟩) (by assumption) ?_
  rotate_left 1
  · (intro w0 hSw; (try dsimp only at hSw); go_simp; try (with_reducible rfl))
  try simp only [Act.put]
  try simp only [List.setIfInBounds_toArray]
  try simp only [List.set_cons_succ]
  try simp only [List.set_cons_zero]
  refine wpAnyH_ready (rs := [23]) (by kernel_rfl) (by simp) ?_
  refine AllReadyH.cons rfl (fun K hK => ?_) AllReadyH.nil
  go_simp
  refine (HDP.out _).mono ?_
  rintro e w2 ⟨rfl, hx0⟩
  have hx : Ext w w2 := (Ext.refl w).drew.trans hx0
  have KEEP2 : w2.cell? ⟨g, 0, none⟩ = some (.slice LA d C) ∧ w2.cell? ⟨g, 1, none⟩ = some (.int .i64 0) := ⟨(hx.cell hg).trans c0, (hx.cell hg).trans c1⟩
  have HX2 := Lib.hid hx
  clear hx hx0
  go_wp2_with fail
  refine hK.out _ _ KEEP2 (fun hHeld => ?_)
  clear hK K
  try simp only [Act.put]
  try simp only [List.setIfInBounds_toArray]
  try simp only [List.set_cons_succ]
  try simp only [List.set_cons_zero]
  refine takeOp (i := 24) (v := ?_) (some 29) rfl rfl (by kernel_rfl) (by kernel_rfl) (by kernel_rfl) (fun _ _ _ h => h) (Or.inl ⟨by rfl, ?_⟩) (by assumption) ?_
  rotate_left 1
  · (intro w0 hSw; (try dsimp only at hSw); go_simp; try (with_reducible rfl))
  try simp only [Act.put]
  try simp only [List.setIfInBounds_toArray]
  try simp only [List.set_cons_succ]
  try simp only [List.set_cons_zero]
  refine takeOp (i := 25) (v := ?_) (some 30) rfl rfl (by kernel_rfl) (by kernel_rfl) (by kernel_rfl) (fun _ _ _ h => h) (Or.inl ⟨by rfl, ?_⟩) (by assumption) ?_
  rotate_left 1
  · (intro w0 hSw; (try dsimp only at hSw); go_simp; try (with_reducible rfl))
  try simp only [Act.put]
  try simp only [List.setIfInBounds_toArray]
  try simp only [List.set_cons_succ]
  try simp only [List.set_cons_zero]
  refine wpAnyH_done (by kernel_rfl) ?_ _
  obtain ⟨k0, k1⟩ := KEEP2
  go_wp2_with fail
  refine (HSZ.out w2 HX2.out).mono ?_
  rintro e w3 ⟨rfl, hx0⟩
  have hx3 : Ext w w3 := HX2.out.trans hx0
  obtain ⟨W4, hW4⟩ : ∃ W4, W4 = w3.alloc (.cells #[.int .i64 0, .int .i64 0] 68) := ⟨_, rfl⟩
  have hx4 : Ext w W4 := by rw [hW4]; exact hx3.alloc _
  have hr4 : Row W4 w3.heap.size 68 [.int .i64 0, .int .i64 0] := by rw [hW4]; exact Row.new w3 68 [.int .i64 0, .int .i64 0]
  have m1 : w3.cell? ⟨g, 1, none⟩ = some (.int .i64 0) := (hx3.cell hg).trans c1
  have hg3 : g < w3.heap.size := Nat.lt_of_lt_of_le hg hx3.size
  have HX4 := Lib.hid hx4
  have HR4 := Lib.hid hr4
  clear k0 k1 hx0 hx3 hx4 hr4 HSZ HDP
  go_wp2
  go_ret
  have h1 := HI.out.ext HX4.out
  have h2 := HX4.out.grown (some g)
  rw [hW4] at h1 h2
  exact ⟨rfl, h1, h2⟩

set_option maxHeartbeats 4000000 in
set_option maxRecDepth 100000 in
/-- Open at the root. -/
theorem tiOpen_root1 (B g : Nat) (LA : Option Addr) (d C : Nat) (vs : Nat → RL.R) (fs : Nat → List Nat) (t : It) (w : World) (h : TrM B w LA d vs fs) (hB : B ≤ w.heap.size) (hi : ItM w g LA d C t) (hL : t.L = 0) (h0d : 0 < d) (hd : d ≤ 32) (hv : (vs 0).length ≤ 1000000) (h0 : 0 < (vs 0).length) :
    Calls Try.prog 12 #[.pointer (some ⟨g, 0, none⟩)] w fun e w' => e = .returned (.bool true) ∧ ItM w' g LA d C (openT t (0, (vs 0).length)) ∧ w.grownBy w' (some g) := by
  have c0 := hi.c0
  have c1 := hi.c1
  rw [hL] at c1
  simp only [Int.natCast_zero] at c1
  have hg := hi.lt
  have HDP := Lib.hid (fun W => trDepth_any LA d C W)
  have HSZ := Lib.hid (fun (W : World) (hx : Ext w W) => trSize_any B LA d C vs fs 0 W (h.below hx.below hB) (Nat.le_trans hB hx.size) (by omega) (by omega))
  rw [show sizeF d vs 0 = (vs 0).length by unfold sizeF; rw [if_pos h0d]] at HSZ
  have HI := Lib.hid hi
  have HL := Lib.hid hL
  clear hi hL h
  obtain ⟨n, hn⟩ : ∃ n, n = (vs 0).length := ⟨_, rfl⟩
  rw [← hn] at HSZ hv h0
  rw [← hn]
  clear hn
  have hne : ((0 : Int) == (n : Int)) = false := by simp; omega
  go_enter Try.func12, Try.ntmps12
  go_wp2
  refine wp_region_held_drew (S := (fun w' => w'.cell? ⟨g, 0, none⟩ = some (.slice LA d C) ∧ w'.cell? ⟨g, 1, none⟩ = some (.int .i64 0))) (by kernel_rfl) ⟨c0, c1⟩ (fun hHeld => ?_)
  refine takeOp (i := 0) (v := ?_) (some 5) rfl rfl (by kernel_rfl) (by kernel_rfl) (by kernel_rfl) (fun _ _ _ h => h) (Or.inl ⟨by rfl, ?_⟩) (by assumption) ?_
  rotate_left 1
  · (intro w0 hSw; (try dsimp only at hSw); go_simp; try (with_reducible rfl))
  try simp only [Act.put]
  try simp only [List.setIfInBounds_toArray]
  try simp only [List.set_cons_succ]
  try simp only [List.set_cons_zero]
  refine takeOp (i := 1) (v := ?_) (some 6) rfl rfl (by kernel_rfl) (by kernel_rfl) (by kernel_rfl) (fun _ _ _ h => h) (Or.inl ⟨by rfl, ?_⟩) (by assumption) ?_
  rotate_left 1
  · (intro w0 hSw; (try dsimp only at hSw); go_simp; try (with_reducible rfl))
  try simp only [Act.put]
  try simp only [List.setIfInBounds_toArray]
  try simp only [List.set_cons_succ]
  try simp only [List.set_cons_zero]
  refine takeOp (i := 2) (v := ?_) (some 7) rfl rfl (by kernel_rfl) (by kernel_rfl) (by kernel_rfl) (fun _ _ _ h => h) (Or.inl ⟨by rfl, ?_⟩) (by assumption) ?_
  rotate_left 1
  · (intro w0 hSw; (try dsimp only at hSw); go_simp; try (with_reducible rfl))
  try simp only [Act.put]
  try simp only [List.setIfInBounds_toArray]
  try simp only [List.set_cons_succ]
  try simp only [List.set_cons_zero]
  refine takeOp (i := 3) (v := ?_) (some 8) rfl rfl (by kernel_rfl) (by kernel_rfl) (by kernel_rfl) (fun _ _ _ h => h) (Or.inl ⟨by rfl, ?_⟩) (by assumption) ?_
  rotate_left 1
  · (intro w0 hSw; (try dsimp only at hSw); go_simp; try (with_reducible rfl))
  try simp only [Act.put]
  try simp only [List.setIfInBounds_toArray]
  try simp only [List.set_cons_succ]
  try simp only [List.set_cons_zero]
  refine takeOp (i := 4) (v := ?_) (some 9) rfl rfl (by kernel_rfl) (by kernel_rfl) (by kernel_rfl) (fun _ _ _ h => h) (Or.inl ⟨by rfl, ?_⟩) (by assumption) ?_
  rotate_left 1
  · (intro w0 hSw; (try dsimp only at hSw); go_simp; try (with_reducible rfl))
  try simp only [Act.put]
  try simp only [List.setIfInBounds_toArray]
  try simp only [List.set_cons_succ]
  try simp only [List.set_cons_zero]
  refine takeOp (i := 5) (v := ?_) (some 10) rfl rfl (by kernel_rfl) (by kernel_rfl) (by kernel_rfl) (fun _ _ _ h => h) (Or.inl ⟨by rfl, ?_⟩) (by assumption) ?_
  rotate_left 1
  · (intro w0 hSw; (try dsimp only at hSw); go_simp; try (with_reducible rfl))
  try simp only [Act.put]
  try simp only [List.setIfInBounds_toArray]
  try simp only [List.set_cons_succ]
  try simp only [List.set_cons_zero]
  refine takeOp (i := 6) (v := ?_) (some 11) rfl rfl (by kernel_rfl) (by kernel_rfl) (by kernel_rfl) (fun _ _ _ h => h) (Or.inl ⟨by rfl, ?_⟩) (by assumption) ?_
  rotate_left 1
  · (intro w0 hSw; (try dsimp only at hSw); go_simp; try (with_reducible rfl))
  try simp only [Act.put]
  try simp only [List.setIfInBounds_toArray]
  try simp only [List.set_cons_succ]
  try simp only [List.set_cons_zero]
  refine takeOp (i := 7) (v := ?_) (some 12) rfl rfl (by kernel_rfl) (by kernel_rfl) (by kernel_rfl) (fun _ _ _ h => h) (Or.inl ⟨by rfl, ?_⟩) (by assumption) ?_
  rotate_left 1
  · (intro w0 hSw; (try dsimp only at hSw); go_simp; try (with_reducible rfl))
  try simp only [Act.put]
  try simp only [List.setIfInBounds_toArray]
  try simp only [List.set_cons_succ]
  try simp only [List.set_cons_zero]
  refine takeOp (i := 8) (v := ?_) (some 13) rfl rfl (by kernel_rfl) (by kernel_rfl) (by kernel_rfl) (fun _ _ _ h => h) (Or.inl ⟨by rfl, ?_⟩) (by assumption) ?_
  rotate_left 1
  · (intro w0 hSw; (try dsimp only at hSw); go_simp; try (with_reducible rfl))
  try simp only [Act.put]
  try simp only [List.setIfInBounds_toArray]
  try simp only [List.set_cons_succ]
  try simp only [List.set_cons_zero]
  refine takeOp (i := 9) (v := undef) (some 14) rfl rfl (by kernel_rfl) (by kernel_rfl) (by kernel_rfl) (fun _ _ _ h => h) (Or.inr ⟨by rfl, rfl⟩) (by assumption) ?_
  try simp only [Act.put]
  try simp only [List.setIfInBounds_toArray]
  try simp only [List.set_cons_succ]
  try simp only [List.set_cons_zero]
  refine takeOp (i := 10) (v := undef) (some 15) rfl rfl (by kernel_rfl) (by kernel_rfl) (by kernel_rfl) (fun _ _ _ h => h) (Or.inr ⟨by rfl, rfl⟩) (by assumption) ?_
  try simp only [Act.put]
  try simp only [List.setIfInBounds_toArray]
  try simp only [List.set_cons_succ]
  try simp only [List.set_cons_zero]
  refine takeOp (i := 11) (v := undef) (some 16) rfl rfl (by kernel_rfl) (by kernel_rfl) (by kernel_rfl) (fun _ _ _ h => h) (Or.inr ⟨by rfl, rfl⟩) (by assumption) ?_
  try simp only [Act.put]
  try simp only [List.setIfInBounds_toArray]
  try simp only [List.set_cons_succ]
  try simp only [List.set_cons_zero]
  refine takeOp (i := 12) (v := ?_) (some 17) rfl rfl (by kernel_rfl) (by kernel_rfl) (by kernel_rfl) (fun _ _ _ h => h) (Or.inl ⟨by rfl, ?_⟩) (by assumption) ?_
  rotate_left 1
  · (intro w0 hSw; (try dsimp only at hSw); go_simp; try (with_reducible rfl))
  try simp only [Act.put]
  try simp only [List.setIfInBounds_toArray]
  try simp only [List.set_cons_succ]
  try simp only [List.set_cons_zero]
  refine takeOp (i := 13) (v := ?_) (some 18) rfl rfl (by kernel_rfl) (by kernel_rfl) (by kernel_rfl) (fun _ _ _ h => h) (Or.inl ⟨by rfl, ?_⟩) (by assumption) ?_
  rotate_left 1
  · (intro w0 hSw; (try dsimp only at hSw); go_simp; try (with_reducible rfl))
  try simp only [Act.put]
  try simp only [List.setIfInBounds_toArray]
  try simp only [List.set_cons_succ]
  try simp only [List.set_cons_zero]
  refine takeOp (i := 14) (v := ?_) (some 19) rfl rfl (by kernel_rfl) (by kernel_rfl) (by kernel_rfl) (fun _ _ _ h => h) (Or.inl ⟨by rfl, ?_⟩) (by assumption) ?_
  rotate_left 1
  · (intro w0 hSw; (try dsimp only at hSw); go_simp; try (with_reducible rfl))
  try simp only [Act.put]
  try simp only [List.setIfInBounds_toArray]
  try simp only [List.set_cons_succ]
  try simp only [List.set_cons_zero]
  refine takeOp (i := 15) (v := ?_) (some 20) rfl rfl (by kernel_rfl) (by kernel_rfl) (by kernel_rfl) (fun _ _ _ h => h) (Or.inl ⟨by rfl, ?_⟩) (by assumption) ?_
  rotate_left 1
  · (intro w0 hSw; (try dsimp only at hSw); go_simp; try (with_reducible rfl))
  try simp only [Act.put]
  try simp only [List.setIfInBounds_toArray]
  try simp only [List.set_cons_succ]
  try simp only [List.set_cons_zero]
  refine takeOp (i := 16) (v := ?_) (some 21) rfl rfl (by kernel_rfl) (by kernel_rfl) (by kernel_rfl) (fun _ _ _ h => h) (Or.inl ⟨by rfl, ?_⟩) (by assumption) ?_
  rotate_left 1
  · (intro w0 hSw; (try dsimp only at hSw); go_simp; try (with_reducible rfl))
  try simp only [Act.put]
  try simp only [List.setIfInBounds_toArray]
  try simp only [List.set_cons_succ]
  try simp only [List.set_cons_zero]
  refine takeOp (i := 17) (v := ?_) (some 22) rfl rfl (by kernel_rfl) (by kernel_rfl) (by kernel_rfl) (fun _ _ _ h => h) (Or.inl ⟨by rfl, ?_⟩) (by assumption) ?_
  rotate_left 1
  · (intro w0 hSw; (try dsimp only at hSw); go_simp; try (with_reducible rfl))
  try simp only [Act.put]
  try simp only [List.setIfInBounds_toArray]
  try simp only [List.set_cons_succ]
  try simp only [List.set_cons_zero]
  refine takeOp (i := 18) (v := ?_) (some 23) rfl rfl (by kernel_rfl) (by kernel_rfl) (by kernel_rfl) (fun _ _ _ h => h) (Or.inl ⟨by rfl, ?_⟩) (by assumption) ?_
  rotate_left 1
  · (intro w0 hSw; (try dsimp only at hSw); go_simp; try (with_reducible rfl))
  try simp only [Act.put]
  try simp only [List.setIfInBounds_toArray]
  try simp only [List.set_cons_succ]
  try simp only [List.set_cons_zero]
  refine takeOp (i := 19) (v := ?_) (some 24) rfl rfl (by kernel_rfl) (by kernel_rfl) (by kernel_rfl) (fun _ _ _ h => h) (Or.inl ⟨by rfl, ?_⟩) (by assumption) ?_
  rotate_left 1
  · (intro w0 hSw; (try dsimp only at hSw); go_simp; try (with_reducible rfl))
  try simp only [Act.put]
  try simp only [List.setIfInBounds_toArray]
  try simp only [List.set_cons_succ]
  try simp only [List.set_cons_zero]
  refine takeOp (i := 20) (v := ?_) (some 25) rfl rfl (by kernel_rfl) (by kernel_rfl) (by kernel_rfl) (fun _ _ _ h => h) (Or.inl ⟨by rfl, ?_⟩) (by assumption) ?_
  rotate_left 1
  · (intro w0 hSw; (try dsimp only at hSw); go_simp; try (with_reducible rfl))
  try simp only [Act.put]
  try simp only [List.setIfInBounds_toArray]
  try simp only [List.set_cons_succ]
  try simp only [List.set_cons_zero]
  refine takeOp (i := 21) (v := ?_) (some 26) rfl rfl (by kernel_rfl) (by kernel_rfl) (by kernel_rfl) (fun _ _ _ h => h) (Or.inl ⟨by rfl, ?_⟩) (by assumption) ?_
  rotate_left 1
  · (intro w0 hSw; (try dsimp only at hSw); go_simp; try (with_reducible rfl))
  try simp only [Act.put]
  try simp only [List.setIfInBounds_toArray]
  try simp only [List.set_cons_succ]
  try simp only [List.set_cons_zero]
  refine takeOp (i := 22) (v := ?_) (some 27) rfl rfl (by kernel_rfl) (by kernel_rfl) (by kernel_rfl) (fun _ _ _ h => h) (Or.inl ⟨by rfl, ?_⟩) (by assumption) ?_
  rotate_left 1
  · (intro w0 hSw; (try dsimp only at hSw); go_simp; try (with_reducible rfl))
  try simp only [Act.put]
  try simp only [List.setIfInBounds_toArray]
  try simp only [List.set_cons_succ]
  try simp only [List.set_cons_zero]
  refine wpAnyH_ready (rs := [23]) (by kernel_rfl) (by simp) ?_
  refine AllReadyH.cons rfl (fun K hK => ?_) AllReadyH.nil
  go_simp
  refine (HDP.out _).mono ?_
  rintro e w2 ⟨rfl, hx0⟩
  have hx : Ext w w2 := (Ext.refl w).drew.trans hx0
  have KEEP2 : w2.cell? ⟨g, 0, none⟩ = some (.slice LA d C) ∧ w2.cell? ⟨g, 1, none⟩ = some (.int .i64 0) := ⟨(hx.cell hg).trans c0, (hx.cell hg).trans c1⟩
  have HX2 := Lib.hid hx
  clear hx hx0
  go_wp2_with fail
  refine hK.out _ _ KEEP2 (fun hHeld => ?_)
  clear hK K
  try simp only [Act.put]
  try simp only [List.setIfInBounds_toArray]
  try simp only [List.set_cons_succ]
  try simp only [List.set_cons_zero]
  refine takeOp (i := 24) (v := ?_) (some 29) rfl rfl (by kernel_rfl) (by kernel_rfl) (by kernel_rfl) (fun _ _ _ h => h) (Or.inl ⟨by rfl, ?_⟩) (by assumption) ?_
  rotate_left 1
  · (intro w0 hSw; (try dsimp only at hSw); go_simp; try (with_reducible rfl))
  try simp only [Act.put]
  try simp only [List.setIfInBounds_toArray]
  try simp only [List.set_cons_succ]
  try simp only [List.set_cons_zero]
  refine takeOp (i := 25) (v := ?_) (some 30) rfl rfl (by kernel_rfl) (by kernel_rfl) (by kernel_rfl) (fun _ _ _ h => h) (Or.inl ⟨by rfl, ?_⟩) (by assumption) ?_
  rotate_left 1
  · (intro w0 hSw; (try dsimp only at hSw); go_simp; try (with_reducible rfl))
  try simp only [Act.put]
  try simp only [List.setIfInBounds_toArray]
  try simp only [List.set_cons_succ]
  try simp only [List.set_cons_zero]
  refine wpAnyH_done (by kernel_rfl) ?_ _
  obtain ⟨k0, k1⟩ := KEEP2
  go_wp2_with fail
  refine (HSZ.out w2 HX2.out).mono ?_
  rintro e w3 ⟨rfl, hx0⟩
  have hx3 : Ext w w3 := HX2.out.trans hx0
  obtain ⟨W4, hW4⟩ : ∃ W4, W4 = w3.alloc (.cells #[.int .i64 0, .int .i64 n] 68) := ⟨_, rfl⟩
  have hx4 : Ext w W4 := by rw [hW4]; exact hx3.alloc _
  have hr4 : Row W4 w3.heap.size 68 [.int .i64 0, .int .i64 n] := by rw [hW4]; exact Row.new w3 68 [.int .i64 0, .int .i64 n]
  have m1 : w3.cell? ⟨g, 1, none⟩ = some (.int .i64 0) := (hx3.cell hg).trans c1
  have hg3 : g < w3.heap.size := Nat.lt_of_lt_of_le hg hx3.size
  have HX4 := Lib.hid hx4
  have HR4 := Lib.hid hr4
  clear k0 k1 hx0 hx3 hx4 hr4 HSZ HDP
  go_wp2
  rw [← hW4]
  have hi4 := HI.out.ext HX4.out
  have p1 : W4.cell? ⟨g, 1, none⟩ = some (.int .i64 0) := (HX4.out.cell hg).trans c1
  have p2 := hi4.c2
  have p3 := hi4.c3
  have hab := hi4.ca (j := 0) (by omega)
  simp only [Nat.zero_mul, Nat.add_zero] at hab
  obtain ⟨q0, q1⟩ := hab
  have fr4 := hi4.fr 4
  have fr5 := hi4.fr 5
  have fz1 := hi4.fr 1
  have fz2 := hi4.fr 2
  have fz3 := hi4.fr 3
  have s0 : W4.cell? ⟨w3.heap.size, 0, none⟩ = some (.int .i64 0) := HR4.out.cell 0
  have s1 : W4.cell? ⟨w3.heap.size, 1, none⟩ = some (.int .i64 n) := HR4.out.cell 1
  have ne1 : ¬ (w3.heap.size = g) := by omega
  have ne2 : ¬ (g = w3.heap.size) := by omega
  have HI4 := Lib.hid hi4
  clear hi4 hW4 m1
  go_still_tail 12, (by kernel_rfl)
  go_wp2
  go_ret
  refine ⟨rfl, ?_, ?_⟩
  · have h := (((HI4.out.setAb (k := 0) (by omega) t.pos t.fin).setPos 0).setFin n).setL 1
    unfold openT
    rw [HL.out]
    exact h
  · exact grown_trans (HX4.out.grown _) (grown_trans (grown_set W4 g 4 _) (grown_trans (grown_set _ g 5 _) (grown_trans (grown_set _ g 2 _) (grown_trans (grown_set _ g 3 _) (grown_trans (grown_set _ g 1 _) ((Ext.refl _).drew.grown _))))))

end Go.Proofs.Ytlcammcifjihpaa
end

/- Parts of the proof, merged: I6, I7, I8, RRange, U4, N7. -/
import Derived.Test.YtlcammcifjihpaaQ3

section
/- Walks: Open, where it moves. -/
namespace Go.Proofs.Ytlcammcifjihpaa
open Go.RowKit Go.Sort

/-- The iterator at a first child; ch: its place and the end of its siblings. -/
def openT (t : It) (ch : Nat × Nat) : It := { t with L := t.L + 1, pos := ch.1, fin := ch.2, ab := fun j => if j = t.L then (t.pos, t.fin) else t.ab j }

set_option maxHeartbeats 4000000 in
set_option maxRecDepth 100000 in
/-- Open at the root of an empty trie. -/
theorem tiOpen_root0 (B g : Nat) (LA : Option Addr) (d C : Nat) (vs : Nat → RL.R) (fs : Nat → List Nat) (t : It) (w : World) (h : TrM B w LA d vs fs) (hB : B ≤ w.heap.size) (hi : ItM w g LA d C t) (hL : t.L = 0) (h0d : 0 < d) (hd : d ≤ 32) (_hv : (vs 0).length ≤ 1000000) (h0 : (vs 0).length = 0) :
    Calls Try.prog 12 #[.pointer (some ⟨g, 0, none⟩)] w fun e w' => e = .returned (.bool false) ∧ ItM w' g LA d C t ∧ w.grownBy w' (some g) := by
  have c0 := hi.c0
  have c1 := hi.c1
  rw [hL] at c1
  simp only [Int.natCast_zero] at c1
  have hg := hi.lt
  have HDP := Lib.hid (fun W => trDepth_any LA d C W)
  have HSZ := Lib.hid (fun (W : World) (hx : Ext w W) => trSize_any B LA d C vs fs 0 W (h.below hx.below hB) (Nat.le_trans hB hx.size) (by omega) (by omega))
  rw [show sizeF d vs 0 = (vs 0).length by unfold sizeF; rw [if_pos h0d]] at HSZ
  have HI := Lib.hid hi
  have HL := Lib.hid hL
  clear hi hL h
  obtain ⟨n, hn⟩ : ∃ n, n = (vs 0).length := ⟨_, rfl⟩
  rw [← hn] at HSZ _hv h0
  clear hn
  rw [h0] at HSZ
  simp only [Int.natCast_zero] at HSZ
  go_enter Try.func12, Try.ntmps12
  go_wp2
  refine wp_region_held_drew (S := (fun w' => w'.cell? ⟨g, 0, none⟩ = some (.slice LA d C) ∧ w'.cell? ⟨g, 1, none⟩ = some (.int .i64 0))) (by kernel_rfl) ⟨c0, c1⟩ (fun hHeld => ?_)
  refine takeOp (i := 0) (v := ?_) (some 5) rfl rfl (by kernel_rfl) (by kernel_rfl) (by kernel_rfl) (fun _ _ _ h => h) (Or.inl ⟨by rfl, ?_⟩) (by assumption) ?_
  rotate_left 1
  · (intro w0 hSw; (try dsimp only at hSw); go_simp; try (with_reducible rfl))
  try simp only [Act.put]
  try simp only [List.setIfInBounds_toArray]
  try simp only [List.set_cons_succ]
  try simp only [List.set_cons_zero]
  refine takeOp (i := 1) (v := ?_) (some 6) rfl rfl (by kernel_rfl) (by kernel_rfl) (by kernel_rfl) (fun _ _ _ h => h) (Or.inl ⟨by rfl, ?_⟩) (by assumption) ?_
  rotate_left 1
  · (intro w0 hSw; (try dsimp only at hSw); go_simp; try (with_reducible rfl))
  try simp only [Act.put]
  try simp only [List.setIfInBounds_toArray]
  try simp only [List.set_cons_succ]
  try simp only [List.set_cons_zero]
  refine takeOp (i := 2) (v := ?_) (some 7) rfl rfl (by kernel_rfl) (by kernel_rfl) (by kernel_rfl) (fun _ _ _ h => h) (Or.inl ⟨by rfl, ?_⟩) (by assumption) ?_
  rotate_left 1
  · (intro w0 hSw; (try dsimp only at hSw); go_simp; try (with_reducible rfl))
  try simp only [Act.put]
  try simp only [List.setIfInBounds_toArray]
  try simp only [List.set_cons_succ]
  try simp only [List.set_cons_zero]
  refine takeOp (i := 3) (v := ?_) (some 8) rfl rfl (by kernel_rfl) (by kernel_rfl) (by kernel_rfl) (fun _ _ _ h => h) (Or.inl ⟨by rfl, ?_⟩) (by assumption) ?_
  rotate_left 1
  · (intro w0 hSw; (try dsimp only at hSw); go_simp; try (with_reducible rfl))
  try simp only [Act.put]
  try simp only [List.setIfInBounds_toArray]
  try simp only [List.set_cons_succ]
  try simp only [List.set_cons_zero]
  refine takeOp (i := 4) (v := ?_) (some 9) rfl rfl (by kernel_rfl) (by kernel_rfl) (by kernel_rfl) (fun _ _ _ h => h) (Or.inl ⟨by rfl, ?_⟩) (by assumption) ?_
  rotate_left 1
  · (intro w0 hSw; (try dsimp only at hSw); go_simp; try (with_reducible rfl))
  try simp only [Act.put]
  try simp only [List.setIfInBounds_toArray]
  try simp only [List.set_cons_succ]
  try simp only [List.set_cons_zero]
  refine takeOp (i := 5) (v := ?_) (some 10) rfl rfl (by kernel_rfl) (by kernel_rfl) (by kernel_rfl) (fun _ _ _ h => h) (Or.inl ⟨by rfl, ?_⟩) (by assumption) ?_
  rotate_left 1
  · (intro w0 hSw; (try dsimp only at hSw); go_simp; try (with_reducible rfl))
  try simp only [Act.put]
  try simp only [List.setIfInBounds_toArray]
  try simp only [List.set_cons_succ]
  try simp only [List.set_cons_zero]
  refine takeOp (i := 6) (v := ?_) (some 11) rfl rfl (by kernel_rfl) (by kernel_rfl) (by kernel_rfl) (fun _ _ _ h => h) (Or.inl ⟨by rfl, ?_⟩) (by assumption) ?_
  rotate_left 1
  · (intro w0 hSw; (try dsimp only at hSw); go_simp; try (with_reducible rfl))
  try simp only [Act.put]
  try simp only [List.setIfInBounds_toArray]
  try simp only [List.set_cons_succ]
  try simp only [List.set_cons_zero]
  refine takeOp (i := 7) (v := ?_) (some 12) rfl rfl (by kernel_rfl) (by kernel_rfl) (by kernel_rfl) (fun _ _ _ h => h) (Or.inl ⟨by rfl, ?_⟩) (by assumption) ?_
  rotate_left 1
  · (intro w0 hSw; (try dsimp only at hSw); go_simp; try (with_reducible rfl))
  try simp only [Act.put]
  try simp only [List.setIfInBounds_toArray]
  try simp only [List.set_cons_succ]
  try simp only [List.set_cons_zero]
  refine takeOp (i := 8) (v := ?_) (some 13) rfl rfl (by kernel_rfl) (by kernel_rfl) (by kernel_rfl) (fun _ _ _ h => h) (Or.inl ⟨by rfl, ?_⟩) (by assumption) ?_
  rotate_left 1
  · (intro w0 hSw; (try dsimp only at hSw); go_simp; try (with_reducible rfl))
  try simp only [Act.put]
  try simp only [List.setIfInBounds_toArray]
  try simp only [List.set_cons_succ]
  try simp only [List.set_cons_zero]
  refine takeOp (i := 9) (v := undef) (some 14) rfl rfl (by kernel_rfl) (by kernel_rfl) (by kernel_rfl) (fun _ _ _ h => h) (Or.inr ⟨by rfl, rfl⟩) (by assumption) ?_
  try simp only [Act.put]
  try simp only [List.setIfInBounds_toArray]
  try simp only [List.set_cons_succ]
  try simp only [List.set_cons_zero]
  refine takeOp (i := 10) (v := undef) (some 15) rfl rfl (by kernel_rfl) (by kernel_rfl) (by kernel_rfl) (fun _ _ _ h => h) (Or.inr ⟨by rfl, rfl⟩) (by assumption) ?_
  try simp only [Act.put]
  try simp only [List.setIfInBounds_toArray]
  try simp only [List.set_cons_succ]
  try simp only [List.set_cons_zero]
  refine takeOp (i := 11) (v := undef) (some 16) rfl rfl (by kernel_rfl) (by kernel_rfl) (by kernel_rfl) (fun _ _ _ h => h) (Or.inr ⟨by rfl, rfl⟩) (by assumption) ?_
  try simp only [Act.put]
  try simp only [List.setIfInBounds_toArray]
  try simp only [List.set_cons_succ]
  try simp only [List.set_cons_zero]
  refine takeOp (i := 12) (v := ?_) (some 17) rfl rfl (by kernel_rfl) (by kernel_rfl) (by kernel_rfl) (fun _ _ _ h => h) (Or.inl ⟨by rfl, ?_⟩) (by assumption) ?_
  rotate_left 1
  · (intro w0 hSw; (try dsimp only at hSw); go_simp; try (with_reducible rfl))
  try simp only [Act.put]
  try simp only [List.setIfInBounds_toArray]
  try simp only [List.set_cons_succ]
  try simp only [List.set_cons_zero]
  refine takeOp (i := 13) (v := ?_) (some 18) rfl rfl (by kernel_rfl) (by kernel_rfl) (by kernel_rfl) (fun _ _ _ h => h) (Or.inl ⟨by rfl, ?_⟩) (by assumption) ?_
  rotate_left 1
  · (intro w0 hSw; (try dsimp only at hSw); go_simp; try (with_reducible rfl))
  try simp only [Act.put]
  try simp only [List.setIfInBounds_toArray]
  try simp only [List.set_cons_succ]
  try simp only [List.set_cons_zero]
  refine takeOp (i := 14) (v := ?_) (some 19) rfl rfl (by kernel_rfl) (by kernel_rfl) (by kernel_rfl) (fun _ _ _ h => h) (Or.inl ⟨by rfl, ?_⟩) (by assumption) ?_
  rotate_left 1
  · (intro w0 hSw; (try dsimp only at hSw); go_simp; try (with_reducible rfl))
  try simp only [Act.put]
  try simp only [List.setIfInBounds_toArray]
  try simp only [List.set_cons_succ]
  try simp only [List.set_cons_zero]
  refine takeOp (i := 15) (v := ?_) (some 20) rfl rfl (by kernel_rfl) (by kernel_rfl) (by kernel_rfl) (fun _ _ _ h => h) (Or.inl ⟨by rfl, ?_⟩) (by assumption) ?_
  rotate_left 1
  · (intro w0 hSw; (try dsimp only at hSw); go_simp; try (with_reducible rfl))
  try simp only [Act.put]
  try simp only [List.setIfInBounds_toArray]
  try simp only [List.set_cons_succ]
  try simp only [List.set_cons_zero]
  refine takeOp (i := 16) (v := ?_) (some 21) rfl rfl (by kernel_rfl) (by kernel_rfl) (by kernel_rfl) (fun _ _ _ h => h) (Or.inl ⟨by rfl, ?_⟩) (by assumption) ?_
  rotate_left 1
  · (intro w0 hSw; (try dsimp only at hSw); go_simp; try (with_reducible rfl))
  try simp only [Act.put]
  try simp only [List.setIfInBounds_toArray]
  try simp only [List.set_cons_succ]
  try simp only [List.set_cons_zero]
  refine takeOp (i := 17) (v := ?_) (some 22) rfl rfl (by kernel_rfl) (by kernel_rfl) (by kernel_rfl) (fun _ _ _ h => h) (Or.inl ⟨by rfl, ?_⟩) (by assumption) ?_
  rotate_left 1
  · (intro w0 hSw; (try dsimp only at hSw); go_simp; try (with_reducible rfl))
  try simp only [Act.put]
  try simp only [List.setIfInBounds_toArray]
  try simp only [List.set_cons_succ]
  try simp only [List.set_cons_zero]
  refine takeOp (i := 18) (v := ?_) (some 23) rfl rfl (by kernel_rfl) (by kernel_rfl) (by kernel_rfl) (fun _ _ _ h => h) (Or.inl ⟨by rfl, ?_⟩) (by assumption) ?_
  rotate_left 1
  · (intro w0 hSw; (try dsimp only at hSw); go_simp; try (with_reducible rfl))
  try simp only [Act.put]
  try simp only [List.setIfInBounds_toArray]
  try simp only [List.set_cons_succ]
  try simp only [List.set_cons_zero]
  refine takeOp (i := 19) (v := ?_) (some 24) rfl rfl (by kernel_rfl) (by kernel_rfl) (by kernel_rfl) (fun _ _ _ h => h) (Or.inl ⟨by rfl, ?_⟩) (by assumption) ?_
  rotate_left 1
  · (intro w0 hSw; (try dsimp only at hSw); go_simp; try (with_reducible rfl))
  try simp only [Act.put]
  try simp only [List.setIfInBounds_toArray]
  try simp only [List.set_cons_succ]
  try simp only [List.set_cons_zero]
  refine takeOp (i := 20) (v := ?_) (some 25) rfl rfl (by kernel_rfl) (by kernel_rfl) (by kernel_rfl) (fun _ _ _ h => h) (Or.inl ⟨by rfl, ?_⟩) (by assumption) ?_
  rotate_left 1
  · (intro w0 hSw; (try dsimp only at hSw); go_simp; try (with_reducible rfl))
  try simp only [Act.put]
  try simp only [List.setIfInBounds_toArray]
  try simp only [List.set_cons_succ]
  try simp only [List.set_cons_zero]
  refine takeOp (i := 21) (v := ?_) (some 26) rfl rfl (by kernel_rfl) (by kernel_rfl) (by kernel_rfl) (fun _ _ _ h => h) (Or.inl ⟨by rfl, ?_⟩) (by assumption) ?_
  rotate_left 1
  · (intro w0 hSw; (try dsimp only at hSw); go_simp; try (with_reducible rfl))
  try simp only [Act.put]
  try simp only [List.setIfInBounds_toArray]
  try simp only [List.set_cons_succ]
  try simp only [List.set_cons_zero]
  refine takeOp (i := 22) (v := ?_) (some 27) rfl rfl (by kernel_rfl) (by kernel_rfl) (by kernel_rfl) (fun _ _ _ h => h) (Or.inl ⟨by rfl, ?_⟩) (by assumption) ?_
  rotate_left 1
  · (intro w0 hSw; (try dsimp only at hSw); go_simp; try (with_reducible rfl))
  try simp only [Act.put]
  try simp only [List.setIfInBounds_toArray]
  try simp only [List.set_cons_succ]
  try simp only [List.set_cons_zero]
  refine wpAnyH_ready (rs := [23]) (by kernel_rfl) (by simp) ?_
  refine AllReadyH.cons rfl (fun K hK => ?_) AllReadyH.nil
  go_simp
  refine (HDP.out _).mono ?_
  rintro e w2 ⟨rfl, hx0⟩
  have hx : Ext w w2 := (Ext.refl w).drew.trans hx0
  have KEEP2 : w2.cell? ⟨g, 0, none⟩ = some (.slice LA d C) ∧ w2.cell? ⟨g, 1, none⟩ = some (.int .i64 0) := ⟨(hx.cell hg).trans c0, (hx.cell hg).trans c1⟩
  have HX2 := Lib.hid hx
  clear hx hx0
  go_wp2_with fail
  refine hK.out _ _ KEEP2 (fun hHeld => ?_)
  clear hK K
  try simp only [Act.put]
  try simp only [List.setIfInBounds_toArray]
  try simp only [List.set_cons_succ]
  try simp only [List.set_cons_zero]
  refine takeOp (i := 24) (v := ?_) (some 29) rfl rfl (by kernel_rfl) (by kernel_rfl) (by kernel_rfl) (fun _ _ _ h => h) (Or.inl ⟨by rfl, ?_⟩) (by assumption) ?_
  rotate_left 1
  · (intro w0 hSw; (try dsimp only at hSw); go_simp; try (with_reducible rfl))
  try simp only [Act.put]
  try simp only [List.setIfInBounds_toArray]
  try simp only [List.set_cons_succ]
  try simp only [List.set_cons_zero]
  refine takeOp (i := 25) (v := ?_) (some 30) rfl rfl (by kernel_rfl) (by kernel_rfl) (by kernel_rfl) (fun _ _ _ h => h) (Or.inl ⟨by rfl, ?_⟩) (by assumption) ?_
  rotate_left 1
  · (intro w0 hSw; (try dsimp only at hSw); go_simp; try (with_reducible rfl))
  try simp only [Act.put]
  try simp only [List.setIfInBounds_toArray]
  try simp only [List.set_cons_succ]
  try simp only [List.set_cons_zero]
  refine wpAnyH_done (by kernel_rfl) ?_ _
  obtain ⟨k0, k1⟩ := KEEP2
  go_wp2_with fail
  refine (HSZ.out w2 HX2.out).mono ?_
  rintro e w3 ⟨rfl, hx0⟩
  have hx3 : Ext w w3 := HX2.out.trans hx0
  obtain ⟨W4, hW4⟩ : ∃ W4, W4 = w3.alloc (.cells #[.int .i64 0, .int .i64 0] 68) := ⟨_, rfl⟩
  have hx4 : Ext w W4 := by rw [hW4]; exact hx3.alloc _
  have hr4 : Row W4 w3.heap.size 68 [.int .i64 0, .int .i64 0] := by rw [hW4]; exact Row.new w3 68 [.int .i64 0, .int .i64 0]
  have m1 : w3.cell? ⟨g, 1, none⟩ = some (.int .i64 0) := (hx3.cell hg).trans c1
  have hg3 : g < w3.heap.size := Nat.lt_of_lt_of_le hg hx3.size
  have HX4 := Lib.hid hx4
  have HR4 := Lib.hid hr4
  clear k0 k1 hx0 hx3 hx4 hr4 HSZ HDP
  go_wp2
  go_ret
  have h1 := HI.out.ext HX4.out
  have h2 := HX4.out.grown (some g)
  rw [hW4] at h1 h2
  exact ⟨rfl, h1, h2⟩

set_option maxHeartbeats 4000000 in
set_option maxRecDepth 100000 in
/-- Open at the root. -/
theorem tiOpen_root1 (B g : Nat) (LA : Option Addr) (d C : Nat) (vs : Nat → RL.R) (fs : Nat → List Nat) (t : It) (w : World) (h : TrM B w LA d vs fs) (hB : B ≤ w.heap.size) (hi : ItM w g LA d C t) (hL : t.L = 0) (h0d : 0 < d) (hd : d ≤ 32) (hv : (vs 0).length ≤ 1000000) (h0 : 0 < (vs 0).length) :
    Calls Try.prog 12 #[.pointer (some ⟨g, 0, none⟩)] w fun e w' => e = .returned (.bool true) ∧ ItM w' g LA d C (openT t (0, (vs 0).length)) ∧ w.grownBy w' (some g) := by
  have c0 := hi.c0
  have c1 := hi.c1
  rw [hL] at c1
  simp only [Int.natCast_zero] at c1
  have hg := hi.lt
  have HDP := Lib.hid (fun W => trDepth_any LA d C W)
  have HSZ := Lib.hid (fun (W : World) (hx : Ext w W) => trSize_any B LA d C vs fs 0 W (h.below hx.below hB) (Nat.le_trans hB hx.size) (by omega) (by omega))
  rw [show sizeF d vs 0 = (vs 0).length by unfold sizeF; rw [if_pos h0d]] at HSZ
  have HI := Lib.hid hi
  have HL := Lib.hid hL
  clear hi hL h
  obtain ⟨n, hn⟩ : ∃ n, n = (vs 0).length := ⟨_, rfl⟩
  rw [← hn] at HSZ hv h0
  rw [← hn]
  clear hn
  have hne : ((0 : Int) == (n : Int)) = false := by simp; omega
  go_enter Try.func12, Try.ntmps12
  go_wp2
  refine wp_region_held_drew (S := (fun w' => w'.cell? ⟨g, 0, none⟩ = some (.slice LA d C) ∧ w'.cell? ⟨g, 1, none⟩ = some (.int .i64 0))) (by kernel_rfl) ⟨c0, c1⟩ (fun hHeld => ?_)
  refine takeOp (i := 0) (v := ?_) (some 5) rfl rfl (by kernel_rfl) (by kernel_rfl) (by kernel_rfl) (fun _ _ _ h => h) (Or.inl ⟨by rfl, ?_⟩) (by assumption) ?_
  rotate_left 1
  · (intro w0 hSw; (try dsimp only at hSw); go_simp; try (with_reducible rfl))
  try simp only [Act.put]
  try simp only [List.setIfInBounds_toArray]
  try simp only [List.set_cons_succ]
  try simp only [List.set_cons_zero]
  refine takeOp (i := 1) (v := ?_) (some 6) rfl rfl (by kernel_rfl) (by kernel_rfl) (by kernel_rfl) (fun _ _ _ h => h) (Or.inl ⟨by rfl, ?_⟩) (by assumption) ?_
  rotate_left 1
  · (intro w0 hSw; (try dsimp only at hSw); go_simp; try (with_reducible rfl))
  try simp only [Act.put]
  try simp only [List.setIfInBounds_toArray]
  try simp only [List.set_cons_succ]
  try simp only [List.set_cons_zero]
  refine takeOp (i := 2) (v := ?_) (some 7) rfl rfl (by kernel_rfl) (by kernel_rfl) (by kernel_rfl) (fun _ _ _ h => h) (Or.inl ⟨by rfl, ?_⟩) (by assumption) ?_
  rotate_left 1
  · (intro w0 hSw; (try dsimp only at hSw); go_simp; try (with_reducible rfl))
  try simp only [Act.put]
  try simp only [List.setIfInBounds_toArray]
  try simp only [List.set_cons_succ]
  try simp only [List.set_cons_zero]
  refine takeOp (i := 3) (v := ?_) (some 8) rfl rfl (by kernel_rfl) (by kernel_rfl) (by kernel_rfl) (fun _ _ _ h => h) (Or.inl ⟨by rfl, ?_⟩) (by assumption) ?_
  rotate_left 1
  · (intro w0 hSw; (try dsimp only at hSw); go_simp; try (with_reducible rfl))
  try simp only [Act.put]
  try simp only [List.setIfInBounds_toArray]
  try simp only [List.set_cons_succ]
  try simp only [List.set_cons_zero]
  refine takeOp (i := 4) (v := ?_) (some 9) rfl rfl (by kernel_rfl) (by kernel_rfl) (by kernel_rfl) (fun _ _ _ h => h) (Or.inl ⟨by rfl, ?_⟩) (by assumption) ?_
  rotate_left 1
  · (intro w0 hSw; (try dsimp only at hSw); go_simp; try (with_reducible rfl))
  try simp only [Act.put]
  try simp only [List.setIfInBounds_toArray]
  try simp only [List.set_cons_succ]
  try simp only [List.set_cons_zero]
  refine takeOp (i := 5) (v := ?_) (some 10) rfl rfl (by kernel_rfl) (by kernel_rfl) (by kernel_rfl) (fun _ _ _ h => h) (Or.inl ⟨by rfl, ?_⟩) (by assumption) ?_
  rotate_left 1
  · (intro w0 hSw; (try dsimp only at hSw); go_simp; try (with_reducible rfl))
  try simp only [Act.put]
  try simp only [List.setIfInBounds_toArray]
  try simp only [List.set_cons_succ]
  try simp only [List.set_cons_zero]
  refine takeOp (i := 6) (v := ?_) (some 11) rfl rfl (by kernel_rfl) (by kernel_rfl) (by kernel_rfl) (fun _ _ _ h => h) (Or.inl ⟨by rfl, ?_⟩) (by assumption) ?_
  rotate_left 1
  · (intro w0 hSw; (try dsimp only at hSw); go_simp; try (with_reducible rfl))
  try simp only [Act.put]
  try simp only [List.setIfInBounds_toArray]
  try simp only [List.set_cons_succ]
  try simp only [List.set_cons_zero]
  refine takeOp (i := 7) (v := ?_) (some 12) rfl rfl (by kernel_rfl) (by kernel_rfl) (by kernel_rfl) (fun _ _ _ h => h) (Or.inl ⟨by rfl, ?_⟩) (by assumption) ?_
  rotate_left 1
  · (intro w0 hSw; (try dsimp only at hSw); go_simp; try (with_reducible rfl))
  try simp only [Act.put]
  try simp only [List.setIfInBounds_toArray]
  try simp only [List.set_cons_succ]
  try simp only [List.set_cons_zero]
  refine takeOp (i := 8) (v := ?_) (some 13) rfl rfl (by kernel_rfl) (by kernel_rfl) (by kernel_rfl) (fun _ _ _ h => h) (Or.inl ⟨by rfl, ?_⟩) (by assumption) ?_
  rotate_left 1
  · (intro w0 hSw; (try dsimp only at hSw); go_simp; try (with_reducible rfl))
  try simp only [Act.put]
  try simp only [List.setIfInBounds_toArray]
  try simp only [List.set_cons_succ]
  try simp only [List.set_cons_zero]
  refine takeOp (i := 9) (v := undef) (some 14) rfl rfl (by kernel_rfl) (by kernel_rfl) (by kernel_rfl) (fun _ _ _ h => h) (Or.inr ⟨by rfl, rfl⟩) (by assumption) ?_
  try simp only [Act.put]
  try simp only [List.setIfInBounds_toArray]
  try simp only [List.set_cons_succ]
  try simp only [List.set_cons_zero]
  refine takeOp (i := 10) (v := undef) (some 15) rfl rfl (by kernel_rfl) (by kernel_rfl) (by kernel_rfl) (fun _ _ _ h => h) (Or.inr ⟨by rfl, rfl⟩) (by assumption) ?_
  try simp only [Act.put]
  try simp only [List.setIfInBounds_toArray]
  try simp only [List.set_cons_succ]
  try simp only [List.set_cons_zero]
  refine takeOp (i := 11) (v := undef) (some 16) rfl rfl (by kernel_rfl) (by kernel_rfl) (by kernel_rfl) (fun _ _ _ h => h) (Or.inr ⟨by rfl, rfl⟩) (by assumption) ?_
  try simp only [Act.put]
  try simp only [List.setIfInBounds_toArray]
  try simp only [List.set_cons_succ]
  try simp only [List.set_cons_zero]
  refine takeOp (i := 12) (v := ?_) (some 17) rfl rfl (by kernel_rfl) (by kernel_rfl) (by kernel_rfl) (fun _ _ _ h => h) (Or.inl ⟨by rfl, ?_⟩) (by assumption) ?_
  rotate_left 1
  · (intro w0 hSw; (try dsimp only at hSw); go_simp; try (with_reducible rfl))
  try simp only [Act.put]
  try simp only [List.setIfInBounds_toArray]
  try simp only [List.set_cons_succ]
  try simp only [List.set_cons_zero]
  refine takeOp (i := 13) (v := ?_) (some 18) rfl rfl (by kernel_rfl) (by kernel_rfl) (by kernel_rfl) (fun _ _ _ h => h) (Or.inl ⟨by rfl, ?_⟩) (by assumption) ?_
  rotate_left 1
  · (intro w0 hSw; (try dsimp only at hSw); go_simp; try (with_reducible rfl))
  try simp only [Act.put]
  try simp only [List.setIfInBounds_toArray]
  try simp only [List.set_cons_succ]
  try simp only [List.set_cons_zero]
  refine takeOp (i := 14) (v := ?_) (some 19) rfl rfl (by kernel_rfl) (by kernel_rfl) (by kernel_rfl) (fun _ _ _ h => h) (Or.inl ⟨by rfl, ?_⟩) (by assumption) ?_
  rotate_left 1
  · (intro w0 hSw; (try dsimp only at hSw); go_simp; try (with_reducible rfl))
  try simp only [Act.put]
  try simp only [List.setIfInBounds_toArray]
  try simp only [List.set_cons_succ]
  try simp only [List.set_cons_zero]
  refine takeOp (i := 15) (v := ?_) (some 20) rfl rfl (by kernel_rfl) (by kernel_rfl) (by kernel_rfl) (fun _ _ _ h => h) (Or.inl ⟨by rfl, ?_⟩) (by assumption) ?_
  rotate_left 1
  · (intro w0 hSw; (try dsimp only at hSw); go_simp; try (with_reducible rfl))
  try simp only [Act.put]
  try simp only [List.setIfInBounds_toArray]
  try simp only [List.set_cons_succ]
  try simp only [List.set_cons_zero]
  refine takeOp (i := 16) (v := ?_) (some 21) rfl rfl (by kernel_rfl) (by kernel_rfl) (by kernel_rfl) (fun _ _ _ h => h) (Or.inl ⟨by rfl, ?_⟩) (by assumption) ?_
  rotate_left 1
  · (intro w0 hSw; (try dsimp only at hSw); go_simp; try (with_reducible rfl))
  try simp only [Act.put]
  try simp only [List.setIfInBounds_toArray]
  try simp only [List.set_cons_succ]
  try simp only [List.set_cons_zero]
  refine takeOp (i := 17) (v := ?_) (some 22) rfl rfl (by kernel_rfl) (by kernel_rfl) (by kernel_rfl) (fun _ _ _ h => h) (Or.inl ⟨by rfl, ?_⟩) (by assumption) ?_
  rotate_left 1
  · (intro w0 hSw; (try dsimp only at hSw); go_simp; try (with_reducible rfl))
  try simp only [Act.put]
  try simp only [List.setIfInBounds_toArray]
  try simp only [List.set_cons_succ]
  try simp only [List.set_cons_zero]
  refine takeOp (i := 18) (v := ?_) (some 23) rfl rfl (by kernel_rfl) (by kernel_rfl) (by kernel_rfl) (fun _ _ _ h => h) (Or.inl ⟨by rfl, ?_⟩) (by assumption) ?_
  rotate_left 1
  · (intro w0 hSw; (try dsimp only at hSw); go_simp; try (with_reducible rfl))
  try simp only [Act.put]
  try simp only [List.setIfInBounds_toArray]
  try simp only [List.set_cons_succ]
  try simp only [List.set_cons_zero]
  refine takeOp (i := 19) (v := ?_) (some 24) rfl rfl (by kernel_rfl) (by kernel_rfl) (by kernel_rfl) (fun _ _ _ h => h) (Or.inl ⟨by rfl, ?_⟩) (by assumption) ?_
  rotate_left 1
  · (intro w0 hSw; (try dsimp only at hSw); go_simp; try (with_reducible rfl))
  try simp only [Act.put]
  try simp only [List.setIfInBounds_toArray]
  try simp only [List.set_cons_succ]
  try simp only [List.set_cons_zero]
  refine takeOp (i := 20) (v := ?_) (some 25) rfl rfl (by kernel_rfl) (by kernel_rfl) (by kernel_rfl) (fun _ _ _ h => h) (Or.inl ⟨by rfl, ?_⟩) (by assumption) ?_
  rotate_left 1
  · (intro w0 hSw; (try dsimp only at hSw); go_simp; try (with_reducible rfl))
  try simp only [Act.put]
  try simp only [List.setIfInBounds_toArray]
  try simp only [List.set_cons_succ]
  try simp only [List.set_cons_zero]
  refine takeOp (i := 21) (v := ?_) (some 26) rfl rfl (by kernel_rfl) (by kernel_rfl) (by kernel_rfl) (fun _ _ _ h => h) (Or.inl ⟨by rfl, ?_⟩) (by assumption) ?_
  rotate_left 1
  · (intro w0 hSw; (try dsimp only at hSw); go_simp; try (with_reducible rfl))
  try simp only [Act.put]
  try simp only [List.setIfInBounds_toArray]
  try simp only [List.set_cons_succ]
  try simp only [List.set_cons_zero]
  refine takeOp (i := 22) (v := ?_) (some 27) rfl rfl (by kernel_rfl) (by kernel_rfl) (by kernel_rfl) (fun _ _ _ h => h) (Or.inl ⟨by rfl, ?_⟩) (by assumption) ?_
  rotate_left 1
  · (intro w0 hSw; (try dsimp only at hSw); go_simp; try (with_reducible rfl))
  try simp only [Act.put]
  try simp only [List.setIfInBounds_toArray]
  try simp only [List.set_cons_succ]
  try simp only [List.set_cons_zero]
  refine wpAnyH_ready (rs := [23]) (by kernel_rfl) (by simp) ?_
  refine AllReadyH.cons rfl (fun K hK => ?_) AllReadyH.nil
  go_simp
  refine (HDP.out _).mono ?_
  rintro e w2 ⟨rfl, hx0⟩
  have hx : Ext w w2 := (Ext.refl w).drew.trans hx0
  have KEEP2 : w2.cell? ⟨g, 0, none⟩ = some (.slice LA d C) ∧ w2.cell? ⟨g, 1, none⟩ = some (.int .i64 0) := ⟨(hx.cell hg).trans c0, (hx.cell hg).trans c1⟩
  have HX2 := Lib.hid hx
  clear hx hx0
  go_wp2_with fail
  refine hK.out _ _ KEEP2 (fun hHeld => ?_)
  clear hK K
  try simp only [Act.put]
  try simp only [List.setIfInBounds_toArray]
  try simp only [List.set_cons_succ]
  try simp only [List.set_cons_zero]
  refine takeOp (i := 24) (v := ?_) (some 29) rfl rfl (by kernel_rfl) (by kernel_rfl) (by kernel_rfl) (fun _ _ _ h => h) (Or.inl ⟨by rfl, ?_⟩) (by assumption) ?_
  rotate_left 1
  · (intro w0 hSw; (try dsimp only at hSw); go_simp; try (with_reducible rfl))
  try simp only [Act.put]
  try simp only [List.setIfInBounds_toArray]
  try simp only [List.set_cons_succ]
  try simp only [List.set_cons_zero]
  refine takeOp (i := 25) (v := ?_) (some 30) rfl rfl (by kernel_rfl) (by kernel_rfl) (by kernel_rfl) (fun _ _ _ h => h) (Or.inl ⟨by rfl, ?_⟩) (by assumption) ?_
  rotate_left 1
  · (intro w0 hSw; (try dsimp only at hSw); go_simp; try (with_reducible rfl))
  try simp only [Act.put]
  try simp only [List.setIfInBounds_toArray]
  try simp only [List.set_cons_succ]
  try simp only [List.set_cons_zero]
  refine wpAnyH_done (by kernel_rfl) ?_ _
  obtain ⟨k0, k1⟩ := KEEP2
  go_wp2_with fail
  refine (HSZ.out w2 HX2.out).mono ?_
  rintro e w3 ⟨rfl, hx0⟩
  have hx3 : Ext w w3 := HX2.out.trans hx0
  obtain ⟨W4, hW4⟩ : ∃ W4, W4 = w3.alloc (.cells #[.int .i64 0, .int .i64 n] 68) := ⟨_, rfl⟩
  have hx4 : Ext w W4 := by rw [hW4]; exact hx3.alloc _
  have hr4 : Row W4 w3.heap.size 68 [.int .i64 0, .int .i64 n] := by rw [hW4]; exact Row.new w3 68 [.int .i64 0, .int .i64 n]
  have m1 : w3.cell? ⟨g, 1, none⟩ = some (.int .i64 0) := (hx3.cell hg).trans c1
  have hg3 : g < w3.heap.size := Nat.lt_of_lt_of_le hg hx3.size
  have HX4 := Lib.hid hx4
  have HR4 := Lib.hid hr4
  clear k0 k1 hx0 hx3 hx4 hr4 HSZ HDP
  go_wp2
  rw [← hW4]
  have hi4 := HI.out.ext HX4.out
  have p1 : W4.cell? ⟨g, 1, none⟩ = some (.int .i64 0) := (HX4.out.cell hg).trans c1
  have p2 := hi4.c2
  have p3 := hi4.c3
  have hab := hi4.ca (j := 0) (by omega)
  simp only [Nat.zero_mul, Nat.add_zero] at hab
  obtain ⟨q0, q1⟩ := hab
  have fr4 := hi4.fr 4
  have fr5 := hi4.fr 5
  have fz1 := hi4.fr 1
  have fz2 := hi4.fr 2
  have fz3 := hi4.fr 3
  have s0 : W4.cell? ⟨w3.heap.size, 0, none⟩ = some (.int .i64 0) := HR4.out.cell 0
  have s1 : W4.cell? ⟨w3.heap.size, 1, none⟩ = some (.int .i64 n) := HR4.out.cell 1
  have ne1 : ¬ (w3.heap.size = g) := by omega
  have ne2 : ¬ (g = w3.heap.size) := by omega
  have HI4 := Lib.hid hi4
  clear hi4 hW4 m1
  go_still_tail 12, (by kernel_rfl)
  go_wp2
  go_ret
  refine ⟨rfl, ?_, ?_⟩
  · have h := (((HI4.out.setAb (k := 0) (by omega) t.pos t.fin).setPos 0).setFin n).setL 1
    unfold openT
    rw [HL.out]
    exact h
  · exact grown_trans (HX4.out.grown _) (grown_trans (grown_set W4 g 4 _) (grown_trans (grown_set _ g 5 _) (grown_trans (grown_set _ g 2 _) (grown_trans (grown_set _ g 3 _) (grown_trans (grown_set _ g 1 _) ((Ext.refl _).drew.grown _))))))

end Go.Proofs.Ytlcammcifjihpaa
end

section
/- Walk: Open below the root. -/
namespace Go.Proofs.Ytlcammcifjihpaa
open Go.RowKit Go.Sort

set_option maxHeartbeats 8000000 in
set_option maxRecDepth 100000 in
/-- Open at a value that has children. -/
theorem tiOpen_down (B g : Nat) (LA : Option Addr) (d C : Nat) (vs : Nat → RL.R) (fs : Nat → List Nat) (t : It) (w : World) (h : TrM B w LA d vs fs) (hB : B ≤ w.heap.size) (hi : ItM w g LA d C t) (hL : 0 < t.L) (hLd : t.L < d) (hd : d ≤ 32) (hn : onV t = true) (hv : (vs 0).length ≤ 1000000) (hp : t.pos + 1 < (fs (t.L - 1)).length) (hfl : (fs (t.L - 1)).length ≤ 1000001) (hab : ((fs (t.L - 1))[t.pos]'(by omega)) ≠ (fs (t.L - 1))[t.pos + 1]) :
    Calls Try.prog 12 #[.pointer (some ⟨g, 0, none⟩)] w fun e w' => e = .returned (.bool true) ∧ ItM w' g LA d C (openT t (((fs (t.L - 1))[t.pos]'(by omega)), (fs (t.L - 1))[t.pos + 1])) ∧ w.grownBy w' (some g) := by
  have c0 := hi.c0
  have c1 := hi.c1
  have c2 := hi.c2
  have hg := hi.lt
  have HDP := Lib.hid (fun W => trDepth_any LA d C W)
  have HC := Lib.hid (fun W (h : ItM W g LA d C t) => tiOnV_any g LA d C t W h)
  rw [hn] at HC
  have HSZ := Lib.hid (fun (W : World) (hx : Ext w W) => trSize_any B LA d C vs fs 0 W (h.below hx.below hB) (Nat.le_trans hB hx.size) (by omega) (by omega))
  have hsz : sizeF d vs 0 ≤ 1000000 := by unfold sizeF; split <;> omega
  generalize sizeF d vs 0 = n at *
  have HI := Lib.hid hi
  obtain ⟨b, o, VA, VC, FA, FC, rfl, hb, -, h4, -, -, -, h8⟩ := h (t.L - 1) (by omega)
  obtain ⟨b2, o2, rfl, hb2, e1⟩ := slN_at h8 (i := t.pos) (by omega)
  obtain ⟨b2', o2', e, -, e2⟩ := slN_at h8 (i := t.pos + 1) hp
  simp only [Option.some.injEq, Addr.mk.injEq] at e
  obtain ⟨rfl, rfl, -⟩ := e
  have hbz : b < w.heap.size := by omega
  have hbz2 : b2 < w.heap.size := by omega
  generalize ((fs (t.L - 1))[t.pos]'(by omega)) = ca at *
  generalize (fs (t.L - 1))[t.pos + 1] = cf at *
  generalize (fs (t.L - 1)).length = m at *
  obtain ⟨k, hk⟩ : ∃ k, t.L = k + 1 := ⟨t.L - 1, by omega⟩
  have HL := Lib.hid hk
  rw [hk] at c1 h4 hLd
  rw [Nat.add_sub_cancel] at h4
  rw [Int.natCast_add, Int.natCast_one] at c1
  have HP := Lib.hid hp
  have hpp : t.pos + 1 < m := hp
  rw [← Nat.add_assoc] at e2
  generalize hpos : t.pos = ps at *
  have HPOS := Lib.hid hpos
  have hcacf : ((ca : Int) == (cf : Int)) = false := by simp; omega
  clear hi hL h h8 hn hp hab hk hpos
  have hw1 : IntKind.i64.wrap (k : Int) = (k : Int) := IntWalk.i64_in _ (by omega)
  have g1 : (0 : Int) ≤ (k : Int) := by omega
  have g2 : (k : Int) < (d : Int) := by omega
  have g3 : (0 : Int) ≤ (ps : Int) := by omega
  have g4 : (ps : Int) < (m : Int) := by omega
  have g5 : (0 : Int) ≤ (ps : Int) + 1 := by omega
  have g6 : (ps : Int) + 1 < (m : Int) := by omega
  have g7 : ((ps : Int) + 1).toNat = ps + 1 := by omega
  have g8 : IntKind.i64.wrap ((ps : Int) + 1) = (ps : Int) + 1 := IntWalk.i64_in _ (by omega)
  go_enter Try.func12, Try.ntmps12
  go_wp2
  refine wp_region_held_drew (S := (fun w' => w'.cell? ⟨g, 0, none⟩ = some (.slice (some ⟨b, o, none⟩) d C) ∧ w'.cell? ⟨g, 1, none⟩ = some (.int .i64 ((k : Int) + 1)))) (by kernel_rfl) ⟨c0, c1⟩ (fun hHeld => ?_)
  refine takeOp (i := 0) (v := ?_) (some 5) rfl rfl (by kernel_rfl) (by kernel_rfl) (by kernel_rfl) (fun _ _ _ h => h) (Or.inl ⟨by rfl, ?_⟩) (by assumption) ?_
  rotate_left 1
  · (intro w0 hSw; (try dsimp only at hSw); go_simp; try (with_reducible rfl))
  try simp only [Act.put]
  try simp only [List.setIfInBounds_toArray]
  try simp only [List.set_cons_succ]
  try simp only [List.set_cons_zero]
  refine takeOp (i := 1) (v := ?_) (some 6) rfl rfl (by kernel_rfl) (by kernel_rfl) (by kernel_rfl) (fun _ _ _ h => h) (Or.inl ⟨by rfl, ?_⟩) (by assumption) ?_
  rotate_left 1
  · (intro w0 hSw; (try dsimp only at hSw); go_simp; try (with_reducible rfl))
  try simp only [Act.put]
  try simp only [List.setIfInBounds_toArray]
  try simp only [List.set_cons_succ]
  try simp only [List.set_cons_zero]
  refine takeOp (i := 2) (v := ?_) (some 7) rfl rfl (by kernel_rfl) (by kernel_rfl) (by kernel_rfl) (fun _ _ _ h => h) (Or.inl ⟨by rfl, ?_⟩) (by assumption) ?_
  rotate_left 1
  · (intro w0 hSw; (try dsimp only at hSw); go_simp; try (with_reducible rfl))
  try simp only [Act.put]
  try simp only [List.setIfInBounds_toArray]
  try simp only [List.set_cons_succ]
  try simp only [List.set_cons_zero]
  refine takeOp (i := 3) (v := ?_) (some 8) rfl rfl (by kernel_rfl) (by kernel_rfl) (by kernel_rfl) (fun _ _ _ h => h) (Or.inl ⟨by rfl, ?_⟩) (by assumption) ?_
  rotate_left 1
  · (intro w0 hSw; (try dsimp only at hSw); go_simp; try (with_reducible rfl))
  try simp only [Act.put]
  try simp only [List.setIfInBounds_toArray]
  try simp only [List.set_cons_succ]
  try simp only [List.set_cons_zero]
  refine takeOp (i := 4) (v := ?_) (some 9) rfl rfl (by kernel_rfl) (by kernel_rfl) (by kernel_rfl) (fun _ _ _ h => h) (Or.inl ⟨by rfl, ?_⟩) (by assumption) ?_
  rotate_left 1
  · (intro w0 hSw; (try dsimp only at hSw); go_simp; try (with_reducible rfl))
  try simp only [Act.put]
  try simp only [List.setIfInBounds_toArray]
  try simp only [List.set_cons_succ]
  try simp only [List.set_cons_zero]
  refine takeOp (i := 5) (v := ?_) (some 10) rfl rfl (by kernel_rfl) (by kernel_rfl) (by kernel_rfl) (fun _ _ _ h => h) (Or.inl ⟨by rfl, ?_⟩) (by assumption) ?_
  rotate_left 1
  · (intro w0 hSw; (try dsimp only at hSw); go_simp; try (with_reducible rfl))
  try simp only [Act.put]
  try simp only [List.setIfInBounds_toArray]
  try simp only [List.set_cons_succ]
  try simp only [List.set_cons_zero]
  refine takeOp (i := 6) (v := ?_) (some 11) rfl rfl (by kernel_rfl) (by kernel_rfl) (by kernel_rfl) (fun _ _ _ h => h) (Or.inl ⟨by rfl, ?_⟩) (by assumption) ?_
  rotate_left 1
  · (intro w0 hSw; (try dsimp only at hSw); go_simp; try (with_reducible rfl))
  try simp only [Act.put]
  try simp only [List.setIfInBounds_toArray]
  try simp only [List.set_cons_succ]
  try simp only [List.set_cons_zero]
  refine takeOp (i := 7) (v := ?_) (some 12) rfl rfl (by kernel_rfl) (by kernel_rfl) (by kernel_rfl) (fun _ _ _ h => h) (Or.inl ⟨by rfl, ?_⟩) (by assumption) ?_
  rotate_left 1
  · (intro w0 hSw; (try dsimp only at hSw); go_simp; try (with_reducible rfl))
  try simp only [Act.put]
  try simp only [List.setIfInBounds_toArray]
  try simp only [List.set_cons_succ]
  try simp only [List.set_cons_zero]
  refine takeOp (i := 8) (v := ?_) (some 13) rfl rfl (by kernel_rfl) (by kernel_rfl) (by kernel_rfl) (fun _ _ _ h => h) (Or.inl ⟨by rfl, ?_⟩) (by assumption) ?_
  rotate_left 1
  · (intro w0 hSw; (try dsimp only at hSw); go_simp; try (with_reducible rfl))
  try simp only [Act.put]
  try simp only [List.setIfInBounds_toArray]
  try simp only [List.set_cons_succ]
  try simp only [List.set_cons_zero]
  refine takeOp (i := 9) (v := ?_) (some 14) rfl rfl (by kernel_rfl) (by kernel_rfl) (by kernel_rfl) (fun _ _ _ h => h) (Or.inl ⟨by rfl, ?_⟩) (by assumption) ?_
  rotate_left 1
  · (intro w0 hSw; (try dsimp only at hSw); go_simp; try (with_reducible rfl))
  try simp only [Act.put]
  try simp only [List.setIfInBounds_toArray]
  try simp only [List.set_cons_succ]
  try simp only [List.set_cons_zero]
  refine wpAnyH_ready (rs := [10]) (by kernel_rfl) (by simp) ?_
  refine AllReadyH.cons rfl (fun K hK => ?_) AllReadyH.nil
  go_simp
  refine (HC.out _ (HI.out.ext (Ext.refl w).drew)).mono ?_
  rintro e w1 ⟨rfl, hx0⟩
  have hx : Ext w w1 := (Ext.refl w).drew.trans hx0
  have KEEP : w1.cell? ⟨g, 0, none⟩ = some (.slice (some ⟨b, o, none⟩) d C) ∧ w1.cell? ⟨g, 1, none⟩ = some (.int .i64 ((k : Int) + 1)) := ⟨(hx.cell hg).trans c0, (hx.cell hg).trans c1⟩
  have HX := Lib.hid hx
  clear hx hx0
  go_wp2_with fail
  refine hK.out _ _ KEEP (fun hHeld => ?_)
  clear hK K
  try simp only [Act.put]
  try simp only [List.setIfInBounds_toArray]
  try simp only [List.set_cons_succ]
  try simp only [List.set_cons_zero]
  refine takeOp (i := 11) (v := ?_) (some 16) rfl rfl (by kernel_rfl) (by kernel_rfl) (by kernel_rfl) (fun _ _ _ h => h) (Or.inl ⟨by rfl, ?_⟩) (by assumption) ?_
  rotate_left 1
  · (intro w0 hSw; (try dsimp only at hSw); go_simp; try (with_reducible rfl))
  try simp only [Act.put]
  try simp only [List.setIfInBounds_toArray]
  try simp only [List.set_cons_succ]
  try simp only [List.set_cons_zero]
  refine takeOp (i := 12) (v := ?_) (some 17) rfl rfl (by kernel_rfl) (by kernel_rfl) (by kernel_rfl) (fun _ _ _ h => h) (Or.inl ⟨by rfl, ?_⟩) (by assumption) ?_
  rotate_left 1
  · (intro w0 hSw; (try dsimp only at hSw); go_simp; try (with_reducible rfl))
  try simp only [Act.put]
  try simp only [List.setIfInBounds_toArray]
  try simp only [List.set_cons_succ]
  try simp only [List.set_cons_zero]
  refine takeOp (i := 13) (v := ?_) (some 18) rfl rfl (by kernel_rfl) (by kernel_rfl) (by kernel_rfl) (fun _ _ _ h => h) (Or.inl ⟨by rfl, ?_⟩) (by assumption) ?_
  rotate_left 1
  · (intro w0 hSw; (try dsimp only at hSw); go_simp; try (with_reducible rfl))
  try simp only [Act.put]
  try simp only [List.setIfInBounds_toArray]
  try simp only [List.set_cons_succ]
  try simp only [List.set_cons_zero]
  refine takeOp (i := 14) (v := ?_) (some 19) rfl rfl (by kernel_rfl) (by kernel_rfl) (by kernel_rfl) (fun _ _ _ h => h) (Or.inl ⟨by rfl, ?_⟩) (by assumption) ?_
  rotate_left 1
  · (intro w0 hSw; (try dsimp only at hSw); go_simp; try (with_reducible rfl))
  try simp only [Act.put]
  try simp only [List.setIfInBounds_toArray]
  try simp only [List.set_cons_succ]
  try simp only [List.set_cons_zero]
  refine takeOp (i := 15) (v := ?_) (some 20) rfl rfl (by kernel_rfl) (by kernel_rfl) (by kernel_rfl) (fun _ _ _ h => h) (Or.inl ⟨by rfl, ?_⟩) (by assumption) ?_
  rotate_left 1
  · (intro w0 hSw; (try dsimp only at hSw); go_simp; try (with_reducible rfl))
  try simp only [Act.put]
  try simp only [List.setIfInBounds_toArray]
  try simp only [List.set_cons_succ]
  try simp only [List.set_cons_zero]
  refine takeOp (i := 16) (v := ?_) (some 21) rfl rfl (by kernel_rfl) (by kernel_rfl) (by kernel_rfl) (fun _ _ _ h => h) (Or.inl ⟨by rfl, ?_⟩) (by assumption) ?_
  rotate_left 1
  · (intro w0 hSw; (try dsimp only at hSw); go_simp; try (with_reducible rfl))
  try simp only [Act.put]
  try simp only [List.setIfInBounds_toArray]
  try simp only [List.set_cons_succ]
  try simp only [List.set_cons_zero]
  refine takeOp (i := 17) (v := ?_) (some 22) rfl rfl (by kernel_rfl) (by kernel_rfl) (by kernel_rfl) (fun _ _ _ h => h) (Or.inl ⟨by rfl, ?_⟩) (by assumption) ?_
  rotate_left 1
  · (intro w0 hSw; (try dsimp only at hSw); go_simp; try (with_reducible rfl))
  try simp only [Act.put]
  try simp only [List.setIfInBounds_toArray]
  try simp only [List.set_cons_succ]
  try simp only [List.set_cons_zero]
  refine takeOp (i := 18) (v := ?_) (some 23) rfl rfl (by kernel_rfl) (by kernel_rfl) (by kernel_rfl) (fun _ _ _ h => h) (Or.inl ⟨by rfl, ?_⟩) (by assumption) ?_
  rotate_left 1
  · (intro w0 hSw; (try dsimp only at hSw); go_simp; try (with_reducible rfl))
  try simp only [Act.put]
  try simp only [List.setIfInBounds_toArray]
  try simp only [List.set_cons_succ]
  try simp only [List.set_cons_zero]
  refine takeOp (i := 19) (v := ?_) (some 24) rfl rfl (by kernel_rfl) (by kernel_rfl) (by kernel_rfl) (fun _ _ _ h => h) (Or.inl ⟨by rfl, ?_⟩) (by assumption) ?_
  rotate_left 1
  · (intro w0 hSw; (try dsimp only at hSw); go_simp; try (with_reducible rfl))
  try simp only [Act.put]
  try simp only [List.setIfInBounds_toArray]
  try simp only [List.set_cons_succ]
  try simp only [List.set_cons_zero]
  refine takeOp (i := 20) (v := ?_) (some 25) rfl rfl (by kernel_rfl) (by kernel_rfl) (by kernel_rfl) (fun _ _ _ h => h) (Or.inl ⟨by rfl, ?_⟩) (by assumption) ?_
  rotate_left 1
  · (intro w0 hSw; (try dsimp only at hSw); go_simp; try (with_reducible rfl))
  try simp only [Act.put]
  try simp only [List.setIfInBounds_toArray]
  try simp only [List.set_cons_succ]
  try simp only [List.set_cons_zero]
  refine takeOp (i := 21) (v := ?_) (some 26) rfl rfl (by kernel_rfl) (by kernel_rfl) (by kernel_rfl) (fun _ _ _ h => h) (Or.inl ⟨by rfl, ?_⟩) (by assumption) ?_
  rotate_left 1
  · (intro w0 hSw; (try dsimp only at hSw); go_simp; try (with_reducible rfl))
  try simp only [Act.put]
  try simp only [List.setIfInBounds_toArray]
  try simp only [List.set_cons_succ]
  try simp only [List.set_cons_zero]
  refine takeOp (i := 22) (v := ?_) (some 27) rfl rfl (by kernel_rfl) (by kernel_rfl) (by kernel_rfl) (fun _ _ _ h => h) (Or.inl ⟨by rfl, ?_⟩) (by assumption) ?_
  rotate_left 1
  · (intro w0 hSw; (try dsimp only at hSw); go_simp; try (with_reducible rfl))
  try simp only [Act.put]
  try simp only [List.setIfInBounds_toArray]
  try simp only [List.set_cons_succ]
  try simp only [List.set_cons_zero]
  refine wpAnyH_ready (rs := [23]) (by kernel_rfl) (by simp) ?_
  refine AllReadyH.cons rfl (fun K hK => ?_) AllReadyH.nil
  go_simp
  refine (HDP.out _).mono ?_
  rintro e w2 ⟨rfl, hx0⟩
  have hx : Ext w w2 := HX.out.trans hx0
  have KEEP2 : w2.cell? ⟨g, 0, none⟩ = some (.slice (some ⟨b, o, none⟩) d C) ∧ w2.cell? ⟨g, 1, none⟩ = some (.int .i64 ((k : Int) + 1)) := ⟨(hx.cell hg).trans c0, (hx.cell hg).trans c1⟩
  have HX2 := Lib.hid hx
  clear hx hx0
  go_wp2_with fail
  refine hK.out _ _ KEEP2 (fun hHeld => ?_)
  clear hK K
  try simp only [Act.put]
  try simp only [List.setIfInBounds_toArray]
  try simp only [List.set_cons_succ]
  try simp only [List.set_cons_zero]
  refine takeOp (i := 24) (v := ?_) (some 29) rfl rfl (by kernel_rfl) (by kernel_rfl) (by kernel_rfl) (fun _ _ _ h => h) (Or.inl ⟨by rfl, ?_⟩) (by assumption) ?_
  rotate_left 1
  · (intro w0 hSw; (try dsimp only at hSw); go_simp; try (with_reducible rfl))
  try simp only [Act.put]
  try simp only [List.setIfInBounds_toArray]
  try simp only [List.set_cons_succ]
  try simp only [List.set_cons_zero]
  refine takeOp (i := 25) (v := ?_) (some 30) rfl rfl (by kernel_rfl) (by kernel_rfl) (by kernel_rfl) (fun _ _ _ h => h) (Or.inl ⟨by rfl, ?_⟩) (by assumption) ?_
  rotate_left 1
  · (intro w0 hSw; (try dsimp only at hSw); go_simp; try (with_reducible rfl))
  try simp only [Act.put]
  try simp only [List.setIfInBounds_toArray]
  try simp only [List.set_cons_succ]
  try simp only [List.set_cons_zero]
  refine wpAnyH_done (by kernel_rfl) ?_ _
  obtain ⟨k0, k1⟩ := KEEP2
  clear KEEP
  go_wp2_with fail
  refine (HSZ.out w2 HX2.out).mono ?_
  rintro e w3 ⟨rfl, hx0⟩
  have hx3 : Ext w w3 := HX2.out.trans hx0
  obtain ⟨W4, hW4⟩ : ∃ W4, W4 = w3.alloc (.cells #[.int .i64 0, .int .i64 n] 68) := ⟨_, rfl⟩
  have hx4 : Ext w W4 := by rw [hW4]; exact hx3.alloc _
  have hr4 : Row W4 w3.heap.size 68 [.int .i64 0, .int .i64 n] := by rw [hW4]; exact Row.new w3 68 [.int .i64 0, .int .i64 n]
  have m1 : w3.cell? ⟨g, 1, none⟩ = some (.int .i64 ((k : Int) + 1)) := (hx3.cell hg).trans c1
  have hg3 : g < w3.heap.size := Nat.lt_of_lt_of_le hg hx3.size
  have hx3z := hx3.size
  have HX4 := Lib.hid hx4
  have HR4 := Lib.hid hr4
  clear k0 k1 hx0 hx3 hx4 hr4 HSZ HDP
  go_wp2
  rw [← hW4]
  clear hW4 m1
  have x0 : W4.cell? ⟨g, 0, none⟩ = some (.slice (some ⟨b, o, none⟩) d C) := (HX4.out.cell hg).trans c0
  have x1 : W4.cell? ⟨g, 1, none⟩ = some (.int .i64 ((k : Int) + 1)) := (HX4.out.cell hg).trans c1
  have x2 : W4.cell? ⟨g, 2, none⟩ = some (.int .i64 (ps : Int)) := (HX4.out.cell hg).trans c2
  have y4 : W4.cell? ⟨b, o + k * 2 + 1, none⟩ = some (.slice (some ⟨b2, o2, none⟩) m FC) := (HX4.out.cell hbz).trans h4
  have y1 : W4.cell? ⟨b2, o2 + ps, none⟩ = some (.int .i64 (ca : Int)) := (HX4.out.cell hbz2).trans e1
  have y2 : W4.cell? ⟨b2, o2 + ps + 1, none⟩ = some (.int .i64 (cf : Int)) := (HX4.out.cell hbz2).trans e2
  have s0 : W4.cell? ⟨w3.heap.size, 0, none⟩ = some (.int .i64 0) := HR4.out.cell 0
  have s1 : W4.cell? ⟨w3.heap.size, 1, none⟩ = some (.int .i64 n) := HR4.out.cell 1
  have z0 := HR4.out.frozen 0
  have z1 := HR4.out.frozen 1
  go_quiet (fail)
  go_wp2
  obtain ⟨W5, hW5⟩ : ∃ W5, W5 = W4.drewN nq := ⟨_, rfl⟩
  rw [← hW5]
  have hx5 : Ext w W5 := by rw [hW5]; exact HX4.out.drewN _
  have hr5 : Row W5 w3.heap.size 68 [.int .i64 0, .int .i64 n] := by rw [hW5]; exact HR4.out.drewN _
  have HX5 := Lib.hid hx5
  have HR5 := Lib.hid hr5
  clear x0 x1 x2 y4 y1 y2 s0 s1 z0 z1 hx5 hr5 hW5 HX4 HR4
  have x0 : W5.cell? ⟨g, 0, none⟩ = some (.slice (some ⟨b, o, none⟩) d C) := (HX5.out.cell hg).trans c0
  have x1 : W5.cell? ⟨g, 1, none⟩ = some (.int .i64 ((k : Int) + 1)) := (HX5.out.cell hg).trans c1
  have x2 : W5.cell? ⟨g, 2, none⟩ = some (.int .i64 (ps : Int)) := (HX5.out.cell hg).trans c2
  have y1 : W5.cell? ⟨b2, o2 + ps, none⟩ = some (.int .i64 (ca : Int)) := (HX5.out.cell hbz2).trans e1
  have y2 : W5.cell? ⟨b2, o2 + ps + 1, none⟩ = some (.int .i64 (cf : Int)) := (HX5.out.cell hbz2).trans e2
  have y3 : W5.cell? ⟨b2, o2 + (ps + 1), none⟩ = some (.int .i64 (cf : Int)) := y2
  have s0 : W5.cell? ⟨w3.heap.size, 0, none⟩ = some (.int .i64 0) := HR5.out.cell 0
  have s1 : W5.cell? ⟨w3.heap.size, 1, none⟩ = some (.int .i64 n) := HR5.out.cell 1
  have z0 := HR5.out.frozen 0
  have z1 := HR5.out.frozen 1
  go_still_tail 18, (by kernel_rfl)
  go_wp2
  obtain ⟨W6, hW6⟩ : ∃ W6, W6 = ((W5.setCell ⟨w3.heap.size, 0, none⟩ (.int .i64 (ca : Int))).setCell ⟨w3.heap.size, 1, none⟩ (.int .i64 (cf : Int))).drew := ⟨_, rfl⟩
  rw [← hW6]
  have hb6 : Below w3.heap.size w3 W6 → True := fun _ => trivial
  have hi6 : ItM W6 g (some ⟨b, o, none⟩) d C t := by
    rw [hW6]
    obtain ⟨xs, q1, q2⟩ := HI.out.ext HX5.out
    exact ⟨xs, ((q1.far (p := ⟨w3.heap.size, 0, none⟩) (by show g ≠ w3.heap.size; omega) _).far (p := ⟨w3.heap.size, 1, none⟩) (by show g ≠ w3.heap.size; omega) _).drew, q2⟩
  have hr6 : Row W6 w3.heap.size 68 [.int .i64 ca, .int .i64 cf] := by rw [hW6]; exact (HR5.out.set2 _ _).drew
  have hgr6 : w.grownBy W6 (some g) := by
    rw [hW6]
    exact grown_of_below (((HX5.out.below.setCell (p := ⟨w3.heap.size, 0, none⟩) hx3z _).setCell (p := ⟨w3.heap.size, 1, none⟩) hx3z _).drew) _
  have HI6 := Lib.hid hi6
  have HGR6 := Lib.hid hgr6
  clear x0 x1 x2 y1 y2 y3 s0 s1 z0 z1 hW6 HX5 HR5 hb6 hgr6
  have k32 : k + 1 < 32 := by omega
  have x1 : W6.cell? ⟨g, 1, none⟩ = some (.int .i64 ((k : Int) + 1)) := by have h := hi6.c1; rw [HL.out, Int.natCast_add, Int.natCast_one] at h; exact h
  have x2 := hi6.c2
  have x3 := hi6.c3
  obtain ⟨q0, q1⟩ := hi6.ca k32
  have s0 : W6.cell? ⟨w3.heap.size, 0, none⟩ = some (.int .i64 ca) := hr6.cell 0
  have s1 : W6.cell? ⟨w3.heap.size, 1, none⟩ = some (.int .i64 cf) := hr6.cell 1
  have f1 := hi6.fr 1
  have f2 := hi6.fr 2
  have f3 := hi6.fr 3
  have f4 := hi6.fr (4 + (k + 1) * 2)
  have f5 := hi6.fr (4 + (k + 1) * 2 + 1)
  have ne1 : ¬ (w3.heap.size = g) := by omega
  have ne2 : ¬ (g = w3.heap.size) := by omega
  have j1 : (0 : Int) ≤ (k : Int) + 1 := by omega
  have j2 : (k : Int) + 1 < 32 := by omega
  have j3 : ((k : Int) + 1).toNat = k + 1 := by omega
  have hlt6 := hr6.lt
  clear hi6 hr6
  go_still_tail 12, (by kernel_rfl)
  go_wp2
  go_ret
  refine ⟨rfl, ?_, ?_⟩
  · have h := (((HI6.out.setAb (k := k + 1) k32 t.pos t.fin).setPos ca).setFin cf).setL (k + 2)
    unfold openT
    rw [HL.out]
    exact h
  · exact grown_trans HGR6.out (grown_trans (grown_set W6 g (4 + (k + 1) * 2) _) (grown_trans (grown_set _ g (4 + (k + 1) * 2 + 1) _) (grown_trans (grown_set _ g 2 _) (grown_trans (grown_set _ g 3 _) (grown_trans (grown_set _ g 1 _) ((Ext.refl _).drew.grown _))))))

end Go.Proofs.Ytlcammcifjihpaa
end

section
/- Walk: Seek. -/
namespace Go.Proofs.Ytlcammcifjihpaa
open Go.RowKit Go.Sort

theorem tiSeek_nil (v : RL.V) (w : World) : Calls Try.prog 14 #[.pointer none, vv v] w fun e w' => e = .returned (.bool false) ∧ Ext w w' := by
  have HC := Lib.hid (fun W => tiOnValue_nil W)
  go_enter Try.func14, Try.ntmps14
  go_wp2_with fail
  refine (HC.out _).mono ?_
  rintro e w1 ⟨rfl, hx⟩
  have HX := Lib.hid (((Ext.refl w).alloc _).trans hx)
  clear hx
  go_wp2
  go_ret
  exact ⟨rfl, HX.out⟩
theorem tiSeek_no (g : Nat) (LA : Option Addr) (d C : Nat) (t : It) (v : RL.V) (w : World) (hi : ItM w g LA d C t) (hn : onV t = false) :
    Calls Try.prog 14 #[.pointer (some ⟨g, 0, none⟩), vv v] w fun e w' => e = .returned (.bool false) ∧ Ext w w' := by
  have HC := Lib.hid (fun W (h : ItM W g LA d C t) => tiOnV_any g LA d C t W h)
  rw [hn] at HC
  have HI := Lib.hid hi
  clear hi hn
  go_enter Try.func14, Try.ntmps14
  go_wp2_with fail
  refine (HC.out _ (HI.out.ext ((Ext.refl w).alloc _))).mono ?_
  rintro e w1 ⟨rfl, hx⟩
  have HX := Lib.hid (((Ext.refl w).alloc _).trans hx)
  clear hx
  go_wp2
  go_ret
  exact ⟨rfl, HX.out⟩

/-- The value at place j of X is less than v. -/
def ltF (X : RL.R) (v : RL.V) (j : Nat) : Bool := decide (RL.cmpV (X.getD j default) v < 0)
/-- What Seek leaves: the first place from pos on whose value is not less than v. -/
def SeekPost (w : World) (g : Nat) (LA : Option Addr) (d C : Nat) (X : RL.R) (v : RL.V) (t : It) (e : Ending) (w' : World) : Prop :=
  ∃ q s, e = .returned (.bool (decide (q < t.fin))) ∧ ItM w' g LA d C { t with pos := q, steps := s } ∧ t.pos ≤ q ∧ q ≤ t.fin ∧ (∀ j, t.pos ≤ j → j < q → ltF X v j = true) ∧ (q < t.fin → ltF X v q = false) ∧ s ≤ t.steps + 2 * t.fin + 2 ∧ w.grownBy w' (some g)

set_option maxHeartbeats 8000000 in
set_option maxRecDepth 100000 in
theorem tiSeek_yes (B g : Nat) (LA : Option Addr) (d C : Nat) (vs : Nat → RL.R) (fs : Nat → List Nat) (t : It) (v : RL.V) (w : World) (h : TrM B w LA d vs fs) (hB : B ≤ w.heap.size) (hBg : B ≤ g) (hi : ItM w g LA d C t) (hd : d ≤ 1000000) (hn : onV t = true) (hok : ItOk d vs t) (hst : t.steps ≤ 100000000000000000)
    (hmono : ∀ j k, t.pos ≤ j → j ≤ k → k < t.fin → ltF (vs (t.L - 1)) v k = true → ltF (vs (t.L - 1)) v j = true) :
    Calls Try.prog 14 #[.pointer (some ⟨g, 0, none⟩), vv v] w (SeekPost w g LA d C (vs (t.L - 1)) v t) := by
  obtain ⟨hL, hpf⟩ := onV_true.1 hn
  obtain ⟨hfl, hxl⟩ := hok.2 hL
  have hg := hi.lt
  obtain ⟨W0, hW0⟩ : ∃ W0, W0 = w.alloc (.cells #[.int .i64 v.kind, .int .i64 v.int, .string v.str] 38) := ⟨_, rfl⟩
  have hx0 : Ext w W0 := by rw [hW0]; exact (Ext.refl w).alloc _
  have hr0 : Row W0 w.heap.size 38 (vcells v) := by rw [hW0]; exact Row.new w 38 (vcells v)
  have HC := Lib.hid (tiOnV_any g LA d C t W0 (hi.ext hx0))
  rw [hn] at HC
  have HLS := Lib.hid (fun (W : World) (s p : Nat) (hW : w.grownBy W (some g)) (hI : ItM W g LA d C { t with steps := s }) (hs : s ≤ 1000000000000000000) (hp : p < t.fin) => (tiLess_any B g LA d C vs fs { t with steps := s } p v W (h.grown hW hBg hB) (Nat.le_trans hB hW.size) hBg hI hd hL hok.1 (show p < (vs (t.L - 1)).length by omega) hxl hs).mono (fun e w' q => (⟨by rw [q.1]; unfold ltF; rw [List.getD_eq_getElem?_getD, List.getElem?_eq_getElem (show p < (vs (t.L - 1)).length by omega)]; rfl, q.2⟩ : e = .returned (.bool (ltF (vs (t.L - 1)) v p)) ∧ ItM w' g LA d C { t with steps := s + 1 } ∧ W.grownBy w' (some g))))
  have HOV := Lib.hid (fun (W : World) (q s : Nat) (hI : ItM W g LA d C { t with pos := q, steps := s }) => (tiOnV_any g LA d C { t with pos := q, steps := s } W hI).mono (fun e w' h => (⟨by rw [h.1]; unfold onV; simp [hL], h.2⟩ : e = .returned (.bool (decide (q < t.fin))) ∧ Ext W w')))
  have HI0 : Hid (ItM W0 g LA d C { t with steps := t.steps }) := hi.ext hx0
  have HR0 := Lib.hid hr0
  have HG0 := Lib.hid (hx0.grown (some g))
  have HMONO := Lib.hid hmono
  clear h hi hn hok hmono hx0 hr0
  generalize vs (t.L - 1) = X at *
  obtain ⟨s00, hs00⟩ : ∃ s, s = t.steps := ⟨_, rfl⟩
  go_enter Try.func14, Try.ntmps14
  go_wp2_with fail
  rw [← hW0]
  clear hW0
  refine HC.out.mono ?_
  rintro e w1 ⟨rfl, hx⟩
  have HI1 := Lib.hid (HI0.out.ext hx)
  have HR1 := Lib.hid (HR0.out.up hx.below)
  have HG1 := Lib.hid (grown_trans HG0.out (hx.grown _))
  have hz1 : w.heap.size < w1.heap.size := HR1.out.lt
  clear hx HI0 HR0 HG0 HC
  have p2 := HI1.out.c2
  have v0 : w1.cell? ⟨w.heap.size, 0, none⟩ = some (.int .i64 v.kind) := HR1.out.cell 0
  have v1 : w1.cell? ⟨w.heap.size, 1, none⟩ = some (.int .i64 v.int) := HR1.out.cell 1
  have v2 : w1.cell? ⟨w.heap.size, 2, none⟩ = some (.string v.str) := HR1.out.cell 2
  go_wp2
  refine wp_region_held_drew (S := (fun w' => w'.cell? ⟨g, 2, none⟩ = some (.int .i64 t.pos) ∧ w'.cell? ⟨w.heap.size, 0, none⟩ = some (.int .i64 v.kind) ∧ w'.cell? ⟨w.heap.size, 1, none⟩ = some (.int .i64 v.int) ∧ w'.cell? ⟨w.heap.size, 2, none⟩ = some (.string v.str))) (by kernel_rfl) ⟨p2, v0, v1, v2⟩ (fun hHeld => ?_)
  refine takeOp (i := 0) (v := ?_) (some 12) rfl rfl (by kernel_rfl) (by kernel_rfl) (by kernel_rfl) (fun _ _ _ h => h) (Or.inl ⟨by rfl, ?_⟩) (by assumption) ?_
  rotate_left 1
  · (intro w0 hSw; (try dsimp only at hSw); go_simp; try (with_reducible rfl))
  try simp only [Act.put]
  try simp only [List.setIfInBounds_toArray]
  try simp only [List.set_cons_succ]
  try simp only [List.set_cons_zero]
  refine takeOp (i := 1) (v := ?_) (some 13) rfl rfl (by kernel_rfl) (by kernel_rfl) (by kernel_rfl) (fun _ _ _ h => h) (Or.inl ⟨by rfl, ?_⟩) (by assumption) ?_
  rotate_left 1
  · (intro w0 hSw; (try dsimp only at hSw); go_simp; try (with_reducible rfl))
  try simp only [Act.put]
  try simp only [List.setIfInBounds_toArray]
  try simp only [List.set_cons_succ]
  try simp only [List.set_cons_zero]
  refine takeOp (i := 2) (v := ?_) (some 14) rfl rfl (by kernel_rfl) (by kernel_rfl) (by kernel_rfl) (fun _ _ _ h => h) (Or.inl ⟨by rfl, ?_⟩) (by assumption) ?_
  rotate_left 1
  · (intro w0 hSw; (try dsimp only at hSw); go_simp; try (with_reducible rfl))
  try simp only [Act.put]
  try simp only [List.setIfInBounds_toArray]
  try simp only [List.set_cons_succ]
  try simp only [List.set_cons_zero]
  refine takeOp (i := 3) (v := ?_) (some 15) rfl rfl (by kernel_rfl) (by kernel_rfl) (by kernel_rfl) (fun _ _ _ h => h) (Or.inl ⟨by rfl, ?_⟩) (by assumption) ?_
  rotate_left 1
  · (intro w0 hSw; (try dsimp only at hSw); go_simp; try (with_reducible rfl))
  try simp only [Act.put]
  try simp only [List.setIfInBounds_toArray]
  try simp only [List.set_cons_succ]
  try simp only [List.set_cons_zero]
  refine takeOp (i := 4) (v := ?_) (some 16) rfl rfl (by kernel_rfl) (by kernel_rfl) (by kernel_rfl) (fun _ _ _ h => h) (Or.inl ⟨by rfl, ?_⟩) (by assumption) ?_
  rotate_left 1
  · (intro w0 hSw; (try dsimp only at hSw); go_simp; try (with_reducible rfl))
  try simp only [Act.put]
  try simp only [List.setIfInBounds_toArray]
  try simp only [List.set_cons_succ]
  try simp only [List.set_cons_zero]
  refine takeOp (i := 5) (v := ?_) (some 17) rfl rfl (by kernel_rfl) (by kernel_rfl) (by kernel_rfl) (fun _ _ _ h => h) (Or.inl ⟨by rfl, ?_⟩) (by assumption) ?_
  rotate_left 1
  · (intro w0 hSw; (try dsimp only at hSw); go_simp; try (with_reducible rfl))
  try simp only [Act.put]
  try simp only [List.setIfInBounds_toArray]
  try simp only [List.set_cons_succ]
  try simp only [List.set_cons_zero]
  refine takeOp (i := 6) (v := ?_) (some 18) rfl rfl (by kernel_rfl) (by kernel_rfl) (by kernel_rfl) (fun _ _ _ h => h) (Or.inl ⟨by rfl, ?_⟩) (by assumption) ?_
  rotate_left 1
  · (intro w0 hSw; (try dsimp only at hSw); go_simp; try (with_reducible rfl))
  try simp only [Act.put]
  try simp only [List.setIfInBounds_toArray]
  try simp only [List.set_cons_succ]
  try simp only [List.set_cons_zero]
  refine wpAnyH_ready (rs := [7]) (by kernel_rfl) (by simp) ?_
  refine AllReadyH.cons rfl (fun K hK => ?_) AllReadyH.nil
  go_simp
  refine (HLS.out w1.drew t.steps t.pos (grown_trans HG1.out ((Ext.refl _).drew.grown _)) (HI1.out.ext (Ext.refl _).drew) (by omega) hpf).mono ?_
  rintro e w2 ⟨rfl, hI2, hg2⟩
  have hr2 := (HR1.out.drew).grown hg2 (fun e => by injection e with e; omega)
  have KEEP : w2.cell? ⟨g, 2, none⟩ = some (.int .i64 t.pos) ∧ w2.cell? ⟨w.heap.size, 0, none⟩ = some (.int .i64 v.kind) ∧ w2.cell? ⟨w.heap.size, 1, none⟩ = some (.int .i64 v.int) ∧ w2.cell? ⟨w.heap.size, 2, none⟩ = some (.string v.str) := ⟨hI2.c2, hr2.cell 0, hr2.cell 1, hr2.cell 2⟩
  have HI2 := Lib.hid hI2
  have HR2 := Lib.hid hr2
  have HG2 := Lib.hid (grown_trans (grown_trans HG1.out ((Ext.refl _).drew.grown _)) hg2)
  clear hI2 hg2 hr2
  go_wp2_with fail
  refine hK.out _ _ KEEP (fun hHeld => ?_)
  clear hK K
  try simp only [Act.put]
  try simp only [List.setIfInBounds_toArray]
  try simp only [List.set_cons_succ]
  try simp only [List.set_cons_zero]
  refine takeOp (i := 8) (v := ?_) (some 20) rfl rfl (by kernel_rfl) (by kernel_rfl) (by kernel_rfl) (fun _ _ _ h => h) (Or.inl ⟨by rfl, ?_⟩) (by assumption) ?_
  rotate_left 1
  · (intro w0 hSw; (try dsimp only at hSw); go_simp; try (with_reducible rfl))
  try simp only [Act.put]
  try simp only [List.setIfInBounds_toArray]
  try simp only [List.set_cons_succ]
  try simp only [List.set_cons_zero]
  refine wpAnyH_done (by kernel_rfl) ?_ _
  clear KEEP p2 v0 v1 v2 HI1 HR1 HG1
  cases hlt : ltF X v t.pos
  · have HLT := Lib.hid hlt
    clear hlt
    go_wp2
    go_ret
    exact ⟨t.pos, t.steps + 1, by simp [hpf], HI2.out, Nat.le_refl _, by omega, (fun j h1 h2 => by omega), fun _ => HLT.out, by omega, HG2.out⟩
  have HLT := Lib.hid hlt
  clear hlt
  have p2 := HI2.out.c2
  go_wp2
  go_loopw [5, 6] (fun lo st wr => ∃ low step s : Nat, lo = .int .i64 low ∧ st = .int .i64 step ∧ t.pos ≤ low ∧ low < t.fin ∧ 1 ≤ step ∧ step ≤ low - t.pos + 1 ∧ ltF X v low = true ∧ s ≤ t.steps + 1 + (low - t.pos) ∧ ItM wr g LA d C { t with steps := s } ∧ Row wr w.heap.size 38 (vcells v) ∧ w.grownBy wr (some g)) (fun lo _ _ => t.fin - (intOf lo).toNat)
  case atStart => exact ⟨t.pos, 1, t.steps + 1, rfl, rfl, Nat.le_refl _, hpf, by omega, by omega, HLT.out, by omega, HI2.out, HR2.out, HG2.out⟩
  case round =>
    obtain ⟨low, step, s, rfl, rfl, hl1, hl2, hs1, hs2, hlow, hsb, hI, hR, hG⟩ := hrel
    have HI := Lib.hid hI
    have HR := Lib.hid hR
    have HG := Lib.hid hG
    have HLOW := Lib.hid hlow
    have hz2 := hR.lt
    have q3 := hI.c3
    have u0 : wr.cell? ⟨w.heap.size, 0, none⟩ = some (.int .i64 v.kind) := hR.cell 0
    have u1 : wr.cell? ⟨w.heap.size, 1, none⟩ = some (.int .i64 v.int) := hR.cell 1
    have u2 : wr.cell? ⟨w.heap.size, 2, none⟩ = some (.string v.str) := hR.cell 2
    clear hI hR hG hlow HI2 HR2 HG2 p2
    by_cases hb : low + step < t.fin
    rotate_left
    · have hb' : decide ((low : Int) + (step : Int) < (t.fin : Int)) = false := by simp; omega
      clear u0 u1 u2
      obtain ⟨wo, hwo⟩ : ∃ wo, wo = wr := ⟨_, rfl⟩
      subst hwo
      go_wp2
      go_loopw [5, 7] (fun lo hi wr => ∃ l2 h2 s : Nat, lo = .int .i64 l2 ∧ hi = .int .i64 h2 ∧ t.pos ≤ l2 ∧ l2 < h2 ∧ h2 ≤ t.fin ∧ ltF X v l2 = true ∧ (h2 < t.fin → ltF X v h2 = false) ∧ s ≤ t.steps + 2 + t.fin + (t.fin - (h2 - l2)) ∧ ItM wr g LA d C { t with steps := s } ∧ Row wr w.heap.size 38 (vcells v) ∧ w.grownBy wr (some g)) (fun lo hi _ => ((intOf hi) - (intOf lo)).toNat)
      case atStart => exact ⟨low, min (low + step) t.fin, s, rfl, by rw [show ((min (low + step) t.fin : Nat) : Int) = min ((low : Int) + (step : Int)) (t.fin : Int) by omega], hl1, by omega, by omega, HLOW.out, (fun h => by omega), by omega, HI.out, HR.out, HG.out⟩
      case round =>
        obtain ⟨l2, h2, s2, rfl, rfl, k1, k2, k3, hlo, hhi, hsb2, hI, hR, hG⟩ := hrel
        have HI3 := Lib.hid hI
        have HR3 := Lib.hid hR
        have HG3 := Lib.hid hG
        have HLO := Lib.hid hlo
        have HHI := Lib.hid hhi
        have hz3 := hR.lt
        have n2 := hI.c2
        have fz2 := hI.fr 2
        have u0 : wr.cell? ⟨w.heap.size, 0, none⟩ = some (.int .i64 v.kind) := hR.cell 0
        have u1 : wr.cell? ⟨w.heap.size, 1, none⟩ = some (.int .i64 v.int) := hR.cell 1
        have u2 : wr.cell? ⟨w.heap.size, 2, none⟩ = some (.string v.str) := hR.cell 2
        clear hI hR hG hlo hhi
        by_cases hgt : 1 < h2 - l2
        · have hgt' : decide ((1 : Int) < (h2 : Int) - (l2 : Int)) = true := by simp; omega
          obtain ⟨m, hm⟩ : ∃ m, m = l2 + (h2 - l2) / 2 := ⟨_, rfl⟩
          have m1 : l2 < m := by omega
          have m2 : m < h2 := by omega
          have hmi : (l2 : Int) + ((h2 : Int) - (l2 : Int)) / 2 = (m : Int) := by omega
          have HMI := Lib.hid hmi
          clear hm hmi
          go_wp2_with fail
          rw [HMI.out]
          refine (HLS.out wr s2 m HG3.out HI3.out (by omega) (by omega)).mono ?_
          rintro e w4 ⟨rfl, hI4, hg4⟩
          have HI4 := Lib.hid hI4
          have HR4 := Lib.hid (HR3.out.grown hg4 (fun e => by injection e with e; omega))
          have HG4 := Lib.hid (grown_trans HG3.out hg4)
          clear hI4 hg4 u0 u1 u2 n2 fz2
          cases hlt : ltF X v m
          · have HL4 := Lib.hid hlt
            clear hlt
            go_wp2
            go_roundw
            case rel => exact ⟨l2, m, s2 + 1, rfl, rfl, k1, m1, by omega, HLO.out, fun _ => HL4.out, by omega, HI4.out, HR4.out, HG4.out⟩
            case measure => simp [intOf]; omega
          · have HL4 := Lib.hid hlt
            clear hlt
            go_wp2
            go_roundw
            case rel => exact ⟨m, h2, s2 + 1, rfl, rfl, by omega, m2, k3, HL4.out, HHI.out, by omega, HI4.out, HR4.out, HG4.out⟩
            case measure => simp [intOf]; omega
        · have hgt' : decide ((1 : Int) < (h2 : Int) - (l2 : Int)) = false := by simp; omega
          have HIN := Lib.hid (HI3.out.setPos h2)
          go_wp2_with fail
          refine (HOV.out _ h2 s2 HIN.out).mono ?_
          rintro e w5 ⟨rfl, hx5⟩
          have HX5 := Lib.hid hx5
          clear hx5 n2 fz2 u0 u1 u2
          go_wp2
          go_ret
          exact ⟨h2, s2, rfl, HIN.out.ext HX5.out, by omega, k3, (fun j j1 j2 => HMONO.out j l2 j1 (by omega) (by omega) HLO.out), HHI.out, by omega, grown_trans HG3.out (grown_trans (grown_set wr g 2 _) (HX5.out.grown _))⟩
    · have hb' : decide ((low : Int) + (step : Int) < (t.fin : Int)) = true := by simp; omega
      go_wp2_with fail
      rw [show (low : Int) + (step : Int) = ((low + step : Nat) : Int) by omega]
      refine (HLS.out wr s (low + step) HG.out HI.out (by omega) hb).mono ?_
      rintro e w3 ⟨rfl, hI3, hg3⟩
      have HI3' := Lib.hid hI3
      have HR3' := Lib.hid (HR.out.grown hg3 (fun e => by injection e with e; omega))
      have HG3' := Lib.hid (grown_trans HG.out hg3)
      have q3' := hI3.c3
      clear hI3 hg3 u0 u1 u2 q3
      cases hlt : ltF X v (low + step)
      · have HL3 := Lib.hid hlt
        clear hlt
        obtain ⟨wo, hwo⟩ : ∃ wo, wo = wr := ⟨_, rfl⟩
        subst hwo
        go_wp2
        go_loopw [5, 7] (fun lo hi wr => ∃ l2 h2 s : Nat, lo = .int .i64 l2 ∧ hi = .int .i64 h2 ∧ t.pos ≤ l2 ∧ l2 < h2 ∧ h2 ≤ t.fin ∧ ltF X v l2 = true ∧ (h2 < t.fin → ltF X v h2 = false) ∧ s ≤ t.steps + 2 + t.fin + (t.fin - (h2 - l2)) ∧ ItM wr g LA d C { t with steps := s } ∧ Row wr w.heap.size 38 (vcells v) ∧ w.grownBy wr (some g)) (fun lo hi _ => ((intOf hi) - (intOf lo)).toNat)
        case atStart => exact ⟨low, min (low + step) t.fin, s + 1, rfl, by rw [show ((min (low + step) t.fin : Nat) : Int) = min ((low : Int) + (step : Int)) (t.fin : Int) by omega], hl1, by omega, by omega, HLOW.out, (fun h => by rw [show min (low + step) t.fin = low + step by omega]; exact HL3.out), by omega, HI3'.out, HR3'.out, HG3'.out⟩
        case round =>
          obtain ⟨l2, h2, s2, rfl, rfl, k1, k2, k3, hlo, hhi, hsb2, hI, hR, hG⟩ := hrel
          have HI3 := Lib.hid hI
          have HR3 := Lib.hid hR
          have HG3 := Lib.hid hG
          have HLO := Lib.hid hlo
          have HHI := Lib.hid hhi
          have hz3 := hR.lt
          have n2 := hI.c2
          have fz2 := hI.fr 2
          have u0 : wr.cell? ⟨w.heap.size, 0, none⟩ = some (.int .i64 v.kind) := hR.cell 0
          have u1 : wr.cell? ⟨w.heap.size, 1, none⟩ = some (.int .i64 v.int) := hR.cell 1
          have u2 : wr.cell? ⟨w.heap.size, 2, none⟩ = some (.string v.str) := hR.cell 2
          clear hI hR hG hlo hhi
          by_cases hgt : 1 < h2 - l2
          · have hgt' : decide ((1 : Int) < (h2 : Int) - (l2 : Int)) = true := by simp; omega
            obtain ⟨m, hm⟩ : ∃ m, m = l2 + (h2 - l2) / 2 := ⟨_, rfl⟩
            have m1 : l2 < m := by omega
            have m2 : m < h2 := by omega
            have hmi : (l2 : Int) + ((h2 : Int) - (l2 : Int)) / 2 = (m : Int) := by omega
            have HMI := Lib.hid hmi
            clear hm hmi
            go_wp2_with fail
            rw [HMI.out]
            refine (HLS.out wr s2 m HG3.out HI3.out (by omega) (by omega)).mono ?_
            rintro e w4 ⟨rfl, hI4, hg4⟩
            have HI4 := Lib.hid hI4
            have HR4 := Lib.hid (HR3.out.grown hg4 (fun e => by injection e with e; omega))
            have HG4 := Lib.hid (grown_trans HG3.out hg4)
            clear hI4 hg4 u0 u1 u2 n2 fz2
            cases hlt : ltF X v m
            · have HL4 := Lib.hid hlt
              clear hlt
              go_wp2
              go_roundw
              case rel => exact ⟨l2, m, s2 + 1, rfl, rfl, k1, m1, by omega, HLO.out, fun _ => HL4.out, by omega, HI4.out, HR4.out, HG4.out⟩
              case measure => simp [intOf]; omega
            · have HL4 := Lib.hid hlt
              clear hlt
              go_wp2
              go_roundw
              case rel => exact ⟨m, h2, s2 + 1, rfl, rfl, by omega, m2, k3, HL4.out, HHI.out, by omega, HI4.out, HR4.out, HG4.out⟩
              case measure => simp [intOf]; omega
          · have hgt' : decide ((1 : Int) < (h2 : Int) - (l2 : Int)) = false := by simp; omega
            have HIN := Lib.hid (HI3.out.setPos h2)
            go_wp2_with fail
            refine (HOV.out _ h2 s2 HIN.out).mono ?_
            rintro e w5 ⟨rfl, hx5⟩
            have HX5 := Lib.hid hx5
            clear hx5 n2 fz2 u0 u1 u2
            go_wp2
            go_ret
            exact ⟨h2, s2, rfl, HIN.out.ext HX5.out, by omega, k3, (fun j j1 j2 => HMONO.out j l2 j1 (by omega) (by omega) HLO.out), HHI.out, by omega, grown_trans HG3.out (grown_trans (grown_set wr g 2 _) (HX5.out.grown _))⟩
      · have HL3 := Lib.hid hlt
        clear hlt
        go_wp2
        go_roundw
        case rel => exact ⟨low + step, step * 2, s + 1, by go_num, by go_num, by omega, hb, by omega, by omega, HL3.out, by omega, HI3'.out, HR3'.out, HG3'.out⟩
        case measure => simp [intOf]; omega

end Go.Proofs.Ytlcammcifjihpaa
end

section
/- Plain: the rows that begin with a row are a range of a sorted list; what lies below a node of a trie. -/
namespace Go.Proofs.Ytlcammcifjihpaa.RL

theorem cmpR_append_ge : ∀ (r t : R), 0 ≤ cmpR (r ++ t) r
  | [], [] => by simp [cmpR, cmpL]
  | [], _ :: _ => by simp [cmpR, cmpL]
  | a :: r, t => by
    have h := cmpR_append_ge r t
    simp only [cmpR, cmpL, List.cons_append] at *
    rw [if_pos (tot_cmpV.self a)]
    exact h
theorem begins_of_lt {y r : R} (h : cmpR y r < 0) : beginsB y r = false := by
  cases hb : beginsB y r with
  | false => rfl
  | true =>
    obtain ⟨t, rfl⟩ := (beginsB_iff _ _).1 hb
    have := cmpR_append_ge r t
    omega
theorem take_rank_filter {Y : List R} (h : SS Y) (r : R) : (Y.take (rank Y r)).filter (fun y => beginsB y r) = [] := by
  rw [List.filter_eq_nil_iff]
  intro y hy
  rw [begins_of_lt (lt_rank h r y hy)]
  simp
theorem filter_prefix {D : List R} {p : R → Bool} (h : D.Pairwise fun a b => p b = true → p a = true) : D.filter p = D.take (D.countP p) := by
  induction D with
  | nil => simp
  | cons d D ih =>
    obtain ⟨h1, h2⟩ := List.pairwise_cons.1 h
    cases hp : p d
    · have hz : ∀ y ∈ D, ¬ p y = true := fun y hy hq => by have := h1 y hy hq; rw [hp] at this; cases this
      have e1 : D.filter p = [] := List.filter_eq_nil_iff.2 hz
      have e2 : D.countP p = 0 := List.countP_eq_zero.2 hz
      rw [List.filter_cons_of_neg (by simp [hp]), e1, List.countP_cons_of_neg (by simp [hp]), e2]
      simp
    · rw [List.filter_cons_of_pos hp, List.countP_cons_of_pos hp, List.take_succ_cons, ih h2]
theorem begins_pairwise {Y : List R} (h : SS Y) (r : R) : (Y.drop (rank Y r)).Pairwise fun a b => beginsB b r = true → beginsB a r = true := by
  refine List.Pairwise.imp_of_mem (fun {a b} ha hb hab hq => ?_) (h.drop (rank Y r))
  obtain ⟨t, rfl⟩ := (beginsB_iff _ _).1 hq
  obtain ⟨s, hs⟩ := between r a t (ge_rank h r a ha) (by omega)
  exact (beginsB_iff _ _).2 ⟨s, hs⟩
/-- The rows that begin with r are a range. -/
theorem filter_range {Y : List R} (h : SS Y) (r : R) : Y.filter (fun y => beginsB y r) = (Y.drop (rank Y r)).take (manyB Y r) := by
  conv => lhs; rw [← List.take_append_drop (rank Y r) Y, List.filter_append, take_rank_filter h r, List.nil_append]
  exact filter_prefix (begins_pairwise h r)
theorem manyB_all {Y : List R} (h : SS Y) (r : R) : manyB Y r = Y.countP fun y => beginsB y r := by
  conv => rhs; rw [← List.take_append_drop (rank Y r) Y, List.countP_append]
  have : (Y.take (rank Y r)).countP (fun y => beginsB y r) = 0 := by rw [List.countP_eq_length_filter, take_rank_filter h r]; rfl
  rw [this, Nat.zero_add]
  rfl


theorem cmpR_append_left : ∀ (q x y : R), cmpR (q ++ x) (q ++ y) = cmpR x y
  | [], _, _ => rfl
  | a :: q, x, y => by rw [List.cons_append, List.cons_append, cmpR_cons, if_pos (tot_cmpV.self a)]; exact cmpR_append_left q x y
theorem cmpR_one (a b : V) : cmpR [a] [b] = cmpV a b := by
  rw [cmpR_cons]
  split
  · rename_i h; rw [h]; simp [cmpR, cmpL]
  · rfl

/-- The last value of a row. -/
def lastV (y : R) : V := y.getLastD default
theorem lastV_snoc (q : R) (v : V) : lastV (q ++ [v]) = v := by unfold lastV; rw [List.getLastD_concat]
/-- Where the nodes below q begin on their level. -/
def lo (d : Nat) (P : List R) (q : R) : Nat := rank (nodes d P q.length) q
/-- The values below q, in order. -/
def kids (d : Nat) (P : List R) (q : R) : R := ((nodes d P q.length).filter (fun y => beginsB y q)).map lastV
section
variable {d : Nat} {P : List R}
theorem kids_len (q : R) : (kids d P q).length = manyB (nodes d P q.length) q := by
  unfold kids
  rw [List.length_map, manyB_all (nodes_ss _ _ _), List.countP_eq_length_filter]
theorem kids_fit (q : R) : lo d P q + (kids d P q).length ≤ (nodes d P q.length).length := by
  rw [kids_len]; exact manyB_le _ _
theorem kids_out {q : R} (h : d ≤ q.length) : kids d P q = [] := by unfold kids; rw [nodes_out h]; rfl
theorem lo_nil : lo d P [] = 0 := by
  unfold lo rank
  rw [List.countP_eq_zero]
  intro y _
  have := cmpR_append_ge [] y
  rw [List.nil_append] at this
  simp only [decide_eq_true_eq]
  omega
theorem kids_nil_len : (kids d P []).length = (nodes d P 0).length := by
  unfold kids
  rw [List.length_map, List.length_nil, List.filter_eq_self.2]
  intro y _
  simp [beginsB]
theorem node_snoc (hd : ∀ r ∈ P, r.length = d) {q y : R} (hy : y ∈ nodes d P q.length) (hb : beginsB y q = true) : y = q ++ [lastV y] := by
  obtain ⟨s, rfl⟩ := (beginsB_iff _ _).1 hb
  have hl := mem_nodes_len hd hy
  rw [List.length_append] at hl
  obtain ⟨v, rfl⟩ := List.length_eq_one_iff.1 (show s.length = 1 by omega)
  rw [lastV_snoc]
/-- The nodes below q, place by place. -/
theorem kids_get (hd : ∀ r ∈ P, r.length = d) (q : R) {i : Nat} (hi : i < (kids d P q).length) (h2 : lo d P q + i < (nodes d P q.length).length) : (nodes d P q.length)[lo d P q + i] = q ++ [(kids d P q)[i]] := by
  have hN := nodes_ss d P q.length
  have e : (nodes d P q.length).filter (fun y => beginsB y q) = ((nodes d P q.length).drop (lo d P q)).take (kids d P q).length := by rw [kids_len]; exact filter_range hN q
  have h3 : i < ((nodes d P q.length).filter (fun y => beginsB y q)).length := by have := hi; unfold kids at this; simpa using this
  have e2 : (kids d P q)[i] = lastV (((nodes d P q.length).filter (fun y => beginsB y q))[i]) := by
    rw [← Option.some_inj, ← List.getElem?_eq_getElem]
    unfold kids
    rw [List.getElem?_map, List.getElem?_eq_getElem h3]
    rfl
  have e3 : ((nodes d P q.length).filter (fun y => beginsB y q))[i] = (nodes d P q.length)[lo d P q + i] := by
    rw [← Option.some_inj, ← List.getElem?_eq_getElem, ← List.getElem?_eq_getElem, e, List.getElem?_take_of_lt hi, List.getElem?_drop]
  have hm := List.getElem_mem h3
  rw [List.mem_filter] at hm
  rw [e2, ← e3]
  exact node_snoc hd hm.1 hm.2
theorem mem_kids (hd : ∀ r ∈ P, r.length = d) {q : R} (hq : q.length < d) (v : V) : v ∈ kids d P q ↔ ∃ y ∈ P, y.take (q.length + 1) = q ++ [v] := by
  unfold kids
  rw [List.mem_map]
  constructor
  · rintro ⟨y, hy, rfl⟩
    rw [List.mem_filter] at hy
    obtain ⟨z, hz, e⟩ := (mem_nodes hq y).1 hy.1
    exact ⟨z, hz, by rw [e]; exact node_snoc hd hy.1 hy.2⟩
  · rintro ⟨y, hy, e⟩
    refine ⟨q ++ [v], List.mem_filter.2 ⟨(mem_nodes hq _).2 ⟨y, hy, e⟩, (beginsB_iff _ _).2 ⟨_, rfl⟩⟩, lastV_snoc q v⟩
theorem kids_asc (hd : ∀ r ∈ P, r.length = d) (q : R) : (kids d P q).Pairwise fun a b => cmpV a b < 0 := by
  unfold kids
  rw [List.pairwise_map]
  refine List.Pairwise.imp_of_mem (fun {a b} ha hb hab => ?_) ((nodes_ss d P q.length).filter _)
  rw [List.mem_filter] at ha hb
  rw [node_snoc hd ha.1 ha.2, node_snoc hd hb.1 hb.2, cmpR_append_left, cmpR_one] at hab
  exact hab
/-- A list of values, strictly ascending, is told by its members. -/
theorem asc_ext {X Y : R} (hX : X.Pairwise fun a b => cmpV a b < 0) (hY : Y.Pairwise fun a b => cmpV a b < 0) (h : ∀ v, v ∈ X ↔ v ∈ Y) : X = Y := by
  have h1 : SS (X.map fun v => [v]) := by unfold SS; rw [List.pairwise_map]; exact hX.imp fun {a b} hab => by rw [cmpR_one]; exact hab
  have h2 : SS (Y.map fun v => [v]) := by unfold SS; rw [List.pairwise_map]; exact hY.imp fun {a b} hab => by rw [cmpR_one]; exact hab
  have e := SS.ext h1 h2 (fun r => by simp only [List.mem_map, h])
  have := congrArg (List.map lastV) e
  simpa [List.map_map, Function.comp_def, lastV] using this
/-- Below a node that is not on the last level lies a node. -/
theorem kids_pos {q : R} (hq : q.length < d) (h : q = [] ∧ P ≠ [] ∨ ∃ l, l + 1 = q.length ∧ q ∈ nodes d P l) : 0 < (kids d P q).length := by
  unfold kids
  rw [List.length_map, List.length_pos_iff_exists_mem]
  rcases h with ⟨rfl, h⟩ | ⟨l, hl, h⟩
  · obtain ⟨y, hy⟩ := List.exists_mem_of_ne_nil _ h
    exact ⟨y.take 1, List.mem_filter.2 ⟨(mem_nodes hq _).2 ⟨y, hy, rfl⟩, by simp [beginsB]⟩⟩
  · obtain ⟨z, hz, e⟩ := child_mem (by omega) h
    rw [← hl]
    exact ⟨z, List.mem_filter.2 ⟨hz, (beginsB_iff _ _).2 ⟨z.drop (l + 1), by rw [← e]; exact (List.take_append_drop _ _).symm⟩⟩⟩
end

end Go.Proofs.Ytlcammcifjihpaa.RL
end

section
/- Iterators over the trie of a relation: where they stand, told by the values on the path; each movement as one contract. -/
namespace Go.Proofs.Ytlcammcifjihpaa
open Go.RowKit Go.Sort

/-- The values of a level, and where the children of its nodes begin. -/
def vsF (d : Nat) (P : List RL.R) (l : Nat) : RL.R := (RL.nodes d P l).map RL.lastV
def fsF (d : Nat) (P : List RL.R) (l : Nat) : List Nat := RL.firsts d P l ++ [(RL.nodes d P (l + 1)).length]
theorem vsF_len (d : Nat) (P : List RL.R) (l : Nat) : (vsF d P l).length = (RL.nodes d P l).length := by simp [vsF]
theorem fsF_len (d : Nat) (P : List RL.R) (l : Nat) : (fsF d P l).length = (RL.nodes d P l).length + 1 := by simp [fsF, RL.firsts]
theorem vsF_le (d : Nat) (P : List RL.R) (l : Nat) : (vsF d P l).length ≤ P.length := by rw [vsF_len]; exact RL.nodes_len d P l

/-- Where an iterator stands: at the root, or below the node q at its child number i (behind the last one, if i is their number). -/
abbrev Pl := Option (RL.R × Nat)
structure ItAt (d : Nat) (P : List RL.R) (t : It) (q : RL.R) (i : Nat) : Prop where
  L : t.L = q.length + 1
  ld : q.length < d
  le : i ≤ (RL.kids d P q).length
  pos : t.pos = RL.lo d P q + i
  fin : t.fin = RL.lo d P q + (RL.kids d P q).length
  up : ∀ j (h : j < q.length), ∃ k, t.ab (j + 1) = (RL.lo d P (q.take j) + k, RL.lo d P (q.take j) + (RL.kids d P (q.take j)).length) ∧ (RL.kids d P (q.take j))[k]? = some q[j]
def ItP (d : Nat) (P : List RL.R) (t : It) : Pl → Prop
  | none => t.L = 0
  | some (q, i) => ItAt d P t q i
/-- An iterator in memory at a place, with its number of steps. -/
def IterP (w : World) (g : Nat) (LA : Option Addr) (d C : Nat) (P : List RL.R) (x : Pl) (s : Nat) : Prop := ∃ t, ItM w g LA d C t ∧ t.steps = s ∧ ItP d P t x

/-- The movements. -/
def onX (d : Nat) (P : List RL.R) : Pl → Bool
  | none => false
  | some (q, i) => decide (i < (RL.kids d P q).length)
def keyV (d : Nat) (P : List RL.R) : Pl → RL.V
  | none => ⟨0, 0, ⟨#[]⟩⟩
  | some (q, i) => (RL.kids d P q).getD i ⟨0, 0, ⟨#[]⟩⟩
def openB (d : Nat) (P : List RL.R) : Pl → Bool
  | none => decide (0 < d) && decide (P ≠ [])
  | some (q, i) => decide (i < (RL.kids d P q).length) && decide (q.length + 1 < d)
def openX (d : Nat) (P : List RL.R) : Pl → Pl
  | none => if openB d P none then some ([], 0) else none
  | some (q, i) => if openB d P (some (q, i)) then some (q ++ [keyV d P (some (q, i))], 0) else some (q, i)
def upX (d : Nat) (P : List RL.R) : Pl → Pl
  | none => none
  | some (q, _) => if q = [] then none else some (q.dropLast, (RL.kids d P q.dropLast).idxOf (RL.lastV q))
def upB : Pl → Bool
  | none => false
  | some _ => true
def nextX (d : Nat) (P : List RL.R) : Pl → Pl
  | none => none
  | some (q, i) => if i < (RL.kids d P q).length then some (q, i + 1) else some (q, i)
def seekX (d : Nat) (P : List RL.R) (v : RL.V) : Pl → Pl
  | none => none
  | some (q, i) => if i < (RL.kids d P q).length then some (q, max i ((RL.kids d P q).countP fun u => decide (RL.cmpV u v < 0))) else some (q, i)
def levelX : Pl → Nat
  | none => 0
  | some (q, _) => q.length + 1

section
variable {w w' : World} {g : Nat} {LA : Option Addr} {d C : Nat} {P : List RL.R} {x : Pl} {s : Nat}
theorem IterP.up (h : IterP w g LA d C P x s) (hb : Below w.heap.size w w') : IterP w' g LA d C P x s := by
  obtain ⟨t, h1, h2, h3⟩ := h; exact ⟨t, h1.up hb, h2, h3⟩
theorem IterP.ext (h : IterP w g LA d C P x s) (hb : Ext w w') : IterP w' g LA d C P x s := h.up hb.below
theorem IterP.grown {row : Option Nat} (h : IterP w g LA d C P x s) (hb : w.grownBy w' row) (hne : some g ≠ row) : IterP w' g LA d C P x s := by
  obtain ⟨t, h1, h2, h3⟩ := h; exact ⟨t, h1.grown hb hne, h2, h3⟩
theorem IterP.lt (h : IterP w g LA d C P x s) : g < w.heap.size := by obtain ⟨t, h1, _⟩ := h; exact h1.lt

theorem onV_at {t : It} {q : RL.R} {i : Nat} (h : ItAt d P t q i) : onV t = decide (i < (RL.kids d P q).length) := by
  have h1 := h.L
  have h2 := h.pos
  have h3 := h.fin
  unfold onV
  rw [Bool.eq_iff_iff]
  simp
  omega
theorem onV_root {t : It} (h : t.L = 0) : onV t = false := by
  unfold onV
  rw [h]
  simp
theorem ok_at {t : It} {q : RL.R} {i : Nat} (h : ItAt d P t q i) (hP : P.length ≤ 100000) : ItOk d (vsF d P) t := by
  have h1 := h.L
  have h2 := h.ld
  have h3 := h.fin
  refine ⟨by omega, fun _ => ?_⟩
  have e : t.L - 1 = q.length := by omega
  rw [e]
  have h4 := vsF_le d P q.length
  have h5 := RL.kids_fit (d := d) (P := P) q
  rw [vsF_len] at h4 ⊢
  omega
theorem key_at (hd : ∀ r ∈ P, r.length = d) {q : RL.R} {j : Nat} (hj : j < (RL.kids d P q).length) (h2 : RL.lo d P q + j < (vsF d P q.length).length) : (vsF d P q.length)[RL.lo d P q + j] = (RL.kids d P q)[j] := by
  have h3 : RL.lo d P q + j < (RL.nodes d P q.length).length := by rw [vsF_len] at h2; exact h2
  have e := RL.kids_get hd q hj h3
  rw [← Option.some_inj, ← List.getElem?_eq_getElem]
  unfold vsF
  rw [List.getElem?_map, List.getElem?_eq_getElem h3, e]
  exact congrArg some (RL.lastV_snoc q _)
/-- A place whose path has values: the path is a node. -/
theorem at_node (hd : ∀ r ∈ P, r.length = d) {q : RL.R} {k : Nat} {v : RL.V} (h : (RL.kids d P q)[k]? = some v) : q ++ [v] ∈ RL.nodes d P q.length := by
  obtain ⟨h1, h2⟩ := List.getElem?_eq_some_iff.1 h
  have h3 := RL.kids_fit (d := d) (P := P) q
  have h4 : RL.lo d P q + k < (RL.nodes d P q.length).length := by omega
  rw [← h2, ← RL.kids_get hd q h1 h4]
  exact List.getElem_mem h4
end

set_option maxHeartbeats 1000000 in
theorem itKey (B g : Nat) (LA : Option Addr) (d C : Nat) (P : List RL.R) (x : Pl) (s : Nat) (w : World) (h : TrM B w LA d (vsF d P) (fsF d P)) (hB : B ≤ w.heap.size) (hi : IterP w g LA d C P x s) (hd : d ≤ 32) (hP : P.length ≤ 100000) (hr : ∀ r ∈ P, r.length = d) :
    Calls Try.prog 15 #[.pointer (some ⟨g, 0, none⟩)] w fun e w' => e = .returned (.tuple #[vv (keyV d P x), .bool (onX d P x)]) ∧ Below w.heap.size w w' := by
  obtain ⟨t, hi, hs, ht⟩ := hi
  match x, ht with
  | none, ht => exact tiKey_no g LA d C t w hi (onV_root ht)
  | some (q, i), ht =>
    have hon := onV_at ht
    by_cases hlt : i < (RL.kids d P q).length
    · have e0 : t.L - 1 = q.length := by have := ht.L; omega
      have e1 := ht.pos
      have e2 := RL.kids_fit (d := d) (P := P) q
      have hp : RL.lo d P q + i < (vsF d P q.length).length := by rw [vsF_len]; omega
      have hp' : t.pos < (vsF d P (t.L - 1)).length := by rw [e0, e1]; exact hp
      have e3 : (vsF d P (t.L - 1))[t.pos] = (RL.kids d P q)[i] := by
        rw [← key_at hr hlt hp]
        simp only [e0, e1]
      refine (tiKey_yes B g LA d C (vsF d P) (fsF d P) t w h hB hi (by omega) (by rw [hon]; simpa using hlt) (ok_at ht hP) hp').mono ?_
      rintro e w' ⟨rfl, hb⟩
      refine ⟨?_, hb⟩
      rw [e3]
      have e4 : keyV d P (some (q, i)) = (RL.kids d P q)[i] := by
        show (RL.kids d P q).getD i _ = _
        rw [List.getD_eq_getElem?_getD, List.getElem?_eq_getElem hlt]
        rfl
      rw [e4]
      have e5 : onX d P (some (q, i)) = true := by show decide _ = true; simpa using hlt
      rw [e5]
    · refine (tiKey_no g LA d C t w hi (by rw [hon]; simpa using hlt)).mono ?_
      rintro e w' ⟨rfl, hb⟩
      refine ⟨?_, hb⟩
      have e4 : keyV d P (some (q, i)) = ⟨0, 0, ⟨#[]⟩⟩ := by
        show (RL.kids d P q).getD i _ = _
        rw [List.getD_eq_getElem?_getD, List.getElem?_eq_none (by omega)]
        rfl
      have e5 : onX d P (some (q, i)) = false := by show decide _ = false; simpa using hlt
      rw [e4, e5]

theorem ext_grown {w w' : World} (h : Ext w w') (g : Nat) : w.grownBy w' (some g) := h.grown _

theorem itNext (_B g : Nat) (LA : Option Addr) (d C : Nat) (P : List RL.R) (x : Pl) (s : Nat) (w : World) (hi : IterP w g LA d C P x s) (hP : P.length ≤ 100000) :
    Calls Try.prog 17 #[.pointer (some ⟨g, 0, none⟩)] w fun e w' => e = .returned (.bool (onX d P (nextX d P x))) ∧ IterP w' g LA d C P (nextX d P x) s ∧ w.grownBy w' (some g) := by
  obtain ⟨t, hi, hs, ht⟩ := hi
  match x, ht with
  | none, ht =>
    refine (tiNext_no g LA d C t w hi (onV_root ht)).mono ?_
    rintro e w' ⟨rfl, hx⟩
    exact ⟨rfl, ⟨t, hi.ext hx, hs, ht⟩, hx.grown _⟩
  | some (q, i), ht =>
    have hon := onV_at ht
    by_cases hlt : i < (RL.kids d P q).length
    · have e1 : nextX d P (some (q, i)) = some (q, i + 1) := if_pos hlt
      have h1 : ItAt d P { t with pos := t.pos + 1 } q (i + 1) := ⟨ht.L, ht.ld, hlt, by show t.pos + 1 = _; rw [ht.pos]; omega, ht.fin, ht.up⟩
      have h2 := (ok_at ht hP).2 (by rw [ht.L]; omega)
      refine (tiNext_yes g LA d C t w hi (by rw [hon]; simpa using hlt) (by omega)).mono ?_
      rintro e w' ⟨rfl, hi', hg⟩
      rw [e1]
      exact ⟨by rw [onV_at h1]; rfl, ⟨_, hi', hs, h1⟩, hg⟩
    · have e1 : nextX d P (some (q, i)) = some (q, i) := if_neg hlt
      refine (tiNext_no g LA d C t w hi (by rw [hon]; simpa using hlt)).mono ?_
      rintro e w' ⟨rfl, hx⟩
      rw [e1]
      refine ⟨?_, ⟨t, hi.ext hx, hs, ht⟩, hx.grown _⟩
      have e5 : onX d P (some (q, i)) = false := by show decide _ = false; simpa using hlt
      rw [e5]

theorem itUp (g : Nat) (LA : Option Addr) (d C : Nat) (P : List RL.R) (x : Pl) (s : Nat) (w : World) (hi : IterP w g LA d C P x s) (hd : d ≤ 32) (hr : ∀ r ∈ P, r.length = d) :
    Calls Try.prog 20 #[.pointer (some ⟨g, 0, none⟩)] w fun e w' => e = .returned (.bool (upB x)) ∧ IterP w' g LA d C P (upX d P x) s ∧ w.grownBy w' (some g) := by
  obtain ⟨t, hi, hs, ht⟩ := hi
  match x, ht with
  | none, ht =>
    refine (tiUp_no g LA d C t w hi ht).mono ?_
    rintro e w' ⟨rfl, rfl⟩
    exact ⟨rfl, ⟨t, hi, hs, ht⟩, (Ext.refl _).grown _⟩
  | some (q, i), ht =>
    refine (tiUp_yes g LA d C t w hi (by rw [ht.L]; omega) (by rw [ht.L]; have := ht.ld; omega)).mono ?_
    rintro e w' ⟨rfl, hi', hg⟩
    refine ⟨rfl, ⟨_, hi', hs, ?_⟩, hg⟩
    rcases List.eq_nil_or_concat q with rfl | ⟨p, v, rfl⟩
    · have e1 : upX d P (some ([], i)) = none := by simp [upX]
      rw [e1]
      show t.L - 1 = 0
      rw [ht.L]
      rfl
    · simp only [List.concat_eq_append] at *
      have e1 : upX d P (some (p ++ [v], i)) = some (p, (RL.kids d P p).idxOf v) := by
        show (if _ then _ else _) = _
        rw [if_neg (by simp), List.dropLast_concat, RL.lastV_snoc]
      rw [e1]
      have hl := ht.L
      have hld := ht.ld
      rw [List.length_append, List.length_singleton] at hl hld
      obtain ⟨k, h1, h2⟩ := ht.up p.length (by simp)
      rw [List.take_left] at h1 h2
      have h3 : (p ++ [v])[p.length]'(by simp) = v := by simp
      rw [h3] at h2
      obtain ⟨hk, hk2⟩ := List.getElem?_eq_some_iff.1 h2
      have hnd : (RL.kids d P p).Nodup := (RL.kids_asc hr p).imp fun {a b} hab e => by rw [e, RL.tot_cmpV.self] at hab; omega
      have hix : (RL.kids d P p).idxOf v = k := by rw [← hk2]; exact hnd.idxOf_getElem k hk
      rw [hix]
      have el : t.L - 1 = p.length + 1 := by omega
      refine ⟨by show t.L - 1 = _; omega, by omega, by omega, ?_, ?_, fun j hj => ?_⟩
      · show (t.ab (t.L - 1)).1 = _
        rw [el, h1]
      · show (t.ab (t.L - 1)).2 = _
        rw [el, h1]
      · obtain ⟨k', h4, h5⟩ := ht.up j (by simp; omega)
        rw [List.take_append_of_le_length (by omega), List.getElem_append_left hj] at *
        exact ⟨k', h4, h5⟩

theorem itOpen (B g : Nat) (LA : Option Addr) (d C : Nat) (P : List RL.R) (x : Pl) (s : Nat) (w : World) (h : TrM B w LA d (vsF d P) (fsF d P)) (hB : B ≤ w.heap.size) (hi : IterP w g LA d C P x s) (hd : d ≤ 32) (hP : P.length ≤ 100000) (hr : ∀ r ∈ P, r.length = d) :
    Calls Try.prog 12 #[.pointer (some ⟨g, 0, none⟩)] w fun e w' => e = .returned (.bool (openB d P x)) ∧ IterP w' g LA d C P (openX d P x) s ∧ w.grownBy w' (some g) := by
  obtain ⟨t, hi, hs, ht⟩ := hi
  have hv0 : (vsF d P 0).length ≤ 1000000 := by have := vsF_le d P 0; omega
  have hk0 : (vsF d P 0).length = (RL.kids d P []).length := by rw [vsF_len, RL.kids_nil_len]
  match x, ht with
  | none, ht =>
    have ht : t.L = 0 := ht
    by_cases h0 : 0 < d
    rotate_left
    · obtain rfl : d = 0 := by omega
      refine (tiOpen_flat g LA C t w hi ht).mono ?_
      rintro e w' ⟨rfl, hx⟩
      exact ⟨rfl, ⟨t, hi.ext hx, hs, ht⟩, hx.grown _⟩
    · by_cases hPn : P = []
      · have e0 : openB d P none = false := by show (_ && _) = false; simp [hPn]
        have e1 : openX d P none = none := by show (if _ then _ else _) = none; rw [e0]; rfl
        rw [e0, e1]
        have hz : (vsF d P 0).length = 0 := by have := vsF_le d P 0; rw [hPn] at this ⊢; simpa using this
        refine (tiOpen_root0 B g LA d C (vsF d P) (fsF d P) t w h hB hi ht h0 hd hv0 hz).mono ?_
        rintro e w' ⟨rfl, hi', hg⟩
        exact ⟨rfl, ⟨t, hi', hs, ht⟩, hg⟩
      · have e0 : openB d P none = true := by show (_ && _) = true; simp [hPn, h0]
        have e1 : openX d P none = some ([], 0) := by show (if _ then _ else _) = _; rw [e0]; rfl
        rw [e0, e1]
        have hpos := RL.kids_pos (d := d) (P := P) (q := []) (by simpa using h0) (.inl ⟨rfl, hPn⟩)
        refine (tiOpen_root1 B g LA d C (vsF d P) (fsF d P) t w h hB hi ht h0 hd hv0 (by omega)).mono ?_
        rintro e w' ⟨rfl, hi', hg⟩
        refine ⟨rfl, ⟨_, hi', hs, ?_⟩, hg⟩
        exact ⟨by show t.L + 1 = _; rw [ht]; rfl, by simpa using h0, Nat.zero_le _, by rw [RL.lo_nil]; rfl, by rw [RL.lo_nil, ← hk0, Nat.zero_add]; rfl, fun j hj => absurd hj (by simp)⟩
  | some (q, i), ht =>
    have hon := onV_at ht
    have hL := ht.L
    have hld := ht.ld
    by_cases hlt : i < (RL.kids d P q).length
    rotate_left
    · have e0 : openB d P (some (q, i)) = false := by show (_ && _) = false; simp; omega
      have e1 : openX d P (some (q, i)) = some (q, i) := by show (if _ then _ else _) = _; rw [e0]; rfl
      rw [e0, e1]
      refine (tiOpen_end g LA d C t w hi (by omega) (by rw [hon]; simpa using hlt)).mono ?_
      rintro e w' ⟨rfl, hx⟩
      exact ⟨rfl, ⟨t, hi.ext hx, hs, ht⟩, hx.grown _⟩
    · by_cases hl2 : q.length + 1 < d
      rotate_left
      · have e0 : openB d P (some (q, i)) = false := by show (_ && _) = false; simp; omega
        have e1 : openX d P (some (q, i)) = some (q, i) := by show (if _ then _ else _) = _; rw [e0]; rfl
        rw [e0, e1]
        refine (tiOpen_last g LA d C t w hi (by omega) (by rw [hon]; simpa using hlt) (by omega)).mono ?_
        rintro e w' ⟨rfl, hx⟩
        exact ⟨rfl, ⟨t, hi.ext hx, hs, ht⟩, hx.grown _⟩
      · have e0 : openB d P (some (q, i)) = true := by show (_ && _) = true; simp; omega
        have ek : keyV d P (some (q, i)) = (RL.kids d P q)[i] := by
          show (RL.kids d P q).getD i _ = _
          rw [List.getD_eq_getElem?_getD, List.getElem?_eq_getElem hlt]
          rfl
        have e1 : openX d P (some (q, i)) = some (q ++ [(RL.kids d P q)[i]], 0) := by show (if _ then _ else _) = _; rw [e0, ek]; rfl
        rw [e0, e1]
        have hfit := RL.kids_fit (d := d) (P := P) q
        have el : t.L - 1 = q.length := by omega
        have ep := ht.pos
        have hm : RL.lo d P q + i < (RL.nodes d P q.length).length := by omega
        have hnode := RL.kids_get hr q hlt hm
        obtain ⟨c, hc⟩ : ∃ c, c = q ++ [(RL.kids d P q)[i]] := ⟨_, rfl⟩
        rw [← hc] at hnode ⊢
        have hcl : c.length = q.length + 1 := by rw [hc]; simp
        have hnl := RL.nodes_len d P q.length
        -- where the children begin and end
        have hf1 : (fsF d P q.length)[RL.lo d P q + i]? = some (RL.lo d P c) := by
          unfold fsF
          rw [List.getElem?_append_left (by simp [RL.firsts]; omega)]
          unfold RL.firsts
          rw [List.getElem?_map, List.getElem?_eq_getElem hm, hnode]
          unfold RL.lo
          rw [hcl]
          rfl
        have hf2 : (fsF d P q.length)[RL.lo d P q + i + 1]? = some (RL.lo d P c + (RL.kids d P c).length) := by
          rw [RL.kids_len, hcl]
          unfold fsF RL.lo
          rw [hcl]
          by_cases hlast : RL.lo d P q + i + 1 < (RL.nodes d P q.length).length
          · have hh := RL.firsts_next hr (l := q.length) hl2 hlast
            rw [hnode] at hh
            rw [List.getElem?_append_left (by simp [RL.firsts]; exact hlast)]
            unfold RL.firsts
            unfold RL.lo at hlast hh
            rw [List.getElem?_map, List.getElem?_eq_getElem hlast, ← hh]
            rfl
          · have hl3 : RL.lo d P q + i + 1 = (RL.nodes d P q.length).length := by omega
            have hh := RL.firsts_last hr (l := q.length) hl2 hl3
            rw [hnode] at hh
            unfold RL.lo at hl3
            rw [List.getElem?_append_right (by simp [RL.firsts]; omega), ← hh]
            simp [RL.firsts, hl3]
        have hpos := RL.kids_pos (d := d) (P := P) (q := c) (by omega) (.inr ⟨q.length, hcl.symm, by rw [← hnode]; exact List.getElem_mem hm⟩)
        obtain ⟨a1, a2⟩ := List.getElem?_eq_some_iff.1 hf1
        obtain ⟨b1, b2⟩ := List.getElem?_eq_some_iff.1 hf2
        have hff : ∀ (l p : Nat) (hl : l = q.length) (hp : p = RL.lo d P q + i) (h1 : p < (fsF d P l).length) (h2 : p + 1 < (fsF d P l).length), (fsF d P l)[p] = RL.lo d P c ∧ (fsF d P l)[p + 1] = RL.lo d P c + (RL.kids d P c).length := by
          intro l p hl hp h1 h2
          subst hl hp
          exact ⟨a2, b2⟩
        have hp1 : t.pos + 1 < (fsF d P (t.L - 1)).length := by rw [el, ep]; exact b1
        obtain ⟨f1, f2⟩ := hff (t.L - 1) t.pos el ep (by omega) hp1
        refine (tiOpen_down B g LA d C (vsF d P) (fsF d P) t w h hB hi (by omega) (by omega) hd (by rw [hon]; simpa using hlt) hv0 hp1 (by rw [fsF_len, el]; omega) (by rw [f1, f2]; omega)).mono ?_
        rintro e w' ⟨rfl, hi', hg⟩
        refine ⟨rfl, ⟨_, hi', hs, ?_⟩, hg⟩
        rw [f1, f2]
        refine ⟨by show t.L + 1 = _; omega, by omega, Nat.zero_le _, rfl, rfl, fun j hj => ?_⟩
        show ∃ k, (if j + 1 = t.L then (t.pos, t.fin) else t.ab (j + 1)) = _ ∧ _
        by_cases hjq : j = q.length
        · subst hjq
          refine ⟨i, ?_, ?_⟩
          · rw [if_pos (by omega), ht.pos, ht.fin]
            subst hc
            rw [List.take_left]
          · subst hc
            rw [List.take_left, List.getElem?_eq_getElem hlt]
            simp
        · obtain ⟨k', h4, h5⟩ := ht.up j (by omega)
          refine ⟨k', ?_, ?_⟩
          · rw [if_neg (by omega), h4]
            subst hc
            rw [List.take_append_of_le_length (by omega)]
          · subst hc
            rw [List.take_append_of_le_length (by omega), h5, List.getElem_append_left (by omega)]

theorem countP_asc {K : RL.R} {v : RL.V} (h : K.Pairwise fun a b => RL.cmpV a b < 0) {q : Nat} (hq : q ≤ K.length) (h1 : ∀ j (hj : j < K.length), j < q → RL.cmpV K[j] v < 0) (h2 : ∀ hj : q < K.length, ¬ RL.cmpV K[q] v < 0) : (K.countP fun u => decide (RL.cmpV u v < 0)) = q := by
  have e := List.take_append_drop q K
  conv => lhs; rw [← e, List.countP_append]
  have a1 : (K.take q).countP (fun u => decide (RL.cmpV u v < 0)) = (K.take q).length := List.countP_eq_length.2 fun u hu => by
    obtain ⟨j, hj, rfl⟩ := List.getElem_of_mem hu
    simp at hj
    rw [List.getElem_take]
    simpa using h1 j (by omega) (by omega)
  have a2 : (K.drop q).countP (fun u => decide (RL.cmpV u v < 0)) = 0 := List.countP_eq_zero.2 fun u hu => by
    obtain ⟨j, hj, rfl⟩ := List.getElem_of_mem hu
    simp at hj
    rw [List.getElem_drop]
    simp only [decide_eq_true_eq]
    intro hlt
    have h3 := h2 (by omega)
    rcases Nat.eq_zero_or_pos j with rfl | hj0
    · exact h3 hlt
    · have h4 := List.pairwise_iff_getElem.1 h q (q + j) (by omega) (by omega) (by omega)
      exact h3 (RL.tot_cmpV.tr _ _ _ h4 hlt)
  rw [a1, a2, List.length_take]
  omega
theorem countP_ge {K : RL.R} {v : RL.V} (h : K.Pairwise fun a b => RL.cmpV a b < 0) {q : Nat} (hq : q ≤ K.length) (h2 : ∀ hj : q < K.length, ¬ RL.cmpV K[q] v < 0) : (K.countP fun u => decide (RL.cmpV u v < 0)) ≤ q := by
  have e := List.take_append_drop q K
  conv => lhs; rw [← e, List.countP_append]
  have a1 := List.countP_le_length (p := fun u => decide (RL.cmpV u v < 0)) (l := K.take q)
  have a2 : (K.drop q).countP (fun u => decide (RL.cmpV u v < 0)) = 0 := List.countP_eq_zero.2 fun u hu => by
    obtain ⟨j, hj, rfl⟩ := List.getElem_of_mem hu
    simp at hj
    rw [List.getElem_drop]
    simp only [decide_eq_true_eq]
    intro hlt
    have h3 := h2 (by omega)
    rcases Nat.eq_zero_or_pos j with rfl | hj0
    · exact h3 hlt
    · have h4 := List.pairwise_iff_getElem.1 h q (q + j) (by omega) (by omega) (by omega)
      exact h3 (RL.tot_cmpV.tr _ _ _ h4 hlt)
  rw [a2]
  rw [List.length_take] at a1
  omega

theorem itSeek (B g : Nat) (LA : Option Addr) (d C : Nat) (P : List RL.R) (x : Pl) (s : Nat) (v : RL.V) (w : World) (h : TrM B w LA d (vsF d P) (fsF d P)) (hB : B ≤ w.heap.size) (hBg : B ≤ g) (hi : IterP w g LA d C P x s) (hd : d ≤ 32) (hP : P.length ≤ 100000) (hr : ∀ r ∈ P, r.length = d) (hs : s ≤ 100000000000000000) :
    Calls Try.prog 14 #[.pointer (some ⟨g, 0, none⟩), vv v] w fun e w' => ∃ s', e = .returned (.bool (onX d P (seekX d P v x))) ∧ IterP w' g LA d C P (seekX d P v x) s' ∧ s' ≤ s + 200002 ∧ w.grownBy w' (some g) := by
  obtain ⟨t, hi, rfl, ht⟩ := hi
  match x, ht with
  | none, ht =>
    refine (tiSeek_no g LA d C t v w hi (onV_root ht)).mono ?_
    rintro e w' ⟨rfl, hx⟩
    exact ⟨t.steps, rfl, ⟨t, hi.ext hx, rfl, ht⟩, by omega, hx.grown _⟩
  | some (q, i), ht =>
    have hon := onV_at ht
    by_cases hlt : i < (RL.kids d P q).length
    rotate_left
    · have e1 : seekX d P v (some (q, i)) = some (q, i) := if_neg hlt
      refine (tiSeek_no g LA d C t v w hi (by rw [hon]; simpa using hlt)).mono ?_
      rintro e w' ⟨rfl, hx⟩
      rw [e1]
      refine ⟨t.steps, ?_, ⟨t, hi.ext hx, rfl, ht⟩, by omega, hx.grown _⟩
      have e5 : onX d P (some (q, i)) = false := by show decide _ = false; simpa using hlt
      rw [e5]
    · have e1 : seekX d P v (some (q, i)) = some (q, max i ((RL.kids d P q).countP fun u => decide (RL.cmpV u v < 0))) := if_pos hlt
      rw [e1]
      have hasc := RL.kids_asc hr q (d := d)
      have el : t.L - 1 = q.length := by have := ht.L; omega
      have hfit := RL.kids_fit (d := d) (P := P) q
      have hnl := RL.nodes_len d P q.length
      have hpos := ht.pos
      have hfin := ht.fin
      have hltF : ∀ j (hj : j < (RL.kids d P q).length), ltF (vsF d P (t.L - 1)) v (RL.lo d P q + j) = decide (RL.cmpV (RL.kids d P q)[j] v < 0) := by
        intro j hj
        have hp : RL.lo d P q + j < (vsF d P q.length).length := by rw [vsF_len]; omega
        unfold ltF
        rw [el, List.getD_eq_getElem?_getD, List.getElem?_eq_getElem hp, key_at hr hj hp]
        rfl
      have hmono : ∀ j k, t.pos ≤ j → j ≤ k → k < t.fin → ltF (vsF d P (t.L - 1)) v k = true → ltF (vsF d P (t.L - 1)) v j = true := by
        intro j k h1 h2 h3 h4
        obtain ⟨j', rfl⟩ : ∃ j', j = RL.lo d P q + j' := ⟨j - RL.lo d P q, by omega⟩
        obtain ⟨k', rfl⟩ : ∃ k', k = RL.lo d P q + k' := ⟨k - RL.lo d P q, by omega⟩
        rw [hltF k' (by omega)] at h4
        rw [hltF j' (by omega)]
        simp only [decide_eq_true_eq] at h4 ⊢
        rcases Nat.lt_or_ge j' k' with h5 | h5
        · exact RL.tot_cmpV.tr _ _ _ (List.pairwise_iff_getElem.1 hasc j' k' (by omega) (by omega) h5) h4
        · obtain rfl : j' = k' := by omega
          exact h4
      refine (tiSeek_yes B g LA d C (vsF d P) (fsF d P) t v w h hB hBg hi (by omega) (by rw [hon]; simpa using hlt) (ok_at ht hP) hs hmono).mono ?_
      rintro e w' ⟨p, s', rfl, hi', h1, h2, h3, h4, h5, hg⟩
      obtain ⟨p', rfl⟩ : ∃ p', p = RL.lo d P q + p' := ⟨p - RL.lo d P q, by omega⟩
      have hmax : max i ((RL.kids d P q).countP fun u => decide (RL.cmpV u v < 0)) = p' := by
        have hge : ∀ hj : p' < (RL.kids d P q).length, ¬ RL.cmpV (RL.kids d P q)[p'] v < 0 := fun hj => by
          have := h4 (by omega)
          rw [hltF p' hj] at this
          simpa using this
        rcases Nat.lt_or_ge i p' with hip | hip
        · have hall : ∀ j (hj : j < (RL.kids d P q).length), j < p' → RL.cmpV (RL.kids d P q)[j] v < 0 := fun j hj hjp => by
            have hlast := h3 (RL.lo d P q + (p' - 1)) (by omega) (by omega)
            rw [hltF (p' - 1) (by omega)] at hlast
            simp only [decide_eq_true_eq] at hlast
            rcases Nat.lt_or_ge j (p' - 1) with h6 | h6
            · exact RL.tot_cmpV.tr _ _ _ (List.pairwise_iff_getElem.1 hasc j (p' - 1) hj (by omega) h6) hlast
            · obtain rfl : j = p' - 1 := by omega
              exact hlast
          rw [countP_asc hasc (by omega) hall hge]
          omega
        · obtain rfl : p' = i := by omega
          have := countP_ge hasc (by omega) hge
          omega
      rw [hmax]
      have hat : ItAt d P { t with pos := RL.lo d P q + p', steps := s' } q p' := ⟨ht.L, ht.ld, by omega, rfl, ht.fin, ht.up⟩
      refine ⟨s', ?_, ⟨_, hi', rfl, hat⟩, by omega, hg⟩
      have e5 : onX d P (some (q, p')) = decide (RL.lo d P q + p' < t.fin) := by
        show decide _ = _
        rw [Bool.eq_iff_iff]
        simp
        omega
      rw [e5]

theorem itLevel (g : Nat) (LA : Option Addr) (d C : Nat) (P : List RL.R) (x : Pl) (s : Nat) (w : World) (hi : IterP w g LA d C P x s) :
    Calls Try.prog 18 #[.pointer (some ⟨g, 0, none⟩)] w fun e w' => e = .returned (.int .i64 (levelX x)) ∧ w = w' := by
  obtain ⟨t, hi, hs, ht⟩ := hi
  have e : t.L = levelX x := by
    match x, ht with
    | none, ht => exact ht
    | some (q, i), ht => exact ht.L
  rw [← e]
  exact tiLevel_any g LA d C t w hi
theorem itSteps (g : Nat) (LA : Option Addr) (d C : Nat) (P : List RL.R) (x : Pl) (s : Nat) (w : World) (hi : IterP w g LA d C P x s) :
    Calls Try.prog 21 #[.pointer (some ⟨g, 0, none⟩)] w fun e w' => e = .returned (.int .i64 s) ∧ w = w' := by
  obtain ⟨t, hi, rfl, ht⟩ := hi
  exact tiSteps_any g LA d C t w hi
theorem itIter (LA : Option Addr) (d C : Nat) (P : List RL.R) (w : World) :
    Calls Try.prog 11 #[.agg #[.slice LA d C]] w fun e w' => ∃ g, e = .returned (.pointer (some ⟨g, 0, none⟩)) ∧ w.heap.size ≤ g ∧ IterP w' g LA d C P none 0 ∧ Below w.heap.size w w' :=
  (tiIter_any LA d C w).mono fun _ _ ⟨g, h1, h2, h3, h4⟩ => ⟨g, h1, h2, ⟨it0, h3, rfl, rfl⟩, h4⟩

end Go.Proofs.Ytlcammcifjihpaa
end

section
/- Plain: a depth-first traversal of a trie. -/
namespace Go.Proofs.Ytlcammcifjihpaa
open Go.RowKit Go.Sort

/-- How many nodes lie below q, m levels down. -/
def belowN (d : Nat) (P : List RL.R) : Nat → RL.R → Nat
  | 0, _ => 0
  | m + 1, q => ((RL.kids d P q).map fun v => 1 + belowN d P m (q ++ [v])).sum
/-- The rows below q. -/
def rowsN' (d : Nat) (P : List RL.R) : Nat → RL.R → List RL.R
  | 0, q => [q]
  | m + 1, q => (RL.kids d P q).flatMap fun v => rowsN' d P m (q ++ [v])
/-- q is a beginning of a row. -/
def IsPre (P : List RL.R) (q : RL.R) : Prop := ∃ y ∈ P, y.take q.length = q
section
variable {d : Nat} {P : List RL.R} (hS : RL.SS P) (hd : ∀ r ∈ P, r.length = d)
include hd
theorem mem_rowsN : ∀ (m : Nat) (q : RL.R), q.length + m = d → IsPre P q → ∀ y, y ∈ rowsN' d P m q ↔ y ∈ P ∧ y.take q.length = q := by
  intro m
  induction m with
  | zero =>
    intro q hq hp y
    obtain ⟨z, hz, e⟩ := hp
    have hzl := hd z hz
    rw [List.take_of_length_le (by omega)] at e
    subst e
    simp only [rowsN', List.mem_singleton]
    constructor
    · rintro rfl; exact ⟨hz, List.take_length⟩
    · rintro ⟨hy, e2⟩
      have := hd y hy
      rw [List.take_of_length_le (by omega)] at e2
      exact e2
  | succ m ih =>
    intro q hq hp y
    simp only [rowsN', List.mem_flatMap]
    constructor
    · rintro ⟨v, hv, hy⟩
      obtain ⟨z, hz, e⟩ := (RL.mem_kids hd (by omega) v).1 hv
      have h := (ih (q ++ [v]) (by simp; omega) ⟨z, hz, by simpa using e⟩ y).1 hy
      refine ⟨h.1, ?_⟩
      have := congrArg (List.take q.length) h.2
      rw [List.take_take, List.take_left, Nat.min_eq_left (by simp)] at this
      exact this
    · rintro ⟨hy, e⟩
      have hyl := hd y hy
      have hlt : q.length < y.length := by omega
      have e2 : y.take (q.length + 1) = q ++ [y[q.length]] := by rw [List.take_succ_eq_append_getElem hlt, e]
      have hk := (RL.mem_kids hd (by omega) (y[q.length])).2 ⟨y, hy, e2⟩
      exact ⟨y[q.length], hk, (ih (q ++ [y[q.length]]) (by simp; omega) ⟨y, hy, by simpa using e2⟩ y).2 ⟨hy, by simpa using e2⟩⟩
theorem pre_kid {q : RL.R} (hq : q.length < d) {v : RL.V} (hv : v ∈ RL.kids d P q) : IsPre P (q ++ [v]) := by
  obtain ⟨z, hz, e⟩ := (RL.mem_kids hd hq v).1 hv
  exact ⟨z, hz, by simpa using e⟩
theorem rowsN_pos (m : Nat) (q : RL.R) (hq : q.length + m = d) (hp : IsPre P q) : 0 < (rowsN' d P m q).length := by
  obtain ⟨z, hz, e⟩ := hp
  exact List.length_pos_of_mem ((mem_rowsN hd m q hq ⟨z, hz, e⟩ z).2 ⟨hz, e⟩)
theorem rowsN_ss : ∀ (m : Nat) (q : RL.R), q.length + m = d → IsPre P q → RL.SS (rowsN' d P m q) := by
  intro m
  induction m with
  | zero => intro q _ _; exact List.pairwise_singleton _ _
  | succ m ih =>
    intro q hq hp
    unfold RL.SS rowsN'
    rw [List.pairwise_flatMap]
    refine ⟨fun v hv => ih (q ++ [v]) (by simp; omega) (pre_kid hd (by omega) hv), ?_⟩
    refine List.Pairwise.imp_of_mem (fun {a b} ha hb hab => fun x hx y hy => ?_) (RL.kids_asc hd q)
    have h1 := (mem_rowsN hd m (q ++ [a]) (by simp; omega) (pre_kid hd (by omega) ha) x).1 hx
    have h2 := (mem_rowsN hd m (q ++ [b]) (by simp; omega) (pre_kid hd (by omega) hb) y).1 hy
    have e1 : x = (q ++ [a]) ++ x.drop (q ++ [a]).length := by conv => lhs; rw [← List.take_append_drop (q ++ [a]).length x, h1.2]
    have e2 : y = (q ++ [b]) ++ y.drop (q ++ [b]).length := by conv => lhs; rw [← List.take_append_drop (q ++ [b]).length y, h2.2]
    rw [e1, e2]
    refine RL.lt_ext _ _ _ _ (by simp) ?_
    rw [RL.cmpR_append_left, RL.cmpR_one]
    exact hab
include hS in
/-- From the root the traversal meets just the rows. -/
theorem rowsN_all (hP : P ≠ []) : rowsN' d P d [] = P := by
  obtain ⟨z, hz⟩ := List.exists_mem_of_ne_nil _ hP
  have hp : IsPre P [] := ⟨z, hz, by simp⟩
  refine RL.SS.ext (rowsN_ss hd d [] (by simp) hp) hS (fun r => ?_)
  rw [mem_rowsN hd d [] (by simp) hp]
  simp
omit hd in
theorem sum_le_of {l : RL.R} {f g : RL.V → Nat} (h : ∀ v ∈ l, f v ≤ g v) : (l.map f).sum ≤ (l.map g).sum := by
  induction l with
  | nil => simp
  | cons a l ih =>
    simp only [List.map_cons, List.sum_cons]
    have h1 := h a (by simp)
    have h2 := ih (fun v hv => h v (by simp [hv]))
    omega
theorem belowN_le : ∀ (m : Nat) (q : RL.R), q.length + m = d → IsPre P q → belowN d P m q ≤ m * (rowsN' d P m q).length := by
  intro m
  induction m with
  | zero => intro q _ _; exact Nat.zero_le _
  | succ m ih =>
    intro q hq hp
    unfold belowN rowsN'
    rw [List.length_flatMap]
    have h1 : ((RL.kids d P q).map fun v => 1 + belowN d P m (q ++ [v])).sum ≤ ((RL.kids d P q).map fun v => (m + 1) * (rowsN' d P m (q ++ [v])).length).sum := by
      apply sum_le_of
      intro v hv
      have h2 := ih (q ++ [v]) (by simp; omega) (pre_kid hd (by omega) hv)
      have h3 := rowsN_pos hd m (q ++ [v]) (by simp; omega) (pre_kid hd (by omega) hv)
      rw [Nat.add_mul, Nat.one_mul]
      omega
    have h4 : ((RL.kids d P q).map fun v => (m + 1) * (rowsN' d P m (q ++ [v])).length).sum = (m + 1) * ((RL.kids d P q).map fun v => (rowsN' d P m (q ++ [v])).length).sum := by
      clear h1 ih
      induction RL.kids d P q with
      | nil => simp
      | cons a l ih => simp only [List.map_cons, List.sum_cons, ih, Nat.mul_add]
    omega
end
/-- What of the traversal lies behind the first k children. -/
def rowsK (d : Nat) (P : List RL.R) (m : Nat) (q : RL.R) (k : Nat) : List RL.R := ((RL.kids d P q).take k).flatMap fun v => rowsN' d P m (q ++ [v])
def belowK (d : Nat) (P : List RL.R) (m : Nat) (q : RL.R) (k : Nat) : Nat := (((RL.kids d P q).take k).map fun v => 1 + belowN d P m (q ++ [v])).sum
theorem rowsK_zero (d : Nat) (P : List RL.R) (m : Nat) (q : RL.R) : rowsK d P m q 0 = [] := by simp [rowsK]
theorem belowK_zero (d : Nat) (P : List RL.R) (m : Nat) (q : RL.R) : belowK d P m q 0 = 0 := by simp [belowK]
theorem rowsK_succ {d : Nat} {P : List RL.R} {m : Nat} {q : RL.R} {k : Nat} (hk : k < (RL.kids d P q).length) : rowsK d P m q (k + 1) = rowsK d P m q k ++ rowsN' d P m (q ++ [(RL.kids d P q)[k]]) := by
  unfold rowsK
  rw [List.take_succ_eq_append_getElem hk, List.flatMap_append]
  simp
theorem belowK_succ {d : Nat} {P : List RL.R} {m : Nat} {q : RL.R} {k : Nat} (hk : k < (RL.kids d P q).length) : belowK d P m q (k + 1) = belowK d P m q k + (1 + belowN d P m (q ++ [(RL.kids d P q)[k]])) := by
  unfold belowK
  rw [List.take_succ_eq_append_getElem hk, List.map_append, List.sum_append]
  simp
theorem rowsK_all (d : Nat) (P : List RL.R) (m : Nat) (q : RL.R) : rowsK d P m q (RL.kids d P q).length = rowsN' d P (m + 1) q := by unfold rowsK; rw [List.take_length]; rfl
theorem belowK_all (d : Nat) (P : List RL.R) (m : Nat) (q : RL.R) : belowK d P m q (RL.kids d P q).length = belowN d P (m + 1) q := by unfold belowK; rw [List.take_length]; rfl
theorem belowK_le {d : Nat} {P : List RL.R} {m : Nat} {q : RL.R} {k : Nat} (hk : k < (RL.kids d P q).length) : belowK d P m q (k + 1) ≤ belowN d P (m + 1) q := by
  rw [← belowK_all]
  unfold belowK
  rw [List.take_length]
  conv => rhs; rw [← List.take_append_drop (k + 1) (RL.kids d P q), List.map_append, List.sum_append]
  exact Nat.le_add_right _ _
end Go.Proofs.Ytlcammcifjihpaa
end

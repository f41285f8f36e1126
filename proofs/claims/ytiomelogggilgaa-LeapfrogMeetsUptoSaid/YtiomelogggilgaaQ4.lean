/- Parts of the proof, merged: I4, E7, I5, I6, I7, I8. -/
import Derived.Test.YtiomelogggilgaaQ3
import Derived.Test.YtiomelogggilgaaQ1
import Derived.Deep.RegionHeld3

section
/- Walks: Up, Iter. -/
namespace Go.Proofs.Ytiomelogggilgaa
open Go.RowKit Go.Sort

theorem tiUp_nil (w : World) : Calls Try.prog 79 #[.pointer none] w fun e w' => e = .returned (.bool false) ∧ w = w' := by
  go_enter Try.func79, Try.ntmps79
  go_wp2
  go_ret
  exact ⟨rfl, rfl⟩
theorem tiUp_no (g : Nat) (LA : Option Addr) (d C : Nat) (t : It) (w : World) (hi : ItM w g LA d C t) (hn : t.L = 0) :
    Calls Try.prog 79 #[.pointer (some ⟨g, 0, none⟩)] w fun e w' => e = .returned (.bool false) ∧ w = w' := by
  have c1 := hi.c1
  rw [hn] at c1
  simp only [Int.natCast_zero] at c1
  clear hi hn
  go_enter Try.func79, Try.ntmps79
  go_wp2
  go_ret
  exact ⟨rfl, rfl⟩
/-- The iterator one level up. -/
def upT (t : It) : It := { t with L := t.L - 1, pos := (t.ab (t.L - 1)).1, fin := (t.ab (t.L - 1)).2 }
set_option maxHeartbeats 1000000 in
set_option maxRecDepth 100000 in
theorem tiUp_yes (g : Nat) (LA : Option Addr) (d C : Nat) (t : It) (w : World) (hi : ItM w g LA d C t) (hn : 0 < t.L) (h32 : t.L ≤ 32) :
    Calls Try.prog 79 #[.pointer (some ⟨g, 0, none⟩)] w fun e w' => e = .returned (.bool true) ∧ ItM w' g LA d C (upT t) ∧ w.grownBy w' (some g) := by
  obtain ⟨k, hk⟩ : ∃ k, t.L = k + 1 := ⟨t.L - 1, by omega⟩
  have c1 := hi.c1
  have f1 := hi.fr 1
  rw [hk] at c1
  obtain ⟨W1, hW1⟩ : ∃ W1, W1 = w.setCell ⟨g, 1, none⟩ (.int .i64 (k : Int)) := ⟨_, rfl⟩
  have hi1 : ItM W1 g LA d C { t with L := k } := by rw [hW1]; exact hi.setL k
  have hgr : w.grownBy W1 (some g) := by rw [hW1]; exact grown_set w g 1 _
  have HUP : Hid (upT t = { t with L := k, pos := (t.ab k).1, fin := (t.ab k).2 }) := by show _ = _; unfold upT; rw [hk]; rfl
  rw [HUP.out]
  have hk32 : k < 32 := by omega
  have d1 : W1.cell? ⟨g, 1, none⟩ = some (.int .i64 (k : Int)) := hi1.c1
  obtain ⟨a0, a1⟩ := hi1.ca hk32
  have e2 := hi1.c2
  have e3 := hi1.c3
  have f2 := hi1.fr 2
  have f3 := hi1.fr 3
  simp only at a0 a1 e2 e3
  have HI1 := Lib.hid hi1
  have HGR := Lib.hid hgr
  have h0k : (k : Int) + 1 ≠ 0 := by omega
  have hne : ((k : Int) + 1 == 0) = false := by simpa using h0k
  rw [Int.natCast_add, Int.natCast_one] at c1
  have hw1 : IntKind.i64.wrap (k : Int) = (k : Int) := IntWalk.i64_in _ (by omega)
  have g1 : (0 : Int) ≤ (k : Int) := by omega
  have g2 : (k : Int) < 32 := by omega
  clear hi hi1 hgr hn hk h0k
  generalize (t.ab k).1 = ap at *
  generalize (t.ab k).2 = af at *
  go_enter Try.func79, Try.ntmps79
  go_wp2
  rw [← hW1]
  clear hW1
  go_still_tail 12, (by kernel_rfl)
  go_wp2
  go_ret
  exact ⟨rfl, (HI1.out.setPos ap).setFin af, grown_trans HGR.out (grown_trans (grown_set W1 g 2 _) (grown_trans (grown_set _ g 3 _) ((Ext.refl _).drew.grown _)))⟩

/-- An iterator at the root. -/
def it0 : It := ⟨0, 0, 0, 0, fun _ => (0, 0)⟩
theorem ItC_new (LA : Option Addr) (d C : Nat) : ItC (.slice LA d C :: List.replicate 68 (.int .i64 0)) LA d C it0 := by
  refine ⟨rfl, rfl, rfl, rfl, rfl, fun j hj => ?_, rfl⟩
  have e1 : 4 + j * 2 = (3 + j * 2) + 1 := by omega
  have e2 : 4 + j * 2 + 1 = (3 + j * 2 + 1) + 1 := by omega
  rw [e2]
  rw [e1, List.getElem?_cons_succ, List.getElem?_cons_succ, List.getElem?_replicate, List.getElem?_replicate, if_pos (by omega), if_pos (by omega)]
  exact ⟨rfl, rfl⟩
set_option maxHeartbeats 1000000 in
set_option maxRecDepth 100000 in
theorem tiIter_any (LA : Option Addr) (d C : Nat) (w : World) :
    Calls Try.prog 52 #[.agg #[.slice LA d C]] w fun e w' => ∃ g, e = .returned (.pointer (some ⟨g, 0, none⟩)) ∧ w.heap.size ≤ g ∧ ItM w' g LA d C it0 ∧ Below w.heap.size w w' := by
  go_enter Try.func52, Try.ntmps52
  go_wp2
  go_ret
  refine ⟨w.heap.size + 1, rfl, by omega, ⟨_, ?_, ItC_new LA d C⟩, (((Ext.refl w).alloc _).alloc _).below⟩
  have h := Row.new (w.alloc (.cells #[.slice LA d C] 109)) 136 (.slice LA d C :: List.replicate 68 (.int .i64 0))
  simp only [World.size_alloc] at h
  exact h

end Go.Proofs.Ytiomelogggilgaa
end

section
/- A move for regions that draw their order. -/
namespace Go.Proofs.Ytiomelogggilgaa
open Go.RowKit Go.Sort

/-- wpAnyH_take with the slot written out. -/
theorem takeOp {P : Program} {md : Region.Mode} {ops : Array Oper} {Q : Exit → Act → World → Prop} {S : World → Prop} {i : Nat} {oi : Oper} {v : Value} {fuel : Nat} {listed : Array Bool} {a : Act} {w : World} (d : Option Tmp) (hi : ops[i]? = some oi) (hd : oi.dst = d)
    (hs : Region.noSelect ops = true) (hf : Region.free md ops listed i = true) (hr : (Region.ready md ops listed).contains i = true)
    (hQ : ∀ c a w, Q (.panic c) (a.put d v) w → Q (.panic c) a w) (hy : YieldsIf P ops S oi v a) (hS : S w)
    (h : wpAnyH P md ops Q S fuel (listed.setIfInBounds i true) (a.put d v) w) : wpAnyH P md ops Q S (fuel + 1) listed a w := by
  subst hd
  exact wpAnyH_take hi hs hf hr hQ hy hS h

end Go.Proofs.Ytiomelogggilgaa
end

section
/- Walks: Open, where it does not move. -/
namespace Go.Proofs.Ytiomelogggilgaa
open Go.RowKit Go.Sort

set_option maxHeartbeats 1000000 in
set_option maxRecDepth 100000 in
theorem tiOpen_nil (w : World) : Calls Try.prog 75 #[.pointer none] w fun e w' => e = .returned (.bool false) ∧ Ext w w' := by
  go_enter Try.func75, Try.ntmps75
  go_wp2
  go_quiet (fail)
  go_wp2
  go_ret
  exact ⟨rfl, (Ext.refl w).drewN _⟩

set_option maxHeartbeats 2000000 in
set_option maxRecDepth 100000 in
/-- Behind the last sibling Open does not move. -/
theorem tiOpen_end (g : Nat) (LA : Option Addr) (d C : Nat) (t : It) (w : World) (hi : ItM w g LA d C t) (hL : 0 < t.L) (hn : onV t = false) :
    Calls Try.prog 75 #[.pointer (some ⟨g, 0, none⟩)] w fun e w' => e = .returned (.bool false) ∧ Ext w w' := by
  have c0 := hi.c0
  have c1 := hi.c1
  have hg := hi.lt
  have HI := Lib.hid hi
  have HC := Lib.hid (fun W (h : ItM W g LA d C t) => tiOnV_any g LA d C t W h)
  rw [hn] at HC
  generalize t.L = L at *
  clear hi hn
  go_enter Try.func75, Try.ntmps75
  go_wp2
  refine wp_region_held_drew (S := (fun w' => w'.cell? ⟨g, 0, none⟩ = some (.slice LA d C) ∧ w'.cell? ⟨g, 1, none⟩ = some (.int .i64 L))) (by kernel_rfl) ⟨c0, c1⟩ (fun hHeld => ?_)
  refine takeOp (i := 0) (v := ?_) (some 5) rfl rfl (by kernel_rfl) (by kernel_rfl) (by kernel_rfl) (fun _ _ _ h => h) (Or.inl ⟨by rfl, ?_⟩) (by assumption) ?_
  rotate_left 1
  · (intro w0 hSw; (try dsimp only at hSw); go_simp; try (with_reducible rfl))
  try simp only [Act.put]
  try simp only [List.setIfInBounds_toArray]
  try simp only [List.set_cons_succ]
  try simp only [List.set_cons_zero]
  refine takeOp (i := 1) (v := ?_) (some 6) rfl rfl (by kernel_rfl) (by kernel_rfl) (by kernel_rfl) (fun _ _ _ h => h) (Or.inl ⟨by rfl, ?_⟩) (by assumption) ?_
  rotate_left 1
  · (intro w0 hSw; (try dsimp only at hSw); go_simp; try (with_reducible rfl))
  try simp only [Act.put]
  try simp only [List.setIfInBounds_toArray]
  try simp only [List.set_cons_succ]
  try simp only [List.set_cons_zero]
  refine takeOp (i := 2) (v := ?_) (some 7) rfl rfl (by kernel_rfl) (by kernel_rfl) (by kernel_rfl) (fun _ _ _ h => h) (Or.inl ⟨by rfl, ?_⟩) (by assumption) ?_
  rotate_left 1
  · (intro w0 hSw; (try dsimp only at hSw); go_simp; try (with_reducible rfl))
  try simp only [Act.put]
  try simp only [List.setIfInBounds_toArray]
  try simp only [List.set_cons_succ]
  try simp only [List.set_cons_zero]
  refine takeOp (i := 3) (v := ?_) (some 8) rfl rfl (by kernel_rfl) (by kernel_rfl) (by kernel_rfl) (fun _ _ _ h => h) (Or.inl ⟨by rfl, ?_⟩) (by assumption) ?_
  rotate_left 1
  · (intro w0 hSw; (try dsimp only at hSw); go_simp; try (with_reducible rfl))
  try simp only [Act.put]
  try simp only [List.setIfInBounds_toArray]
  try simp only [List.set_cons_succ]
  try simp only [List.set_cons_zero]
  refine takeOp (i := 4) (v := ?_) (some 9) rfl rfl (by kernel_rfl) (by kernel_rfl) (by kernel_rfl) (fun _ _ _ h => h) (Or.inl ⟨by rfl, ?_⟩) (by assumption) ?_
  rotate_left 1
  · (intro w0 hSw; (try dsimp only at hSw); go_simp; try (with_reducible rfl))
  try simp only [Act.put]
  try simp only [List.setIfInBounds_toArray]
  try simp only [List.set_cons_succ]
  try simp only [List.set_cons_zero]
  refine takeOp (i := 5) (v := ?_) (some 10) rfl rfl (by kernel_rfl) (by kernel_rfl) (by kernel_rfl) (fun _ _ _ h => h) (Or.inl ⟨by rfl, ?_⟩) (by assumption) ?_
  rotate_left 1
  · (intro w0 hSw; (try dsimp only at hSw); go_simp; try (with_reducible rfl))
  try simp only [Act.put]
  try simp only [List.setIfInBounds_toArray]
  try simp only [List.set_cons_succ]
  try simp only [List.set_cons_zero]
  refine takeOp (i := 6) (v := ?_) (some 11) rfl rfl (by kernel_rfl) (by kernel_rfl) (by kernel_rfl) (fun _ _ _ h => h) (Or.inl ⟨by rfl, ?_⟩) (by assumption) ?_
  rotate_left 1
  · (intro w0 hSw; (try dsimp only at hSw); go_simp; try (with_reducible rfl))
  try simp only [Act.put]
  try simp only [List.setIfInBounds_toArray]
  try simp only [List.set_cons_succ]
  try simp only [List.set_cons_zero]
  refine takeOp (i := 7) (v := ?_) (some 12) rfl rfl (by kernel_rfl) (by kernel_rfl) (by kernel_rfl) (fun _ _ _ h => h) (Or.inl ⟨by rfl, ?_⟩) (by assumption) ?_
  rotate_left 1
  · (intro w0 hSw; (try dsimp only at hSw); go_simp; try (with_reducible rfl))
  try simp only [Act.put]
  try simp only [List.setIfInBounds_toArray]
  try simp only [List.set_cons_succ]
  try simp only [List.set_cons_zero]
  refine takeOp (i := 8) (v := ?_) (some 13) rfl rfl (by kernel_rfl) (by kernel_rfl) (by kernel_rfl) (fun _ _ _ h => h) (Or.inl ⟨by rfl, ?_⟩) (by assumption) ?_
  rotate_left 1
  · (intro w0 hSw; (try dsimp only at hSw); go_simp; try (with_reducible rfl))
  try simp only [Act.put]
  try simp only [List.setIfInBounds_toArray]
  try simp only [List.set_cons_succ]
  try simp only [List.set_cons_zero]
  refine takeOp (i := 9) (v := ?_) (some 14) rfl rfl (by kernel_rfl) (by kernel_rfl) (by kernel_rfl) (fun _ _ _ h => h) (Or.inl ⟨by rfl, ?_⟩) (by assumption) ?_
  rotate_left 1
  · (intro w0 hSw; (try dsimp only at hSw); go_simp; try (with_reducible rfl))
  try simp only [Act.put]
  try simp only [List.setIfInBounds_toArray]
  try simp only [List.set_cons_succ]
  try simp only [List.set_cons_zero]
  refine wpAnyH_ready (rs := [10]) (by kernel_rfl) (by simp) ?_
  refine AllReadyH.cons rfl (fun K hK => ?_) AllReadyH.nil
  go_simp
  refine (HC.out _ (HI.out.ext (Ext.refl w).drew)).mono ?_
  rintro e w1 ⟨rfl, hx0⟩
  have hx : Ext w w1 := (Ext.refl w).drew.trans hx0
  have KEEP : w1.cell? ⟨g, 0, none⟩ = some (.slice LA d C) ∧ w1.cell? ⟨g, 1, none⟩ = some (.int .i64 L) := ⟨(hx.cell hg).trans c0, (hx.cell hg).trans c1⟩
  have HX := Lib.hid hx
  clear hx hx0
  go_wp2_with fail
  refine hK.out _ _ KEEP (fun hHeld => ?_)
  clear hK K
  try simp only [Act.put]
  try simp only [List.setIfInBounds_toArray]
  try simp only [List.set_cons_succ]
  try simp only [List.set_cons_zero]
  refine takeOp (i := 11) (v := ?_) (some 16) rfl rfl (by kernel_rfl) (by kernel_rfl) (by kernel_rfl) (fun _ _ _ h => h) (Or.inl ⟨by rfl, ?_⟩) (by assumption) ?_
  rotate_left 1
  · (intro w0 hSw; (try dsimp only at hSw); go_simp; try (with_reducible rfl))
  try simp only [Act.put]
  try simp only [List.setIfInBounds_toArray]
  try simp only [List.set_cons_succ]
  try simp only [List.set_cons_zero]
  refine takeOp (i := 12) (v := ?_) (some 17) rfl rfl (by kernel_rfl) (by kernel_rfl) (by kernel_rfl) (fun _ _ _ h => h) (Or.inl ⟨by rfl, ?_⟩) (by assumption) ?_
  rotate_left 1
  · (intro w0 hSw; (try dsimp only at hSw); go_simp; try (with_reducible rfl))
  try simp only [Act.put]
  try simp only [List.setIfInBounds_toArray]
  try simp only [List.set_cons_succ]
  try simp only [List.set_cons_zero]
  refine takeOp (i := 13) (v := ?_) (some 18) rfl rfl (by kernel_rfl) (by kernel_rfl) (by kernel_rfl) (fun _ _ _ h => h) (Or.inl ⟨by rfl, ?_⟩) (by assumption) ?_
  rotate_left 1
  · (intro w0 hSw; (try dsimp only at hSw); go_simp; try (with_reducible rfl))
  try simp only [Act.put]
  try simp only [List.setIfInBounds_toArray]
  try simp only [List.set_cons_succ]
  try simp only [List.set_cons_zero]
  refine takeOp (i := 14) (v := ?_) (some 19) rfl rfl (by kernel_rfl) (by kernel_rfl) (by kernel_rfl) (fun _ _ _ h => h) (Or.inl ⟨by rfl, ?_⟩) (by assumption) ?_
  rotate_left 1
  · (intro w0 hSw; (try dsimp only at hSw); go_simp; try (with_reducible rfl))
  try simp only [Act.put]
  try simp only [List.setIfInBounds_toArray]
  try simp only [List.set_cons_succ]
  try simp only [List.set_cons_zero]
  refine takeOp (i := 15) (v := undef) (some 20) rfl rfl (by kernel_rfl) (by kernel_rfl) (by kernel_rfl) (fun _ _ _ h => h) (Or.inr ⟨by rfl, rfl⟩) (by assumption) ?_
  try simp only [Act.put]
  try simp only [List.setIfInBounds_toArray]
  try simp only [List.set_cons_succ]
  try simp only [List.set_cons_zero]
  refine takeOp (i := 16) (v := undef) (some 21) rfl rfl (by kernel_rfl) (by kernel_rfl) (by kernel_rfl) (fun _ _ _ h => h) (Or.inr ⟨by rfl, rfl⟩) (by assumption) ?_
  try simp only [Act.put]
  try simp only [List.setIfInBounds_toArray]
  try simp only [List.set_cons_succ]
  try simp only [List.set_cons_zero]
  refine takeOp (i := 17) (v := undef) (some 22) rfl rfl (by kernel_rfl) (by kernel_rfl) (by kernel_rfl) (fun _ _ _ h => h) (Or.inr ⟨by rfl, rfl⟩) (by assumption) ?_
  try simp only [Act.put]
  try simp only [List.setIfInBounds_toArray]
  try simp only [List.set_cons_succ]
  try simp only [List.set_cons_zero]
  refine takeOp (i := 18) (v := undef) (some 23) rfl rfl (by kernel_rfl) (by kernel_rfl) (by kernel_rfl) (fun _ _ _ h => h) (Or.inr ⟨by rfl, rfl⟩) (by assumption) ?_
  try simp only [Act.put]
  try simp only [List.setIfInBounds_toArray]
  try simp only [List.set_cons_succ]
  try simp only [List.set_cons_zero]
  refine takeOp (i := 19) (v := undef) (some 24) rfl rfl (by kernel_rfl) (by kernel_rfl) (by kernel_rfl) (fun _ _ _ h => h) (Or.inr ⟨by rfl, rfl⟩) (by assumption) ?_
  try simp only [Act.put]
  try simp only [List.setIfInBounds_toArray]
  try simp only [List.set_cons_succ]
  try simp only [List.set_cons_zero]
  refine takeOp (i := 20) (v := undef) (some 25) rfl rfl (by kernel_rfl) (by kernel_rfl) (by kernel_rfl) (fun _ _ _ h => h) (Or.inr ⟨by rfl, rfl⟩) (by assumption) ?_
  try simp only [Act.put]
  try simp only [List.setIfInBounds_toArray]
  try simp only [List.set_cons_succ]
  try simp only [List.set_cons_zero]
  refine takeOp (i := 21) (v := undef) (some 26) rfl rfl (by kernel_rfl) (by kernel_rfl) (by kernel_rfl) (fun _ _ _ h => h) (Or.inr ⟨by rfl, rfl⟩) (by assumption) ?_
  try simp only [Act.put]
  try simp only [List.setIfInBounds_toArray]
  try simp only [List.set_cons_succ]
  try simp only [List.set_cons_zero]
  refine takeOp (i := 22) (v := undef) (some 27) rfl rfl (by kernel_rfl) (by kernel_rfl) (by kernel_rfl) (fun _ _ _ h => h) (Or.inr ⟨by rfl, rfl⟩) (by assumption) ?_
  try simp only [Act.put]
  try simp only [List.setIfInBounds_toArray]
  try simp only [List.set_cons_succ]
  try simp only [List.set_cons_zero]
  refine takeOp (i := 23) (v := undef) (some 28) rfl rfl (by kernel_rfl) (by kernel_rfl) (by kernel_rfl) (fun _ _ _ h => h) (Or.inr ⟨by rfl, rfl⟩) (by assumption) ?_
  try simp only [Act.put]
  try simp only [List.setIfInBounds_toArray]
  try simp only [List.set_cons_succ]
  try simp only [List.set_cons_zero]
  refine takeOp (i := 24) (v := undef) (some 29) rfl rfl (by kernel_rfl) (by kernel_rfl) (by kernel_rfl) (fun _ _ _ h => h) (Or.inr ⟨by rfl, rfl⟩) (by assumption) ?_
  try simp only [Act.put]
  try simp only [List.setIfInBounds_toArray]
  try simp only [List.set_cons_succ]
  try simp only [List.set_cons_zero]
  refine takeOp (i := 25) (v := ?_) (some 30) rfl rfl (by kernel_rfl) (by kernel_rfl) (by kernel_rfl) (fun _ _ _ h => h) (Or.inl ⟨by rfl, ?_⟩) (by assumption) ?_
  rotate_left 1
  · (intro w0 hSw; (try dsimp only at hSw); go_simp; try (with_reducible rfl))
  try simp only [Act.put]
  try simp only [List.setIfInBounds_toArray]
  try simp only [List.set_cons_succ]
  try simp only [List.set_cons_zero]
  refine wpAnyH_done (by kernel_rfl) ?_ _
  all_goals
    go_wp2
    go_ret
    exact ⟨rfl, HX.out⟩

set_option maxHeartbeats 2000000 in
set_option maxRecDepth 100000 in
/-- On the last level Open does not move. -/
theorem tiOpen_last (g : Nat) (LA : Option Addr) (d C : Nat) (t : It) (w : World) (hi : ItM w g LA d C t) (hL : 0 < t.L) (hn : onV t = true) (hd : d ≤ t.L) :
    Calls Try.prog 75 #[.pointer (some ⟨g, 0, none⟩)] w fun e w' => e = .returned (.bool false) ∧ Ext w w' := by
  have c0 := hi.c0
  have c1 := hi.c1
  have hg := hi.lt
  have HI := Lib.hid hi
  have HC := Lib.hid (fun W (h : ItM W g LA d C t) => tiOnV_any g LA d C t W h)
  rw [hn] at HC
  have HDP := Lib.hid (fun W => trDepth_any LA d C W)
  generalize t.L = L at *
  clear hi hn
  go_enter Try.func75, Try.ntmps75
  go_wp2
  refine wp_region_held_drew (S := (fun w' => w'.cell? ⟨g, 0, none⟩ = some (.slice LA d C) ∧ w'.cell? ⟨g, 1, none⟩ = some (.int .i64 L))) (by kernel_rfl) ⟨c0, c1⟩ (fun hHeld => ?_)
  refine takeOp (i := 0) (v := ?_) (some 5) rfl rfl (by kernel_rfl) (by kernel_rfl) (by kernel_rfl) (fun _ _ _ h => h) (Or.inl ⟨by rfl, ?_⟩) (by assumption) ?_
  rotate_left 1
  · (intro w0 hSw; (try dsimp only at hSw); go_simp; try (with_reducible rfl))
  try simp only [Act.put]
  try simp only [List.setIfInBounds_toArray]
  try simp only [List.set_cons_succ]
  try simp only [List.set_cons_zero]
  refine takeOp (i := 1) (v := ?_) (some 6) rfl rfl (by kernel_rfl) (by kernel_rfl) (by kernel_rfl) (fun _ _ _ h => h) (Or.inl ⟨by rfl, ?_⟩) (by assumption) ?_
  rotate_left 1
  · (intro w0 hSw; (try dsimp only at hSw); go_simp; try (with_reducible rfl))
  try simp only [Act.put]
  try simp only [List.setIfInBounds_toArray]
  try simp only [List.set_cons_succ]
  try simp only [List.set_cons_zero]
  refine takeOp (i := 2) (v := ?_) (some 7) rfl rfl (by kernel_rfl) (by kernel_rfl) (by kernel_rfl) (fun _ _ _ h => h) (Or.inl ⟨by rfl, ?_⟩) (by assumption) ?_
  rotate_left 1
  · (intro w0 hSw; (try dsimp only at hSw); go_simp; try (with_reducible rfl))
  try simp only [Act.put]
  try simp only [List.setIfInBounds_toArray]
  try simp only [List.set_cons_succ]
  try simp only [List.set_cons_zero]
  refine takeOp (i := 3) (v := ?_) (some 8) rfl rfl (by kernel_rfl) (by kernel_rfl) (by kernel_rfl) (fun _ _ _ h => h) (Or.inl ⟨by rfl, ?_⟩) (by assumption) ?_
  rotate_left 1
  · (intro w0 hSw; (try dsimp only at hSw); go_simp; try (with_reducible rfl))
  try simp only [Act.put]
  try simp only [List.setIfInBounds_toArray]
  try simp only [List.set_cons_succ]
  try simp only [List.set_cons_zero]
  refine takeOp (i := 4) (v := ?_) (some 9) rfl rfl (by kernel_rfl) (by kernel_rfl) (by kernel_rfl) (fun _ _ _ h => h) (Or.inl ⟨by rfl, ?_⟩) (by assumption) ?_
  rotate_left 1
  · (intro w0 hSw; (try dsimp only at hSw); go_simp; try (with_reducible rfl))
  try simp only [Act.put]
  try simp only [List.setIfInBounds_toArray]
  try simp only [List.set_cons_succ]
  try simp only [List.set_cons_zero]
  refine takeOp (i := 5) (v := ?_) (some 10) rfl rfl (by kernel_rfl) (by kernel_rfl) (by kernel_rfl) (fun _ _ _ h => h) (Or.inl ⟨by rfl, ?_⟩) (by assumption) ?_
  rotate_left 1
  · (intro w0 hSw; (try dsimp only at hSw); go_simp; try (with_reducible rfl))
  try simp only [Act.put]
  try simp only [List.setIfInBounds_toArray]
  try simp only [List.set_cons_succ]
  try simp only [List.set_cons_zero]
  refine takeOp (i := 6) (v := ?_) (some 11) rfl rfl (by kernel_rfl) (by kernel_rfl) (by kernel_rfl) (fun _ _ _ h => h) (Or.inl ⟨by rfl, ?_⟩) (by assumption) ?_
  rotate_left 1
  · (intro w0 hSw; (try dsimp only at hSw); go_simp; try (with_reducible rfl))
  try simp only [Act.put]
  try simp only [List.setIfInBounds_toArray]
  try simp only [List.set_cons_succ]
  try simp only [List.set_cons_zero]
  refine takeOp (i := 7) (v := ?_) (some 12) rfl rfl (by kernel_rfl) (by kernel_rfl) (by kernel_rfl) (fun _ _ _ h => h) (Or.inl ⟨by rfl, ?_⟩) (by assumption) ?_
  rotate_left 1
  · (intro w0 hSw; (try dsimp only at hSw); go_simp; try (with_reducible rfl))
  try simp only [Act.put]
  try simp only [List.setIfInBounds_toArray]
  try simp only [List.set_cons_succ]
  try simp only [List.set_cons_zero]
  refine takeOp (i := 8) (v := ?_) (some 13) rfl rfl (by kernel_rfl) (by kernel_rfl) (by kernel_rfl) (fun _ _ _ h => h) (Or.inl ⟨by rfl, ?_⟩) (by assumption) ?_
  rotate_left 1
  · (intro w0 hSw; (try dsimp only at hSw); go_simp; try (with_reducible rfl))
  try simp only [Act.put]
  try simp only [List.setIfInBounds_toArray]
  try simp only [List.set_cons_succ]
  try simp only [List.set_cons_zero]
  refine takeOp (i := 9) (v := ?_) (some 14) rfl rfl (by kernel_rfl) (by kernel_rfl) (by kernel_rfl) (fun _ _ _ h => h) (Or.inl ⟨by rfl, ?_⟩) (by assumption) ?_
  rotate_left 1
  · (intro w0 hSw; (try dsimp only at hSw); go_simp; try (with_reducible rfl))
  try simp only [Act.put]
  try simp only [List.setIfInBounds_toArray]
  try simp only [List.set_cons_succ]
  try simp only [List.set_cons_zero]
  refine wpAnyH_ready (rs := [10]) (by kernel_rfl) (by simp) ?_
  refine AllReadyH.cons rfl (fun K hK => ?_) AllReadyH.nil
  go_simp
  refine (HC.out _ (HI.out.ext (Ext.refl w).drew)).mono ?_
  rintro e w1 ⟨rfl, hx0⟩
  have hx : Ext w w1 := (Ext.refl w).drew.trans hx0
  have KEEP : w1.cell? ⟨g, 0, none⟩ = some (.slice LA d C) ∧ w1.cell? ⟨g, 1, none⟩ = some (.int .i64 L) := ⟨(hx.cell hg).trans c0, (hx.cell hg).trans c1⟩
  have HX := Lib.hid hx
  clear hx hx0
  go_wp2_with fail
  refine hK.out _ _ KEEP (fun hHeld => ?_)
  clear hK K
  try simp only [Act.put]
  try simp only [List.setIfInBounds_toArray]
  try simp only [List.set_cons_succ]
  try simp only [List.set_cons_zero]
  refine takeOp (i := 11) (v := ?_) (some 16) rfl rfl (by kernel_rfl) (by kernel_rfl) (by kernel_rfl) (fun _ _ _ h => h) (Or.inl ⟨by rfl, ?_⟩) (by assumption) ?_
  rotate_left 1
  · (intro w0 hSw; (try dsimp only at hSw); go_simp; try (with_reducible rfl))
  try simp only [Act.put]
  try simp only [List.setIfInBounds_toArray]
  try simp only [List.set_cons_succ]
  try simp only [List.set_cons_zero]
  refine takeOp (i := 12) (v := ?_) (some 17) rfl rfl (by kernel_rfl) (by kernel_rfl) (by kernel_rfl) (fun _ _ _ h => h) (Or.inl ⟨by rfl, ?_⟩) (by assumption) ?_
  rotate_left 1
  · (intro w0 hSw; (try dsimp only at hSw); go_simp; try (with_reducible rfl))
  try simp only [Act.put]
  try simp only [List.setIfInBounds_toArray]
  try simp only [List.set_cons_succ]
  try simp only [List.set_cons_zero]
  refine takeOp (i := 13) (v := ?_) (some 18) rfl rfl (by kernel_rfl) (by kernel_rfl) (by kernel_rfl) (fun _ _ _ h => h) (Or.inl ⟨by rfl, ?_⟩) (by assumption) ?_
  rotate_left 1
  · (intro w0 hSw; (try dsimp only at hSw); go_simp; try (with_reducible rfl))
  try simp only [Act.put]
  try simp only [List.setIfInBounds_toArray]
  try simp only [List.set_cons_succ]
  try simp only [List.set_cons_zero]
  refine takeOp (i := 14) (v := ?_) (some 19) rfl rfl (by kernel_rfl) (by kernel_rfl) (by kernel_rfl) (fun _ _ _ h => h) (Or.inl ⟨by rfl, ?_⟩) (by assumption) ?_
  rotate_left 1
  · (intro w0 hSw; (try dsimp only at hSw); go_simp; try (with_reducible rfl))
  try simp only [Act.put]
  try simp only [List.setIfInBounds_toArray]
  try simp only [List.set_cons_succ]
  try simp only [List.set_cons_zero]
  refine takeOp (i := 15) (v := ?_) (some 20) rfl rfl (by kernel_rfl) (by kernel_rfl) (by kernel_rfl) (fun _ _ _ h => h) (Or.inl ⟨by rfl, ?_⟩) (by assumption) ?_
  rotate_left 1
  · (intro w0 hSw; (try dsimp only at hSw); go_simp; try (with_reducible rfl))
  try simp only [Act.put]
  try simp only [List.setIfInBounds_toArray]
  try simp only [List.set_cons_succ]
  try simp only [List.set_cons_zero]
  refine takeOp (i := 16) (v := ?_) (some 21) rfl rfl (by kernel_rfl) (by kernel_rfl) (by kernel_rfl) (fun _ _ _ h => h) (Or.inl ⟨by rfl, ?_⟩) (by assumption) ?_
  rotate_left 1
  · (intro w0 hSw; (try dsimp only at hSw); go_simp; try (with_reducible rfl))
  try simp only [Act.put]
  try simp only [List.setIfInBounds_toArray]
  try simp only [List.set_cons_succ]
  try simp only [List.set_cons_zero]
  refine takeOp (i := 17) (v := ?_) (some 22) rfl rfl (by kernel_rfl) (by kernel_rfl) (by kernel_rfl) (fun _ _ _ h => h) (Or.inl ⟨by rfl, ?_⟩) (by assumption) ?_
  rotate_left 1
  · (intro w0 hSw; (try dsimp only at hSw); go_simp; try (with_reducible rfl))
  try simp only [Act.put]
  try simp only [List.setIfInBounds_toArray]
  try simp only [List.set_cons_succ]
  try simp only [List.set_cons_zero]
  refine takeOp (i := 18) (v := ?_) (some 23) rfl rfl (by kernel_rfl) (by kernel_rfl) (by kernel_rfl) (fun _ _ _ h => h) (Or.inl ⟨by rfl, ?_⟩) (by assumption) ?_
  rotate_left 1
  · (intro w0 hSw; (try dsimp only at hSw); go_simp; try (with_reducible rfl))
  try simp only [Act.put]
  try simp only [List.setIfInBounds_toArray]
  try simp only [List.set_cons_succ]
  try simp only [List.set_cons_zero]
  refine takeOp (i := 19) (v := ?_) (some 24) rfl rfl (by kernel_rfl) (by kernel_rfl) (by kernel_rfl) (fun _ _ _ h => h) (Or.inl ⟨by rfl, ?_⟩) (by assumption) ?_
  rotate_left 1
  · (intro w0 hSw; (try dsimp only at hSw); go_simp; try (with_reducible rfl))
  try simp only [Act.put]
  try simp only [List.setIfInBounds_toArray]
  try simp only [List.set_cons_succ]
  try simp only [List.set_cons_zero]
  refine takeOp (i := 20) (v := ?_) (some 25) rfl rfl (by kernel_rfl) (by kernel_rfl) (by kernel_rfl) (fun _ _ _ h => h) (Or.inl ⟨by rfl, ?_⟩) (by assumption) ?_
  rotate_left 1
  · (intro w0 hSw; (try dsimp only at hSw); go_simp; try (with_reducible rfl))
  try simp only [Act.put]
  try simp only [List.setIfInBounds_toArray]
  try simp only [List.set_cons_succ]
  try simp only [List.set_cons_zero]
  refine takeOp (i := 21) (v := ?_) (some 26) rfl rfl (by kernel_rfl) (by kernel_rfl) (by kernel_rfl) (fun _ _ _ h => h) (Or.inl ⟨by rfl, ?_⟩) (by assumption) ?_
  rotate_left 1
  · (intro w0 hSw; (try dsimp only at hSw); go_simp; try (with_reducible rfl))
  try simp only [Act.put]
  try simp only [List.setIfInBounds_toArray]
  try simp only [List.set_cons_succ]
  try simp only [List.set_cons_zero]
  refine takeOp (i := 22) (v := ?_) (some 27) rfl rfl (by kernel_rfl) (by kernel_rfl) (by kernel_rfl) (fun _ _ _ h => h) (Or.inl ⟨by rfl, ?_⟩) (by assumption) ?_
  rotate_left 1
  · (intro w0 hSw; (try dsimp only at hSw); go_simp; try (with_reducible rfl))
  try simp only [Act.put]
  try simp only [List.setIfInBounds_toArray]
  try simp only [List.set_cons_succ]
  try simp only [List.set_cons_zero]
  refine wpAnyH_ready (rs := [23]) (by kernel_rfl) (by simp) ?_
  refine AllReadyH.cons rfl (fun K hK => ?_) AllReadyH.nil
  go_simp
  refine (HDP.out _).mono ?_
  rintro e w2 ⟨rfl, hx0⟩
  have hx : Ext w w2 := HX.out.trans hx0
  have KEEP2 : w2.cell? ⟨g, 0, none⟩ = some (.slice LA d C) ∧ w2.cell? ⟨g, 1, none⟩ = some (.int .i64 L) := ⟨(hx.cell hg).trans c0, (hx.cell hg).trans c1⟩
  have HX2 := Lib.hid hx
  clear hx hx0
  go_wp2_with fail
  refine hK.out _ _ KEEP2 (fun hHeld => ?_)
  clear hK K
  try simp only [Act.put]
  try simp only [List.setIfInBounds_toArray]
  try simp only [List.set_cons_succ]
  try simp only [List.set_cons_zero]
  refine takeOp (i := 24) (v := ?_) (some 29) rfl rfl (by kernel_rfl) (by kernel_rfl) (by kernel_rfl) (fun _ _ _ h => h) (Or.inl ⟨by rfl, ?_⟩) (by assumption) ?_
  rotate_left 1
  · (intro w0 hSw; (try dsimp only at hSw); go_simp; try (with_reducible rfl))
  try simp only [Act.put]
  try simp only [List.setIfInBounds_toArray]
  try simp only [List.set_cons_succ]
  try simp only [List.set_cons_zero]
  refine takeOp (i := 25) (v := ?_) (some 30) rfl rfl (by kernel_rfl) (by kernel_rfl) (by kernel_rfl) (fun _ _ _ h => h) (Or.inl ⟨by rfl, ?_⟩) (by assumption) ?_
  rotate_left 1
  · (intro w0 hSw; (try dsimp only at hSw); go_simp; try (with_reducible rfl))
  try simp only [Act.put]
  try simp only [List.setIfInBounds_toArray]
  try simp only [List.set_cons_succ]
  try simp only [List.set_cons_zero]
  refine wpAnyH_done (by kernel_rfl) ?_ _
  all_goals
    go_wp2
    go_ret
    exact ⟨rfl, HX2.out⟩

set_option maxHeartbeats 2000000 in
set_option maxRecDepth 100000 in
/-- A trie without levels has no children. -/
theorem tiOpen_flat (g : Nat) (LA : Option Addr) (C : Nat) (t : It) (w : World) (hi : ItM w g LA 0 C t) (hL : t.L = 0) :
    Calls Try.prog 75 #[.pointer (some ⟨g, 0, none⟩)] w fun e w' => e = .returned (.bool false) ∧ Ext w w' := by
  have c0 := hi.c0
  have c1 := hi.c1
  rw [hL] at c1
  simp only [Int.natCast_zero] at c1
  have hg := hi.lt
  have HDP := Lib.hid (fun W => trDepth_any LA 0 C W)
  clear hi hL
  go_enter Try.func75, Try.ntmps75
  go_wp2
  refine wp_region_held_drew (S := (fun w' => w'.cell? ⟨g, 0, none⟩ = some (.slice LA 0 C) ∧ w'.cell? ⟨g, 1, none⟩ = some (.int .i64 0))) (by kernel_rfl) ⟨c0, c1⟩ (fun hHeld => ?_)
  refine takeOp (i := 0) (v := ?_) (some 5) rfl rfl (by kernel_rfl) (by kernel_rfl) (by kernel_rfl) (fun _ _ _ h => h) (Or.inl ⟨by rfl, ?_⟩) (by assumption) ?_
  rotate_left 1
  · (intro w0 hSw; (try dsimp only at hSw); go_simp; try (with_reducible rfl))
  try simp only [Act.put]
  try simp only [List.setIfInBounds_toArray]
  try simp only [List.set_cons_succ]
  try simp only [List.set_cons_zero]
  refine takeOp (i := 1) (v := ?_) (some 6) rfl rfl (by kernel_rfl) (by kernel_rfl) (by kernel_rfl) (fun _ _ _ h => h) (Or.inl ⟨by rfl, ?_⟩) (by assumption) ?_
  rotate_left 1
  · (intro w0 hSw; (try dsimp only at hSw); go_simp; try (with_reducible rfl))
  try simp only [Act.put]
  try simp only [List.setIfInBounds_toArray]
  try simp only [List.set_cons_succ]
  try simp only [List.set_cons_zero]
  refine takeOp (i := 2) (v := ?_) (some 7) rfl rfl (by kernel_rfl) (by kernel_rfl) (by kernel_rfl) (fun _ _ _ h => h) (Or.inl ⟨by rfl, ?_⟩) (by assumption) ?_
  rotate_left 1
  · (intro w0 hSw; (try dsimp only at hSw); go_simp; try (with_reducible rfl))
  try simp only [Act.put]
  try simp only [List.setIfInBounds_toArray]
  try simp only [List.set_cons_succ]
  try simp only [List.set_cons_zero]
  refine takeOp (i := 3) (v := ?_) (some 8) rfl rfl (by kernel_rfl) (by kernel_rfl) (by kernel_rfl) (fun _ _ _ h => h) (Or.inl ⟨by rfl, ?_⟩) (by assumption) ?_
  rotate_left 1
  · (intro w0 hSw; (try dsimp only at hSw); go_simp; try (with_reducible rfl))
  try simp only [Act.put]
  try simp only [List.setIfInBounds_toArray]
  try simp only [List.set_cons_succ]
  try simp only [List.set_cons_zero]
  refine takeOp (i := 4) (v := ?_) (some 9) rfl rfl (by kernel_rfl) (by kernel_rfl) (by kernel_rfl) (fun _ _ _ h => h) (Or.inl ⟨by rfl, ?_⟩) (by assumption) ?_
  rotate_left 1
  · (intro w0 hSw; (try dsimp only at hSw); go_simp; try (with_reducible rfl))
  try simp only [Act.put]
  try simp only [List.setIfInBounds_toArray]
  try simp only [List.set_cons_succ]
  try simp only [List.set_cons_zero]
  refine takeOp (i := 5) (v := ?_) (some 10) rfl rfl (by kernel_rfl) (by kernel_rfl) (by kernel_rfl) (fun _ _ _ h => h) (Or.inl ⟨by rfl, ?_⟩) (by assumption) ?_
  rotate_left 1
  · (intro w0 hSw; (try dsimp only at hSw); go_simp; try (with_reducible rfl))
  try simp only [Act.put]
  try simp only [List.setIfInBounds_toArray]
  try simp only [List.set_cons_succ]
  try simp only [List.set_cons_zero]
  refine takeOp (i := 6) (v := ?_) (some 11) rfl rfl (by kernel_rfl) (by kernel_rfl) (by kernel_rfl) (fun _ _ _ h => h) (Or.inl ⟨by rfl, ?_⟩) (by assumption) ?_
  rotate_left 1
  · (intro w0 hSw; (try dsimp only at hSw); go_simp; try (with_reducible rfl))
  try simp only [Act.put]
  try simp only [List.setIfInBounds_toArray]
  try simp only [List.set_cons_succ]
  try simp only [List.set_cons_zero]
  refine takeOp (i := 7) (v := ?_) (some 12) rfl rfl (by kernel_rfl) (by kernel_rfl) (by kernel_rfl) (fun _ _ _ h => h) (Or.inl ⟨by rfl, ?_⟩) (by assumption) ?_
  rotate_left 1
  · (intro w0 hSw; (try dsimp only at hSw); go_simp; try (with_reducible rfl))
  try simp only [Act.put]
  try simp only [List.setIfInBounds_toArray]
  try simp only [List.set_cons_succ]
  try simp only [List.set_cons_zero]
  refine takeOp (i := 8) (v := ?_) (some 13) rfl rfl (by kernel_rfl) (by kernel_rfl) (by kernel_rfl) (fun _ _ _ h => h) (Or.inl ⟨by rfl, ?_⟩) (by assumption) ?_
  rotate_left 1
  · (intro w0 hSw; (try dsimp only at hSw); go_simp; try (with_reducible rfl))
  try simp only [Act.put]
  try simp only [List.setIfInBounds_toArray]
  try simp only [List.set_cons_succ]
  try simp only [List.set_cons_zero]
  refine takeOp (i := 9) (v := undef) (some 14) rfl rfl (by kernel_rfl) (by kernel_rfl) (by kernel_rfl) (fun _ _ _ h => h) (Or.inr ⟨by rfl, rfl⟩) (by assumption) ?_
  try simp only [Act.put]
  try simp only [List.setIfInBounds_toArray]
  try simp only [List.set_cons_succ]
  try simp only [List.set_cons_zero]
  refine takeOp (i := 10) (v := undef) (some 15) rfl rfl (by kernel_rfl) (by kernel_rfl) (by kernel_rfl) (fun _ _ _ h => h) (Or.inr ⟨by rfl, rfl⟩) (by assumption) ?_
  try simp only [Act.put]
  try simp only [List.setIfInBounds_toArray]
  try simp only [List.set_cons_succ]
  try simp only [List.set_cons_zero]
  refine takeOp (i := 11) (v := undef) (some 16) rfl rfl (by kernel_rfl) (by kernel_rfl) (by kernel_rfl) (fun _ _ _ h => h) (Or.inr ⟨by rfl, rfl⟩) (by assumption) ?_
  try simp only [Act.put]
  try simp only [List.setIfInBounds_toArray]
  try simp only [List.set_cons_succ]
  try simp only [List.set_cons_zero]
  refine takeOp (i := 12) (v := ?_) (some 17) rfl rfl (by kernel_rfl) (by kernel_rfl) (by kernel_rfl) (fun _ _ _ h => h) (Or.inl ⟨by rfl, ?_⟩) (by assumption) ?_
  rotate_left 1
  · (intro w0 hSw; (try dsimp only at hSw); go_simp; try (with_reducible rfl))
  try simp only [Act.put]
  try simp only [List.setIfInBounds_toArray]
  try simp only [List.set_cons_succ]
  try simp only [List.set_cons_zero]
  refine takeOp (i := 13) (v := ?_) (some 18) rfl rfl (by kernel_rfl) (by kernel_rfl) (by kernel_rfl) (fun _ _ _ h => h) (Or.inl ⟨by rfl, ?_⟩) (by assumption) ?_
  rotate_left 1
  · (intro w0 hSw; (try dsimp only at hSw); go_simp; try (with_reducible rfl))
  try simp only [Act.put]
  try simp only [List.setIfInBounds_toArray]
  try simp only [List.set_cons_succ]
  try simp only [List.set_cons_zero]
  refine takeOp (i := 14) (v := ?_) (some 19) rfl rfl (by kernel_rfl) (by kernel_rfl) (by kernel_rfl) (fun _ _ _ h => h) (Or.inl ⟨by rfl, ?_⟩) (by assumption) ?_
  rotate_left 1
  · (intro w0 hSw; (try dsimp only at hSw); go_simp; try (with_reducible rfl))
  try simp only [Act.put]
  try simp only [List.setIfInBounds_toArray]
  try simp only [List.set_cons_succ]
  try simp only [List.set_cons_zero]
  refine takeOp (i := 15) (v := ?_) (some 20) rfl rfl (by kernel_rfl) (by kernel_rfl) (by kernel_rfl) (fun _ _ _ h => h) (Or.inl ⟨by rfl, ?_⟩) (by assumption) ?_
  rotate_left 1
  · (intro w0 hSw; (try dsimp only at hSw); go_simp; try (with_reducible rfl))
  try simp only [Act.put]
  try simp only [List.setIfInBounds_toArray]
  try simp only [List.set_cons_succ]
  try simp only [List.set_cons_zero]
  refine takeOp (i := 16) (v := ?_) (some 21) rfl rfl (by kernel_rfl) (by kernel_rfl) (by kernel_rfl) (fun _ _ _ h => h) (Or.inl ⟨by rfl, ?_⟩) (by assumption) ?_
  rotate_left 1
  · (intro w0 hSw; (try dsimp only at hSw); go_simp; try (with_reducible rfl))
  try simp only [Act.put]
  try simp only [List.setIfInBounds_toArray]
  try simp only [List.set_cons_succ]
  try simp only [List.set_cons_zero]
  refine takeOp (i := 17) (v := ?_) (some 22) rfl rfl (by kernel_rfl) (by kernel_rfl) (by kernel_rfl) (fun _ _ _ h => h) (Or.inl ⟨by rfl, ?_⟩) (by assumption) ?_
  rotate_left 1
  · (intro w0 hSw; (try dsimp only at hSw); go_simp; try (with_reducible rfl))
  try simp only [Act.put]
  try simp only [List.setIfInBounds_toArray]
  try simp only [List.set_cons_succ]
  try simp only [List.set_cons_zero]
  refine takeOp (i := 18) (v := ?_) (some 23) rfl rfl (by kernel_rfl) (by kernel_rfl) (by kernel_rfl) (fun _ _ _ h => h) (Or.inl ⟨by rfl, ?_⟩) (by assumption) ?_
  rotate_left 1
  · (intro w0 hSw; (try dsimp only at hSw); go_simp; try (with_reducible rfl))
  try simp only [Act.put]
  try simp only [List.setIfInBounds_toArray]
  try simp only [List.set_cons_succ]
  try simp only [List.set_cons_zero]
  refine takeOp (i := 19) (v := ?_) (some 24) rfl rfl (by kernel_rfl) (by kernel_rfl) (by kernel_rfl) (fun _ _ _ h => h) (Or.inl ⟨by rfl, ?_⟩) (by assumption) ?_
  rotate_left 1
  · (intro w0 hSw; (try dsimp only at hSw); go_simp; try (with_reducible rfl))
  try simp only [Act.put]
  try simp only [List.setIfInBounds_toArray]
  try simp only [List.set_cons_succ]
  try simp only [List.set_cons_zero]
  refine takeOp (i := 20) (v := ?_) (some 25) rfl rfl (by kernel_rfl) (by kernel_rfl) (by kernel_rfl) (fun _ _ _ h => h) (Or.inl ⟨by rfl, ?_⟩) (by assumption) ?_
  rotate_left 1
  · (intro w0 hSw; (try dsimp only at hSw); go_simp; try (with_reducible rfl))
  try simp only [Act.put]
  try simp only [List.setIfInBounds_toArray]
  try simp only [List.set_cons_succ]
  try simp only [List.set_cons_zero]
  refine takeOp (i := 21) (v := ?_) (some 26) rfl rfl (by kernel_rfl) (by kernel_rfl) (by kernel_rfl) (fun _ _ _ h => h) (Or.inl ⟨by rfl, ?_⟩) (by assumption) ?_
  rotate_left 1
  · (intro w0 hSw; (try dsimp only at hSw); go_simp; try (with_reducible rfl))
  try simp only [Act.put]
  try simp only [List.setIfInBounds_toArray]
  try simp only [List.set_cons_succ]
  try simp only [List.set_cons_zero]
  refine takeOp (i := 22) (v := ?_) (some 27) rfl rfl (by kernel_rfl) (by kernel_rfl) (by kernel_rfl) (fun _ _ _ h => h) (Or.inl ⟨by rfl, ?_⟩) (by assumption) ?_
  rotate_left 1
  · (intro w0 hSw; (try dsimp only at hSw); go_simp; try (with_reducible rfl))
  try simp only [Act.put]
  try simp only [List.setIfInBounds_toArray]
  try simp only [List.set_cons_succ]
  try simp only [List.set_cons_zero]
  refine wpAnyH_ready (rs := [23]) (by kernel_rfl) (by simp) ?_
  refine AllReadyH.cons rfl (fun K hK => ?_) AllReadyH.nil
  go_simp
  refine (HDP.out _).mono ?_
  rintro e w2 ⟨rfl, hx0⟩
  have hx : Ext w w2 := (Ext.refl w).drew.trans hx0
  have KEEP2 : w2.cell? ⟨g, 0, none⟩ = some (.slice LA 0 C) ∧ w2.cell? ⟨g, 1, none⟩ = some (.int .i64 0) := ⟨(hx.cell hg).trans c0, (hx.cell hg).trans c1⟩
  have HX2 := Lib.hid hx
  clear hx hx0
  go_wp2_with fail
  refine hK.out _ _ KEEP2 (fun hHeld => ?_)
  clear hK K
  try simp only [Act.put]
  try simp only [List.setIfInBounds_toArray]
  try simp only [List.set_cons_succ]
  try simp only [List.set_cons_zero]
  refine takeOp (i := 24) (v := ?_) (some 29) rfl rfl (by kernel_rfl) (by kernel_rfl) (by kernel_rfl) (fun _ _ _ h => h) (Or.inl ⟨by rfl, ?_⟩) (by assumption) ?_
  rotate_left 1
  · (intro w0 hSw; (try dsimp only at hSw); go_simp; try (with_reducible rfl))
  try simp only [Act.put]
  try simp only [List.setIfInBounds_toArray]
  try simp only [List.set_cons_succ]
  try simp only [List.set_cons_zero]
  refine takeOp (i := 25) (v := ?_) (some 30) rfl rfl (by kernel_rfl) (by kernel_rfl) (by kernel_rfl) (fun _ _ _ h => h) (Or.inl ⟨by rfl, ?_⟩) (by assumption) ?_
  rotate_left 1
  · (intro w0 hSw; (try dsimp only at hSw); go_simp; try (with_reducible rfl))
  try simp only [Act.put]
  try simp only [List.setIfInBounds_toArray]
  try simp only [List.set_cons_succ]
  try simp only [List.set_cons_zero]
  refine wpAnyH_done (by kernel_rfl) ?_ _
  all_goals
    go_wp2
    go_ret
    exact ⟨rfl, HX2.out⟩

end Go.Proofs.Ytiomelogggilgaa
end

section
/- Walks: Open, where it moves. -/
namespace Go.Proofs.Ytiomelogggilgaa
open Go.RowKit Go.Sort

/-- The iterator at a first child; ch: its place and the end of its siblings. -/
def openT (t : It) (ch : Nat × Nat) : It := { t with L := t.L + 1, pos := ch.1, fin := ch.2, ab := fun j => if j = t.L then (t.pos, t.fin) else t.ab j }

set_option maxHeartbeats 4000000 in
set_option maxRecDepth 100000 in
/-- Open at the root of an empty trie. -/
theorem tiOpen_root0 (B g : Nat) (LA : Option Addr) (d C : Nat) (vs : Nat → RL.R) (fs : Nat → List Nat) (t : It) (w : World) (h : TrM B w LA d vs fs) (hB : B ≤ w.heap.size) (hi : ItM w g LA d C t) (hL : t.L = 0) (h0d : 0 < d) (hd : d ≤ 32) (_hv : (vs 0).length ≤ 1000000) (h0 : (vs 0).length = 0) :
    Calls Try.prog 75 #[.pointer (some ⟨g, 0, none⟩)] w fun e w' => e = .returned (.bool false) ∧ ItM w' g LA d C t ∧ w.grownBy w' (some g) := by
  have c0 := hi.c0
  have c1 := hi.c1
  rw [hL] at c1
  simp only [Int.natCast_zero] at c1
  have hg := hi.lt
  have HDP := Lib.hid (fun W => trDepth_any LA d C W)
  have HSZ := Lib.hid (fun (W : World) (hx : Ext w W) => trSize_any B LA d C vs fs 0 W (h.below hx.below hB) (Nat.le_trans hB hx.size) (by omega) (by omega))
  rw [show sizeF d vs 0 = (vs 0).length by unfold sizeF; rw [if_pos h0d]] at HSZ
  have HI := Lib.hid hi
  have HL := Lib.hid hL
  clear hi hL h
  obtain ⟨n, hn⟩ : ∃ n, n = (vs 0).length := ⟨_, rfl⟩
  rw [← hn] at HSZ _hv h0
  clear hn
  rw [h0] at HSZ
  simp only [Int.natCast_zero] at HSZ
  go_enter Try.func75, Try.ntmps75
  go_wp2
  refine wp_region_held_drew (S := (fun w' => w'.cell? ⟨g, 0, none⟩ = some (.slice LA d C) ∧ w'.cell? ⟨g, 1, none⟩ = some (.int .i64 0))) (by kernel_rfl) ⟨c0, c1⟩ (fun hHeld => ?_)
  refine takeOp (i := 0) (v := ?_) (some 5) rfl rfl (by kernel_rfl) (by kernel_rfl) (by kernel_rfl) (fun _ _ _ h => h) (Or.inl ⟨by rfl, ?_⟩) (by assumption) ?_
  rotate_left 1
  · (intro w0 hSw; (try dsimp only at hSw); go_simp; try (with_reducible rfl))
  try simp only [Act.put]
  try simp only [List.setIfInBounds_toArray]
  try simp only [List.set_cons_succ]
  try simp only [List.set_cons_zero]
  refine takeOp (i := 1) (v := ?_) (some 6) rfl rfl (by kernel_rfl) (by kernel_rfl) (by kernel_rfl) (fun _ _ _ h => h) (Or.inl ⟨by rfl, ?_⟩) (by assumption) ?_
  rotate_left 1
  · (intro w0 hSw; (try dsimp only at hSw); go_simp; try (with_reducible rfl))
  try simp only [Act.put]
  try simp only [List.setIfInBounds_toArray]
  try simp only [List.set_cons_succ]
  try simp only [List.set_cons_zero]
  refine takeOp (i := 2) (v := ?_) (some 7) rfl rfl (by kernel_rfl) (by kernel_rfl) (by kernel_rfl) (fun _ _ _ h => h) (Or.inl ⟨by rfl, ?_⟩) (by assumption) ?_
  rotate_left 1
  · (intro w0 hSw; (try dsimp only at hSw); go_simp; try (with_reducible rfl))
  try simp only [Act.put]
  try simp only [List.setIfInBounds_toArray]
  try simp only [List.set_cons_succ]
  try simp only [List.set_cons_zero]
  refine takeOp (i := 3) (v := ?_) (some 8) rfl rfl (by kernel_rfl) (by kernel_rfl) (by kernel_rfl) (fun _ _ _ h => h) (Or.inl ⟨by rfl, ?_⟩) (by assumption) ?_
  rotate_left 1
  · (intro w0 hSw; (try dsimp only at hSw); go_simp; try (with_reducible rfl))
  try simp only [Act.put]
  try simp only [List.setIfInBounds_toArray]
  try simp only [List.set_cons_succ]
  try simp only [List.set_cons_zero]
  refine takeOp (i := 4) (v := ?_) (some 9) rfl rfl (by kernel_rfl) (by kernel_rfl) (by kernel_rfl) (fun _ _ _ h => h) (Or.inl ⟨by rfl, ?_⟩) (by assumption) ?_
  rotate_left 1
  · (intro w0 hSw; (try dsimp only at hSw); go_simp; try (with_reducible rfl))
  try simp only [Act.put]
  try simp only [List.setIfInBounds_toArray]
  try simp only [List.set_cons_succ]
  try simp only [List.set_cons_zero]
  refine takeOp (i := 5) (v := ?_) (some 10) rfl rfl (by kernel_rfl) (by kernel_rfl) (by kernel_rfl) (fun _ _ _ h => h) (Or.inl ⟨by rfl, ?_⟩) (by assumption) ?_
  rotate_left 1
  · (intro w0 hSw; (try dsimp only at hSw); go_simp; try (with_reducible rfl))
  try simp only [Act.put]
  try simp only [List.setIfInBounds_toArray]
  try simp only [List.set_cons_succ]
  try simp only [List.set_cons_zero]
  refine takeOp (i := 6) (v := ?_) (some 11) rfl rfl (by kernel_rfl) (by kernel_rfl) (by kernel_rfl) (fun _ _ _ h => h) (Or.inl ⟨by rfl, ?_⟩) (by assumption) ?_
  rotate_left 1
  · (intro w0 hSw; (try dsimp only at hSw); go_simp; try (with_reducible rfl))
  try simp only [Act.put]
  try simp only [List.setIfInBounds_toArray]
  try simp only [List.set_cons_succ]
  try simp only [List.set_cons_zero]
  refine takeOp (i := 7) (v := ?_) (some 12) rfl rfl (by kernel_rfl) (by kernel_rfl) (by kernel_rfl) (fun _ _ _ h => h) (Or.inl ⟨by rfl, ?_⟩) (by assumption) ?_
  rotate_left 1
  · (intro w0 hSw; (try dsimp only at hSw); go_simp; try (with_reducible rfl))
  try simp only [Act.put]
  try simp only [List.setIfInBounds_toArray]
  try simp only [List.set_cons_succ]
  try simp only [List.set_cons_zero]
  refine takeOp (i := 8) (v := ?_) (some 13) rfl rfl (by kernel_rfl) (by kernel_rfl) (by kernel_rfl) (fun _ _ _ h => h) (Or.inl ⟨by rfl, ?_⟩) (by assumption) ?_
  rotate_left 1
  · (intro w0 hSw; (try dsimp only at hSw); go_simp; try (with_reducible rfl))
  try simp only [Act.put]
  try simp only [List.setIfInBounds_toArray]
  try simp only [List.set_cons_succ]
  try simp only [List.set_cons_zero]
  refine takeOp (i := 9) (v := undef) (some 14) rfl rfl (by kernel_rfl) (by kernel_rfl) (by kernel_rfl) (fun _ _ _ h => h) (Or.inr ⟨by rfl, rfl⟩) (by assumption) ?_
  try simp only [Act.put]
  try simp only [List.setIfInBounds_toArray]
  try simp only [List.set_cons_succ]
  try simp only [List.set_cons_zero]
  refine takeOp (i := 10) (v := undef) (some 15) rfl rfl (by kernel_rfl) (by kernel_rfl) (by kernel_rfl) (fun _ _ _ h => h) (Or.inr ⟨by rfl, rfl⟩) (by assumption) ?_
  try simp only [Act.put]
  try simp only [List.setIfInBounds_toArray]
  try simp only [List.set_cons_succ]
  try simp only [List.set_cons_zero]
  refine takeOp (i := 11) (v := undef) (some 16) rfl rfl (by kernel_rfl) (by kernel_rfl) (by kernel_rfl) (fun _ _ _ h => h) (Or.inr ⟨by rfl, rfl⟩) (by assumption) ?_
  try simp only [Act.put]
  try simp only [List.setIfInBounds_toArray]
  try simp only [List.set_cons_succ]
  try simp only [List.set_cons_zero]
  refine takeOp (i := 12) (v := ?_) (some 17) rfl rfl (by kernel_rfl) (by kernel_rfl) (by kernel_rfl) (fun _ _ _ h => h) (Or.inl ⟨by rfl, ?_⟩) (by assumption) ?_
  rotate_left 1
  · (intro w0 hSw; (try dsimp only at hSw); go_simp; try (with_reducible rfl))
  try simp only [Act.put]
  try simp only [List.setIfInBounds_toArray]
  try simp only [List.set_cons_succ]
  try simp only [List.set_cons_zero]
  refine takeOp (i := 13) (v := ?_) (some 18) rfl rfl (by kernel_rfl) (by kernel_rfl) (by kernel_rfl) (fun _ _ _ h => h) (Or.inl ⟨by rfl, ?_⟩) (by assumption) ?_
  rotate_left 1
  · (intro w0 hSw; (try dsimp only at hSw); go_simp; try (with_reducible rfl))
  try simp only [Act.put]
  try simp only [List.setIfInBounds_toArray]
  try simp only [List.set_cons_succ]
  try simp only [List.set_cons_zero]
  refine takeOp (i := 14) (v := ?_) (some 19) rfl rfl (by kernel_rfl) (by kernel_rfl) (by kernel_rfl) (fun _ _ _ h => h) (Or.inl ⟨by rfl, ?_⟩) (by assumption) ?_
  rotate_left 1
  · (intro w0 hSw; (try dsimp only at hSw); go_simp; try (with_reducible rfl))
  try simp only [Act.put]
  try simp only [List.setIfInBounds_toArray]
  try simp only [List.set_cons_succ]
  try simp only [List.set_cons_zero]
  refine takeOp (i := 15) (v := ?_) (some 20) rfl rfl (by kernel_rfl) (by kernel_rfl) (by kernel_rfl) (fun _ _ _ h => h) (Or.inl ⟨by rfl, ?_⟩) (by assumption) ?_
  rotate_left 1
  · (intro w0 hSw; (try dsimp only at hSw); go_simp; try (with_reducible rfl))
  try simp only [Act.put]
  try simp only [List.setIfInBounds_toArray]
  try simp only [List.set_cons_succ]
  try simp only [List.set_cons_zero]
  refine takeOp (i := 16) (v := ?_) (some 21) rfl rfl (by kernel_rfl) (by kernel_rfl) (by kernel_rfl) (fun _ _ _ h => h) (Or.inl ⟨by rfl, ?_⟩) (by assumption) ?_
  rotate_left 1
  · (intro w0 hSw; (try dsimp only at hSw); go_simp; try (with_reducible rfl))
  try simp only [Act.put]
  try simp only [List.setIfInBounds_toArray]
  try simp only [List.set_cons_succ]
  try simp only [List.set_cons_zero]
  refine takeOp (i := 17) (v := ?_) (some 22) rfl rfl (by kernel_rfl) (by kernel_rfl) (by kernel_rfl) (fun _ _ _ h => h) (Or.inl ⟨by rfl, ?_⟩) (by assumption) ?_
  rotate_left 1
  · (intro w0 hSw; (try dsimp only at hSw); go_simp; try (with_reducible rfl))
  try simp only [Act.put]
  try simp only [List.setIfInBounds_toArray]
  try simp only [List.set_cons_succ]
  try simp only [List.set_cons_zero]
  refine takeOp (i := 18) (v := ?_) (some 23) rfl rfl (by kernel_rfl) (by kernel_rfl) (by kernel_rfl) (fun _ _ _ h => h) (Or.inl ⟨by rfl, ?_⟩) (by assumption) ?_
  rotate_left 1
  · (intro w0 hSw; (try dsimp only at hSw); go_simp; try (with_reducible rfl))
  try simp only [Act.put]
  try simp only [List.setIfInBounds_toArray]
  try simp only [List.set_cons_succ]
  try simp only [List.set_cons_zero]
  refine takeOp (i := 19) (v := ?_) (some 24) rfl rfl (by kernel_rfl) (by kernel_rfl) (by kernel_rfl) (fun _ _ _ h => h) (Or.inl ⟨by rfl, ?_⟩) (by assumption) ?_
  rotate_left 1
  · (intro w0 hSw; (try dsimp only at hSw); go_simp; try (with_reducible rfl))
  try simp only [Act.put]
  try simp only [List.setIfInBounds_toArray]
  try simp only [List.set_cons_succ]
  try simp only [List.set_cons_zero]
  refine takeOp (i := 20) (v := ?_) (some 25) rfl rfl (by kernel_rfl) (by kernel_rfl) (by kernel_rfl) (fun _ _ _ h => h) (Or.inl ⟨by rfl, ?_⟩) (by assumption) ?_
  rotate_left 1
  · (intro w0 hSw; (try dsimp only at hSw); go_simp; try (with_reducible rfl))
  try simp only [Act.put]
  try simp only [List.setIfInBounds_toArray]
  try simp only [List.set_cons_succ]
  try simp only [List.set_cons_zero]
  refine takeOp (i := 21) (v := ?_) (some 26) rfl rfl (by kernel_rfl) (by kernel_rfl) (by kernel_rfl) (fun _ _ _ h => h) (Or.inl ⟨by rfl, ?_⟩) (by assumption) ?_
  rotate_left 1
  · (intro w0 hSw; (try dsimp only at hSw); go_simp; try (with_reducible rfl))
  try simp only [Act.put]
  try simp only [List.setIfInBounds_toArray]
  try simp only [List.set_cons_succ]
  try simp only [List.set_cons_zero]
  refine takeOp (i := 22) (v := ?_) (some 27) rfl rfl (by kernel_rfl) (by kernel_rfl) (by kernel_rfl) (fun _ _ _ h => h) (Or.inl ⟨by rfl, ?_⟩) (by assumption) ?_
  rotate_left 1
  · (intro w0 hSw; (try dsimp only at hSw); go_simp; try (with_reducible rfl))
  try simp only [Act.put]
  try simp only [List.setIfInBounds_toArray]
  try simp only [List.set_cons_succ]
  try simp only [List.set_cons_zero]
  refine wpAnyH_ready (rs := [23]) (by kernel_rfl) (by simp) ?_
  refine AllReadyH.cons rfl (fun K hK => ?_) AllReadyH.nil
  go_simp
  refine (HDP.out _).mono ?_
  rintro e w2 ⟨rfl, hx0⟩
  have hx : Ext w w2 := (Ext.refl w).drew.trans hx0
  have KEEP2 : w2.cell? ⟨g, 0, none⟩ = some (.slice LA d C) ∧ w2.cell? ⟨g, 1, none⟩ = some (.int .i64 0) := ⟨(hx.cell hg).trans c0, (hx.cell hg).trans c1⟩
  have HX2 := Lib.hid hx
  clear hx hx0
  go_wp2_with fail
  refine hK.out _ _ KEEP2 (fun hHeld => ?_)
  clear hK K
  try simp only [Act.put]
  try simp only [List.setIfInBounds_toArray]
  try simp only [List.set_cons_succ]
  try simp only [List.set_cons_zero]
  refine takeOp (i := 24) (v := ?_) (some 29) rfl rfl (by kernel_rfl) (by kernel_rfl) (by kernel_rfl) (fun _ _ _ h => h) (Or.inl ⟨by rfl, ?_⟩) (by assumption) ?_
  rotate_left 1
  · (intro w0 hSw; (try dsimp only at hSw); go_simp; try (with_reducible rfl))
  try simp only [Act.put]
  try simp only [List.setIfInBounds_toArray]
  try simp only [List.set_cons_succ]
  try simp only [List.set_cons_zero]
  refine takeOp (i := 25) (v := ?_) (some 30) rfl rfl (by kernel_rfl) (by kernel_rfl) (by kernel_rfl) (fun _ _ _ h => h) (Or.inl ⟨by rfl, ?_⟩) (by assumption) ?_
  rotate_left 1
  · (intro w0 hSw; (try dsimp only at hSw); go_simp; try (with_reducible rfl))
  try simp only [Act.put]
  try simp only [List.setIfInBounds_toArray]
  try simp only [List.set_cons_succ]
  try simp only [List.set_cons_zero]
  refine wpAnyH_done (by kernel_rfl) ?_ _
  obtain ⟨k0, k1⟩ := KEEP2
  go_wp2_with fail
  refine (HSZ.out w2 HX2.out).mono ?_
  rintro e w3 ⟨rfl, hx0⟩
  have hx3 : Ext w w3 := HX2.out.trans hx0
  obtain ⟨W4, hW4⟩ : ∃ W4, W4 = w3.alloc (.cells #[.int .i64 0, .int .i64 0] 133) := ⟨_, rfl⟩
  have hx4 : Ext w W4 := by rw [hW4]; exact hx3.alloc _
  have hr4 : Row W4 w3.heap.size 133 [.int .i64 0, .int .i64 0] := by rw [hW4]; exact Row.new w3 133 [.int .i64 0, .int .i64 0]
  have m1 : w3.cell? ⟨g, 1, none⟩ = some (.int .i64 0) := (hx3.cell hg).trans c1
  have hg3 : g < w3.heap.size := Nat.lt_of_lt_of_le hg hx3.size
  have HX4 := Lib.hid hx4
  have HR4 := Lib.hid hr4
  clear k0 k1 hx0 hx3 hx4 hr4 HSZ HDP
  go_wp2
  go_ret
  have h1 := HI.out.ext HX4.out
  have h2 := HX4.out.grown (some g)
  rw [hW4] at h1 h2
  exact ⟨rfl, h1, h2⟩

set_option maxHeartbeats 4000000 in
set_option maxRecDepth 100000 in
/-- Open at the root. -/
theorem tiOpen_root1 (B g : Nat) (LA : Option Addr) (d C : Nat) (vs : Nat → RL.R) (fs : Nat → List Nat) (t : It) (w : World) (h : TrM B w LA d vs fs) (hB : B ≤ w.heap.size) (hi : ItM w g LA d C t) (hL : t.L = 0) (h0d : 0 < d) (hd : d ≤ 32) (hv : (vs 0).length ≤ 1000000) (h0 : 0 < (vs 0).length) :
    Calls Try.prog 75 #[.pointer (some ⟨g, 0, none⟩)] w fun e w' => e = .returned (.bool true) ∧ ItM w' g LA d C (openT t (0, (vs 0).length)) ∧ w.grownBy w' (some g) := by
  have c0 := hi.c0
  have c1 := hi.c1
  rw [hL] at c1
  simp only [Int.natCast_zero] at c1
  have hg := hi.lt
  have HDP := Lib.hid (fun W => trDepth_any LA d C W)
  have HSZ := Lib.hid (fun (W : World) (hx : Ext w W) => trSize_any B LA d C vs fs 0 W (h.below hx.below hB) (Nat.le_trans hB hx.size) (by omega) (by omega))
  rw [show sizeF d vs 0 = (vs 0).length by unfold sizeF; rw [if_pos h0d]] at HSZ
  have HI := Lib.hid hi
  have HL := Lib.hid hL
  clear hi hL h
  obtain ⟨n, hn⟩ : ∃ n, n = (vs 0).length := ⟨_, rfl⟩
  rw [← hn] at HSZ hv h0
  rw [← hn]
  clear hn
  have hne : ((0 : Int) == (n : Int)) = false := by simp; omega
  go_enter Try.func75, Try.ntmps75
  go_wp2
  refine wp_region_held_drew (S := (fun w' => w'.cell? ⟨g, 0, none⟩ = some (.slice LA d C) ∧ w'.cell? ⟨g, 1, none⟩ = some (.int .i64 0))) (by kernel_rfl) ⟨c0, c1⟩ (fun hHeld => ?_)
  refine takeOp (i := 0) (v := ?_) (some 5) rfl rfl (by kernel_rfl) (by kernel_rfl) (by kernel_rfl) (fun _ _ _ h => h) (Or.inl ⟨by rfl, ?_⟩) (by assumption) ?_
  rotate_left 1
  · (intro w0 hSw; (try dsimp only at hSw); go_simp; try (with_reducible rfl))
  try simp only [Act.put]
  try simp only [List.setIfInBounds_toArray]
  try simp only [List.set_cons_succ]
  try simp only [List.set_cons_zero]
  refine takeOp (i := 1) (v := ?_) (some 6) rfl rfl (by kernel_rfl) (by kernel_rfl) (by kernel_rfl) (fun _ _ _ h => h) (Or.inl ⟨by rfl, ?_⟩) (by assumption) ?_
  rotate_left 1
  · (intro w0 hSw; (try dsimp only at hSw); go_simp; try (with_reducible rfl))
  try simp only [Act.put]
  try simp only [List.setIfInBounds_toArray]
  try simp only [List.set_cons_succ]
  try simp only [List.set_cons_zero]
  refine takeOp (i := 2) (v := ?_) (some 7) rfl rfl (by kernel_rfl) (by kernel_rfl) (by kernel_rfl) (fun _ _ _ h => h) (Or.inl ⟨by rfl, ?_⟩) (by assumption) ?_
  rotate_left 1
  · (intro w0 hSw; (try dsimp only at hSw); go_simp; try (with_reducible rfl))
  try simp only [Act.put]
  try simp only [List.setIfInBounds_toArray]
  try simp only [List.set_cons_succ]
  try simp only [List.set_cons_zero]
  refine takeOp (i := 3) (v := ?_) (some 8) rfl rfl (by kernel_rfl) (by kernel_rfl) (by kernel_rfl) (fun _ _ _ h => h) (Or.inl ⟨by rfl, ?_⟩) (by assumption) ?_
  rotate_left 1
  · (intro w0 hSw; (try dsimp only at hSw); go_simp; try (with_reducible rfl))
  try simp only [Act.put]
  try simp only [List.setIfInBounds_toArray]
  try simp only [List.set_cons_succ]
  try simp only [List.set_cons_zero]
  refine takeOp (i := 4) (v := ?_) (some 9) rfl rfl (by kernel_rfl) (by kernel_rfl) (by kernel_rfl) (fun _ _ _ h => h) (Or.inl ⟨by rfl, ?_⟩) (by assumption) ?_
  rotate_left 1
  · (intro w0 hSw; (try dsimp only at hSw); go_simp; try (with_reducible rfl))
  try simp only [Act.put]
  try simp only [List.setIfInBounds_toArray]
  try simp only [List.set_cons_succ]
  try simp only [List.set_cons_zero]
  refine takeOp (i := 5) (v := ?_) (some 10) rfl rfl (by kernel_rfl) (by kernel_rfl) (by kernel_rfl) (fun _ _ _ h => h) (Or.inl ⟨by rfl, ?_⟩) (by assumption) ?_
  rotate_left 1
  · (intro w0 hSw; (try dsimp only at hSw); go_simp; try (with_reducible rfl))
  try simp only [Act.put]
  try simp only [List.setIfInBounds_toArray]
  try simp only [List.set_cons_succ]
  try simp only [List.set_cons_zero]
  refine takeOp (i := 6) (v := ?_) (some 11) rfl rfl (by kernel_rfl) (by kernel_rfl) (by kernel_rfl) (fun _ _ _ h => h) (Or.inl ⟨by rfl, ?_⟩) (by assumption) ?_
  rotate_left 1
  · (intro w0 hSw; (try dsimp only at hSw); go_simp; try (with_reducible rfl))
  try simp only [Act.put]
  try simp only [List.setIfInBounds_toArray]
  try simp only [List.set_cons_succ]
  try simp only [List.set_cons_zero]
  refine takeOp (i := 7) (v := ?_) (some 12) rfl rfl (by kernel_rfl) (by kernel_rfl) (by kernel_rfl) (fun _ _ _ h => h) (Or.inl ⟨by rfl, ?_⟩) (by assumption) ?_
  rotate_left 1
  · (intro w0 hSw; (try dsimp only at hSw); go_simp; try (with_reducible rfl))
  try simp only [Act.put]
  try simp only [List.setIfInBounds_toArray]
  try simp only [List.set_cons_succ]
  try simp only [List.set_cons_zero]
  refine takeOp (i := 8) (v := ?_) (some 13) rfl rfl (by kernel_rfl) (by kernel_rfl) (by kernel_rfl) (fun _ _ _ h => h) (Or.inl ⟨by rfl, ?_⟩) (by assumption) ?_
  rotate_left 1
  · (intro w0 hSw; (try dsimp only at hSw); go_simp; try (with_reducible rfl))
  try simp only [Act.put]
  try simp only [List.setIfInBounds_toArray]
  try simp only [List.set_cons_succ]
  try simp only [List.set_cons_zero]
  refine takeOp (i := 9) (v := undef) (some 14) rfl rfl (by kernel_rfl) (by kernel_rfl) (by kernel_rfl) (fun _ _ _ h => h) (Or.inr ⟨by rfl, rfl⟩) (by assumption) ?_
  try simp only [Act.put]
  try simp only [List.setIfInBounds_toArray]
  try simp only [List.set_cons_succ]
  try simp only [List.set_cons_zero]
  refine takeOp (i := 10) (v := undef) (some 15) rfl rfl (by kernel_rfl) (by kernel_rfl) (by kernel_rfl) (fun _ _ _ h => h) (Or.inr ⟨by rfl, rfl⟩) (by assumption) ?_
  try simp only [Act.put]
  try simp only [List.setIfInBounds_toArray]
  try simp only [List.set_cons_succ]
  try simp only [List.set_cons_zero]
  refine takeOp (i := 11) (v := undef) (some 16) rfl rfl (by kernel_rfl) (by kernel_rfl) (by kernel_rfl) (fun _ _ _ h => h) (Or.inr ⟨by rfl, rfl⟩) (by assumption) ?_
  try simp only [Act.put]
  try simp only [List.setIfInBounds_toArray]
  try simp only [List.set_cons_succ]
  try simp only [List.set_cons_zero]
  refine takeOp (i := 12) (v := ?_) (some 17) rfl rfl (by kernel_rfl) (by kernel_rfl) (by kernel_rfl) (fun _ _ _ h => h) (Or.inl ⟨by rfl, ?_⟩) (by assumption) ?_
  rotate_left 1
  · (intro w0 hSw; (try dsimp only at hSw); go_simp; try (with_reducible rfl))
  try simp only [Act.put]
  try simp only [List.setIfInBounds_toArray]
  try simp only [List.set_cons_succ]
  try simp only [List.set_cons_zero]
  refine takeOp (i := 13) (v := ?_) (some 18) rfl rfl (by kernel_rfl) (by kernel_rfl) (by kernel_rfl) (fun _ _ _ h => h) (Or.inl ⟨by rfl, ?_⟩) (by assumption) ?_
  rotate_left 1
  · (intro w0 hSw; (try dsimp only at hSw); go_simp; try (with_reducible rfl))
  try simp only [Act.put]
  try simp only [List.setIfInBounds_toArray]
  try simp only [List.set_cons_succ]
  try simp only [List.set_cons_zero]
  refine takeOp (i := 14) (v := ?_) (some 19) rfl rfl (by kernel_rfl) (by kernel_rfl) (by kernel_rfl) (fun _ _ _ h => h) (Or.inl ⟨by rfl, ?_⟩) (by assumption) ?_
  rotate_left 1
  · (intro w0 hSw; (try dsimp only at hSw); go_simp; try (with_reducible rfl))
  try simp only [Act.put]
  try simp only [List.setIfInBounds_toArray]
  try simp only [List.set_cons_succ]
  try simp only [List.set_cons_zero]
  refine takeOp (i := 15) (v := ?_) (some 20) rfl rfl (by kernel_rfl) (by kernel_rfl) (by kernel_rfl) (fun _ _ _ h => h) (Or.inl ⟨by rfl, ?_⟩) (by assumption) ?_
  rotate_left 1
  · (intro w0 hSw; (try dsimp only at hSw); go_simp; try (with_reducible rfl))
  try simp only [Act.put]
  try simp only [List.setIfInBounds_toArray]
  try simp only [List.set_cons_succ]
  try simp only [List.set_cons_zero]
  refine takeOp (i := 16) (v := ?_) (some 21) rfl rfl (by kernel_rfl) (by kernel_rfl) (by kernel_rfl) (fun _ _ _ h => h) (Or.inl ⟨by rfl, ?_⟩) (by assumption) ?_
  rotate_left 1
  · (intro w0 hSw; (try dsimp only at hSw); go_simp; try (with_reducible rfl))
  try simp only [Act.put]
  try simp only [List.setIfInBounds_toArray]
  try simp only [List.set_cons_succ]
  try simp only [List.set_cons_zero]
  refine takeOp (i := 17) (v := ?_) (some 22) rfl rfl (by kernel_rfl) (by kernel_rfl) (by kernel_rfl) (fun _ _ _ h => h) (Or.inl ⟨by rfl, ?_⟩) (by assumption) ?_
  rotate_left 1
  · (intro w0 hSw; (try dsimp only at hSw); go_simp; try (with_reducible rfl))
  try simp only [Act.put]
  try simp only [List.setIfInBounds_toArray]
  try simp only [List.set_cons_succ]
  try simp only [List.set_cons_zero]
  refine takeOp (i := 18) (v := ?_) (some 23) rfl rfl (by kernel_rfl) (by kernel_rfl) (by kernel_rfl) (fun _ _ _ h => h) (Or.inl ⟨by rfl, ?_⟩) (by assumption) ?_
  rotate_left 1
  · (intro w0 hSw; (try dsimp only at hSw); go_simp; try (with_reducible rfl))
  try simp only [Act.put]
  try simp only [List.setIfInBounds_toArray]
  try simp only [List.set_cons_succ]
  try simp only [List.set_cons_zero]
  refine takeOp (i := 19) (v := ?_) (some 24) rfl rfl (by kernel_rfl) (by kernel_rfl) (by kernel_rfl) (fun _ _ _ h => h) (Or.inl ⟨by rfl, ?_⟩) (by assumption) ?_
  rotate_left 1
  · (intro w0 hSw; (try dsimp only at hSw); go_simp; try (with_reducible rfl))
  try simp only [Act.put]
  try simp only [List.setIfInBounds_toArray]
  try simp only [List.set_cons_succ]
  try simp only [List.set_cons_zero]
  refine takeOp (i := 20) (v := ?_) (some 25) rfl rfl (by kernel_rfl) (by kernel_rfl) (by kernel_rfl) (fun _ _ _ h => h) (Or.inl ⟨by rfl, ?_⟩) (by assumption) ?_
  rotate_left 1
  · (intro w0 hSw; (try dsimp only at hSw); go_simp; try (with_reducible rfl))
  try simp only [Act.put]
  try simp only [List.setIfInBounds_toArray]
  try simp only [List.set_cons_succ]
  try simp only [List.set_cons_zero]
  refine takeOp (i := 21) (v := ?_) (some 26) rfl rfl (by kernel_rfl) (by kernel_rfl) (by kernel_rfl) (fun _ _ _ h => h) (Or.inl ⟨by rfl, ?_⟩) (by assumption) ?_
  rotate_left 1
  · (intro w0 hSw; (try dsimp only at hSw); go_simp; try (with_reducible rfl))
  try simp only [Act.put]
  try simp only [List.setIfInBounds_toArray]
  try simp only [List.set_cons_succ]
  try simp only [List.set_cons_zero]
  refine takeOp (i := 22) (v := ?_) (some 27) rfl rfl (by kernel_rfl) (by kernel_rfl) (by kernel_rfl) (fun _ _ _ h => h) (Or.inl ⟨by rfl, ?_⟩) (by assumption) ?_
  rotate_left 1
  · (intro w0 hSw; (try dsimp only at hSw); go_simp; try (with_reducible rfl))
  try simp only [Act.put]
  try simp only [List.setIfInBounds_toArray]
  try simp only [List.set_cons_succ]
  try simp only [List.set_cons_zero]
  refine wpAnyH_ready (rs := [23]) (by kernel_rfl) (by simp) ?_
  refine AllReadyH.cons rfl (fun K hK => ?_) AllReadyH.nil
  go_simp
  refine (HDP.out _).mono ?_
  rintro e w2 ⟨rfl, hx0⟩
  have hx : Ext w w2 := (Ext.refl w).drew.trans hx0
  have KEEP2 : w2.cell? ⟨g, 0, none⟩ = some (.slice LA d C) ∧ w2.cell? ⟨g, 1, none⟩ = some (.int .i64 0) := ⟨(hx.cell hg).trans c0, (hx.cell hg).trans c1⟩
  have HX2 := Lib.hid hx
  clear hx hx0
  go_wp2_with fail
  refine hK.out _ _ KEEP2 (fun hHeld => ?_)
  clear hK K
  try simp only [Act.put]
  try simp only [List.setIfInBounds_toArray]
  try simp only [List.set_cons_succ]
  try simp only [List.set_cons_zero]
  refine takeOp (i := 24) (v := ?_) (some 29) rfl rfl (by kernel_rfl) (by kernel_rfl) (by kernel_rfl) (fun _ _ _ h => h) (Or.inl ⟨by rfl, ?_⟩) (by assumption) ?_
  rotate_left 1
  · (intro w0 hSw; (try dsimp only at hSw); go_simp; try (with_reducible rfl))
  try simp only [Act.put]
  try simp only [List.setIfInBounds_toArray]
  try simp only [List.set_cons_succ]
  try simp only [List.set_cons_zero]
  refine takeOp (i := 25) (v := ?_) (some 30) rfl rfl (by kernel_rfl) (by kernel_rfl) (by kernel_rfl) (fun _ _ _ h => h) (Or.inl ⟨by rfl, ?_⟩) (by assumption) ?_
  rotate_left 1
  · (intro w0 hSw; (try dsimp only at hSw); go_simp; try (with_reducible rfl))
  try simp only [Act.put]
  try simp only [List.setIfInBounds_toArray]
  try simp only [List.set_cons_succ]
  try simp only [List.set_cons_zero]
  refine wpAnyH_done (by kernel_rfl) ?_ _
  obtain ⟨k0, k1⟩ := KEEP2
  go_wp2_with fail
  refine (HSZ.out w2 HX2.out).mono ?_
  rintro e w3 ⟨rfl, hx0⟩
  have hx3 : Ext w w3 := HX2.out.trans hx0
  obtain ⟨W4, hW4⟩ : ∃ W4, W4 = w3.alloc (.cells #[.int .i64 0, .int .i64 n] 133) := ⟨_, rfl⟩
  have hx4 : Ext w W4 := by rw [hW4]; exact hx3.alloc _
  have hr4 : Row W4 w3.heap.size 133 [.int .i64 0, .int .i64 n] := by rw [hW4]; exact Row.new w3 133 [.int .i64 0, .int .i64 n]
  have m1 : w3.cell? ⟨g, 1, none⟩ = some (.int .i64 0) := (hx3.cell hg).trans c1
  have hg3 : g < w3.heap.size := Nat.lt_of_lt_of_le hg hx3.size
  have HX4 := Lib.hid hx4
  have HR4 := Lib.hid hr4
  clear k0 k1 hx0 hx3 hx4 hr4 HSZ HDP
  go_wp2
  rw [← hW4]
  have hi4 := HI.out.ext HX4.out
  have p1 : W4.cell? ⟨g, 1, none⟩ = some (.int .i64 0) := (HX4.out.cell hg).trans c1
  have p2 := hi4.c2
  have p3 := hi4.c3
  have hab := hi4.ca (j := 0) (by omega)
  simp only [Nat.zero_mul, Nat.add_zero] at hab
  obtain ⟨q0, q1⟩ := hab
  have fr4 := hi4.fr 4
  have fr5 := hi4.fr 5
  have fz1 := hi4.fr 1
  have fz2 := hi4.fr 2
  have fz3 := hi4.fr 3
  have s0 : W4.cell? ⟨w3.heap.size, 0, none⟩ = some (.int .i64 0) := HR4.out.cell 0
  have s1 : W4.cell? ⟨w3.heap.size, 1, none⟩ = some (.int .i64 n) := HR4.out.cell 1
  have ne1 : ¬ (w3.heap.size = g) := by omega
  have ne2 : ¬ (g = w3.heap.size) := by omega
  have HI4 := Lib.hid hi4
  clear hi4 hW4 m1
  go_still_tail 12, (by kernel_rfl)
  go_wp2
  go_ret
  refine ⟨rfl, ?_, ?_⟩
  · have h := (((HI4.out.setAb (k := 0) (by omega) t.pos t.fin).setPos 0).setFin n).setL 1
    unfold openT
    rw [HL.out]
    exact h
  · exact grown_trans (HX4.out.grown _) (grown_trans (grown_set W4 g 4 _) (grown_trans (grown_set _ g 5 _) (grown_trans (grown_set _ g 2 _) (grown_trans (grown_set _ g 3 _) (grown_trans (grown_set _ g 1 _) ((Ext.refl _).drew.grown _))))))

end Go.Proofs.Ytiomelogggilgaa
end

section
/- Walk: Open below the root. -/
namespace Go.Proofs.Ytiomelogggilgaa
open Go.RowKit Go.Sort

set_option maxHeartbeats 8000000 in
set_option maxRecDepth 100000 in
/-- Open at a value that has children. -/
theorem tiOpen_down (B g : Nat) (LA : Option Addr) (d C : Nat) (vs : Nat → RL.R) (fs : Nat → List Nat) (t : It) (w : World) (h : TrM B w LA d vs fs) (hB : B ≤ w.heap.size) (hi : ItM w g LA d C t) (hL : 0 < t.L) (hLd : t.L < d) (hd : d ≤ 32) (hn : onV t = true) (hv : (vs 0).length ≤ 1000000) (hp : t.pos + 1 < (fs (t.L - 1)).length) (hfl : (fs (t.L - 1)).length ≤ 1000001) (hab : ((fs (t.L - 1))[t.pos]'(by omega)) ≠ (fs (t.L - 1))[t.pos + 1]) :
    Calls Try.prog 75 #[.pointer (some ⟨g, 0, none⟩)] w fun e w' => e = .returned (.bool true) ∧ ItM w' g LA d C (openT t (((fs (t.L - 1))[t.pos]'(by omega)), (fs (t.L - 1))[t.pos + 1])) ∧ w.grownBy w' (some g) := by
  have c0 := hi.c0
  have c1 := hi.c1
  have c2 := hi.c2
  have hg := hi.lt
  have HDP := Lib.hid (fun W => trDepth_any LA d C W)
  have HC := Lib.hid (fun W (h : ItM W g LA d C t) => tiOnV_any g LA d C t W h)
  rw [hn] at HC
  have HSZ := Lib.hid (fun (W : World) (hx : Ext w W) => trSize_any B LA d C vs fs 0 W (h.below hx.below hB) (Nat.le_trans hB hx.size) (by omega) (by omega))
  have hsz : sizeF d vs 0 ≤ 1000000 := by unfold sizeF; split <;> omega
  generalize sizeF d vs 0 = n at *
  have HI := Lib.hid hi
  obtain ⟨b, o, VA, VC, FA, FC, rfl, hb, -, h4, -, -, -, h8⟩ := h (t.L - 1) (by omega)
  obtain ⟨b2, o2, rfl, hb2, e1⟩ := slN_at h8 (i := t.pos) (by omega)
  obtain ⟨b2', o2', e, -, e2⟩ := slN_at h8 (i := t.pos + 1) hp
  simp only [Option.some.injEq, Addr.mk.injEq] at e
  obtain ⟨rfl, rfl, -⟩ := e
  have hbz : b < w.heap.size := by omega
  have hbz2 : b2 < w.heap.size := by omega
  generalize ((fs (t.L - 1))[t.pos]'(by omega)) = ca at *
  generalize (fs (t.L - 1))[t.pos + 1] = cf at *
  generalize (fs (t.L - 1)).length = m at *
  obtain ⟨k, hk⟩ : ∃ k, t.L = k + 1 := ⟨t.L - 1, by omega⟩
  have HL := Lib.hid hk
  rw [hk] at c1 h4 hLd
  rw [Nat.add_sub_cancel] at h4
  rw [Int.natCast_add, Int.natCast_one] at c1
  have HP := Lib.hid hp
  have hpp : t.pos + 1 < m := hp
  rw [← Nat.add_assoc] at e2
  generalize hpos : t.pos = ps at *
  have HPOS := Lib.hid hpos
  have hcacf : ((ca : Int) == (cf : Int)) = false := by simp; omega
  clear hi hL h h8 hn hp hab hk hpos
  have hw1 : IntKind.i64.wrap (k : Int) = (k : Int) := IntWalk.i64_in _ (by omega)
  have g1 : (0 : Int) ≤ (k : Int) := by omega
  have g2 : (k : Int) < (d : Int) := by omega
  have g3 : (0 : Int) ≤ (ps : Int) := by omega
  have g4 : (ps : Int) < (m : Int) := by omega
  have g5 : (0 : Int) ≤ (ps : Int) + 1 := by omega
  have g6 : (ps : Int) + 1 < (m : Int) := by omega
  have g7 : ((ps : Int) + 1).toNat = ps + 1 := by omega
  have g8 : IntKind.i64.wrap ((ps : Int) + 1) = (ps : Int) + 1 := IntWalk.i64_in _ (by omega)
  go_enter Try.func75, Try.ntmps75
  go_wp2
  refine wp_region_held_drew (S := (fun w' => w'.cell? ⟨g, 0, none⟩ = some (.slice (some ⟨b, o, none⟩) d C) ∧ w'.cell? ⟨g, 1, none⟩ = some (.int .i64 ((k : Int) + 1)))) (by kernel_rfl) ⟨c0, c1⟩ (fun hHeld => ?_)
  refine takeOp (i := 0) (v := ?_) (some 5) rfl rfl (by kernel_rfl) (by kernel_rfl) (by kernel_rfl) (fun _ _ _ h => h) (Or.inl ⟨by rfl, ?_⟩) (by assumption) ?_
  rotate_left 1
  · (intro w0 hSw; (try dsimp only at hSw); go_simp; try (with_reducible rfl))
  try simp only [Act.put]
  try simp only [List.setIfInBounds_toArray]
  try simp only [List.set_cons_succ]
  try simp only [List.set_cons_zero]
  refine takeOp (i := 1) (v := ?_) (some 6) rfl rfl (by kernel_rfl) (by kernel_rfl) (by kernel_rfl) (fun _ _ _ h => h) (Or.inl ⟨by rfl, ?_⟩) (by assumption) ?_
  rotate_left 1
  · (intro w0 hSw; (try dsimp only at hSw); go_simp; try (with_reducible rfl))
  try simp only [Act.put]
  try simp only [List.setIfInBounds_toArray]
  try simp only [List.set_cons_succ]
  try simp only [List.set_cons_zero]
  refine takeOp (i := 2) (v := ?_) (some 7) rfl rfl (by kernel_rfl) (by kernel_rfl) (by kernel_rfl) (fun _ _ _ h => h) (Or.inl ⟨by rfl, ?_⟩) (by assumption) ?_
  rotate_left 1
  · (intro w0 hSw; (try dsimp only at hSw); go_simp; try (with_reducible rfl))
  try simp only [Act.put]
  try simp only [List.setIfInBounds_toArray]
  try simp only [List.set_cons_succ]
  try simp only [List.set_cons_zero]
  refine takeOp (i := 3) (v := ?_) (some 8) rfl rfl (by kernel_rfl) (by kernel_rfl) (by kernel_rfl) (fun _ _ _ h => h) (Or.inl ⟨by rfl, ?_⟩) (by assumption) ?_
  rotate_left 1
  · (intro w0 hSw; (try dsimp only at hSw); go_simp; try (with_reducible rfl))
  try simp only [Act.put]
  try simp only [List.setIfInBounds_toArray]
  try simp only [List.set_cons_succ]
  try simp only [List.set_cons_zero]
  refine takeOp (i := 4) (v := ?_) (some 9) rfl rfl (by kernel_rfl) (by kernel_rfl) (by kernel_rfl) (fun _ _ _ h => h) (Or.inl ⟨by rfl, ?_⟩) (by assumption) ?_
  rotate_left 1
  · (intro w0 hSw; (try dsimp only at hSw); go_simp; try (with_reducible rfl))
  try simp only [Act.put]
  try simp only [List.setIfInBounds_toArray]
  try simp only [List.set_cons_succ]
  try simp only [List.set_cons_zero]
  refine takeOp (i := 5) (v := ?_) (some 10) rfl rfl (by kernel_rfl) (by kernel_rfl) (by kernel_rfl) (fun _ _ _ h => h) (Or.inl ⟨by rfl, ?_⟩) (by assumption) ?_
  rotate_left 1
  · (intro w0 hSw; (try dsimp only at hSw); go_simp; try (with_reducible rfl))
  try simp only [Act.put]
  try simp only [List.setIfInBounds_toArray]
  try simp only [List.set_cons_succ]
  try simp only [List.set_cons_zero]
  refine takeOp (i := 6) (v := ?_) (some 11) rfl rfl (by kernel_rfl) (by kernel_rfl) (by kernel_rfl) (fun _ _ _ h => h) (Or.inl ⟨by rfl, ?_⟩) (by assumption) ?_
  rotate_left 1
  · (intro w0 hSw; (try dsimp only at hSw); go_simp; try (with_reducible rfl))
  try simp only [Act.put]
  try simp only [List.setIfInBounds_toArray]
  try simp only [List.set_cons_succ]
  try simp only [List.set_cons_zero]
  refine takeOp (i := 7) (v := ?_) (some 12) rfl rfl (by kernel_rfl) (by kernel_rfl) (by kernel_rfl) (fun _ _ _ h => h) (Or.inl ⟨by rfl, ?_⟩) (by assumption) ?_
  rotate_left 1
  · (intro w0 hSw; (try dsimp only at hSw); go_simp; try (with_reducible rfl))
  try simp only [Act.put]
  try simp only [List.setIfInBounds_toArray]
  try simp only [List.set_cons_succ]
  try simp only [List.set_cons_zero]
  refine takeOp (i := 8) (v := ?_) (some 13) rfl rfl (by kernel_rfl) (by kernel_rfl) (by kernel_rfl) (fun _ _ _ h => h) (Or.inl ⟨by rfl, ?_⟩) (by assumption) ?_
  rotate_left 1
  · (intro w0 hSw; (try dsimp only at hSw); go_simp; try (with_reducible rfl))
  try simp only [Act.put]
  try simp only [List.setIfInBounds_toArray]
  try simp only [List.set_cons_succ]
  try simp only [List.set_cons_zero]
  refine takeOp (i := 9) (v := ?_) (some 14) rfl rfl (by kernel_rfl) (by kernel_rfl) (by kernel_rfl) (fun _ _ _ h => h) (Or.inl ⟨by rfl, ?_⟩) (by assumption) ?_
  rotate_left 1
  · (intro w0 hSw; (try dsimp only at hSw); go_simp; try (with_reducible rfl))
  try simp only [Act.put]
  try simp only [List.setIfInBounds_toArray]
  try simp only [List.set_cons_succ]
  try simp only [List.set_cons_zero]
  refine wpAnyH_ready (rs := [10]) (by kernel_rfl) (by simp) ?_
  refine AllReadyH.cons rfl (fun K hK => ?_) AllReadyH.nil
  go_simp
  refine (HC.out _ (HI.out.ext (Ext.refl w).drew)).mono ?_
  rintro e w1 ⟨rfl, hx0⟩
  have hx : Ext w w1 := (Ext.refl w).drew.trans hx0
  have KEEP : w1.cell? ⟨g, 0, none⟩ = some (.slice (some ⟨b, o, none⟩) d C) ∧ w1.cell? ⟨g, 1, none⟩ = some (.int .i64 ((k : Int) + 1)) := ⟨(hx.cell hg).trans c0, (hx.cell hg).trans c1⟩
  have HX := Lib.hid hx
  clear hx hx0
  go_wp2_with fail
  refine hK.out _ _ KEEP (fun hHeld => ?_)
  clear hK K
  try simp only [Act.put]
  try simp only [List.setIfInBounds_toArray]
  try simp only [List.set_cons_succ]
  try simp only [List.set_cons_zero]
  refine takeOp (i := 11) (v := ?_) (some 16) rfl rfl (by kernel_rfl) (by kernel_rfl) (by kernel_rfl) (fun _ _ _ h => h) (Or.inl ⟨by rfl, ?_⟩) (by assumption) ?_
  rotate_left 1
  · (intro w0 hSw; (try dsimp only at hSw); go_simp; try (with_reducible rfl))
  try simp only [Act.put]
  try simp only [List.setIfInBounds_toArray]
  try simp only [List.set_cons_succ]
  try simp only [List.set_cons_zero]
  refine takeOp (i := 12) (v := ?_) (some 17) rfl rfl (by kernel_rfl) (by kernel_rfl) (by kernel_rfl) (fun _ _ _ h => h) (Or.inl ⟨by rfl, ?_⟩) (by assumption) ?_
  rotate_left 1
  · (intro w0 hSw; (try dsimp only at hSw); go_simp; try (with_reducible rfl))
  try simp only [Act.put]
  try simp only [List.setIfInBounds_toArray]
  try simp only [List.set_cons_succ]
  try simp only [List.set_cons_zero]
  refine takeOp (i := 13) (v := ?_) (some 18) rfl rfl (by kernel_rfl) (by kernel_rfl) (by kernel_rfl) (fun _ _ _ h => h) (Or.inl ⟨by rfl, ?_⟩) (by assumption) ?_
  rotate_left 1
  · (intro w0 hSw; (try dsimp only at hSw); go_simp; try (with_reducible rfl))
  try simp only [Act.put]
  try simp only [List.setIfInBounds_toArray]
  try simp only [List.set_cons_succ]
  try simp only [List.set_cons_zero]
  refine takeOp (i := 14) (v := ?_) (some 19) rfl rfl (by kernel_rfl) (by kernel_rfl) (by kernel_rfl) (fun _ _ _ h => h) (Or.inl ⟨by rfl, ?_⟩) (by assumption) ?_
  rotate_left 1
  · (intro w0 hSw; (try dsimp only at hSw); go_simp; try (with_reducible rfl))
  try simp only [Act.put]
  try simp only [List.setIfInBounds_toArray]
  try simp only [List.set_cons_succ]
  try simp only [List.set_cons_zero]
  refine takeOp (i := 15) (v := ?_) (some 20) rfl rfl (by kernel_rfl) (by kernel_rfl) (by kernel_rfl) (fun _ _ _ h => h) (Or.inl ⟨by rfl, ?_⟩) (by assumption) ?_
  rotate_left 1
  · (intro w0 hSw; (try dsimp only at hSw); go_simp; try (with_reducible rfl))
  try simp only [Act.put]
  try simp only [List.setIfInBounds_toArray]
  try simp only [List.set_cons_succ]
  try simp only [List.set_cons_zero]
  refine takeOp (i := 16) (v := ?_) (some 21) rfl rfl (by kernel_rfl) (by kernel_rfl) (by kernel_rfl) (fun _ _ _ h => h) (Or.inl ⟨by rfl, ?_⟩) (by assumption) ?_
  rotate_left 1
  · (intro w0 hSw; (try dsimp only at hSw); go_simp; try (with_reducible rfl))
  try simp only [Act.put]
  try simp only [List.setIfInBounds_toArray]
  try simp only [List.set_cons_succ]
  try simp only [List.set_cons_zero]
  refine takeOp (i := 17) (v := ?_) (some 22) rfl rfl (by kernel_rfl) (by kernel_rfl) (by kernel_rfl) (fun _ _ _ h => h) (Or.inl ⟨by rfl, ?_⟩) (by assumption) ?_
  rotate_left 1
  · (intro w0 hSw; (try dsimp only at hSw); go_simp; try (with_reducible rfl))
  try simp only [Act.put]
  try simp only [List.setIfInBounds_toArray]
  try simp only [List.set_cons_succ]
  try simp only [List.set_cons_zero]
  refine takeOp (i := 18) (v := ?_) (some 23) rfl rfl (by kernel_rfl) (by kernel_rfl) (by kernel_rfl) (fun _ _ _ h => h) (Or.inl ⟨by rfl, ?_⟩) (by assumption) ?_
  rotate_left 1
  · (intro w0 hSw; (try dsimp only at hSw); go_simp; try (with_reducible rfl))
  try simp only [Act.put]
  try simp only [List.setIfInBounds_toArray]
  try simp only [List.set_cons_succ]
  try simp only [List.set_cons_zero]
  refine takeOp (i := 19) (v := ?_) (some 24) rfl rfl (by kernel_rfl) (by kernel_rfl) (by kernel_rfl) (fun _ _ _ h => h) (Or.inl ⟨by rfl, ?_⟩) (by assumption) ?_
  rotate_left 1
  · (intro w0 hSw; (try dsimp only at hSw); go_simp; try (with_reducible rfl))
  try simp only [Act.put]
  try simp only [List.setIfInBounds_toArray]
  try simp only [List.set_cons_succ]
  try simp only [List.set_cons_zero]
  refine takeOp (i := 20) (v := ?_) (some 25) rfl rfl (by kernel_rfl) (by kernel_rfl) (by kernel_rfl) (fun _ _ _ h => h) (Or.inl ⟨by rfl, ?_⟩) (by assumption) ?_
  rotate_left 1
  · (intro w0 hSw; (try dsimp only at hSw); go_simp; try (with_reducible rfl))
  try simp only [Act.put]
  try simp only [List.setIfInBounds_toArray]
  try simp only [List.set_cons_succ]
  try simp only [List.set_cons_zero]
  refine takeOp (i := 21) (v := ?_) (some 26) rfl rfl (by kernel_rfl) (by kernel_rfl) (by kernel_rfl) (fun _ _ _ h => h) (Or.inl ⟨by rfl, ?_⟩) (by assumption) ?_
  rotate_left 1
  · (intro w0 hSw; (try dsimp only at hSw); go_simp; try (with_reducible rfl))
  try simp only [Act.put]
  try simp only [List.setIfInBounds_toArray]
  try simp only [List.set_cons_succ]
  try simp only [List.set_cons_zero]
  refine takeOp (i := 22) (v := ?_) (some 27) rfl rfl (by kernel_rfl) (by kernel_rfl) (by kernel_rfl) (fun _ _ _ h => h) (Or.inl ⟨by rfl, ?_⟩) (by assumption) ?_
  rotate_left 1
  · (intro w0 hSw; (try dsimp only at hSw); go_simp; try (with_reducible rfl))
  try simp only [Act.put]
  try simp only [List.setIfInBounds_toArray]
  try simp only [List.set_cons_succ]
  try simp only [List.set_cons_zero]
  refine wpAnyH_ready (rs := [23]) (by kernel_rfl) (by simp) ?_
  refine AllReadyH.cons rfl (fun K hK => ?_) AllReadyH.nil
  go_simp
  refine (HDP.out _).mono ?_
  rintro e w2 ⟨rfl, hx0⟩
  have hx : Ext w w2 := HX.out.trans hx0
  have KEEP2 : w2.cell? ⟨g, 0, none⟩ = some (.slice (some ⟨b, o, none⟩) d C) ∧ w2.cell? ⟨g, 1, none⟩ = some (.int .i64 ((k : Int) + 1)) := ⟨(hx.cell hg).trans c0, (hx.cell hg).trans c1⟩
  have HX2 := Lib.hid hx
  clear hx hx0
  go_wp2_with fail
  refine hK.out _ _ KEEP2 (fun hHeld => ?_)
  clear hK K
  try simp only [Act.put]
  try simp only [List.setIfInBounds_toArray]
  try simp only [List.set_cons_succ]
  try simp only [List.set_cons_zero]
  refine takeOp (i := 24) (v := ?_) (some 29) rfl rfl (by kernel_rfl) (by kernel_rfl) (by kernel_rfl) (fun _ _ _ h => h) (Or.inl ⟨by rfl, ?_⟩) (by assumption) ?_
  rotate_left 1
  · (intro w0 hSw; (try dsimp only at hSw); go_simp; try (with_reducible rfl))
  try simp only [Act.put]
  try simp only [List.setIfInBounds_toArray]
  try simp only [List.set_cons_succ]
  try simp only [List.set_cons_zero]
  refine takeOp (i := 25) (v := ?_) (some 30) rfl rfl (by kernel_rfl) (by kernel_rfl) (by kernel_rfl) (fun _ _ _ h => h) (Or.inl ⟨by rfl, ?_⟩) (by assumption) ?_
  rotate_left 1
  · (intro w0 hSw; (try dsimp only at hSw); go_simp; try (with_reducible rfl))
  try simp only [Act.put]
  try simp only [List.setIfInBounds_toArray]
  try simp only [List.set_cons_succ]
  try simp only [List.set_cons_zero]
  refine wpAnyH_done (by kernel_rfl) ?_ _
  obtain ⟨k0, k1⟩ := KEEP2
  clear KEEP
  go_wp2_with fail
  refine (HSZ.out w2 HX2.out).mono ?_
  rintro e w3 ⟨rfl, hx0⟩
  have hx3 : Ext w w3 := HX2.out.trans hx0
  obtain ⟨W4, hW4⟩ : ∃ W4, W4 = w3.alloc (.cells #[.int .i64 0, .int .i64 n] 133) := ⟨_, rfl⟩
  have hx4 : Ext w W4 := by rw [hW4]; exact hx3.alloc _
  have hr4 : Row W4 w3.heap.size 133 [.int .i64 0, .int .i64 n] := by rw [hW4]; exact Row.new w3 133 [.int .i64 0, .int .i64 n]
  have m1 : w3.cell? ⟨g, 1, none⟩ = some (.int .i64 ((k : Int) + 1)) := (hx3.cell hg).trans c1
  have hg3 : g < w3.heap.size := Nat.lt_of_lt_of_le hg hx3.size
  have hx3z := hx3.size
  have HX4 := Lib.hid hx4
  have HR4 := Lib.hid hr4
  clear k0 k1 hx0 hx3 hx4 hr4 HSZ HDP
  go_wp2
  rw [← hW4]
  clear hW4 m1
  have x0 : W4.cell? ⟨g, 0, none⟩ = some (.slice (some ⟨b, o, none⟩) d C) := (HX4.out.cell hg).trans c0
  have x1 : W4.cell? ⟨g, 1, none⟩ = some (.int .i64 ((k : Int) + 1)) := (HX4.out.cell hg).trans c1
  have x2 : W4.cell? ⟨g, 2, none⟩ = some (.int .i64 (ps : Int)) := (HX4.out.cell hg).trans c2
  have y4 : W4.cell? ⟨b, o + k * 2 + 1, none⟩ = some (.slice (some ⟨b2, o2, none⟩) m FC) := (HX4.out.cell hbz).trans h4
  have y1 : W4.cell? ⟨b2, o2 + ps, none⟩ = some (.int .i64 (ca : Int)) := (HX4.out.cell hbz2).trans e1
  have y2 : W4.cell? ⟨b2, o2 + ps + 1, none⟩ = some (.int .i64 (cf : Int)) := (HX4.out.cell hbz2).trans e2
  have s0 : W4.cell? ⟨w3.heap.size, 0, none⟩ = some (.int .i64 0) := HR4.out.cell 0
  have s1 : W4.cell? ⟨w3.heap.size, 1, none⟩ = some (.int .i64 n) := HR4.out.cell 1
  have z0 := HR4.out.frozen 0
  have z1 := HR4.out.frozen 1
  go_quiet (fail)
  go_wp2
  obtain ⟨W5, hW5⟩ : ∃ W5, W5 = W4.drewN nq := ⟨_, rfl⟩
  rw [← hW5]
  have hx5 : Ext w W5 := by rw [hW5]; exact HX4.out.drewN _
  have hr5 : Row W5 w3.heap.size 133 [.int .i64 0, .int .i64 n] := by rw [hW5]; exact HR4.out.drewN _
  have HX5 := Lib.hid hx5
  have HR5 := Lib.hid hr5
  clear x0 x1 x2 y4 y1 y2 s0 s1 z0 z1 hx5 hr5 hW5 HX4 HR4
  have x0 : W5.cell? ⟨g, 0, none⟩ = some (.slice (some ⟨b, o, none⟩) d C) := (HX5.out.cell hg).trans c0
  have x1 : W5.cell? ⟨g, 1, none⟩ = some (.int .i64 ((k : Int) + 1)) := (HX5.out.cell hg).trans c1
  have x2 : W5.cell? ⟨g, 2, none⟩ = some (.int .i64 (ps : Int)) := (HX5.out.cell hg).trans c2
  have y1 : W5.cell? ⟨b2, o2 + ps, none⟩ = some (.int .i64 (ca : Int)) := (HX5.out.cell hbz2).trans e1
  have y2 : W5.cell? ⟨b2, o2 + ps + 1, none⟩ = some (.int .i64 (cf : Int)) := (HX5.out.cell hbz2).trans e2
  have y3 : W5.cell? ⟨b2, o2 + (ps + 1), none⟩ = some (.int .i64 (cf : Int)) := y2
  have s0 : W5.cell? ⟨w3.heap.size, 0, none⟩ = some (.int .i64 0) := HR5.out.cell 0
  have s1 : W5.cell? ⟨w3.heap.size, 1, none⟩ = some (.int .i64 n) := HR5.out.cell 1
  have z0 := HR5.out.frozen 0
  have z1 := HR5.out.frozen 1
  go_still_tail 18, (by kernel_rfl)
  go_wp2
  obtain ⟨W6, hW6⟩ : ∃ W6, W6 = ((W5.setCell ⟨w3.heap.size, 0, none⟩ (.int .i64 (ca : Int))).setCell ⟨w3.heap.size, 1, none⟩ (.int .i64 (cf : Int))).drew := ⟨_, rfl⟩
  rw [← hW6]
  have hb6 : Below w3.heap.size w3 W6 → True := fun _ => trivial
  have hi6 : ItM W6 g (some ⟨b, o, none⟩) d C t := by
    rw [hW6]
    obtain ⟨xs, q1, q2⟩ := HI.out.ext HX5.out
    exact ⟨xs, ((q1.far (p := ⟨w3.heap.size, 0, none⟩) (by show g ≠ w3.heap.size; omega) _).far (p := ⟨w3.heap.size, 1, none⟩) (by show g ≠ w3.heap.size; omega) _).drew, q2⟩
  have hr6 : Row W6 w3.heap.size 133 [.int .i64 ca, .int .i64 cf] := by rw [hW6]; exact (HR5.out.set2 _ _).drew
  have hgr6 : w.grownBy W6 (some g) := by
    rw [hW6]
    exact grown_of_below (((HX5.out.below.setCell (p := ⟨w3.heap.size, 0, none⟩) hx3z _).setCell (p := ⟨w3.heap.size, 1, none⟩) hx3z _).drew) _
  have HI6 := Lib.hid hi6
  have HGR6 := Lib.hid hgr6
  clear x0 x1 x2 y1 y2 y3 s0 s1 z0 z1 hW6 HX5 HR5 hb6 hgr6
  have k32 : k + 1 < 32 := by omega
  have x1 : W6.cell? ⟨g, 1, none⟩ = some (.int .i64 ((k : Int) + 1)) := by have h := hi6.c1; rw [HL.out, Int.natCast_add, Int.natCast_one] at h; exact h
  have x2 := hi6.c2
  have x3 := hi6.c3
  obtain ⟨q0, q1⟩ := hi6.ca k32
  have s0 : W6.cell? ⟨w3.heap.size, 0, none⟩ = some (.int .i64 ca) := hr6.cell 0
  have s1 : W6.cell? ⟨w3.heap.size, 1, none⟩ = some (.int .i64 cf) := hr6.cell 1
  have f1 := hi6.fr 1
  have f2 := hi6.fr 2
  have f3 := hi6.fr 3
  have f4 := hi6.fr (4 + (k + 1) * 2)
  have f5 := hi6.fr (4 + (k + 1) * 2 + 1)
  have ne1 : ¬ (w3.heap.size = g) := by omega
  have ne2 : ¬ (g = w3.heap.size) := by omega
  have j1 : (0 : Int) ≤ (k : Int) + 1 := by omega
  have j2 : (k : Int) + 1 < 32 := by omega
  have j3 : ((k : Int) + 1).toNat = k + 1 := by omega
  have hlt6 := hr6.lt
  clear hi6 hr6
  go_still_tail 12, (by kernel_rfl)
  go_wp2
  go_ret
  refine ⟨rfl, ?_, ?_⟩
  · have h := (((HI6.out.setAb (k := k + 1) k32 t.pos t.fin).setPos ca).setFin cf).setL (k + 2)
    unfold openT
    rw [HL.out]
    exact h
  · exact grown_trans HGR6.out (grown_trans (grown_set W6 g (4 + (k + 1) * 2) _) (grown_trans (grown_set _ g (4 + (k + 1) * 2 + 1) _) (grown_trans (grown_set _ g 2 _) (grown_trans (grown_set _ g 3 _) (grown_trans (grown_set _ g 1 _) ((Ext.refl _).drew.grown _))))))

end Go.Proofs.Ytiomelogggilgaa
end

section
/- Walk: Seek. -/
namespace Go.Proofs.Ytiomelogggilgaa
open Go.RowKit Go.Sort

theorem tiSeek_nil (v : RL.V) (w : World) : Calls Try.prog 89 #[.pointer none, vv v] w fun e w' => e = .returned (.bool false) ∧ Ext w w' := by
  have HC := Lib.hid (fun W => tiOnValue_nil W)
  go_enter Try.func89, Try.ntmps89
  go_wp2_with fail
  refine (HC.out _).mono ?_
  rintro e w1 ⟨rfl, hx⟩
  have HX := Lib.hid (((Ext.refl w).alloc _).trans hx)
  clear hx
  go_wp2
  go_ret
  exact ⟨rfl, HX.out⟩
theorem tiSeek_no (g : Nat) (LA : Option Addr) (d C : Nat) (t : It) (v : RL.V) (w : World) (hi : ItM w g LA d C t) (hn : onV t = false) :
    Calls Try.prog 89 #[.pointer (some ⟨g, 0, none⟩), vv v] w fun e w' => e = .returned (.bool false) ∧ Ext w w' := by
  have HC := Lib.hid (fun W (h : ItM W g LA d C t) => tiOnV_any g LA d C t W h)
  rw [hn] at HC
  have HI := Lib.hid hi
  clear hi hn
  go_enter Try.func89, Try.ntmps89
  go_wp2_with fail
  refine (HC.out _ (HI.out.ext ((Ext.refl w).alloc _))).mono ?_
  rintro e w1 ⟨rfl, hx⟩
  have HX := Lib.hid (((Ext.refl w).alloc _).trans hx)
  clear hx
  go_wp2
  go_ret
  exact ⟨rfl, HX.out⟩

/-- The value at place j of X is less than v. -/
def ltF (X : RL.R) (v : RL.V) (j : Nat) : Bool := decide (RL.cmpV (X.getD j default) v < 0)
/-- What Seek leaves: the first place from pos on whose value is not less than v. -/
def SeekPost (w : World) (g : Nat) (LA : Option Addr) (d C : Nat) (X : RL.R) (v : RL.V) (t : It) (e : Ending) (w' : World) : Prop :=
  ∃ q s, e = .returned (.bool (decide (q < t.fin))) ∧ ItM w' g LA d C { t with pos := q, steps := s } ∧ t.pos ≤ q ∧ q ≤ t.fin ∧ (∀ j, t.pos ≤ j → j < q → ltF X v j = true) ∧ (q < t.fin → ltF X v q = false) ∧ s ≤ t.steps + 2 * t.fin + 2 ∧ w.grownBy w' (some g)

set_option maxHeartbeats 8000000 in
set_option maxRecDepth 100000 in
theorem tiSeek_yes (B g : Nat) (LA : Option Addr) (d C : Nat) (vs : Nat → RL.R) (fs : Nat → List Nat) (t : It) (v : RL.V) (w : World) (h : TrM B w LA d vs fs) (hB : B ≤ w.heap.size) (hBg : B ≤ g) (hi : ItM w g LA d C t) (hd : d ≤ 1000000) (hn : onV t = true) (hok : ItOk d vs t) (hst : t.steps ≤ 100000000000000000)
    (hmono : ∀ j k, t.pos ≤ j → j ≤ k → k < t.fin → ltF (vs (t.L - 1)) v k = true → ltF (vs (t.L - 1)) v j = true) :
    Calls Try.prog 89 #[.pointer (some ⟨g, 0, none⟩), vv v] w (SeekPost w g LA d C (vs (t.L - 1)) v t) := by
  obtain ⟨hL, hpf⟩ := onV_true.1 hn
  obtain ⟨hfl, hxl⟩ := hok.2 hL
  have hg := hi.lt
  obtain ⟨W0, hW0⟩ : ∃ W0, W0 = w.alloc (.cells #[.int .i64 v.kind, .int .i64 v.int, .string v.str] 41) := ⟨_, rfl⟩
  have hx0 : Ext w W0 := by rw [hW0]; exact (Ext.refl w).alloc _
  have hr0 : Row W0 w.heap.size 41 (vcells v) := by rw [hW0]; exact Row.new w 41 (vcells v)
  have HC := Lib.hid (tiOnV_any g LA d C t W0 (hi.ext hx0))
  rw [hn] at HC
  have HLS := Lib.hid (fun (W : World) (s p : Nat) (hW : w.grownBy W (some g)) (hI : ItM W g LA d C { t with steps := s }) (hs : s ≤ 1000000000000000000) (hp : p < t.fin) => (tiLess_any B g LA d C vs fs { t with steps := s } p v W (h.grown hW hBg hB) (Nat.le_trans hB hW.size) hBg hI hd hL hok.1 (show p < (vs (t.L - 1)).length by omega) hxl hs).mono (fun e w' q => (⟨by rw [q.1]; unfold ltF; rw [List.getD_eq_getElem?_getD, List.getElem?_eq_getElem (show p < (vs (t.L - 1)).length by omega)]; rfl, q.2⟩ : e = .returned (.bool (ltF (vs (t.L - 1)) v p)) ∧ ItM w' g LA d C { t with steps := s + 1 } ∧ W.grownBy w' (some g))))
  have HOV := Lib.hid (fun (W : World) (q s : Nat) (hI : ItM W g LA d C { t with pos := q, steps := s }) => (tiOnV_any g LA d C { t with pos := q, steps := s } W hI).mono (fun e w' h => (⟨by rw [h.1]; unfold onV; simp [hL], h.2⟩ : e = .returned (.bool (decide (q < t.fin))) ∧ Ext W w')))
  have HI0 : Hid (ItM W0 g LA d C { t with steps := t.steps }) := hi.ext hx0
  have HR0 := Lib.hid hr0
  have HG0 := Lib.hid (hx0.grown (some g))
  have HMONO := Lib.hid hmono
  clear h hi hn hok hmono hx0 hr0
  generalize vs (t.L - 1) = X at *
  obtain ⟨s00, hs00⟩ : ∃ s, s = t.steps := ⟨_, rfl⟩
  go_enter Try.func89, Try.ntmps89
  go_wp2_with fail
  rw [← hW0]
  clear hW0
  refine HC.out.mono ?_
  rintro e w1 ⟨rfl, hx⟩
  have HI1 := Lib.hid (HI0.out.ext hx)
  have HR1 := Lib.hid (HR0.out.up hx.below)
  have HG1 := Lib.hid (grown_trans HG0.out (hx.grown _))
  have hz1 : w.heap.size < w1.heap.size := HR1.out.lt
  clear hx HI0 HR0 HG0 HC
  have p2 := HI1.out.c2
  have v0 : w1.cell? ⟨w.heap.size, 0, none⟩ = some (.int .i64 v.kind) := HR1.out.cell 0
  have v1 : w1.cell? ⟨w.heap.size, 1, none⟩ = some (.int .i64 v.int) := HR1.out.cell 1
  have v2 : w1.cell? ⟨w.heap.size, 2, none⟩ = some (.string v.str) := HR1.out.cell 2
  go_wp2
  refine wp_region_held_drew (S := (fun w' => w'.cell? ⟨g, 2, none⟩ = some (.int .i64 t.pos) ∧ w'.cell? ⟨w.heap.size, 0, none⟩ = some (.int .i64 v.kind) ∧ w'.cell? ⟨w.heap.size, 1, none⟩ = some (.int .i64 v.int) ∧ w'.cell? ⟨w.heap.size, 2, none⟩ = some (.string v.str))) (by kernel_rfl) ⟨p2, v0, v1, v2⟩ (fun hHeld => ?_)
  refine takeOp (i := 0) (v := ?_) (some 12) rfl rfl (by kernel_rfl) (by kernel_rfl) (by kernel_rfl) (fun _ _ _ h => h) (Or.inl ⟨by rfl, ?_⟩) (by assumption) ?_
  rotate_left 1
  · (intro w0 hSw; (try dsimp only at hSw); go_simp; try (with_reducible rfl))
  try simp only [Act.put]
  try simp only [List.setIfInBounds_toArray]
  try simp only [List.set_cons_succ]
  try simp only [List.set_cons_zero]
  refine takeOp (i := 1) (v := ?_) (some 13) rfl rfl (by kernel_rfl) (by kernel_rfl) (by kernel_rfl) (fun _ _ _ h => h) (Or.inl ⟨by rfl, ?_⟩) (by assumption) ?_
  rotate_left 1
  · (intro w0 hSw; (try dsimp only at hSw); go_simp; try (with_reducible rfl))
  try simp only [Act.put]
  try simp only [List.setIfInBounds_toArray]
  try simp only [List.set_cons_succ]
  try simp only [List.set_cons_zero]
  refine takeOp (i := 2) (v := ?_) (some 14) rfl rfl (by kernel_rfl) (by kernel_rfl) (by kernel_rfl) (fun _ _ _ h => h) (Or.inl ⟨by rfl, ?_⟩) (by assumption) ?_
  rotate_left 1
  · (intro w0 hSw; (try dsimp only at hSw); go_simp; try (with_reducible rfl))
  try simp only [Act.put]
  try simp only [List.setIfInBounds_toArray]
  try simp only [List.set_cons_succ]
  try simp only [List.set_cons_zero]
  refine takeOp (i := 3) (v := ?_) (some 15) rfl rfl (by kernel_rfl) (by kernel_rfl) (by kernel_rfl) (fun _ _ _ h => h) (Or.inl ⟨by rfl, ?_⟩) (by assumption) ?_
  rotate_left 1
  · (intro w0 hSw; (try dsimp only at hSw); go_simp; try (with_reducible rfl))
  try simp only [Act.put]
  try simp only [List.setIfInBounds_toArray]
  try simp only [List.set_cons_succ]
  try simp only [List.set_cons_zero]
  refine takeOp (i := 4) (v := ?_) (some 16) rfl rfl (by kernel_rfl) (by kernel_rfl) (by kernel_rfl) (fun _ _ _ h => h) (Or.inl ⟨by rfl, ?_⟩) (by assumption) ?_
  rotate_left 1
  · (intro w0 hSw; (try dsimp only at hSw); go_simp; try (with_reducible rfl))
  try simp only [Act.put]
  try simp only [List.setIfInBounds_toArray]
  try simp only [List.set_cons_succ]
  try simp only [List.set_cons_zero]
  refine takeOp (i := 5) (v := ?_) (some 17) rfl rfl (by kernel_rfl) (by kernel_rfl) (by kernel_rfl) (fun _ _ _ h => h) (Or.inl ⟨by rfl, ?_⟩) (by assumption) ?_
  rotate_left 1
  · (intro w0 hSw; (try dsimp only at hSw); go_simp; try (with_reducible rfl))
  try simp only [Act.put]
  try simp only [List.setIfInBounds_toArray]
  try simp only [List.set_cons_succ]
  try simp only [List.set_cons_zero]
  refine takeOp (i := 6) (v := ?_) (some 18) rfl rfl (by kernel_rfl) (by kernel_rfl) (by kernel_rfl) (fun _ _ _ h => h) (Or.inl ⟨by rfl, ?_⟩) (by assumption) ?_
  rotate_left 1
  · (intro w0 hSw; (try dsimp only at hSw); go_simp; try (with_reducible rfl))
  try simp only [Act.put]
  try simp only [List.setIfInBounds_toArray]
  try simp only [List.set_cons_succ]
  try simp only [List.set_cons_zero]
  refine wpAnyH_ready (rs := [7]) (by kernel_rfl) (by simp) ?_
  refine AllReadyH.cons rfl (fun K hK => ?_) AllReadyH.nil
  go_simp
  refine (HLS.out w1.drew t.steps t.pos (grown_trans HG1.out ((Ext.refl _).drew.grown _)) (HI1.out.ext (Ext.refl _).drew) (by omega) hpf).mono ?_
  rintro e w2 ⟨rfl, hI2, hg2⟩
  have hr2 := (HR1.out.drew).grown hg2 (fun e => by injection e with e; omega)
  have KEEP : w2.cell? ⟨g, 2, none⟩ = some (.int .i64 t.pos) ∧ w2.cell? ⟨w.heap.size, 0, none⟩ = some (.int .i64 v.kind) ∧ w2.cell? ⟨w.heap.size, 1, none⟩ = some (.int .i64 v.int) ∧ w2.cell? ⟨w.heap.size, 2, none⟩ = some (.string v.str) := ⟨hI2.c2, hr2.cell 0, hr2.cell 1, hr2.cell 2⟩
  have HI2 := Lib.hid hI2
  have HR2 := Lib.hid hr2
  have HG2 := Lib.hid (grown_trans (grown_trans HG1.out ((Ext.refl _).drew.grown _)) hg2)
  clear hI2 hg2 hr2
  go_wp2_with fail
  refine hK.out _ _ KEEP (fun hHeld => ?_)
  clear hK K
  try simp only [Act.put]
  try simp only [List.setIfInBounds_toArray]
  try simp only [List.set_cons_succ]
  try simp only [List.set_cons_zero]
  refine takeOp (i := 8) (v := ?_) (some 20) rfl rfl (by kernel_rfl) (by kernel_rfl) (by kernel_rfl) (fun _ _ _ h => h) (Or.inl ⟨by rfl, ?_⟩) (by assumption) ?_
  rotate_left 1
  · (intro w0 hSw; (try dsimp only at hSw); go_simp; try (with_reducible rfl))
  try simp only [Act.put]
  try simp only [List.setIfInBounds_toArray]
  try simp only [List.set_cons_succ]
  try simp only [List.set_cons_zero]
  refine wpAnyH_done (by kernel_rfl) ?_ _
  clear KEEP p2 v0 v1 v2 HI1 HR1 HG1
  cases hlt : ltF X v t.pos
  · have HLT := Lib.hid hlt
    clear hlt
    go_wp2
    go_ret
    exact ⟨t.pos, t.steps + 1, by simp [hpf], HI2.out, Nat.le_refl _, by omega, (fun j h1 h2 => by omega), fun _ => HLT.out, by omega, HG2.out⟩
  have HLT := Lib.hid hlt
  clear hlt
  have p2 := HI2.out.c2
  go_wp2
  go_loopw [5, 6] (fun lo st wr => ∃ low step s : Nat, lo = .int .i64 low ∧ st = .int .i64 step ∧ t.pos ≤ low ∧ low < t.fin ∧ 1 ≤ step ∧ step ≤ low - t.pos + 1 ∧ ltF X v low = true ∧ s ≤ t.steps + 1 + (low - t.pos) ∧ ItM wr g LA d C { t with steps := s } ∧ Row wr w.heap.size 41 (vcells v) ∧ w.grownBy wr (some g)) (fun lo _ _ => t.fin - (intOf lo).toNat)
  case atStart => exact ⟨t.pos, 1, t.steps + 1, rfl, rfl, Nat.le_refl _, hpf, by omega, by omega, HLT.out, by omega, HI2.out, HR2.out, HG2.out⟩
  case round =>
    obtain ⟨low, step, s, rfl, rfl, hl1, hl2, hs1, hs2, hlow, hsb, hI, hR, hG⟩ := hrel
    have HI := Lib.hid hI
    have HR := Lib.hid hR
    have HG := Lib.hid hG
    have HLOW := Lib.hid hlow
    have hz2 := hR.lt
    have q3 := hI.c3
    have u0 : wr.cell? ⟨w.heap.size, 0, none⟩ = some (.int .i64 v.kind) := hR.cell 0
    have u1 : wr.cell? ⟨w.heap.size, 1, none⟩ = some (.int .i64 v.int) := hR.cell 1
    have u2 : wr.cell? ⟨w.heap.size, 2, none⟩ = some (.string v.str) := hR.cell 2
    clear hI hR hG hlow HI2 HR2 HG2 p2
    by_cases hb : low + step < t.fin
    rotate_left
    · have hb' : decide ((low : Int) + (step : Int) < (t.fin : Int)) = false := by simp; omega
      clear u0 u1 u2
      obtain ⟨wo, hwo⟩ : ∃ wo, wo = wr := ⟨_, rfl⟩
      subst hwo
      go_wp2
      go_loopw [5, 7] (fun lo hi wr => ∃ l2 h2 s : Nat, lo = .int .i64 l2 ∧ hi = .int .i64 h2 ∧ t.pos ≤ l2 ∧ l2 < h2 ∧ h2 ≤ t.fin ∧ ltF X v l2 = true ∧ (h2 < t.fin → ltF X v h2 = false) ∧ s ≤ t.steps + 2 + t.fin + (t.fin - (h2 - l2)) ∧ ItM wr g LA d C { t with steps := s } ∧ Row wr w.heap.size 41 (vcells v) ∧ w.grownBy wr (some g)) (fun lo hi _ => ((intOf hi) - (intOf lo)).toNat)
      case atStart => exact ⟨low, min (low + step) t.fin, s, rfl, by rw [show ((min (low + step) t.fin : Nat) : Int) = min ((low : Int) + (step : Int)) (t.fin : Int) by omega], hl1, by omega, by omega, HLOW.out, (fun h => by omega), by omega, HI.out, HR.out, HG.out⟩
      case round =>
        obtain ⟨l2, h2, s2, rfl, rfl, k1, k2, k3, hlo, hhi, hsb2, hI, hR, hG⟩ := hrel
        have HI3 := Lib.hid hI
        have HR3 := Lib.hid hR
        have HG3 := Lib.hid hG
        have HLO := Lib.hid hlo
        have HHI := Lib.hid hhi
        have hz3 := hR.lt
        have n2 := hI.c2
        have fz2 := hI.fr 2
        have u0 : wr.cell? ⟨w.heap.size, 0, none⟩ = some (.int .i64 v.kind) := hR.cell 0
        have u1 : wr.cell? ⟨w.heap.size, 1, none⟩ = some (.int .i64 v.int) := hR.cell 1
        have u2 : wr.cell? ⟨w.heap.size, 2, none⟩ = some (.string v.str) := hR.cell 2
        clear hI hR hG hlo hhi
        by_cases hgt : 1 < h2 - l2
        · have hgt' : decide ((1 : Int) < (h2 : Int) - (l2 : Int)) = true := by simp; omega
          obtain ⟨m, hm⟩ : ∃ m, m = l2 + (h2 - l2) / 2 := ⟨_, rfl⟩
          have m1 : l2 < m := by omega
          have m2 : m < h2 := by omega
          have hmi : (l2 : Int) + ((h2 : Int) - (l2 : Int)) / 2 = (m : Int) := by omega
          have HMI := Lib.hid hmi
          clear hm hmi
          go_wp2_with fail
          rw [HMI.out]
          refine (HLS.out wr s2 m HG3.out HI3.out (by omega) (by omega)).mono ?_
          rintro e w4 ⟨rfl, hI4, hg4⟩
          have HI4 := Lib.hid hI4
          have HR4 := Lib.hid (HR3.out.grown hg4 (fun e => by injection e with e; omega))
          have HG4 := Lib.hid (grown_trans HG3.out hg4)
          clear hI4 hg4 u0 u1 u2 n2 fz2
          cases hlt : ltF X v m
          · have HL4 := Lib.hid hlt
            clear hlt
            go_wp2
            go_roundw
            case rel => exact ⟨l2, m, s2 + 1, rfl, rfl, k1, m1, by omega, HLO.out, fun _ => HL4.out, by omega, HI4.out, HR4.out, HG4.out⟩
            case measure => simp [intOf]; omega
          · have HL4 := Lib.hid hlt
            clear hlt
            go_wp2
            go_roundw
            case rel => exact ⟨m, h2, s2 + 1, rfl, rfl, by omega, m2, k3, HL4.out, HHI.out, by omega, HI4.out, HR4.out, HG4.out⟩
            case measure => simp [intOf]; omega
        · have hgt' : decide ((1 : Int) < (h2 : Int) - (l2 : Int)) = false := by simp; omega
          have HIN := Lib.hid (HI3.out.setPos h2)
          go_wp2_with fail
          refine (HOV.out _ h2 s2 HIN.out).mono ?_
          rintro e w5 ⟨rfl, hx5⟩
          have HX5 := Lib.hid hx5
          clear hx5 n2 fz2 u0 u1 u2
          go_wp2
          go_ret
          exact ⟨h2, s2, rfl, HIN.out.ext HX5.out, by omega, k3, (fun j j1 j2 => HMONO.out j l2 j1 (by omega) (by omega) HLO.out), HHI.out, by omega, grown_trans HG3.out (grown_trans (grown_set wr g 2 _) (HX5.out.grown _))⟩
    · have hb' : decide ((low : Int) + (step : Int) < (t.fin : Int)) = true := by simp; omega
      go_wp2_with fail
      rw [show (low : Int) + (step : Int) = ((low + step : Nat) : Int) by omega]
      refine (HLS.out wr s (low + step) HG.out HI.out (by omega) hb).mono ?_
      rintro e w3 ⟨rfl, hI3, hg3⟩
      have HI3' := Lib.hid hI3
      have HR3' := Lib.hid (HR.out.grown hg3 (fun e => by injection e with e; omega))
      have HG3' := Lib.hid (grown_trans HG.out hg3)
      have q3' := hI3.c3
      clear hI3 hg3 u0 u1 u2 q3
      cases hlt : ltF X v (low + step)
      · have HL3 := Lib.hid hlt
        clear hlt
        obtain ⟨wo, hwo⟩ : ∃ wo, wo = wr := ⟨_, rfl⟩
        subst hwo
        go_wp2
        go_loopw [5, 7] (fun lo hi wr => ∃ l2 h2 s : Nat, lo = .int .i64 l2 ∧ hi = .int .i64 h2 ∧ t.pos ≤ l2 ∧ l2 < h2 ∧ h2 ≤ t.fin ∧ ltF X v l2 = true ∧ (h2 < t.fin → ltF X v h2 = false) ∧ s ≤ t.steps + 2 + t.fin + (t.fin - (h2 - l2)) ∧ ItM wr g LA d C { t with steps := s } ∧ Row wr w.heap.size 41 (vcells v) ∧ w.grownBy wr (some g)) (fun lo hi _ => ((intOf hi) - (intOf lo)).toNat)
        case atStart => exact ⟨low, min (low + step) t.fin, s + 1, rfl, by rw [show ((min (low + step) t.fin : Nat) : Int) = min ((low : Int) + (step : Int)) (t.fin : Int) by omega], hl1, by omega, by omega, HLOW.out, (fun h => by rw [show min (low + step) t.fin = low + step by omega]; exact HL3.out), by omega, HI3'.out, HR3'.out, HG3'.out⟩
        case round =>
          obtain ⟨l2, h2, s2, rfl, rfl, k1, k2, k3, hlo, hhi, hsb2, hI, hR, hG⟩ := hrel
          have HI3 := Lib.hid hI
          have HR3 := Lib.hid hR
          have HG3 := Lib.hid hG
          have HLO := Lib.hid hlo
          have HHI := Lib.hid hhi
          have hz3 := hR.lt
          have n2 := hI.c2
          have fz2 := hI.fr 2
          have u0 : wr.cell? ⟨w.heap.size, 0, none⟩ = some (.int .i64 v.kind) := hR.cell 0
          have u1 : wr.cell? ⟨w.heap.size, 1, none⟩ = some (.int .i64 v.int) := hR.cell 1
          have u2 : wr.cell? ⟨w.heap.size, 2, none⟩ = some (.string v.str) := hR.cell 2
          clear hI hR hG hlo hhi
          by_cases hgt : 1 < h2 - l2
          · have hgt' : decide ((1 : Int) < (h2 : Int) - (l2 : Int)) = true := by simp; omega
            obtain ⟨m, hm⟩ : ∃ m, m = l2 + (h2 - l2) / 2 := ⟨_, rfl⟩
            have m1 : l2 < m := by omega
            have m2 : m < h2 := by omega
            have hmi : (l2 : Int) + ((h2 : Int) - (l2 : Int)) / 2 = (m : Int) := by omega
            have HMI := Lib.hid hmi
            clear hm hmi
            go_wp2_with fail
            rw [HMI.out]
            refine (HLS.out wr s2 m HG3.out HI3.out (by omega) (by omega)).mono ?_
            rintro e w4 ⟨rfl, hI4, hg4⟩
            have HI4 := Lib.hid hI4
            have HR4 := Lib.hid (HR3.out.grown hg4 (fun e => by injection e with e; omega))
            have HG4 := Lib.hid (grown_trans HG3.out hg4)
            clear hI4 hg4 u0 u1 u2 n2 fz2
            cases hlt : ltF X v m
            · have HL4 := Lib.hid hlt
              clear hlt
              go_wp2
              go_roundw
              case rel => exact ⟨l2, m, s2 + 1, rfl, rfl, k1, m1, by omega, HLO.out, fun _ => HL4.out, by omega, HI4.out, HR4.out, HG4.out⟩
              case measure => simp [intOf]; omega
            · have HL4 := Lib.hid hlt
              clear hlt
              go_wp2
              go_roundw
              case rel => exact ⟨m, h2, s2 + 1, rfl, rfl, by omega, m2, k3, HL4.out, HHI.out, by omega, HI4.out, HR4.out, HG4.out⟩
              case measure => simp [intOf]; omega
          · have hgt' : decide ((1 : Int) < (h2 : Int) - (l2 : Int)) = false := by simp; omega
            have HIN := Lib.hid (HI3.out.setPos h2)
            go_wp2_with fail
            refine (HOV.out _ h2 s2 HIN.out).mono ?_
            rintro e w5 ⟨rfl, hx5⟩
            have HX5 := Lib.hid hx5
            clear hx5 n2 fz2 u0 u1 u2
            go_wp2
            go_ret
            exact ⟨h2, s2, rfl, HIN.out.ext HX5.out, by omega, k3, (fun j j1 j2 => HMONO.out j l2 j1 (by omega) (by omega) HLO.out), HHI.out, by omega, grown_trans HG3.out (grown_trans (grown_set wr g 2 _) (HX5.out.grown _))⟩
      · have HL3 := Lib.hid hlt
        clear hlt
        go_wp2
        go_roundw
        case rel => exact ⟨low + step, step * 2, s + 1, by go_num, by go_num, by omega, hb, by omega, by omega, HL3.out, by omega, HI3'.out, HR3'.out, HG3'.out⟩
        case measure => simp [intOf]; omega

end Go.Proofs.Ytiomelogggilgaa
end

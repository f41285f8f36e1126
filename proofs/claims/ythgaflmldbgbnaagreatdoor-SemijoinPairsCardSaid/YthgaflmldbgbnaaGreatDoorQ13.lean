/- Parts of the proof, merged: G32, G37, G40. -/
import Derived.Test.YthgaflmldbgbnaaGreatDoorQ11
import Derived.Test.YthgaflmldbgbnaaGreatDoorQ12
import Derived.Test.YthgaflmldbgbnaaGreatDoorQ9
import Derived.Test.YthgaflmldbgbnaaGreatDoorQ4
import Derived.Test.YthgaflmldbgbnaaGreatDoorQ5
import Derived.Test.YthgaflmldbgbnaaGreatDoorQ3
import Derived.Test.YthgaflmldbgbnaaGreatDoorQ7
import Derived.Deep.CutRange
import Derived.Deep.DeepCutAuto

set_option maxRecDepth 100000
namespace Go.Proofs.YthgaflmldbgbnaaGreatDoor
section
open Go.RowKit Go.Sort

def w36_1 (w : World) : World := w.alloc (.cells #[.int .u8 1, .int .u8 2, .int .u8 0, .int .u8 0, .int .u8 3, .int .u8 0, .int .u8 0, .int .u8 0] 67)
def w36_2 (w : World) : World := (w36_1 w).alloc (.cells #[.int .u8 2, .int .u8 1, .int .u8 0, .int .u8 0] 67)
def w36_3 (w : World) : World := (w36_2 w).alloc (.cells #[.int .u8 3, .slice (some ⟨w.heap.size, 0, none⟩) 2 2, .int .u8 0, .int .u8 6, .slice (some ⟨w.heap.size + 1, 0, none⟩) 1 1, .int .u8 0] 24)
theorem w36_ext (w : World) : Ext w (w36_3 w) := (((Ext.refl w).alloc _).alloc _).alloc _
theorem w36_mem (w : World) : AtsL (w36_3 w).heap.size (w36_3 w) (some ⟨w.heap.size + 1 + 1, 0, none⟩) x36 := fun _ => by
  have r1 : Row (w36_1 w) w.heap.size 67 ([[1, 2, 0, 0], [3, 0, 0, 0]].flatMap four) := Row.new w 67 _
  have r2 : Row (w36_2 w) (w.heap.size + 1) 67 ([[2, 1, 0, 0]].flatMap four) := by
    have h := Row.new (w36_1 w) 67 ([[2, 1, 0, 0]].flatMap four)
    rw [show (w36_1 w).heap.size = w.heap.size + 1 by unfold w36_1; simp] at h
    exact h
  have r3 : Row (w36_3 w) (w.heap.size + 1 + 1) 24 [.int .u8 3, .slice (some ⟨w.heap.size, 0, none⟩) 2 2, .int .u8 0, .int .u8 6, .slice (some ⟨w.heap.size + 1, 0, none⟩) 1 1, .int .u8 0] := by
    have h := Row.new (w36_2 w) 24 [.int .u8 3, .slice (some ⟨w.heap.size, 0, none⟩) 2 2, .int .u8 0, .int .u8 6, .slice (some ⟨w.heap.size + 1, 0, none⟩) 1 1, .int .u8 0]
    rw [show (w36_2 w).heap.size = w.heap.size + 1 + 1 by unfold w36_2 w36_1; simp] at h
    exact h
  have x12 : Ext (w36_1 w) (w36_2 w) := (Ext.refl _).alloc _
  have x23 : Ext (w36_2 w) (w36_3 w) := (Ext.refl _).alloc _
  have hz : (w36_3 w).heap.size = w.heap.size + 1 + 1 + 1 := by unfold w36_3 w36_2 w36_1; simp
  refine ⟨w.heap.size + 1 + 1, 0, rfl, by omega, fun i hi => ?_⟩
  match i, hi with
  | 0, _ => exact ⟨some ⟨w.heap.size, 0, none⟩, 2, r3.cell 0, r3.cell 1, r3.cell 2, slA_row _ ((r1.up x12.below).up x23.below) (by omega)⟩
  | 1, _ => exact ⟨some ⟨w.heap.size + 1, 0, none⟩, 1, r3.cell 3, r3.cell 4, r3.cell 5, slA_row _ (r2.up x23.below) (by omega)⟩
  | i + 2, hi => exact absurd hi (by show ¬ i + 2 < 2; omega)
theorem two_at {w : World} {A : Option Addr} {a b : At} (h : AtsM w.heap.size w A [a.ra, b.ra]) : ∃ bk o VA VC PA PC UA UC QA QC, A = some ⟨bk, o, none⟩ ∧ bk < w.heap.size ∧
    ((w.cell? ⟨bk, o, none⟩ = some (.slice VA a.vs.length VC) ∧ w.cell? ⟨bk, o + 1, none⟩ = some (.int .i64 (a.vs.length : Nat)) ∧ w.cell? ⟨bk, o + 2, none⟩ = some (.slice PA a.P.length PC)) ∧
      w.cell? ⟨bk, o + 3, none⟩ = some (.slice UA b.vs.length UC) ∧ w.cell? ⟨bk, o + 3 + 1, none⟩ = some (.int .i64 (b.vs.length : Nat)) ∧ w.cell? ⟨bk, o + 3 + 2, none⟩ = some (.slice QA b.P.length QC)) ∧
    AtV w (.agg #[.slice VA a.vs.length VC, .int .i64 (a.vs.length : Nat), .slice PA a.P.length PC]) a ∧ AtV w (.agg #[.slice UA b.vs.length UC, .int .i64 (b.vs.length : Nat), .slice QA b.P.length QC]) b := by
  obtain ⟨bk, o, e, hb, hc⟩ := h (by simp)
  have hl : ∀ c : At, c.ra.vs.length = c.vs.length := fun c => by unfold At.ra; simp
  obtain ⟨VA, VC, PA, PC, h1, h2, h3, d1, d2, d3, d4, h4, h5⟩ := hc 0 (by simp)
  obtain ⟨UA, UC, QA, QC, k1, k2, k3, f1, f2, f3, f4, k4, k5⟩ := hc 1 (by simp)
  simp only [List.getElem_cons_zero, List.getElem_cons_succ, hl, Nat.zero_mul, Nat.add_zero, Nat.one_mul] at h1 h2 h3 k1 k2 k3 d1 f1
  exact ⟨bk, o, VA, VC, PA, PC, UA, UC, QA, QC, e, hb, ⟨⟨h1, h2, h3⟩, k1, k2, k3⟩, ⟨VA, VC, PA, PC, rfl, d1, d2, d3, d4, h4, h5⟩, UA, UC, QA, QC, rfl, f1, f2, f3, f4, k4, k5⟩

theorem made36_any (w : World) : Calls Tryz.prog 7 #[.slice (some ⟨w.heap.size + 1 + 1, 0, none⟩) 2 2] (w36_3 w) fun e w' => ∃ A1 C1 A2 C2 A3 C3, e = .returned (.tuple #[.slice A1 2 C1, .slice A2 2 C2, .slice A3 2 C3, .bool true]) ∧ AtsM w'.heap.size w' A1 [xa0.ra, xa1.ra] ∧ Below w.heap.size w w' :=
  (l35Made_any (some ⟨w.heap.size + 1 + 1, 0, none⟩) 2 x36 (w36_3 w) (w36_mem w) x36_bytes (by decide)).mono fun e w' ⟨h1, _, hb⟩ => by
    obtain ⟨A1, C1, A2, C2, A3, C3, he, _, _, _, _, _, _, ha, _, _⟩ := h1 x36_ok
    rw [x36_ra] at ha
    exact ⟨A1, C1, A2, C2, A3, C3, he, ha, Below.then (w36_ext w).below hb (w36_ext w).size⟩

set_option maxHeartbeats 32000000 in
theorem l36awake_any (w : World) : Calls Tryz.prog 8 #[] w fun e w' => e = .returned (.bool true) ∧ Below w.heap.size w w' := by
  have HM := Lib.hid (made36_any w)
  go_enter Tryz.func8, Tryz.ntmps8
  go_wp2_with fail
  refine HM.out.mono ?_
  rintro e w1 ⟨A1, C1, A2, C2, A3, C3, rfl, ha, hb1⟩
  have HA := Lib.hid ha
  obtain ⟨b, o, VA, VC, PA, PC, UA, UC, QA, QC, rfl, hbl, hcs, hv0, hv1⟩ := two_at ha
  have HS : Hid (∀ W, Below w1.heap.size w1 W → (W.cell? ⟨b, o, none⟩ = some (.slice VA 2 VC) ∧ W.cell? ⟨b, o + 1, none⟩ = some (.int .i64 2) ∧ W.cell? ⟨b, o + 2, none⟩ = some (.slice PA 2 PC)) ∧ W.cell? ⟨b, o + 3, none⟩ = some (.slice UA 2 UC) ∧ W.cell? ⟨b, o + 3 + 1, none⟩ = some (.int .i64 2) ∧ W.cell? ⟨b, o + 3 + 2, none⟩ = some (.slice QA 1 QC)) := fun W h => by
    have hc : ∀ i, W.cell? ⟨b, i, none⟩ = w1.cell? ⟨b, i, none⟩ := fun i => h.cell (p := ⟨b, i, none⟩) hbl
    rw [hc, hc, hc, hc, hc, hc]
    exact hcs
  have HSJ : Hid (∀ W, Below w1.heap.size w1 W → Calls Tryz.prog 9 #[.agg #[.slice VA 2 VC, .int .i64 2, .slice PA 2 PC], .agg #[.slice UA 2 UC, .int .i64 2, .slice QA 1 QC]] W (XPost W 0 ⟨[0, 1], [[valI 1, valI 2]]⟩)) := fun W h => by
    have h1 := sjSemiX_any _ _ xa0.ra xa1.ra W (hv0.up h).ra (hv1.up h).ra (by decide) ⟨xa0.vs, semiF xa0 xa1⟩ fun W' hb _ _ => sjSemi_ok _ _ xa0 xa1 W' ((hv0.up h).up hb) ((hv1.up h).up hb) xa0_gd xa1_gd
    rw [x36_err, x36_semi] at h1
    exact h1
  have HJJ : Hid (∀ W, Below w1.heap.size w1 W → Calls Tryz.prog 10 #[.agg #[.slice VA 2 VC, .int .i64 2, .slice PA 2 PC], .agg #[.slice UA 2 UC, .int .i64 2, .slice QA 1 QC]] W (XPost W 0 ⟨[0, 1, 2], [[valI 1, valI 2, valI 1]]⟩)) := fun W h => by
    have h1 := sjJoinX_any _ _ xa0.ra xa1.ra W (hv0.up h).ra (hv1.up h).ra (by decide) (joinA (uniV xa0.vs xa1.vs) xa0 xa1) fun W' hb _ _ => sjJoin_ok _ _ xa0 xa1 W' ((hv0.up h).up hb) ((hv1.up h).up hb) xa0_gd xa1_gd (by
      refine Nat.le_trans (flat_le (n := 1) fun x _ => ?_) (by show 2 * 1 ≤ 60000; decide)
      rw [List.length_map]
      exact List.length_filter_le _ _)
    rw [x36_err, x36_join] at h1
    exact h1
  have HB1 := Lib.hid hb1
  have hbl2 := hbl
  clear hb1 ha hcs hv0 hv1 HM
  go_wp2_with fail
  go_upto_region 4 with (fail)
  go_cut [5, 6] from 33 to 42 (fun r e wx => ∃ g : Nat, r = .pointer (some ⟨g, 0, none⟩) ∧ e = .int .i64 (0) ∧ BoxA wx g (resA 0 ⟨[0, 1], [[valI 1, valI 2]]⟩) ∧ Below w1.heap.size w1 wx)
  case first =>
    refine wp_region_held_drew (S := (fun w' => (w'.cell? ⟨b, o, none⟩ = some (.slice VA 2 VC) ∧ w'.cell? ⟨b, o + 1, none⟩ = some (.int .i64 2) ∧ w'.cell? ⟨b, o + 2, none⟩ = some (.slice PA 2 PC)) ∧ w'.cell? ⟨b, o + 3, none⟩ = some (.slice UA 2 UC) ∧ w'.cell? ⟨b, o + 3 + 1, none⟩ = some (.int .i64 2) ∧ w'.cell? ⟨b, o + 3 + 2, none⟩ = some (.slice QA 1 QC))) (by kernel_rfl) (HS.out w1.drew (Below.refl _ _).drew) (fun hHeld => ?_)
    obtain ⟨V0, hV0⟩ : ∃ V, V = w1.drew := ⟨_, rfl⟩
    have HV : Hid (Below w1.heap.size w1 V0) := by show Below _ _ _; rw [hV0]; exact (Below.refl _ _).drew
    rw [← hV0] at hHeld ⊢
    clear hV0
    refine takeOp (i := 0) (v := ?_) (some 34) rfl rfl (by kernel_rfl) (by kernel_rfl) (by kernel_rfl) (fun _ _ _ h => h) (Or.inl ⟨by rfl, ?_⟩) (by assumption) ?_
    rotate_left 1
    · (intro w0 hSw; (try dsimp only at hSw); go_simp; try (with_reducible rfl))
    try simp only [Act.put, List.setIfInBounds_toArray, List.set_cons_succ, List.set_cons_zero]
    refine takeOp (i := 1) (v := ?_) (some 35) rfl rfl (by kernel_rfl) (by kernel_rfl) (by kernel_rfl) (fun _ _ _ h => h) (Or.inl ⟨by rfl, ?_⟩) (by assumption) ?_
    rotate_left 1
    · (intro w0 hSw; (try dsimp only at hSw); go_simp; try (with_reducible rfl))
    try simp only [Act.put, List.setIfInBounds_toArray, List.set_cons_succ, List.set_cons_zero]
    refine takeOp (i := 2) (v := ?_) (some 36) rfl rfl (by kernel_rfl) (by kernel_rfl) (by kernel_rfl) (fun _ _ _ h => h) (Or.inl ⟨by rfl, ?_⟩) (by assumption) ?_
    rotate_left 1
    · (intro w0 hSw; (try dsimp only at hSw); go_simp; try (with_reducible rfl))
    try simp only [Act.put, List.setIfInBounds_toArray, List.set_cons_succ, List.set_cons_zero]
    refine takeOp (i := 3) (v := ?_) (some 37) rfl rfl (by kernel_rfl) (by kernel_rfl) (by kernel_rfl) (fun _ _ _ h => h) (Or.inl ⟨by rfl, ?_⟩) (by assumption) ?_
    rotate_left 1
    · (intro w0 hSw; (try dsimp only at hSw); go_simp; try (with_reducible rfl))
    try simp only [Act.put, List.setIfInBounds_toArray, List.set_cons_succ, List.set_cons_zero]
    refine takeOp (i := 4) (v := ?_) (some 38) rfl rfl (by kernel_rfl) (by kernel_rfl) (by kernel_rfl) (fun _ _ _ h => h) (Or.inl ⟨by rfl, ?_⟩) (by assumption) ?_
    rotate_left 1
    · (intro w0 hSw; (try dsimp only at hSw); go_simp; try (with_reducible rfl))
    try simp only [Act.put, List.setIfInBounds_toArray, List.set_cons_succ, List.set_cons_zero]
    refine takeOp (i := 5) (v := ?_) (some 39) rfl rfl (by kernel_rfl) (by kernel_rfl) (by kernel_rfl) (fun _ _ _ h => h) (Or.inl ⟨by rfl, ?_⟩) (by assumption) ?_
    rotate_left 1
    · (intro w0 hSw; (try dsimp only at hSw); go_simp; try (with_reducible rfl))
    try simp only [Act.put, List.setIfInBounds_toArray, List.set_cons_succ, List.set_cons_zero]
    refine wpAnyH_ready (rs := [6, 10]) (by kernel_rfl) (by simp) ?_
    refine (AllReadyH.cons rfl (fun K hK => ?_) (AllReadyH.cons rfl (fun K hK => ?_) AllReadyH.nil))
    · go_simp
      refine (HSJ.out V0 HV.out).mono ?_
      rintro e V1 hp
      obtain ⟨SA, SC, TA, TC, rfl, hat, hb⟩ := hp.one
      have HAT := Lib.hid hat
      have HVS : Hid (w1.heap.size ≤ V0.heap.size) := HV.out.size
      have HV := Lib.hid (Below.then HV.out hb HV.out.size)
      clear hat hb hp
      go_wp2_with fail
      refine hK.out _ _ (HS.out V1 HV.out) (fun hHeld => ?_)
      clear hK K
      try simp only [Act.put, List.setIfInBounds_toArray, List.set_cons_succ, List.set_cons_zero]
      refine takeOp (i := 7) (v := ?_) (some 33) rfl rfl (by kernel_rfl) (by kernel_rfl) (by kernel_rfl) (fun _ _ _ h => h) (Or.inl ⟨by rfl, ?_⟩) (by assumption) ?_
      rotate_left 1
      · (intro w0 hSw; (try dsimp only at hSw); go_simp; try (with_reducible rfl))
      try simp only [Act.put, List.setIfInBounds_toArray, List.set_cons_succ, List.set_cons_zero]
      refine takeOp (i := 8) (v := ?_) (some 41) rfl rfl (by kernel_rfl) (by kernel_rfl) (by kernel_rfl) (fun _ _ _ h => h) (Or.inl ⟨by rfl, ?_⟩) (by assumption) ?_
      rotate_left 1
      · (intro w0 hSw; (try dsimp only at hSw); go_simp; try (with_reducible rfl))
      try simp only [Act.put, List.setIfInBounds_toArray, List.set_cons_succ, List.set_cons_zero]
      refine takeOp (i := 9) (v := ?_) (some 42) rfl rfl (by kernel_rfl) (by kernel_rfl) (by kernel_rfl) (fun _ _ _ h => h) (Or.inl ⟨by rfl, ?_⟩) (by assumption) ?_
      rotate_left 1
      · (intro w0 hSw; (try dsimp only at hSw); go_simp; try (with_reducible rfl))
      try simp only [Act.put, List.setIfInBounds_toArray, List.set_cons_succ, List.set_cons_zero]
      refine wpAnyH_ready (rs := [10]) (by kernel_rfl) (by simp) ?_
      refine (AllReadyH.cons rfl (fun K hK => ?_) AllReadyH.nil)
      go_simp
      obtain ⟨V2, hV⟩ : ∃ V', V' = V1.alloc (.cells #[.slice none 0 0, .int .i64 0, .slice none 0 0] 36) := ⟨_, rfl⟩
      rw [← hV]
      have hx : Ext V1 V2 := by rw [hV]; exact (Ext.refl V1).alloc _
      obtain ⟨gb, hgb⟩ : ∃ gb, gb = V1.heap.size := ⟨_, rfl⟩
      have HG : Hid (Row V2 gb 36 [.slice none 0 0, .int .i64 0, .slice none 0 0]) := by show Row _ _ _ _; rw [hV, hgb]; exact Row.new V1 _ _
      have HGZ : Hid (w1.heap.size ≤ gb ∧ gb + 1 = V2.heap.size ∧ gb = V1.heap.size) := ⟨by rw [hgb]; exact HV.out.size, by rw [hV, hgb]; simp, hgb⟩
      have HAT := Lib.hid (HAT.out.keep (P' := fun c => c < gb) (fun p hp _ => hx.below.cell hp) hx.size fun b hb _ => by rw [hgb]; exact hb)
      have HV := Lib.hid (Below.then HV.out hx.below HV.out.size)
      rw [← hgb]
      clear hx hV hgb
      refine hK.out _ _ (HS.out V2 HV.out) (fun hHeld => ?_)
      clear hK K
      try simp only [Act.put, List.setIfInBounds_toArray, List.set_cons_succ, List.set_cons_zero]
      refine wpAnyH_ready (rs := [11]) (by kernel_rfl) (by simp) ?_
      refine (AllReadyH.cons rfl (fun K hK => ?_) AllReadyH.nil)
      have m0 := HG.out.frozen 0
      have m1 := HG.out.frozen 1
      have m2 := HG.out.frozen 2
      have m3 := HG.out.lt
      have n0 : V2.cell? ⟨gb, 0, none⟩ = some (.slice none 0 0) := HG.out.cell 0
      have n1 : V2.cell? ⟨gb, 1, none⟩ = some (.int .i64 0) := HG.out.cell 1
      have n2 : V2.cell? ⟨gb, 2, none⟩ = some (.slice none 0 0) := HG.out.cell 2
      go_simp
      go_wp2_with fail
      obtain ⟨V3, hV⟩ : ∃ V', V' = ((V2.setCell ⟨gb, 0, none⟩ (.slice SA (resA 0 ⟨[0, 1], [[valI 1, valI 2]]⟩).vs.length SC)).setCell ⟨gb, 1, none⟩ (.int .i64 ((resA 0 ⟨[0, 1], [[valI 1, valI 2]]⟩).vs.length : Nat))).setCell ⟨gb, 2, none⟩ (.slice TA (resA 0 ⟨[0, 1], [[valI 1, valI 2]]⟩).P.length TC) := ⟨_, rfl⟩
      rw [← hV]
      have HBX := Lib.hid (BoxA.put HG.out HAT.out (by show ¬ gb < gb; omega) hV)
      have hz := HGZ.out.1
      have HV : Hid (Below w1.heap.size w1 V3) := by show Below _ _ _; rw [hV]; exact ((HV.out.setCell (by show w1.heap.size ≤ gb; omega) _).setCell (by show w1.heap.size ≤ gb; omega) _).setCell (by show w1.heap.size ≤ gb; omega) _
      clear hV m0 m1 m2 m3 n0 n1 n2 hz
      refine hK.out _ _ (HS.out V3 HV.out) (fun hHeld => ?_)
      clear hK K
      try simp only [Act.put, List.setIfInBounds_toArray, List.set_cons_succ, List.set_cons_zero]
      refine takeOp (i := 12) (v := ?_) (some 6) rfl rfl (by kernel_rfl) (by kernel_rfl) (by kernel_rfl) (fun _ _ _ h => h) (Or.inl ⟨by rfl, ?_⟩) (by assumption) ?_
      rotate_left 1
      · (intro w0 hSw; (try dsimp only at hSw); go_simp; try (with_reducible rfl))
      try simp only [Act.put, List.setIfInBounds_toArray, List.set_cons_succ, List.set_cons_zero]
      refine wpAnyH_done (by kernel_rfl) ?_ _
      go_wp2_with fail
      go_meet
      case rel => exact ⟨gb, rfl, rfl, HBX.out, HV.out⟩
    · go_simp
      obtain ⟨V1, hV⟩ : ∃ V', V' = V0.alloc (.cells #[.slice none 0 0, .int .i64 0, .slice none 0 0] 36) := ⟨_, rfl⟩
      rw [← hV]
      have hx : Ext V0 V1 := by rw [hV]; exact (Ext.refl V0).alloc _
      obtain ⟨gb, hgb⟩ : ∃ gb, gb = V0.heap.size := ⟨_, rfl⟩
      have HG : Hid (Row V1 gb 36 [.slice none 0 0, .int .i64 0, .slice none 0 0]) := by show Row _ _ _ _; rw [hV, hgb]; exact Row.new V0 _ _
      have HGZ : Hid (w1.heap.size ≤ gb ∧ gb + 1 = V1.heap.size ∧ gb = V0.heap.size) := ⟨by rw [hgb]; exact HV.out.size, by rw [hV, hgb]; simp, hgb⟩
      have HV := Lib.hid (Below.then HV.out hx.below HV.out.size)
      rw [← hgb]
      clear hx hV hgb
      refine hK.out _ _ (HS.out V1 HV.out) (fun hHeld => ?_)
      clear hK K
      try simp only [Act.put, List.setIfInBounds_toArray, List.set_cons_succ, List.set_cons_zero]
      refine wpAnyH_ready (rs := [6]) (by kernel_rfl) (by simp) ?_
      refine (AllReadyH.cons rfl (fun K hK => ?_) AllReadyH.nil)
      go_simp
      refine (HSJ.out V1 HV.out).mono ?_
      rintro e V2 hp
      obtain ⟨SA, SC, TA, TC, rfl, hat, hb⟩ := hp.one
      have HAT := Lib.hid hat
      have HVS : Hid (w1.heap.size ≤ V1.heap.size) := HV.out.size
      have HG := Lib.hid (HG.out.up hb)
      have HV := Lib.hid (Below.then HV.out hb HV.out.size)
      clear hat hb hp
      go_wp2_with fail
      refine hK.out _ _ (HS.out V2 HV.out) (fun hHeld => ?_)
      clear hK K
      try simp only [Act.put, List.setIfInBounds_toArray, List.set_cons_succ, List.set_cons_zero]
      refine takeOp (i := 7) (v := ?_) (some 33) rfl rfl (by kernel_rfl) (by kernel_rfl) (by kernel_rfl) (fun _ _ _ h => h) (Or.inl ⟨by rfl, ?_⟩) (by assumption) ?_
      rotate_left 1
      · (intro w0 hSw; (try dsimp only at hSw); go_simp; try (with_reducible rfl))
      try simp only [Act.put, List.setIfInBounds_toArray, List.set_cons_succ, List.set_cons_zero]
      refine takeOp (i := 8) (v := ?_) (some 41) rfl rfl (by kernel_rfl) (by kernel_rfl) (by kernel_rfl) (fun _ _ _ h => h) (Or.inl ⟨by rfl, ?_⟩) (by assumption) ?_
      rotate_left 1
      · (intro w0 hSw; (try dsimp only at hSw); go_simp; try (with_reducible rfl))
      try simp only [Act.put, List.setIfInBounds_toArray, List.set_cons_succ, List.set_cons_zero]
      refine takeOp (i := 9) (v := ?_) (some 42) rfl rfl (by kernel_rfl) (by kernel_rfl) (by kernel_rfl) (fun _ _ _ h => h) (Or.inl ⟨by rfl, ?_⟩) (by assumption) ?_
      rotate_left 1
      · (intro w0 hSw; (try dsimp only at hSw); go_simp; try (with_reducible rfl))
      try simp only [Act.put, List.setIfInBounds_toArray, List.set_cons_succ, List.set_cons_zero]
      refine wpAnyH_ready (rs := [11]) (by kernel_rfl) (by simp) ?_
      refine (AllReadyH.cons rfl (fun K hK => ?_) AllReadyH.nil)
      have m0 := HG.out.frozen 0
      have m1 := HG.out.frozen 1
      have m2 := HG.out.frozen 2
      have m3 := HG.out.lt
      have n0 : V2.cell? ⟨gb, 0, none⟩ = some (.slice none 0 0) := HG.out.cell 0
      have n1 : V2.cell? ⟨gb, 1, none⟩ = some (.int .i64 0) := HG.out.cell 1
      have n2 : V2.cell? ⟨gb, 2, none⟩ = some (.slice none 0 0) := HG.out.cell 2
      go_simp
      go_wp2_with fail
      obtain ⟨V3, hV⟩ : ∃ V', V' = ((V2.setCell ⟨gb, 0, none⟩ (.slice SA (resA 0 ⟨[0, 1], [[valI 1, valI 2]]⟩).vs.length SC)).setCell ⟨gb, 1, none⟩ (.int .i64 ((resA 0 ⟨[0, 1], [[valI 1, valI 2]]⟩).vs.length : Nat))).setCell ⟨gb, 2, none⟩ (.slice TA (resA 0 ⟨[0, 1], [[valI 1, valI 2]]⟩).P.length TC) := ⟨_, rfl⟩
      rw [← hV]
      have HBX := Lib.hid (BoxA.put HG.out HAT.out (by have := HGZ.out; show ¬ _ + 3 ≤ gb; omega) hV)
      have hz := HGZ.out.1
      have HV : Hid (Below w1.heap.size w1 V3) := by show Below _ _ _; rw [hV]; exact ((HV.out.setCell (by show w1.heap.size ≤ gb; omega) _).setCell (by show w1.heap.size ≤ gb; omega) _).setCell (by show w1.heap.size ≤ gb; omega) _
      clear hV m0 m1 m2 m3 n0 n1 n2 hz
      refine hK.out _ _ (HS.out V3 HV.out) (fun hHeld => ?_)
      clear hK K
      try simp only [Act.put, List.setIfInBounds_toArray, List.set_cons_succ, List.set_cons_zero]
      refine takeOp (i := 12) (v := ?_) (some 6) rfl rfl (by kernel_rfl) (by kernel_rfl) (by kernel_rfl) (fun _ _ _ h => h) (Or.inl ⟨by rfl, ?_⟩) (by assumption) ?_
      rotate_left 1
      · (intro w0 hSw; (try dsimp only at hSw); go_simp; try (with_reducible rfl))
      try simp only [Act.put, List.setIfInBounds_toArray, List.set_cons_succ, List.set_cons_zero]
      refine wpAnyH_done (by kernel_rfl) ?_ _
      go_wp2_with fail
      go_meet
      case rel => exact ⟨gb, rfl, rfl, HBX.out, HV.out⟩
  case rest =>
    obtain ⟨g5, rfl, rfl, hbx, hbw⟩ := hcut
    generalize wc = wA at *
    have HBXA := Lib.hid hbx
    have HBA := Lib.hid hbw
    have HSA : Hid (∀ W, Below wA.heap.size wA W → (W.cell? ⟨b, o, none⟩ = some (.slice VA 2 VC) ∧ W.cell? ⟨b, o + 1, none⟩ = some (.int .i64 2) ∧ W.cell? ⟨b, o + 2, none⟩ = some (.slice PA 2 PC)) ∧ W.cell? ⟨b, o + 3, none⟩ = some (.slice UA 2 UC) ∧ W.cell? ⟨b, o + 3 + 1, none⟩ = some (.int .i64 2) ∧ W.cell? ⟨b, o + 3 + 2, none⟩ = some (.slice QA 1 QC)) := fun W h => HS.out W (Below.then HBA.out h HBA.out.size)
    have HJA := Lib.hid (fun W (h : Below wA.heap.size wA W) => HJJ.out W (Below.then HBA.out h HBA.out.size))
    have hbl : b < wA.heap.size := Nat.lt_of_lt_of_le hbl2 HBA.out.size
    clear hbx hbw
    go_upto_region 5 with (fail)
    go_cut [7, 8] from 43 to 52 (fun r e wx => ∃ g : Nat, r = .pointer (some ⟨g, 0, none⟩) ∧ e = .int .i64 (0) ∧ BoxA wx g (resA 0 ⟨[0, 1, 2], [[valI 1, valI 2, valI 1]]⟩) ∧ Below wA.heap.size wA wx)
    case first =>
      refine wp_region_held_drew (S := (fun w' => (w'.cell? ⟨b, o, none⟩ = some (.slice VA 2 VC) ∧ w'.cell? ⟨b, o + 1, none⟩ = some (.int .i64 2) ∧ w'.cell? ⟨b, o + 2, none⟩ = some (.slice PA 2 PC)) ∧ w'.cell? ⟨b, o + 3, none⟩ = some (.slice UA 2 UC) ∧ w'.cell? ⟨b, o + 3 + 1, none⟩ = some (.int .i64 2) ∧ w'.cell? ⟨b, o + 3 + 2, none⟩ = some (.slice QA 1 QC))) (by kernel_rfl) (HSA.out wA.drew (Below.refl _ _).drew) (fun hHeld => ?_)
      obtain ⟨V0, hV0⟩ : ∃ V, V = wA.drew := ⟨_, rfl⟩
      have HV : Hid (Below wA.heap.size wA V0) := by show Below _ _ _; rw [hV0]; exact (Below.refl _ _).drew
      rw [← hV0] at hHeld ⊢
      clear hV0
      refine takeOp (i := 0) (v := ?_) (some 44) rfl rfl (by kernel_rfl) (by kernel_rfl) (by kernel_rfl) (fun _ _ _ h => h) (Or.inl ⟨by rfl, ?_⟩) (by assumption) ?_
      rotate_left 1
      · (intro w0 hSw; (try dsimp only at hSw); go_simp; try (with_reducible rfl))
      try simp only [Act.put, List.setIfInBounds_toArray, List.set_cons_succ, List.set_cons_zero]
      refine takeOp (i := 1) (v := ?_) (some 45) rfl rfl (by kernel_rfl) (by kernel_rfl) (by kernel_rfl) (fun _ _ _ h => h) (Or.inl ⟨by rfl, ?_⟩) (by assumption) ?_
      rotate_left 1
      · (intro w0 hSw; (try dsimp only at hSw); go_simp; try (with_reducible rfl))
      try simp only [Act.put, List.setIfInBounds_toArray, List.set_cons_succ, List.set_cons_zero]
      refine takeOp (i := 2) (v := ?_) (some 46) rfl rfl (by kernel_rfl) (by kernel_rfl) (by kernel_rfl) (fun _ _ _ h => h) (Or.inl ⟨by rfl, ?_⟩) (by assumption) ?_
      rotate_left 1
      · (intro w0 hSw; (try dsimp only at hSw); go_simp; try (with_reducible rfl))
      try simp only [Act.put, List.setIfInBounds_toArray, List.set_cons_succ, List.set_cons_zero]
      refine takeOp (i := 3) (v := ?_) (some 47) rfl rfl (by kernel_rfl) (by kernel_rfl) (by kernel_rfl) (fun _ _ _ h => h) (Or.inl ⟨by rfl, ?_⟩) (by assumption) ?_
      rotate_left 1
      · (intro w0 hSw; (try dsimp only at hSw); go_simp; try (with_reducible rfl))
      try simp only [Act.put, List.setIfInBounds_toArray, List.set_cons_succ, List.set_cons_zero]
      refine takeOp (i := 4) (v := ?_) (some 48) rfl rfl (by kernel_rfl) (by kernel_rfl) (by kernel_rfl) (fun _ _ _ h => h) (Or.inl ⟨by rfl, ?_⟩) (by assumption) ?_
      rotate_left 1
      · (intro w0 hSw; (try dsimp only at hSw); go_simp; try (with_reducible rfl))
      try simp only [Act.put, List.setIfInBounds_toArray, List.set_cons_succ, List.set_cons_zero]
      refine takeOp (i := 5) (v := ?_) (some 49) rfl rfl (by kernel_rfl) (by kernel_rfl) (by kernel_rfl) (fun _ _ _ h => h) (Or.inl ⟨by rfl, ?_⟩) (by assumption) ?_
      rotate_left 1
      · (intro w0 hSw; (try dsimp only at hSw); go_simp; try (with_reducible rfl))
      try simp only [Act.put, List.setIfInBounds_toArray, List.set_cons_succ, List.set_cons_zero]
      refine wpAnyH_ready (rs := [6, 10]) (by kernel_rfl) (by simp) ?_
      refine (AllReadyH.cons rfl (fun K hK => ?_) (AllReadyH.cons rfl (fun K hK => ?_) AllReadyH.nil))
      · go_simp
        refine (HJA.out V0 HV.out).mono ?_
        rintro e V1 hp
        obtain ⟨SA, SC, TA, TC, rfl, hat, hb⟩ := hp.one
        have HAT := Lib.hid hat
        have HVS : Hid (wA.heap.size ≤ V0.heap.size) := HV.out.size
        have HV := Lib.hid (Below.then HV.out hb HV.out.size)
        clear hat hb hp
        go_wp2_with fail
        refine hK.out _ _ (HSA.out V1 HV.out) (fun hHeld => ?_)
        clear hK K
        try simp only [Act.put, List.setIfInBounds_toArray, List.set_cons_succ, List.set_cons_zero]
        refine takeOp (i := 7) (v := ?_) (some 43) rfl rfl (by kernel_rfl) (by kernel_rfl) (by kernel_rfl) (fun _ _ _ h => h) (Or.inl ⟨by rfl, ?_⟩) (by assumption) ?_
        rotate_left 1
        · (intro w0 hSw; (try dsimp only at hSw); go_simp; try (with_reducible rfl))
        try simp only [Act.put, List.setIfInBounds_toArray, List.set_cons_succ, List.set_cons_zero]
        refine takeOp (i := 8) (v := ?_) (some 51) rfl rfl (by kernel_rfl) (by kernel_rfl) (by kernel_rfl) (fun _ _ _ h => h) (Or.inl ⟨by rfl, ?_⟩) (by assumption) ?_
        rotate_left 1
        · (intro w0 hSw; (try dsimp only at hSw); go_simp; try (with_reducible rfl))
        try simp only [Act.put, List.setIfInBounds_toArray, List.set_cons_succ, List.set_cons_zero]
        refine takeOp (i := 9) (v := ?_) (some 52) rfl rfl (by kernel_rfl) (by kernel_rfl) (by kernel_rfl) (fun _ _ _ h => h) (Or.inl ⟨by rfl, ?_⟩) (by assumption) ?_
        rotate_left 1
        · (intro w0 hSw; (try dsimp only at hSw); go_simp; try (with_reducible rfl))
        try simp only [Act.put, List.setIfInBounds_toArray, List.set_cons_succ, List.set_cons_zero]
        refine wpAnyH_ready (rs := [10]) (by kernel_rfl) (by simp) ?_
        refine (AllReadyH.cons rfl (fun K hK => ?_) AllReadyH.nil)
        go_simp
        obtain ⟨V2, hV⟩ : ∃ V', V' = V1.alloc (.cells #[.slice none 0 0, .int .i64 0, .slice none 0 0] 36) := ⟨_, rfl⟩
        rw [← hV]
        have hx : Ext V1 V2 := by rw [hV]; exact (Ext.refl V1).alloc _
        obtain ⟨gb, hgb⟩ : ∃ gb, gb = V1.heap.size := ⟨_, rfl⟩
        have HG : Hid (Row V2 gb 36 [.slice none 0 0, .int .i64 0, .slice none 0 0]) := by show Row _ _ _ _; rw [hV, hgb]; exact Row.new V1 _ _
        have HGZ : Hid (wA.heap.size ≤ gb ∧ gb + 1 = V2.heap.size ∧ gb = V1.heap.size) := ⟨by rw [hgb]; exact HV.out.size, by rw [hV, hgb]; simp, hgb⟩
        have HAT := Lib.hid (HAT.out.keep (P' := fun c => c < gb) (fun p hp _ => hx.below.cell hp) hx.size fun b hb _ => by rw [hgb]; exact hb)
        have HV := Lib.hid (Below.then HV.out hx.below HV.out.size)
        rw [← hgb]
        clear hx hV hgb
        refine hK.out _ _ (HSA.out V2 HV.out) (fun hHeld => ?_)
        clear hK K
        try simp only [Act.put, List.setIfInBounds_toArray, List.set_cons_succ, List.set_cons_zero]
        refine wpAnyH_ready (rs := [11]) (by kernel_rfl) (by simp) ?_
        refine (AllReadyH.cons rfl (fun K hK => ?_) AllReadyH.nil)
        have m0 := HG.out.frozen 0
        have m1 := HG.out.frozen 1
        have m2 := HG.out.frozen 2
        have m3 := HG.out.lt
        have n0 : V2.cell? ⟨gb, 0, none⟩ = some (.slice none 0 0) := HG.out.cell 0
        have n1 : V2.cell? ⟨gb, 1, none⟩ = some (.int .i64 0) := HG.out.cell 1
        have n2 : V2.cell? ⟨gb, 2, none⟩ = some (.slice none 0 0) := HG.out.cell 2
        go_simp
        go_wp2_with fail
        obtain ⟨V3, hV⟩ : ∃ V', V' = ((V2.setCell ⟨gb, 0, none⟩ (.slice SA (resA 0 ⟨[0, 1, 2], [[valI 1, valI 2, valI 1]]⟩).vs.length SC)).setCell ⟨gb, 1, none⟩ (.int .i64 ((resA 0 ⟨[0, 1, 2], [[valI 1, valI 2, valI 1]]⟩).vs.length : Nat))).setCell ⟨gb, 2, none⟩ (.slice TA (resA 0 ⟨[0, 1, 2], [[valI 1, valI 2, valI 1]]⟩).P.length TC) := ⟨_, rfl⟩
        rw [← hV]
        have HBX := Lib.hid (BoxA.put HG.out HAT.out (by show ¬ gb < gb; omega) hV)
        have hz := HGZ.out.1
        have HV : Hid (Below wA.heap.size wA V3) := by show Below _ _ _; rw [hV]; exact ((HV.out.setCell (by show wA.heap.size ≤ gb; omega) _).setCell (by show wA.heap.size ≤ gb; omega) _).setCell (by show wA.heap.size ≤ gb; omega) _
        clear hV m0 m1 m2 m3 n0 n1 n2 hz
        refine hK.out _ _ (HSA.out V3 HV.out) (fun hHeld => ?_)
        clear hK K
        try simp only [Act.put, List.setIfInBounds_toArray, List.set_cons_succ, List.set_cons_zero]
        refine takeOp (i := 12) (v := ?_) (some 8) rfl rfl (by kernel_rfl) (by kernel_rfl) (by kernel_rfl) (fun _ _ _ h => h) (Or.inl ⟨by rfl, ?_⟩) (by assumption) ?_
        rotate_left 1
        · (intro w0 hSw; (try dsimp only at hSw); go_simp; try (with_reducible rfl))
        try simp only [Act.put, List.setIfInBounds_toArray, List.set_cons_succ, List.set_cons_zero]
        refine wpAnyH_done (by kernel_rfl) ?_ _
        go_wp2_with fail
        go_meet
        case rel => exact ⟨gb, rfl, rfl, HBX.out, HV.out⟩
      · go_simp
        obtain ⟨V1, hV⟩ : ∃ V', V' = V0.alloc (.cells #[.slice none 0 0, .int .i64 0, .slice none 0 0] 36) := ⟨_, rfl⟩
        rw [← hV]
        have hx : Ext V0 V1 := by rw [hV]; exact (Ext.refl V0).alloc _
        obtain ⟨gb, hgb⟩ : ∃ gb, gb = V0.heap.size := ⟨_, rfl⟩
        have HG : Hid (Row V1 gb 36 [.slice none 0 0, .int .i64 0, .slice none 0 0]) := by show Row _ _ _ _; rw [hV, hgb]; exact Row.new V0 _ _
        have HGZ : Hid (wA.heap.size ≤ gb ∧ gb + 1 = V1.heap.size ∧ gb = V0.heap.size) := ⟨by rw [hgb]; exact HV.out.size, by rw [hV, hgb]; simp, hgb⟩
        have HV := Lib.hid (Below.then HV.out hx.below HV.out.size)
        rw [← hgb]
        clear hx hV hgb
        refine hK.out _ _ (HSA.out V1 HV.out) (fun hHeld => ?_)
        clear hK K
        try simp only [Act.put, List.setIfInBounds_toArray, List.set_cons_succ, List.set_cons_zero]
        refine wpAnyH_ready (rs := [6]) (by kernel_rfl) (by simp) ?_
        refine (AllReadyH.cons rfl (fun K hK => ?_) AllReadyH.nil)
        go_simp
        refine (HJA.out V1 HV.out).mono ?_
        rintro e V2 hp
        obtain ⟨SA, SC, TA, TC, rfl, hat, hb⟩ := hp.one
        have HAT := Lib.hid hat
        have HVS : Hid (wA.heap.size ≤ V1.heap.size) := HV.out.size
        have HG := Lib.hid (HG.out.up hb)
        have HV := Lib.hid (Below.then HV.out hb HV.out.size)
        clear hat hb hp
        go_wp2_with fail
        refine hK.out _ _ (HSA.out V2 HV.out) (fun hHeld => ?_)
        clear hK K
        try simp only [Act.put, List.setIfInBounds_toArray, List.set_cons_succ, List.set_cons_zero]
        refine takeOp (i := 7) (v := ?_) (some 43) rfl rfl (by kernel_rfl) (by kernel_rfl) (by kernel_rfl) (fun _ _ _ h => h) (Or.inl ⟨by rfl, ?_⟩) (by assumption) ?_
        rotate_left 1
        · (intro w0 hSw; (try dsimp only at hSw); go_simp; try (with_reducible rfl))
        try simp only [Act.put, List.setIfInBounds_toArray, List.set_cons_succ, List.set_cons_zero]
        refine takeOp (i := 8) (v := ?_) (some 51) rfl rfl (by kernel_rfl) (by kernel_rfl) (by kernel_rfl) (fun _ _ _ h => h) (Or.inl ⟨by rfl, ?_⟩) (by assumption) ?_
        rotate_left 1
        · (intro w0 hSw; (try dsimp only at hSw); go_simp; try (with_reducible rfl))
        try simp only [Act.put, List.setIfInBounds_toArray, List.set_cons_succ, List.set_cons_zero]
        refine takeOp (i := 9) (v := ?_) (some 52) rfl rfl (by kernel_rfl) (by kernel_rfl) (by kernel_rfl) (fun _ _ _ h => h) (Or.inl ⟨by rfl, ?_⟩) (by assumption) ?_
        rotate_left 1
        · (intro w0 hSw; (try dsimp only at hSw); go_simp; try (with_reducible rfl))
        try simp only [Act.put, List.setIfInBounds_toArray, List.set_cons_succ, List.set_cons_zero]
        refine wpAnyH_ready (rs := [11]) (by kernel_rfl) (by simp) ?_
        refine (AllReadyH.cons rfl (fun K hK => ?_) AllReadyH.nil)
        have m0 := HG.out.frozen 0
        have m1 := HG.out.frozen 1
        have m2 := HG.out.frozen 2
        have m3 := HG.out.lt
        have n0 : V2.cell? ⟨gb, 0, none⟩ = some (.slice none 0 0) := HG.out.cell 0
        have n1 : V2.cell? ⟨gb, 1, none⟩ = some (.int .i64 0) := HG.out.cell 1
        have n2 : V2.cell? ⟨gb, 2, none⟩ = some (.slice none 0 0) := HG.out.cell 2
        go_simp
        go_wp2_with fail
        obtain ⟨V3, hV⟩ : ∃ V', V' = ((V2.setCell ⟨gb, 0, none⟩ (.slice SA (resA 0 ⟨[0, 1, 2], [[valI 1, valI 2, valI 1]]⟩).vs.length SC)).setCell ⟨gb, 1, none⟩ (.int .i64 ((resA 0 ⟨[0, 1, 2], [[valI 1, valI 2, valI 1]]⟩).vs.length : Nat))).setCell ⟨gb, 2, none⟩ (.slice TA (resA 0 ⟨[0, 1, 2], [[valI 1, valI 2, valI 1]]⟩).P.length TC) := ⟨_, rfl⟩
        rw [← hV]
        have HBX := Lib.hid (BoxA.put HG.out HAT.out (by have := HGZ.out; show ¬ _ + 3 ≤ gb; omega) hV)
        have hz := HGZ.out.1
        have HV : Hid (Below wA.heap.size wA V3) := by show Below _ _ _; rw [hV]; exact ((HV.out.setCell (by show wA.heap.size ≤ gb; omega) _).setCell (by show wA.heap.size ≤ gb; omega) _).setCell (by show wA.heap.size ≤ gb; omega) _
        clear hV m0 m1 m2 m3 n0 n1 n2 hz
        refine hK.out _ _ (HSA.out V3 HV.out) (fun hHeld => ?_)
        clear hK K
        try simp only [Act.put, List.setIfInBounds_toArray, List.set_cons_succ, List.set_cons_zero]
        refine takeOp (i := 12) (v := ?_) (some 8) rfl rfl (by kernel_rfl) (by kernel_rfl) (by kernel_rfl) (fun _ _ _ h => h) (Or.inl ⟨by rfl, ?_⟩) (by assumption) ?_
        rotate_left 1
        · (intro w0 hSw; (try dsimp only at hSw); go_simp; try (with_reducible rfl))
        try simp only [Act.put, List.setIfInBounds_toArray, List.set_cons_succ, List.set_cons_zero]
        refine wpAnyH_done (by kernel_rfl) ?_ _
        go_wp2_with fail
        go_meet
        case rel => exact ⟨gb, rfl, rfl, HBX.out, HV.out⟩
    case rest =>
      obtain ⟨g7, rfl, rfl, hbx, hbw⟩ := hcut
      generalize wc = wB at *
      have HBXB := Lib.hid hbx
      have HBXA2 := Lib.hid (HBXA.out.up hbw)
      have HBB : Hid (Below w1.heap.size w1 wB) := Below.then HBA.out hbw HBA.out.size
      clear hbx hbw hbl HSA HJA HBXA
      have hx6 : Ext wB (wB.alloc (.cells #[.int .i64 (-1), .int .i64 0] 3)) := (Ext.refl wB).alloc _
      have hr6 := Row.new wB 3 [.int .i64 (-1), .int .i64 0]
      have HA6 := HA.out.upB (Below.then HBB.out hx6.below HBB.out.size)
      have hev := sjEvaluate_any (some ⟨wB.heap.size, 0, none⟩) (some ⟨b, o, none⟩) 2 C1 [-1, 0] [xa0.ra, xa1.ra] 5 (wB.alloc (.cells #[.int .i64 (-1), .int .i64 0] 3)) HA6 (by decide) x36_small (fun _ => ⟨wB.heap.size, 0, rfl, hr6.lt, fun j u hu => by rw [Nat.zero_add, hr6.cell j]; exact hu⟩) (by decide) (by decide) (fun _ => x36_few)
      have HEV := Lib.hid hev
      have HX6 := Lib.hid hx6
      clear hev hx6 hr6 HA6 HA HS HSJ HJJ
      go_wp2_with fail
      refine HEV.out.mono ?_
      rintro e w6 ⟨-, -, h3, hb6⟩
      obtain ⟨v, a, rfl, hat, hef⟩ := h3 x36_tree x36_keep
      have ha := x36_eval hef
      subst ha
      have HAT := Lib.hid hat
      obtain ⟨KA, KC, LA', LC, he, -⟩ := hat
      replace he : v = .agg #[.slice KA 2 KC, .int .i64 2, .slice LA' 1 LC] := he
      subst he
      have HB6 : Hid (Below wB.heap.size wB w6) := Below.then HX6.out.below hb6 HX6.out.size
      obtain ⟨W7, hW7⟩ : ∃ W, W = w6.alloc (.cells #[.slice KA 2 KC, .int .i64 2, .slice LA' 1 LC] 36) := ⟨_, rfl⟩
      obtain ⟨g9, hg9⟩ : ∃ g, g = w6.heap.size := ⟨_, rfl⟩
      have hx7 : Ext w6 W7 := by rw [hW7]; exact (Ext.refl w6).alloc _
      have hr9 : Row W7 g9 36 [.slice KA 2 KC, .int .i64 2, .slice LA' 1 LC] := by rw [hW7, hg9]; exact Row.new w6 _ _
      have HR9 := Lib.hid hr9
      have HAT7 := Lib.hid (HAT.out.up hx7.below)
      have HB7 : Hid (Below wB.heap.size wB W7) := Below.then HB6.out hx7.below HB6.out.size
      have HG9E := Lib.hid hg9
      have HW7E := Lib.hid hW7
      clear h3 hb6 hef HEV HX6 hW7 hg9 hx7 hr9
      go_upto_region 7 with (fail)
      rw [← HW7E.out, ← HG9E.out]
      clear HW7E HG9E HB6 HAT
      obtain ⟨P5A, P5C, P5P, P5D, r5, v5⟩ := (HBXA2.out.up HB7.out)
      obtain ⟨P7A, P7C, P7P, P7D, r7, v7⟩ := (HBXB.out.up HB7.out)
      have HV5 : Hid (AtV W7 (.agg #[.slice P5A 2 P5C, .int .i64 2, .slice P5P 1 P5D]) ⟨[0, 1], [[valI 1, valI 2]]⟩) := v5
      have HV7 : Hid (AtV W7 (.agg #[.slice P7A 3 P7C, .int .i64 3, .slice P7P 1 P7D]) ⟨[0, 1, 2], [[valI 1, valI 2, valI 1]]⟩) := v7
      have HV9 : Hid (AtV W7 (.agg #[.slice KA 2 KC, .int .i64 2, .slice LA' 1 LC]) ⟨[0, 2], [[valI 1, valI 1]]⟩) := HAT7.out
      have hup : ∀ W, Below W7.heap.size W7 W → ((W.cell? ⟨g5, 0, none⟩ = some (.slice P5A 2 P5C) ∧ W.cell? ⟨g5, 1, none⟩ = some (.int .i64 2) ∧ W.cell? ⟨g5, 2, none⟩ = some (.slice P5P 1 P5D) ∧ g5 < W.heap.size) ∧ (W.cell? ⟨g7, 0, none⟩ = some (.slice P7A 3 P7C) ∧ W.cell? ⟨g7, 1, none⟩ = some (.int .i64 3) ∧ W.cell? ⟨g7, 2, none⟩ = some (.slice P7P 1 P7D) ∧ g7 < W.heap.size)) ∧ (W.cell? ⟨g9, 0, none⟩ = some (.slice KA 2 KC) ∧ W.cell? ⟨g9, 1, none⟩ = some (.int .i64 2) ∧ W.cell? ⟨g9, 2, none⟩ = some (.slice LA' 1 LC) ∧ g9 < W.heap.size) := fun W h =>
        ⟨⟨⟨(r5.up h).cell 0, (r5.up h).cell 1, (r5.up h).cell 2, (r5.up h).lt⟩, (r7.up h).cell 0, (r7.up h).cell 1, (r7.up h).cell 2, (r7.up h).lt⟩, (HR9.out.up h).cell 0, (HR9.out.up h).cell 1, (HR9.out.up h).cell 2, (HR9.out.up h).lt⟩
      have HUP := Lib.hid hup
      have hgd : ∀ {vs : List Nat} {r : RL.R}, vs.Pairwise (· < ·) → (∀ v ∈ vs, v < 32) → r.length = vs.length → (∀ c ∈ r, IsI c) → Gd ⟨vs, [r]⟩ := fun h1 h2 h3 h4 => ⟨h1, h2, fun r hr => by rw [List.mem_singleton.1 hr]; exact h3, ss_one _, fun r hr => by rw [List.mem_singleton.1 hr]; exact h4, by show 1 ≤ 60000; omega⟩
      have hI : ∀ {r : List Nat}, ∀ c ∈ r.map valI, IsI c := fun c hc => by obtain ⟨x, -, rfl⟩ := List.mem_map.1 hc; exact ⟨x, rfl⟩
      have H5 : Hid (∀ W, Below W7.heap.size W7 W → Calls Tryz.prog 27 #[.agg #[.slice P5A 2 P5C, .int .i64 2, .slice P5P 1 P5D]] W fun e w' => e = .returned (.agg #[.int .i64 1, .int .i64 2, .int .i64 0]) ∧ Below W.heap.size W w') := fun W h => l36awake1_any _ ⟨[0, 1], [[valI 1, valI 2]]⟩ W (HV5.out.up h) (hgd (by decide) (by decide) rfl (hI (r := [1, 2])))
      have H7 : Hid (∀ W, Below W7.heap.size W7 W → Calls Tryz.prog 27 #[.agg #[.slice P7A 3 P7C, .int .i64 3, .slice P7P 1 P7D]] W fun e w' => e = .returned (.agg #[.int .i64 1, .int .i64 2, .int .i64 1]) ∧ Below W.heap.size W w') := fun W h => l36awake1_any _ ⟨[0, 1, 2], [[valI 1, valI 2, valI 1]]⟩ W (HV7.out.up h) (hgd (by decide) (by decide) rfl (hI (r := [1, 2, 1])))
      have H9 : Hid (∀ W, Below W7.heap.size W7 W → Calls Tryz.prog 27 #[.agg #[.slice KA 2 KC, .int .i64 2, .slice LA' 1 LC]] W fun e w' => e = .returned (.agg #[.int .i64 1, .int .i64 1, .int .i64 0]) ∧ Below W.heap.size W w') := fun W h => l36awake1_any _ ⟨[0, 2], [[valI 1, valI 1]]⟩ W (HV9.out.up h) (hgd (by decide) (by decide) rfl (hI (r := [1, 1])))
      have HBW : Hid (Below w.heap.size w W7) := Below.then HB1.out (Below.then HBB.out HB7.out HBB.out.size) HB1.out.size
      clear r5 v5 r7 v7 hgd hI HR9 HAT7 HBXA2 HBXB hup HV5 HV7 HV9 HB7 HBB HBA HB1
      obtain ⟨⟨⟨a0, a1, a2, a3⟩, b0, b1, b2, b3⟩, d0, d1, d2, d3⟩ := HUP.out W7 (Below.refl _ _)
      have hq1 := fun W => eq3 W 1 2 0
      have hq2 := fun W => eq3 W 1 2 1
      have hq3 := fun W => eq3 W 1 1 0
      go_wp2_with fail
      refine (rlLen_any 2 P5P 1 P5D W7).mono ?_
      rintro e u0 ⟨rfl, hx⟩
      have HU0 : Hid (Below W7.heap.size W7 u0) := Below.then (Below.refl W7.heap.size W7) hx.below ((Below.refl W7.heap.size W7)).size
      clear hx a0 a1 a2 a3 b0 b1 b2 b3 d0 d1 d2 d3
      obtain ⟨⟨⟨a0, a1, a2, a3⟩, b0, b1, b2, b3⟩, d0, d1, d2, d3⟩ := HUP.out u0 HU0.out
      go_wp2_with fail
      refine (H5.out u0 HU0.out).mono ?_
      rintro e u1 ⟨rfl, hb⟩
      have HU1 : Hid (Below W7.heap.size W7 u1) := Below.then HU0.out hb (HU0.out).size
      clear hb a0 a1 a2 a3 b0 b1 b2 b3 d0 d1 d2 d3
      obtain ⟨⟨⟨a0, a1, a2, a3⟩, b0, b1, b2, b3⟩, d0, d1, d2, d3⟩ := HUP.out u1 HU1.out
      go_wp2_with fail
      refine (rlLen_any 3 P7P 1 P7D u1).mono ?_
      rintro e u2 ⟨rfl, hx⟩
      have HU2 : Hid (Below W7.heap.size W7 u2) := Below.then HU1.out hx.below (HU1.out).size
      clear hx a0 a1 a2 a3 b0 b1 b2 b3 d0 d1 d2 d3
      obtain ⟨⟨⟨a0, a1, a2, a3⟩, b0, b1, b2, b3⟩, d0, d1, d2, d3⟩ := HUP.out u2 HU2.out
      go_wp2_with fail
      refine (H7.out u2 HU2.out).mono ?_
      rintro e u3 ⟨rfl, hb⟩
      have HU3 : Hid (Below W7.heap.size W7 u3) := Below.then HU2.out hb (HU2.out).size
      clear hb a0 a1 a2 a3 b0 b1 b2 b3 d0 d1 d2 d3
      obtain ⟨⟨⟨a0, a1, a2, a3⟩, b0, b1, b2, b3⟩, d0, d1, d2, d3⟩ := HUP.out u3 HU3.out
      go_wp2_with fail
      refine (rlLen_any 2 LA' 1 LC u3).mono ?_
      rintro e u4 ⟨rfl, hx⟩
      have HU4 : Hid (Below W7.heap.size W7 u4) := Below.then HU3.out hx.below (HU3.out).size
      clear hx a0 a1 a2 a3 b0 b1 b2 b3 d0 d1 d2 d3
      obtain ⟨⟨⟨a0, a1, a2, a3⟩, b0, b1, b2, b3⟩, d0, d1, d2, d3⟩ := HUP.out u4 HU4.out
      go_wp2_with fail
      refine (H9.out u4 HU4.out).mono ?_
      rintro e u5 ⟨rfl, hb⟩
      have HU5 : Hid (Below W7.heap.size W7 u5) := Below.then HU4.out hb (HU4.out).size
      clear hb a0 a1 a2 a3 b0 b1 b2 b3 d0 d1 d2 d3
      obtain ⟨⟨⟨a0, a1, a2, a3⟩, b0, b1, b2, b3⟩, d0, d1, d2, d3⟩ := HUP.out u5 HU5.out
      go_wp2_with fail
      go_ret
      exact ⟨rfl, Below.then HBW.out HU5.out HBW.out.size⟩
end
section
open Go.RowKit Go.Sort

theorem made37_any (a b : LA) (R1 R2 : Option Addr) (D1 D2 : Nat) (w W1 : World) (hA : SlA 4 w.heap.size w R1 a.R) (hB : SlA 4 w.heap.size w R2 b.R) (ha : a.v < 256 ∧ a.b < 256 ∧ Bytes a.R) (hb : b.v < 256 ∧ b.b < 256 ∧ Bytes b.R)
    (hW1 : W1 = ((w.alloc (.cells #[.int .u8 (a.v : Nat), .slice R1 a.R.length D1, .int .u8 (a.b : Nat)] 24)).alloc (.cells #[.int .u8 (b.v : Nat), .slice R2 b.R.length D2, .int .u8 (b.b : Nat)] 24)).alloc (.cells #[.int .u8 (a.v : Nat), .slice R1 a.R.length D1, .int .u8 (a.b : Nat), .int .u8 (b.v : Nat), .slice R2 b.R.length D2, .int .u8 (b.b : Nat)] 24)) :
    Calls Tryz.prog 7 #[.slice (some ⟨w.heap.size + 1 + 1, 0, none⟩) 2 2] W1 fun e w' => Below w.heap.size w w' ∧ (e = .returned (.tuple #[.slice none 0 0, .slice none 0 0, .slice none 0 0, .bool false]) ∨ ∃ (A1 A2 A3 : Option Addr) (C1 C2 C3 : Nat), e = .returned (.tuple #[.slice A1 2 C1, .slice A2 2 C2, .slice A3 2 C3, .bool true]) ∧
      (a.Ok ∧ b.Ok) ∧ AtsM w'.heap.size w' A1 [a.ra, b.ra] ∧ AtsR w'.heap.size w' A2 [a.ra, b.ra] ∧ SlI .i64 w'.heap.size w' A3 [a.ra.ar, b.ra.ar]) := by
  have hx : Ext w W1 := by rw [hW1]; exact (((Ext.refl w).alloc _).alloc _).alloc _
  have hr : Row W1 (w.heap.size + 1 + 1) 24 [.int .u8 (a.v : Nat), .slice R1 a.R.length D1, .int .u8 (a.b : Nat), .int .u8 (b.v : Nat), .slice R2 b.R.length D2, .int .u8 (b.b : Nat)] := by
    have h := Row.new ((w.alloc (.cells #[.int .u8 (a.v : Nat), .slice R1 a.R.length D1, .int .u8 (a.b : Nat)] 24)).alloc (.cells #[.int .u8 (b.v : Nat), .slice R2 b.R.length D2, .int .u8 (b.b : Nat)] 24)) 24 [.int .u8 (a.v : Nat), .slice R1 a.R.length D1, .int .u8 (a.b : Nat), .int .u8 (b.v : Nat), .slice R2 b.R.length D2, .int .u8 (b.b : Nat)]
    rw [World.size_alloc, World.size_alloc] at h
    rw [hW1]; exact h
  have hm : AtsL W1.heap.size W1 (some ⟨w.heap.size + 1 + 1, 0, none⟩) [a, b] := fun _ => by
    refine ⟨w.heap.size + 1 + 1, 0, rfl, hr.lt, fun i hi => ?_⟩
    have up : ∀ {R : Option Addr} {Y : List (List Nat)}, SlA 4 w.heap.size w R Y → SlA 4 W1.heap.size W1 R Y := fun h => SlA.upB h hx.below
    match i, hi with
    | 0, _ => exact ⟨R1, D1, hr.cell 0, hr.cell 1, hr.cell 2, up hA⟩
    | 1, _ => exact ⟨R2, D2, hr.cell 3, hr.cell 4, hr.cell 5, up hB⟩
    | i + 2, hi => exact absurd hi (by show ¬ i + 2 < 2; omega)
  refine (l35Made_any _ 2 [a, b] W1 hm (fun c hc => ?_) (by show 2 ≤ _; omega)).mono fun e w' ⟨h1, h2, hbw⟩ => ⟨Below.then hx.below hbw hx.size, ?_⟩
  · rcases List.mem_cons.1 hc with rfl | hc
    · exact ha
    · rw [List.mem_singleton.1 hc]; exact hb
  by_cases h : ∀ c ∈ [a, b], c.Ok
  · obtain ⟨A1, C1, A2, C2, A3, C3, he, -, -, -, -, -, -, k1, k2, k3⟩ := h1 h
    exact .inr ⟨A1, A2, A3, C1, C2, C3, he, ⟨h a (by simp), h b (by simp)⟩, k1, k2, k3⟩
  · exact .inl (h2 h)
theorem errC_gd {al : List At} (h : ∀ a ∈ al, Gd a) (hl : al.length ≤ 32) : errC (al.map At.ra) = 0 := by
  unfold errC
  rw [if_neg (by rw [List.length_map]; omega)]
  have : (al.map At.ra).find? (fun a => errAt 32 a != 0) = none := List.find?_eq_none.2 fun r hr => by
    obtain ⟨a, ha, rfl⟩ := List.mem_map.1 hr
    simp [(h a ha).err0]
  rw [this]
theorem joinL_le {a b : At} (ha : Gd a) (hb : Gd b) (hm : (joinR [a, b]).P.length ≤ 60000) : (joinL (uniV a.vs b.vs) a b).length ≤ 60000 := by
  have h1 := join_ref ha hb
  rw [joinA_list ha hb] at h1
  have h2 : RL.ofF (joinL (uniV a.vs b.vs) a b) = (joinR [a, b]).P := congrArg At.P h1
  refine Nat.le_trans (nodupR_le (joinL_nodup (nodup_of_asc (uniV_asc _ _)) (mem_uniV ha.lt hb.lt) ha hb) fun z hz => ?_) hm
  rw [← h2]
  exact (RL.mem_ofF _ _).2 hz
theorem good_pair {x y : LA} (hx : x.Ok) (hy : y.Ok) (he : errC [x.ra, y.ra] = 0) : ∃ a b : At, [x.ra, y.ra] = [a.ra, b.ra] ∧ Gd a ∧ Gd b ∧ (joinR [a, b]).P.length ≤ 60000 ∧ (unionV [a, b]).length ≤ 8 := by
  have hok : ∀ c ∈ [x, y], c.Ok := fun c hc => by
    rcases List.mem_cons.1 hc with rfl | hc
    · exact hx
    · rw [List.mem_singleton.1 hc]; exact hy
  have hz := (errC_zero he).2
  have hs := LA.smalls hok
  have g1 := Gd.of (hs x.ra (by simp)) (hz _ (by simp))
  have g2 := Gd.of (hs y.ra (by simp)) (hz _ (by simp))
  have hF := few_made hok (by simp) he (fun i => (([x, y].map LA.ra).map RA.at).getD i ⟨[], []⟩) rfl
  have t1 := made_thin hx (hz _ (by simp))
  have t2 := made_thin hy (hz _ (by simp))
  refine ⟨x.ra.at, y.ra.at, ?_, g1, g2, joinR_many (gd2 g1 g2) (by simp) (X := fun i => [x.ra.at, y.ra.at].getD i ⟨[], []⟩) rfl hF, ?_⟩
  · rw [RA.good (hz _ (by simp)), RA.good (hz _ (by simp))]
  · have h : ∀ v ∈ unionV [x.ra.at, y.ra.at], v ∈ List.range 8 := fun v hv => by
      obtain ⟨c, hc, hvc⟩ := (mem_unionV (gd2 g1 g2) v).1 hv
      rw [List.mem_range]
      rcases List.mem_cons.1 hc with rfl | hc
      · exact t1.2 v hvc
      · rw [List.mem_singleton.1 hc] at hvc; exact t2.2 v hvc
    have := nodupN_le (unionV_nodup _) h
    simpa using this
section
variable {a b : At} {w : World} {va vb : Value} (ga : Gd a) (gb : Gd b) (hm : (joinR [a, b]).P.length ≤ 60000)
include ga gb
theorem semiX_any (ha : AtV w va a) (hb : AtV w vb b) : Calls Tryz.prog 9 #[va, vb] w (XPost w 0 ⟨a.vs, semiF a b⟩) := by
  have h1 := sjSemiX_any va vb a.ra b.ra w ha.ra hb.ra ⟨by have := ga.vl; unfold At.ra; simp only [List.length_map]; omega, by have := gb.vl; unfold At.ra; simp only [List.length_map]; omega⟩ ⟨a.vs, semiF a b⟩ fun W' h _ _ => sjSemi_ok va vb a b W' (ha.up h) (hb.up h) ga gb
  rw [show errC [a.ra, b.ra] = 0 from errC_gd (gd2 ga gb) (by simp)] at h1
  exact h1
include hm
theorem joinX_any (ha : AtV w va a) (hb : AtV w vb b) : Calls Tryz.prog 10 #[va, vb] w (XPost w 0 (joinR [a, b])) := by
  have h1 := sjJoinX_any va vb a.ra b.ra w ha.ra hb.ra ⟨by have := ga.vl; unfold At.ra; simp only [List.length_map]; omega, by have := gb.vl; unfold At.ra; simp only [List.length_map]; omega⟩ (joinA (uniV a.vs b.vs) a b) fun W' h _ _ => sjJoin_ok va vb a b W' (ha.up h) (hb.up h) ga gb (joinL_le ga gb hm)
  rw [show errC [a.ra, b.ra] = 0 from errC_gd (gd2 ga gb) (by simp), join_ref ga gb] at h1
  exact h1
end
theorem joinR_gd2 {a b : At} (ga : Gd a) (gb : Gd b) (hm : (joinR [a, b]).P.length ≤ 60000) : Gd (joinR [a, b]) where
  asc := unionV_asc _
  lt := fun _ hv => unionV_lt hv
  len := fun r hr => ((mem_joinR (gd2 ga gb) (by simp) r).1 hr).1
  ss := joinR_ss (gd2 ga gb) (by simp)
  I := joinR_I (gd2 ga gb) (by simp)
  many := hm
theorem same36 {a : At} (ga : Gd a) {w : World} {vx vy : Value} (hx : RefV w vx (a.vs.map Int.ofNat) a.P) (hy : RefV w vy (a.vs.map Int.ofNat) a.P) : Calls Tryz.prog 21 #[vx, vy] w fun e w' => e = .returned (.bool true) ∧ Below w.heap.size w w' := by
  have hv : (a.vs.map Int.ofNat).length ≤ 1000000 := by rw [List.length_map]; have := ga.vl; omega
  have hP : a.P.length ≤ 1000000 := by have := ga.many; omega
  refine (r36Same_any vx vy _ _ _ _ w hx hy hv hv hP hP ga.rsOk ga.rsOk).mono fun e w' ⟨h1, h2⟩ => ⟨by rw [h1, decide_eq_true ⟨rfl, rfl⟩], h2⟩
end
section
open Go.RowKit Go.Sort

set_option maxHeartbeats 4000000 in
theorem l36is_any (va vw : Value) (a : At) (w : World) (ha : AtV w va a) (hw : RefV w vw (a.vs.map Int.ofNat) a.P) (ga : Gd a) :
    Calls Tryz.prog 13 #[va, vw] w fun e w' => e = .returned (.bool true) ∧ Below w.heap.size w w' := by
  have ha0 := ha
  have hw0 := hw
  obtain ⟨VA, VC, PA, PC, rfl, -, -, -, -, -, -⟩ := ha
  obtain ⟨UA, UC, QA, QC, rfl, -, -, -, -, -, -⟩ := hw
  rw [List.length_map] at hw0 ⊢
  obtain ⟨W0, hW0⟩ : ∃ W0, W0 = (w.alloc (.cells #[.slice VA a.vs.length VC, .int .i64 (a.vs.length : Nat), .slice PA a.P.length PC] 36)).alloc (.cells #[.slice UA a.vs.length UC, .slice QA a.P.length QC] 45) := ⟨_, rfl⟩
  have hx0 : Ext w W0 := by rw [hW0]; exact ((Ext.refl w).alloc _).alloc _
  have HRA : Hid (Row W0 w.heap.size 36 [.slice VA a.vs.length VC, .int .i64 (a.vs.length : Nat), .slice PA a.P.length PC]) := by show Row _ _ _ _; rw [hW0]; exact (Row.new w 36 _).alloc _
  have HRB : Hid (Row W0 (w.heap.size + 1) 45 [.slice UA a.vs.length UC, .slice QA a.P.length QC]) := by
    show Row _ _ _ _
    have h := Row.new (w.alloc (.cells #[.slice VA a.vs.length VC, .int .i64 (a.vs.length : Nat), .slice PA a.P.length PC] 36)) 45 [.slice UA a.vs.length UC, .slice QA a.P.length QC]
    rw [World.size_alloc] at h
    rw [hW0]; exact h
  have HX0 := Lib.hid hx0
  have HA := Lib.hid (fun W (h : Below w.heap.size w W) => ha0.up h)
  have HW := Lib.hid (fun W (h : Below w.heap.size w W) => hw0.up h)
  have HG := Lib.hid ga
  have HUP : Hid (∀ W, Below W0.heap.size W0 W → (W.cell? ⟨w.heap.size, 0, none⟩ = some (.slice VA a.vs.length VC) ∧ W.cell? ⟨w.heap.size, 1, none⟩ = some (.int .i64 (a.vs.length : Nat)) ∧ W.cell? ⟨w.heap.size, 2, none⟩ = some (.slice PA a.P.length PC)) ∧ W.cell? ⟨w.heap.size + 1, 0, none⟩ = some (.slice UA a.vs.length UC) ∧ W.cell? ⟨w.heap.size + 1, 1, none⟩ = some (.slice QA a.P.length QC)) := fun W h => ⟨⟨(HRA.out.up h).cell 0, (HRA.out.up h).cell 1, (HRA.out.up h).cell 2⟩, (HRB.out.up h).cell 0, (HRB.out.up h).cell 1⟩
  have HWU : Hid (∀ W, Below W0.heap.size W0 W → Below w.heap.size w W) := fun W h => Below.then HX0.out.below h HX0.out.size
  have e0 := HRA.out.lt
  have e1 := HRB.out.lt
  have HW0E := Lib.hid hW0
  clear ha0 hw0 ga hx0 hW0
  go_enter Tryz.func13, Tryz.ntmps13
  go_upto_region 1 with (fail)
  rw [← HW0E.out]
  clear HW0E
  refine wp_region_held_drew (S := (fun w' => (w'.cell? ⟨w.heap.size, 0, none⟩ = some (.slice VA a.vs.length VC) ∧ w'.cell? ⟨w.heap.size, 1, none⟩ = some (.int .i64 (a.vs.length : Nat)) ∧ w'.cell? ⟨w.heap.size, 2, none⟩ = some (.slice PA a.P.length PC)) ∧ w'.cell? ⟨w.heap.size + 1, 0, none⟩ = some (.slice UA a.vs.length UC) ∧ w'.cell? ⟨w.heap.size + 1, 1, none⟩ = some (.slice QA a.P.length QC))) (by kernel_rfl) (HUP.out W0.drew (Below.refl _ _).drew) (fun hHeld => ?_)
  refine takeOp (i := 0) (v := ?_) (some 5) rfl rfl (by kernel_rfl) (by kernel_rfl) (by kernel_rfl) (fun _ _ _ h => h) (Or.inl ⟨by rfl, ?_⟩) (by assumption) ?_
  rotate_left 1
  · (intro w0 hSw; (try dsimp only at hSw); go_simp; try (with_reducible rfl))
  try simp only [Act.put, List.setIfInBounds_toArray, List.set_cons_succ, List.set_cons_zero]
  refine takeOp (i := 1) (v := ?_) (some 6) rfl rfl (by kernel_rfl) (by kernel_rfl) (by kernel_rfl) (fun _ _ _ h => h) (Or.inl ⟨by rfl, ?_⟩) (by assumption) ?_
  rotate_left 1
  · (intro w0 hSw; (try dsimp only at hSw); go_simp; try (with_reducible rfl))
  try simp only [Act.put, List.setIfInBounds_toArray, List.set_cons_succ, List.set_cons_zero]
  refine takeOp (i := 3) (v := ?_) (some 8) rfl rfl (by kernel_rfl) (by kernel_rfl) (by kernel_rfl) (fun _ _ _ h => h) (Or.inl ⟨by rfl, ?_⟩) (by assumption) ?_
  rotate_left 1
  · (intro w0 hSw; (try dsimp only at hSw); go_simp; try (with_reducible rfl))
  try simp only [Act.put, List.setIfInBounds_toArray, List.set_cons_succ, List.set_cons_zero]
  refine takeOp (i := 4) (v := ?_) (some 9) rfl rfl (by kernel_rfl) (by kernel_rfl) (by kernel_rfl) (fun _ _ _ h => h) (Or.inl ⟨by rfl, ?_⟩) (by assumption) ?_
  rotate_left 1
  · (intro w0 hSw; (try dsimp only at hSw); go_simp; try (with_reducible rfl))
  try simp only [Act.put, List.setIfInBounds_toArray, List.set_cons_succ, List.set_cons_zero]
  refine takeOp (i := 5) (v := ?_) (some 10) rfl rfl (by kernel_rfl) (by kernel_rfl) (by kernel_rfl) (fun _ _ _ h => h) (Or.inl ⟨by rfl, ?_⟩) (by assumption) ?_
  rotate_left 1
  · (intro w0 hSw; (try dsimp only at hSw); go_simp; try (with_reducible rfl))
  try simp only [Act.put, List.setIfInBounds_toArray, List.set_cons_succ, List.set_cons_zero]
  refine wpAnyH_ready (rs := [2]) (by kernel_rfl) (by simp) ?_
  refine AllReadyH.cons rfl (fun K hK => ?_) AllReadyH.nil
  go_simp
  refine (rlArity_any (a.vs.length : Nat) PA a.P.length PC W0.drew).mono ?_
  rintro e V1 ⟨rfl, hx⟩
  have HV1 : Hid (Below W0.heap.size W0 V1) := Below.undrew hx.below
  clear hx
  go_wp2_with fail
  refine hK.out _ _ (HUP.out V1 HV1.out) (fun hHeld => ?_)
  clear hK K
  try simp only [Act.put, List.setIfInBounds_toArray, List.set_cons_succ, List.set_cons_zero]
  refine takeOp (i := 6) (v := ?_) (some 11) rfl rfl (by kernel_rfl) (by kernel_rfl) (by kernel_rfl) (fun _ _ _ h => h) (Or.inl ⟨by rfl, ?_⟩) (by assumption) ?_
  rotate_left 1
  · (intro w0 hSw; (try dsimp only at hSw); go_simp; try (with_reducible rfl))
  try simp only [Act.put, List.setIfInBounds_toArray, List.set_cons_succ, List.set_cons_zero]
  refine takeOp (i := 7) (v := ?_) (some 12) rfl rfl (by kernel_rfl) (by kernel_rfl) (by kernel_rfl) (fun _ _ _ h => h) (Or.inl ⟨by rfl, ?_⟩) (by assumption) ?_
  rotate_left 1
  · (intro w0 hSw; (try dsimp only at hSw); go_simp; try (with_reducible rfl))
  try simp only [Act.put, List.setIfInBounds_toArray, List.set_cons_succ, List.set_cons_zero]
  refine takeOp (i := 8) (v := ?_) (some 13) rfl rfl (by kernel_rfl) (by kernel_rfl) (by kernel_rfl) (fun _ _ _ h => h) (Or.inl ⟨by rfl, ?_⟩) (by assumption) ?_
  rotate_left 1
  · (intro w0 hSw; (try dsimp only at hSw); go_simp; try (with_reducible rfl))
  try simp only [Act.put, List.setIfInBounds_toArray, List.set_cons_succ, List.set_cons_zero]
  refine takeOp (i := 10) (v := ?_) (some 15) rfl rfl (by kernel_rfl) (by kernel_rfl) (by kernel_rfl) (fun _ _ _ h => h) (Or.inl ⟨by rfl, ?_⟩) (by assumption) ?_
  rotate_left 1
  · (intro w0 hSw; (try dsimp only at hSw); go_simp; try (with_reducible rfl))
  try simp only [Act.put, List.setIfInBounds_toArray, List.set_cons_succ, List.set_cons_zero]
  refine wpAnyH_ready (rs := [9]) (by kernel_rfl) (by simp) ?_
  refine AllReadyH.cons rfl (fun K hK => ?_) AllReadyH.nil
  go_simp
  refine (l36Of_any _ a V1 (HA.out V1 (HWU.out V1 HV1.out)) HG.out).mono ?_
  rintro e V2 ⟨v1, rfl, hv, hb⟩
  have HV2 : Hid (Below W0.heap.size W0 V2) := Below.then HV1.out hb HV1.out.size
  have HSM := Lib.hid (same36 HG.out hv (HW.out V2 (HWU.out V2 HV2.out)))
  clear hv hb
  go_wp2_with fail
  refine hK.out _ _ (HUP.out V2 HV2.out) (fun hHeld => ?_)
  clear hK K
  try simp only [Act.put, List.setIfInBounds_toArray, List.set_cons_succ, List.set_cons_zero]
  refine wpAnyH_ready (rs := [11]) (by kernel_rfl) (by simp) ?_
  refine AllReadyH.cons rfl (fun K hK => ?_) AllReadyH.nil
  go_simp
  refine HSM.out.mono ?_
  rintro e V3 ⟨rfl, hb⟩
  have HV3 : Hid (Below W0.heap.size W0 V3) := Below.then HV2.out hb HV2.out.size
  clear hb HSM
  go_wp2_with fail
  refine hK.out _ _ (HUP.out V3 HV3.out) (fun hHeld => ?_)
  clear hK K
  try simp only [Act.put, List.setIfInBounds_toArray, List.set_cons_succ, List.set_cons_zero]
  refine takeOp (i := 12) (v := ?_) (some 17) rfl rfl (by kernel_rfl) (by kernel_rfl) (by kernel_rfl) (fun _ _ _ h => h) (Or.inl ⟨by rfl, ?_⟩) (by assumption) ?_
  rotate_left 1
  · (intro w0 hSw; (try dsimp only at hSw); go_simp; try (with_reducible rfl))
  try simp only [Act.put, List.setIfInBounds_toArray, List.set_cons_succ, List.set_cons_zero]
  refine takeOp (i := 13) (v := ?_) (some 4) rfl rfl (by kernel_rfl) (by kernel_rfl) (by kernel_rfl) (fun _ _ _ h => h) (Or.inl ⟨by rfl, ?_⟩) (by assumption) ?_
  rotate_left 1
  · (intro w0 hSw; (try dsimp only at hSw); go_simp; try (with_reducible rfl))
  try simp only [Act.put, List.setIfInBounds_toArray, List.set_cons_succ, List.set_cons_zero]
  refine wpAnyH_done (by kernel_rfl) ?_ _
  clear hHeld
  go_wp2_with fail
  go_ret
  exact ⟨rfl, HWU.out V3 HV3.out⟩

theorem two_refs {w : World} {g : Nat} {VA VC PA PC WA WC QA QC} {a b : At} (hr : Row w g 45 [.slice VA a.vs.length VC, .slice PA a.P.length PC, .slice WA b.vs.length WC, .slice QA b.P.length QC])
    (c1 : a.vs.length ≤ VC ∧ VC ≤ 9223372036854775807 ∧ a.P.length ≤ PC ∧ PC ≤ 9223372036854775807) (c2 : b.vs.length ≤ WC ∧ WC ≤ 9223372036854775807 ∧ b.P.length ≤ QC ∧ QC ≤ 9223372036854775807)
    (h1 : SlI .i64 w.heap.size w VA (a.vs.map Int.ofNat)) (h2 : SlRs w.heap.size w PA a.P) (h3 : SlI .i64 w.heap.size w WA (b.vs.map Int.ofNat)) (h4 : SlRs w.heap.size w QA b.P) : AtsR w.heap.size w (some ⟨g, 0, none⟩) ([a, b].map At.ra) := fun _ => by
  have hl : ∀ c : At, c.ra.vs.length = c.vs.length := fun c => by unfold At.ra; simp
  refine ⟨g, 0, rfl, hr.lt, fun i hi => ?_⟩
  match i, hi with
  | 0, _ => exact ⟨VA, VC, PA, PC, by simp only [List.map_cons, List.getElem_cons_zero, hl]; exact hr.cell 0, hr.cell 1, by simp only [List.map_cons, List.getElem_cons_zero, hl]; exact c1.1, c1.2.1, c1.2.2.1, c1.2.2.2, h1, h2⟩
  | 1, _ => exact ⟨WA, WC, QA, QC, by simp only [List.map_cons, List.getElem_cons_succ, List.getElem_cons_zero, hl]; exact hr.cell 2, hr.cell 3, by simp only [List.map_cons, List.getElem_cons_succ, List.getElem_cons_zero, hl]; exact c2.1, c2.2.1, c2.2.2.1, c2.2.2.2, h3, h4⟩
  | n + 2, hi => exact absurd hi (by simp)

set_option maxHeartbeats 8000000 in
theorem r36Semi_any (va vb : Value) (a b : At) (w : World) (ha : RefV w va (a.vs.map Int.ofNat) a.P) (hb : RefV w vb (b.vs.map Int.ofNat) b.P) (ga : Gd a) (gb : Gd b) (hm : (joinR [a, b]).P.length ≤ 60000) (h8 : (unionV [a, b]).length ≤ 8) :
    Calls Tryz.prog 14 #[va, vb] w fun e w' => ∃ v, e = .returned v ∧ RefV w' v (a.vs.map Int.ofNat) (semiF a b) ∧ Below w.heap.size w w' := by
  obtain ⟨VA, VC, PA, PC, rfl, c1, c2, c3, c4, hv, hP⟩ := ha
  obtain ⟨UA, UC, QA, QC, rfl, d1, d2, d3, d4, hu, hQ⟩ := hb
  simp only [List.length_map] at *
  obtain ⟨W0, hW0⟩ : ∃ W0, W0 = ((w.alloc (.cells #[.slice VA a.vs.length VC, .slice PA a.P.length PC] 45)).alloc (.cells #[.slice UA b.vs.length UC, .slice QA b.P.length QC] 45)).alloc (.cells #[.slice none 0 0, .slice none 0 0] 45) := ⟨_, rfl⟩
  have hx0 : Ext w W0 := by rw [hW0]; exact (((Ext.refl w).alloc _).alloc _).alloc _
  have HRA : Hid (Row W0 w.heap.size 45 [.slice VA a.vs.length VC, .slice PA a.P.length PC]) := by show Row _ _ _ _; rw [hW0]; exact ((Row.new w 45 _).alloc _).alloc _
  have HRB : Hid (Row W0 (w.heap.size + 1) 45 [.slice UA b.vs.length UC, .slice QA b.P.length QC]) := by
    show Row _ _ _ _
    have h := (Row.new (w.alloc (.cells #[.slice VA a.vs.length VC, .slice PA a.P.length PC] 45)) 45 [.slice UA b.vs.length UC, .slice QA b.P.length QC]).alloc (.cells #[.slice none 0 0, .slice none 0 0] 45)
    rw [World.size_alloc] at h
    rw [hW0]; exact h
  obtain ⟨gr, hgr⟩ : ∃ gr, gr = w.heap.size + 1 + 1 := ⟨_, rfl⟩
  have HRR : Hid (Row W0 gr 45 [.slice none 0 0, .slice none 0 0]) := by
    show Row _ _ _ _
    have h := Row.new ((w.alloc (.cells #[.slice VA a.vs.length VC, .slice PA a.P.length PC] 45)).alloc (.cells #[.slice UA b.vs.length UC, .slice QA b.P.length QC] 45)) 45 [.slice none 0 0, .slice none 0 0]
    rw [World.size_alloc, World.size_alloc] at h
    rw [hW0, hgr]; exact h
  have HZ : Hid (W0.heap.size = gr + 1 ∧ w.heap.size ≤ gr) := ⟨by rw [hW0, hgr]; simp, by omega⟩
  have HX0 := Lib.hid hx0
  have HV := Lib.hid (fun W (h : Below w.heap.size w W) => ((Sl.below hv h (Nat.le_refl _)).more h.size : SlI .i64 W.heap.size W VA (a.vs.map Int.ofNat)))
  have HU := Lib.hid (fun W (h : Below w.heap.size w W) => ((Sl.below hu h (Nat.le_refl _)).more h.size : SlI .i64 W.heap.size W UA (b.vs.map Int.ofNat)))
  have HP := Lib.hid (fun W (h : Below w.heap.size w W) => hP.upB h)
  have HQ := Lib.hid (fun W (h : Below w.heap.size w W) => hQ.upB h)
  have HC := Lib.hid (And.intro (And.intro c1 (And.intro c2 (And.intro c3 c4))) (And.intro d1 (And.intro d2 (And.intro d3 d4))))
  have HGA := Lib.hid ga
  have HGB := Lib.hid gb
  have HGJ := Lib.hid (joinR_gd2 ga gb hm)
  have HSR := Lib.hid (semi_ref ga gb)
  have H8 := Lib.hid h8
  have HUP : Hid (∀ W, Below W0.heap.size W0 W → (W.cell? ⟨w.heap.size, 0, none⟩ = some (.slice VA a.vs.length VC) ∧ W.cell? ⟨w.heap.size, 1, none⟩ = some (.slice PA a.P.length PC)) ∧ W.cell? ⟨w.heap.size + 1, 0, none⟩ = some (.slice UA b.vs.length UC) ∧ W.cell? ⟨w.heap.size + 1, 1, none⟩ = some (.slice QA b.P.length QC)) := fun W h => ⟨⟨(HRA.out.up h).cell 0, (HRA.out.up h).cell 1⟩, (HRB.out.up h).cell 0, (HRB.out.up h).cell 1⟩
  have HWU : Hid (∀ W, Below W0.heap.size W0 W → Below w.heap.size w W) := fun W h => Below.then HX0.out.below h HX0.out.size
  have HW0E : Hid (((w.alloc (.cells #[.slice VA a.vs.length VC, .slice PA a.P.length PC] 45)).alloc (.cells #[.slice UA b.vs.length UC, .slice QA b.P.length QC] 45)).alloc (.cells #[.slice none 0 0, .slice none 0 0] 45) = W0 ∧ w.heap.size + 1 + 1 = gr) := ⟨hW0.symm, hgr.symm⟩
  clear hv hu hP hQ ga gb hm h8 hx0 hW0 hgr c1 c2 c3 c4 d1 d2 d3 d4
  go_enter Tryz.func14, Tryz.ntmps14
  go_upto_region 1 with (fail)
  rw [HW0E.out.1, HW0E.out.2]
  clear HW0E
  refine regionZ (S := (fun w' => (w'.cell? ⟨w.heap.size, 0, none⟩ = some (.slice VA a.vs.length VC) ∧ w'.cell? ⟨w.heap.size, 1, none⟩ = some (.slice PA a.P.length PC)) ∧ w'.cell? ⟨w.heap.size + 1, 0, none⟩ = some (.slice UA b.vs.length UC) ∧ w'.cell? ⟨w.heap.size + 1, 1, none⟩ = some (.slice QA b.P.length QC))) 7 (by kernel_rfl) (HUP.out W0.drew (Below.refl _ _).drew) (fun hHeld => ?_)
  refine takeZ (i := 0) (v := ?_) (some 5) rfl rfl (by kernel_rfl) (by decide) (by kernel_rfl) (by kernel_rfl) (by kernel_rfl) (by kernel_rfl) (fun _ _ _ h => h) (Or.inl ⟨by rfl, ?_⟩) (by assumption) ?_
  rotate_left 1
  · (intro w0 hSw; (try dsimp only at hSw); go_simp; try (with_reducible rfl))
  try simp only [Act.put, List.setIfInBounds_toArray, List.set_cons_succ, List.set_cons_zero]
  refine takeZ (i := 1) (v := ?_) (some 6) rfl rfl (by kernel_rfl) (by decide) (by kernel_rfl) (by kernel_rfl) (by kernel_rfl) (by kernel_rfl) (fun _ _ _ h => h) (Or.inl ⟨by rfl, ?_⟩) (by assumption) ?_
  rotate_left 1
  · (intro w0 hSw; (try dsimp only at hSw); go_simp; try (with_reducible rfl))
  try simp only [Act.put, List.setIfInBounds_toArray, List.set_cons_succ, List.set_cons_zero]
  refine takeZ (i := 4) (v := ?_) (some 9) rfl rfl (by kernel_rfl) (by decide) (by kernel_rfl) (by kernel_rfl) (by kernel_rfl) (by kernel_rfl) (fun _ _ _ h => h) (Or.inl ⟨by rfl, ?_⟩) (by assumption) ?_
  rotate_left 1
  · (intro w0 hSw; (try dsimp only at hSw); go_simp; try (with_reducible rfl))
  try simp only [Act.put, List.setIfInBounds_toArray, List.set_cons_succ, List.set_cons_zero]
  refine oneZ (i := 2) (by kernel_rfl) rfl (by decide) (fun K hK => ?_)
  go_simp
  obtain ⟨V1, hV1⟩ : ∃ V1, V1 = (W0.alloc (.cells #[.slice VA a.vs.length VC, .slice PA a.P.length PC, .slice UA b.vs.length UC, .slice QA b.P.length QC] 45)).drew := ⟨_, rfl⟩
  rw [← hV1]
  obtain ⟨g7, hg7⟩ : ∃ g7, g7 = W0.heap.size := ⟨_, rfl⟩
  rw [← hg7]
  have HV1 : Hid (Below W0.heap.size W0 V1) := by show Below _ _ _; rw [hV1]; exact ((Ext.refl W0).alloc _).below.drew
  have HR7 : Hid (Row V1 g7 45 [.slice VA a.vs.length VC, .slice PA a.P.length PC, .slice UA b.vs.length UC, .slice QA b.P.length QC]) := by show Row _ _ _ _; rw [hV1, hg7]; exact (Row.new W0 45 _).drew
  have HJ := Lib.hid (r36Join_any (some ⟨g7, 0, none⟩) 2 [a, b] V1 (two_refs HR7.out HC.out.1 HC.out.2 (HV.out V1 (HWU.out V1 HV1.out)) (HP.out V1 (HWU.out V1 HV1.out)) (HU.out V1 (HWU.out V1 HV1.out)) (HQ.out V1 (HWU.out V1 HV1.out))) (by simp) (gd2 HGA.out HGB.out) H8.out)
  clear hV1 hg7
  refine hK.out _ _ (HUP.out V1 HV1.out) (fun hHeld => ?_)
  clear hK K
  try simp only [Act.put, List.setIfInBounds_toArray, List.set_cons_succ, List.set_cons_zero]
  refine oneZ (i := 3) (by kernel_rfl) rfl (by decide) (fun K hK => ?_)
  go_simp
  refine HJ.out.mono ?_
  rintro e V2 ⟨v1, rfl, hr, hb⟩
  have HV2 : Hid (Below W0.heap.size W0 V2) := Below.then HV1.out hb HV1.out.size
  have HRJ := Lib.hid hr
  clear hr hb HJ
  go_wp2_with fail
  refine hK.out _ _ (HUP.out V2 HV2.out) (fun hHeld => ?_)
  clear hK K
  try simp only [Act.put, List.setIfInBounds_toArray, List.set_cons_succ, List.set_cons_zero]
  refine oneZ (i := 5) (by kernel_rfl) rfl (by decide) (fun K hK => ?_)
  go_simp
  refine (r36Set_any VA PA VC PC a.P.length a.vs V2 (HV.out V2 (HWU.out V2 HV2.out)) (by have := HGA.out.vl; omega) HGA.out.asc HGA.out.lt).mono ?_
  rintro e V3 ⟨rfl, hx⟩
  have HV3 : Hid (Below W0.heap.size W0 V3) := Below.then HV2.out hx.below HV2.out.size
  have HPJ := Lib.hid (r36Project_any v1 (joinR [a, b]) (setN a.vs) a.vs V3 (HRJ.out.up hx.below) HGJ.out (fun v _ => bit_if (setN_bit a.vs v)))
  unfold ProjRP at HPJ
  rw [HSR.out] at HPJ
  clear hx HRJ
  go_wp2_with fail
  refine hK.out _ _ (HUP.out V3 HV3.out) (fun hHeld => ?_)
  clear hK K
  try simp only [Act.put, List.setIfInBounds_toArray, List.set_cons_succ, List.set_cons_zero]
  refine oneZ (i := 6) (by kernel_rfl) rfl (by decide) (fun K hK => ?_)
  go_simp
  refine HPJ.out.mono ?_
  rintro e V4 ⟨v2, rfl, ⟨NA, NC, MA, MC, rfl, k1, k2, k3, k4, hk⟩, hb⟩
  have HV4 : Hid (Below W0.heap.size W0 V4) := Below.then HV3.out hb HV3.out.size
  have HRR4 := Lib.hid (HRR.out.up HV4.out)
  have HKK := Lib.hid (And.intro (And.intro k1 k2) (And.intro k3 k4))
  have HK := Lib.hid hk
  have HZ3 : Hid (gr < V3.heap.size) := by have := HV3.out.size; have := HZ.out.1; show _ < _; omega
  have m0 : V4.cell? ⟨gr, 0, none⟩ = some (.slice none 0 0) := HRR4.out.cell 0
  have m1 : V4.cell? ⟨gr, 1, none⟩ = some (.slice none 0 0) := HRR4.out.cell 1
  have m2 := HRR4.out.frozen 0
  have m3 := HRR4.out.frozen 1
  have m4 := HRR4.out.lt
  clear k1 k2 k3 k4 hk hb HPJ
  go_wp2_with fail
  refine hK.out _ _ (HUP.out V4 HV4.out) (fun hHeld => ?_)
  clear hK K
  try simp only [Act.put, List.setIfInBounds_toArray, List.set_cons_succ, List.set_cons_zero]
  refine lastZ (by kernel_rfl) rfl (by kernel_rfl) (fun K hK => ?_)
  go_simp
  go_wp2_with fail
  refine hK.out _ _ ?_
  clear hK K
  try simp only [Act.put, List.setIfInBounds_toArray, List.set_cons_succ, List.set_cons_zero]
  clear hHeld
  generalize hs : semiF a b = Z at *
  have HZE := Lib.hid hs
  clear hs
  obtain ⟨V6, hV6⟩ : ∃ V', V' = (V4.setCell ⟨gr, 0, none⟩ (.slice NA a.vs.length NC)).setCell ⟨gr, 1, none⟩ (.slice MA Z.length MC) := ⟨_, rfl⟩
  rw [← hV6]
  have q : Row V6 gr 45 [.slice NA a.vs.length NC, .slice MA Z.length MC] := by rw [hV6]; exact (HRR4.out.set 0 _).set 1 _
  have f0 := q.cell 0
  have f1 := q.cell 1
  have hcell : ∀ p : Addr, p.block ≠ gr → V6.cell? p = V4.cell? p := fun p hp => by
    rw [hV6, World.cell?_setCell_other _ _ _ _ (fun e => hp (by rw [← e])), World.cell?_setCell_other _ _ _ _ (fun e => hp (by rw [← e]))]
  have hsz : V6.heap.size = V4.heap.size := by rw [hV6]; simp
  obtain ⟨n1, n2⟩ := HK.out V6 fun p h1 _ => hcell p (by have := HZ3.out; omega)
  have HN12 : Hid (SlI .i64 V6.heap.size V6 NA (a.vs.map Int.ofNat) ∧ SlRs V6.heap.size V6 MA Z) := ⟨by rw [hsz]; exact n1, by rw [hsz]; exact n2⟩
  have HEND : Hid (Below w.heap.size w V6) := by
    show Below _ _ _
    have hb := HWU.out V4 HV4.out
    rw [hV6]
    exact (hb.setCell (p := ⟨gr, 0, none⟩) HZ.out.2 _).setCell (p := ⟨gr, 1, none⟩) HZ.out.2 _
  clear hV6 hcell hsz n1 n2 q m0 m1 m2 m3 m4
  go_wp2_with fail
  refine bodyPost_ret (v := .agg #[.slice NA a.vs.length NC, .slice MA Z.length MC]) (by simp [results, Tryz.results14, go_sem, f0, f1]) rfl ?_
  rw [HZE.out]
  exact ⟨_, rfl, ⟨NA, NC, MA, MC, by rw [List.length_map], HKK.out.1.1, HKK.out.1.2, HKK.out.2.1, HKK.out.2.2, HN12.out.1, HN12.out.2⟩, HEND.out⟩
end
end Go.Proofs.YthgaflmldbgbnaaGreatDoor

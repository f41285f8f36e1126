/- Parts of the proof, merged: Z37a, Z37b, Z37c. -/
import Derived.Test.YtgaffbdcpkbdhaaQ8

section
/- Walk: do, pin and unpin. -/
namespace Go.Proofs.Ytgaffbdcpkbdhaa
open Go.RowKit Go.Sort Go.ChangeMaps Go.WideShapes

set_option maxHeartbeats 8000000 in
set_option maxRecDepth 100000 in
theorem l16do_pin (P : Nat → Prop) (X : Sch) (m rval : Value) (l : Int) (V : List Ver) (vs : List RV) (bs : List (List Upd)) (B : Nat) (a : ActR) (UA : Option Addr) (UC : Nat) (w : World) (hst : StM P X w m V) (hrs : RStP P w rval vs bs) (hrel : RelR X V l vs bs B) (hB : B ≤ 60) (_hXl : X.length ≤ 1000) (hPn : ∀ b, w.heap.size ≤ b → P b) (hfit : ActFit a) (hUP : ∀ w', Stay P w w' → UpdsM w'.heap.size w' UA a.us) (hk : a.kind % 5 = 2) :
    Calls Try.prog 24 #[.agg #[m, .int .i64 l], rval, .agg #[.int .u8 (a.kind : Nat), .int .i64 a.num, .slice UA a.us.length UC]] w (DoPost P X B w) := by
  obtain ⟨b0, rfl⟩ := hst.form
  obtain ⟨VA, VC, BA, BC, hds, rfl, hall⟩ := id hrs
  obtain ⟨kd, nj, us⟩ := a
  have hkd : kd ≤ 255 := hfit.1
  have HNW : Hid ((Lit.int .i64 nj).wf = true) := hfit.2.1
  have HUL : Hid (us.length ≤ 12) := hfit.2.2.1
  have HOK := Lib.hid hfit.upd
  have hk : kd % 5 = 2 := hk
  obtain ⟨W0, hW0⟩ : ∃ W0, W0 = ((((w.alloc (.cells #[.map (some b0), .int .i64 l] 31)).alloc (.cells #[.slice VA vs.length VC, .slice BA bs.length BC] 66)).alloc (.cells #[.int .u8 (kd : Nat), .int .i64 nj, .slice UA us.length UC] 51)).alloc (.cells #[.map none, .int .i64 0] 31)).alloc (.cells #[.slice none 0 0, .slice none 0 0] 66) := ⟨_, rfl⟩
  have hx0 : Ext w W0 := by rw [hW0]; exact (((((Ext.refl w).alloc _).alloc _).alloc _).alloc _).alloc _
  have HX0 := Lib.hid hx0
  have HR1 : Hid (Row W0 w.heap.size 31 [.map (some b0), .int .i64 l]) := by show Row _ _ _ _; rw [hW0]; exact ((((Row.new w _ _).alloc _).alloc _).alloc _).alloc _
  have HR2 : Hid (Row W0 (w.heap.size + 1) 66 [.slice VA vs.length VC, .slice BA bs.length BC]) := by
    show Row _ _ _ _; rw [hW0]
    have h := Row.new (w.alloc (.cells #[.map (some b0), .int .i64 l] 31)) 66 [.slice VA vs.length VC, .slice BA bs.length BC]
    simp only [World.size_alloc] at h
    exact ((h.alloc _).alloc _).alloc _
  have HR3 : Hid (Row W0 (w.heap.size + 2) 51 [.int .u8 (kd : Nat), .int .i64 nj, .slice UA us.length UC]) := by
    show Row _ _ _ _; rw [hW0]
    have h := Row.new ((w.alloc (.cells #[.map (some b0), .int .i64 l] 31)).alloc (.cells #[.slice VA vs.length VC, .slice BA bs.length BC] 66)) 51 [.int .u8 (kd : Nat), .int .i64 nj, .slice UA us.length UC]
    simp only [World.size_alloc] at h
    exact (h.alloc _).alloc _
  have HR6 : Hid (Row W0 (w.heap.size + 3) 31 [.map none, .int .i64 0]) := by
    show Row _ _ _ _; rw [hW0]
    have h := Row.new (((w.alloc (.cells #[.map (some b0), .int .i64 l] 31)).alloc (.cells #[.slice VA vs.length VC, .slice BA bs.length BC] 66)).alloc (.cells #[.int .u8 (kd : Nat), .int .i64 nj, .slice UA us.length UC] 51)) 31 [.map none, .int .i64 0]
    simp only [World.size_alloc] at h
    exact h.alloc _
  have HR7 : Hid (Row W0 (w.heap.size + 4) 66 [.slice none 0 0, .slice none 0 0]) := by
    show Row _ _ _ _; rw [hW0]
    have h := Row.new ((((w.alloc (.cells #[.map (some b0), .int .i64 l] 31)).alloc (.cells #[.slice VA vs.length VC, .slice BA bs.length BC] 66)).alloc (.cells #[.int .u8 (kd : Nat), .int .i64 nj, .slice UA us.length UC] 51)).alloc (.cells #[.map none, .int .i64 0] 31)) 66 [.slice none 0 0, .slice none 0 0]
    simp only [World.size_alloc] at h
    exact h
  have HZ : Hid (w.heap.size + 4 < W0.heap.size) := HR7.out.lt
  have hPP : ∀ b, b < w.heap.size → P b → (P b ∧ b ≠ w.heap.size + 3 ∧ b ≠ w.heap.size + 4) := fun b hb hp => ⟨hp, by omega, by omega⟩
  have HST := Lib.hid ((hst.weak hPP).up hx0.below)
  have HRS := Lib.hid (hrs.sub hx0.below hPP)
  have HUP : Hid (∀ W, Below w.heap.size w W → ∀ w', Stay (fun b => P b ∧ b ≠ w.heap.size + 3 ∧ b ≠ w.heap.size + 4) W w' → UpdsM w'.heap.size w' UA us) := fun W hb w' hs => hUP w' (Stay.sub hb hPP hs)
  have HPN : Hid (∀ W : World, W0.heap.size ≤ W.heap.size → ∀ b, W.heap.size ≤ b → (P b ∧ b ≠ w.heap.size + 3 ∧ b ≠ w.heap.size + 4)) := fun W h1 b h2 => by
    have := HZ.out
    exact ⟨hPn b (by omega), by omega, by omega⟩
  have HREL := Lib.hid hrel
  have HFA := Lib.hid hrel.facts
  have HW0 := Lib.hid hW0
  clear hst hrs hall hfit hUP hx0 hPP hrel hW0 hPn
  have s0 : W0.cell? ⟨w.heap.size, 0, none⟩ = some (.map (some b0)) := HR1.out.cell 0
  have s1 : W0.cell? ⟨w.heap.size, 1, none⟩ = some (.int .i64 l) := HR1.out.cell 1
  have a0 : W0.cell? ⟨w.heap.size + 2, 0, none⟩ = some (.int .u8 (kd : Nat)) := HR3.out.cell 0
  have a1 : W0.cell? ⟨w.heap.size + 2, 1, none⟩ = some (.int .i64 nj) := HR3.out.cell 1
  have a2 : W0.cell? ⟨w.heap.size + 2, 2, none⟩ = some (.slice UA us.length UC) := HR3.out.cell 2
  have z1 := HR1.out.lt
  have z3 := HR3.out.lt
  have q2 : (((kd : Int) % 5) == 2) = true := by have : (kd : Int) % 5 = 2 := by omega
                                                 rw [this]; rfl
  have HP1 := Lib.hid (snPin_all (n := nj) HST.out (HPN.out W0 (Nat.le_refl _)) HREL.out.good (by omega) HNW.out)
  have HRL := Lib.hid (HREL.out.pin nj)
  clear hk
  go_enter Try.func24, Try.ntmps24
  go_upto_region 3 with (fail)
  rw [← HW0.out]
  clear HW0
  go_wp2_with fail
  clear s0 s1 a0 a1 a2
  refine HP1.out.mono ?_
  rintro e w1 ⟨m1, rfl, -, hst1, hb1⟩
  have HW2a : Hid (W0.heap.size ≤ w1.heap.size) := hb1.size
  obtain ⟨g9, hg9⟩ : ∃ g, g = w1.heap.size := ⟨_, rfl⟩
  obtain ⟨W2, hW2⟩ : ∃ W, W = w1.alloc (.cells #[.map (some m1), .int .i64 l] 31) := ⟨_, rfl⟩
  have hx2 : Ext w1 W2 := by rw [hW2]; exact (Ext.refl w1).alloc _
  have HB02 := Lib.hid (Below.then hb1 hx2.below hb1.size)
  have HG9R : Hid (Row W2 g9 31 [.map (some m1), .int .i64 l]) := by show Row _ _ _ _; rw [hW2, hg9]; exact Row.new w1 31 _
  have HST2 := Lib.hid (hst1.up hx2.below)
  have HBW2 := Lib.hid (Below.then HX0.out.below HB02.out HX0.out.size)
  have HFB := HFA.out
  have HP3 := Lib.hid (r16Pin_any _ _ vs bs nj (1) W2 (HRS.out.up HB02.out) (HPN.out W2 HB02.out.size) (by omega) HFB.2.2.2.1 (fun r hr => by have := HFB.2.2.2.2 r hr; omega) (by omega))
  have HR22 := Lib.hid (HR2.out.up HB02.out)
  have HR32 := Lib.hid (HR3.out.up HB02.out)
  have r0 : W2.cell? ⟨w.heap.size + 1, 0, none⟩ = some (.slice VA vs.length VC) := HR22.out.cell 0
  have r1 : W2.cell? ⟨w.heap.size + 1, 1, none⟩ = some (.slice BA bs.length BC) := HR22.out.cell 1
  have a1 : W2.cell? ⟨w.heap.size + 2, 1, none⟩ = some (.int .i64 nj) := HR32.out.cell 1
  have z2 := HR22.out.lt
  have z4 := HR32.out.lt
  have HW2 := Lib.hid hW2
  have HG9 := Lib.hid hg9
  clear hst1 hb1 hg9 hW2 hx2 HP1 HFB z1 z3
  go_upto_region 4 with (fail)
  rw [← HW2.out, ← HG9.out]
  clear HW2
  go_wp2_with fail
  clear r0 r1 a1 z2 z4
  refine HP3.out.mono ?_
  rintro e w3 ⟨rv, rfl, hrs3, hb3⟩
  rw [HRL.out.1]
  obtain ⟨VA3, VC3, BA3, BC3, hds3, rfl, hall3⟩ := id hrs3
  clear hall3
  obtain ⟨g11, hg11⟩ : ∃ g, g = w3.heap.size := ⟨_, rfl⟩
  obtain ⟨W4, hW4⟩ : ∃ W, W = w3.alloc (.cells #[.slice VA3 (pinRef vs nj (1)).2.length VC3, .slice BA3 bs.length BC3] 66) := ⟨_, rfl⟩
  have hx4 : Ext w3 W4 := by rw [hW4]; exact (Ext.refl w3).alloc _
  have HB24 := Lib.hid (Below.then hb3 hx4.below hb3.size)
  have HG11R : Hid (Row W4 g11 66 [.slice VA3 (pinRef vs nj (1)).2.length VC3, .slice BA3 bs.length BC3]) := by show Row _ _ _ _; rw [hW4, hg11]; exact Row.new w3 66 _
  have HG9R4 := Lib.hid (HG9R.out.up HB24.out)
  have HB04 := Lib.hid (Below.then HB02.out HB24.out HB02.out.size)
  have HR64 := Lib.hid (HR6.out.up HB04.out)
  have HR74 := Lib.hid (HR7.out.up HB04.out)
  have HST4 := Lib.hid (HST2.out.up HB24.out)
  have HRS4 := Lib.hid (hrs3.up hx4.below)
  have HBW4 := Lib.hid (Below.then HBW2.out HB24.out HBW2.out.size)
  have HNE : Hid (w.heap.size + 3 ≠ g9 ∧ w.heap.size + 3 ≠ g11 ∧ w.heap.size + 4 ≠ g9 ∧ w.heap.size + 4 ≠ g11) := by
    have h1 := HZ.out
    have h2 : g9 = _ := HG9.out
    have h3 := HW2a.out
    have h4 := HB02.out.size
    have h5 := hb3.size
    have h6 : w1.heap.size < W2.heap.size := by rw [← h2]; exact HG9R.out.lt
    exact ⟨by omega, by omega, by omega, by omega⟩
  have HW4 := Lib.hid hW4
  have HG11 := Lib.hid hg11
  have k0 : W4.drew.cell? ⟨g9, 0, none⟩ = some (.map (some m1)) := HG9R4.out.cell 0
  have k1 : W4.drew.cell? ⟨g9, 1, none⟩ = some (.int .i64 l) := HG9R4.out.cell 1
  have k2 : W4.drew.cell? ⟨g11, 0, none⟩ = some (.slice VA3 (pinRef vs nj (1)).2.length VC3) := HG11R.out.cell 0
  have k3 : W4.drew.cell? ⟨g11, 1, none⟩ = some (.slice BA3 bs.length BC3) := HG11R.out.cell 1
  clear hrs3 hb3 hg11 hW4 hx4 HP3
  go_upto_region 5 with (fail)
  rw [← HW4.out, ← HG11.out]
  clear HW4
  refine wp_region_held_drew (S := (fun w' => w'.cell? ⟨g9, 0, none⟩ = some (.map (some m1)) ∧ w'.cell? ⟨g9, 1, none⟩ = some (.int .i64 l) ∧ w'.cell? ⟨g11, 0, none⟩ = some (.slice VA3 (pinRef vs nj (1)).2.length VC3) ∧ w'.cell? ⟨g11, 1, none⟩ = some (.slice BA3 bs.length BC3))) (by kernel_rfl) ⟨k0, k1, k2, k3⟩ (fun hHeld => ?_)
  refine takeOp (i := 0) (v := ?_) (some 49) rfl rfl (by kernel_rfl) (by kernel_rfl) (by kernel_rfl) (fun _ _ _ h => h) (Or.inl ⟨by rfl, ?_⟩) (by assumption) ?_
  rotate_left 1
  · (intro w0 hSw; (try dsimp only at hSw); go_simp; try (with_reducible rfl))
  try simp only [Act.put]
  try simp only [List.setIfInBounds_toArray]
  try simp only [List.set_cons_succ]
  try simp only [List.set_cons_zero]
  refine takeOp (i := 1) (v := ?_) (some 50) rfl rfl (by kernel_rfl) (by kernel_rfl) (by kernel_rfl) (fun _ _ _ h => h) (Or.inl ⟨by rfl, ?_⟩) (by assumption) ?_
  rotate_left 1
  · (intro w0 hSw; (try dsimp only at hSw); go_simp; try (with_reducible rfl))
  try simp only [Act.put]
  try simp only [List.setIfInBounds_toArray]
  try simp only [List.set_cons_succ]
  try simp only [List.set_cons_zero]
  refine takeOp (i := 2) (v := ?_) (some 51) rfl rfl (by kernel_rfl) (by kernel_rfl) (by kernel_rfl) (fun _ _ _ h => h) (Or.inl ⟨by rfl, ?_⟩) (by assumption) ?_
  rotate_left 1
  · (intro w0 hSw; (try dsimp only at hSw); go_simp; try (with_reducible rfl))
  try simp only [Act.put]
  try simp only [List.setIfInBounds_toArray]
  try simp only [List.set_cons_succ]
  try simp only [List.set_cons_zero]
  refine takeOp (i := 3) (v := ?_) (some 52) rfl rfl (by kernel_rfl) (by kernel_rfl) (by kernel_rfl) (fun _ _ _ h => h) (Or.inl ⟨by rfl, ?_⟩) (by assumption) ?_
  rotate_left 1
  · (intro w0 hSw; (try dsimp only at hSw); go_simp; try (with_reducible rfl))
  try simp only [Act.put]
  try simp only [List.setIfInBounds_toArray]
  try simp only [List.set_cons_succ]
  try simp only [List.set_cons_zero]
  refine takeOp (i := 4) (v := ?_) (some 53) rfl rfl (by kernel_rfl) (by kernel_rfl) (by kernel_rfl) (fun _ _ _ h => h) (Or.inl ⟨by rfl, ?_⟩) (by assumption) ?_
  rotate_left 1
  · (intro w0 hSw; (try dsimp only at hSw); go_simp; try (with_reducible rfl))
  try simp only [Act.put]
  try simp only [List.setIfInBounds_toArray]
  try simp only [List.set_cons_succ]
  try simp only [List.set_cons_zero]
  refine wpAnyH_ready (rs := [5]) (by kernel_rfl) (by simp) ?_
  refine AllReadyH.cons rfl (fun K hK => ?_) AllReadyH.nil
  have m0 : W4.cell? ⟨w.heap.size + 3, 0, none⟩ = some (.map none) := HR64.out.cell 0
  have m1' : W4.cell? ⟨w.heap.size + 3, 1, none⟩ = some (.int .i64 0) := HR64.out.cell 1
  have m2 := HR64.out.frozen 0
  have m3 := HR64.out.frozen 1
  have m4 := HR64.out.lt
  go_simp
  obtain ⟨V6, hV6⟩ : ∃ V', V' = ((W4.setCell ⟨w.heap.size + 3, 0, none⟩ (.map (some m1))).setCell ⟨w.heap.size + 3, 1, none⟩ (.int .i64 l)).drew := ⟨_, rfl⟩
  rw [← hV6]
  have HS6 : Hid (Stay (fun b => P b ∧ b ≠ w.heap.size + 3 ∧ b ≠ w.heap.size + 4) W4 V6) := by show Stay _ _ _; rw [hV6]; exact (Stay.two6 _ _).drawn
  have HB6 : Hid (Below w.heap.size w V6) := by show Below _ _ _; rw [hV6]; exact ((HBW4.out.setCell (by show w.heap.size ≤ w.heap.size + 3; omega) _).setCell (by show w.heap.size ≤ w.heap.size + 3; omega) _).drew
  have HR66 : Hid (Row V6 (w.heap.size + 3) 31 [.map (some m1), .int .i64 l]) := by show Row _ _ _ _; rw [hV6]; exact HR64.out.set2 _ _
  have HR76 : Hid (Row V6 (w.heap.size + 4) 66 [.slice none 0 0, .slice none 0 0]) := by show Row _ _ _ _; rw [hV6]; exact (HR74.out.far (show w.heap.size + 4 ≠ w.heap.size + 3 by omega) _).far (show w.heap.size + 4 ≠ w.heap.size + 3 by omega) _
  have K6 : V6.cell? ⟨g9, 0, none⟩ = some (.map (some m1)) ∧ V6.cell? ⟨g9, 1, none⟩ = some (.int .i64 l) ∧ V6.cell? ⟨g11, 0, none⟩ = some (.slice VA3 (pinRef vs nj (1)).2.length VC3) ∧ V6.cell? ⟨g11, 1, none⟩ = some (.slice BA3 bs.length BC3) := by
    rw [hV6]
    exact ⟨far_cell HNE.out.1 (far_cell HNE.out.1 (HG9R4.out.cell 0)), far_cell HNE.out.1 (far_cell HNE.out.1 (HG9R4.out.cell 1)), far_cell HNE.out.2.1 (far_cell HNE.out.2.1 (HG11R.out.cell 0)), far_cell HNE.out.2.1 (far_cell HNE.out.2.1 (HG11R.out.cell 1))⟩
  clear m0 m1' m2 m3 m4 hV6
  refine hK.out _ _ K6 (fun hHeld => ?_)
  clear hK K
  try simp only [Act.put]
  try simp only [List.setIfInBounds_toArray]
  try simp only [List.set_cons_succ]
  try simp only [List.set_cons_zero]
  refine wpAnyH_ready (rs := [6]) (by kernel_rfl) (by simp) ?_
  refine AllReadyH.cons rfl (fun K hK => ?_) AllReadyH.nil
  have m0 : V6.cell? ⟨w.heap.size + 4, 0, none⟩ = some (.slice none 0 0) := HR76.out.cell 0
  have m1' : V6.cell? ⟨w.heap.size + 4, 1, none⟩ = some (.slice none 0 0) := HR76.out.cell 1
  have m2 := HR76.out.frozen 0
  have m3 := HR76.out.frozen 1
  have m4 := HR76.out.lt
  go_simp
  obtain ⟨V7, hV7⟩ : ∃ V', V' = (V6.setCell ⟨w.heap.size + 4, 0, none⟩ (.slice VA3 (pinRef vs nj (1)).2.length VC3)).setCell ⟨w.heap.size + 4, 1, none⟩ (.slice BA3 bs.length BC3) := ⟨_, rfl⟩
  rw [← hV7]
  have HS7 : Hid (Stay (fun b => P b ∧ b ≠ w.heap.size + 3 ∧ b ≠ w.heap.size + 4) W4 V7) := by show Stay _ _ _; rw [hV7]; exact HS6.out.trans (Stay.two7 _ _)
  have HB7 : Hid (Below w.heap.size w V7) := by show Below _ _ _; rw [hV7]; exact (HB6.out.setCell (by show w.heap.size ≤ w.heap.size + 4; omega) _).setCell (by show w.heap.size ≤ w.heap.size + 4; omega) _
  have hr6 : Row V7 (w.heap.size + 3) 31 [.map (some m1), .int .i64 l] := by rw [hV7]; exact (HR66.out.far (show w.heap.size + 3 ≠ w.heap.size + 4 by omega) _).far (show w.heap.size + 3 ≠ w.heap.size + 4 by omega) _
  have hr7 : Row V7 (w.heap.size + 4) 66 [(.slice VA3 (pinRef vs nj (1)).2.length VC3), (.slice BA3 bs.length BC3)] := by rw [hV7]; exact HR76.out.set2 _ _
  have HE0 : Hid (V7.cell? ⟨w.heap.size + 3, 0, none⟩ = some (.map (some m1))) := hr6.cell 0
  have HE1 : Hid (V7.cell? ⟨w.heap.size + 3, 1, none⟩ = some (.int .i64 l)) := hr6.cell 1
  have HE2 : Hid (V7.cell? ⟨w.heap.size + 4, 0, none⟩ = some (.slice VA3 (pinRef vs nj (1)).2.length VC3)) := hr7.cell 0
  have HE3 : Hid (V7.cell? ⟨w.heap.size + 4, 1, none⟩ = some (.slice BA3 bs.length BC3)) := hr7.cell 1
  have HE4 := Lib.hid hr6.lt
  have HE5 := Lib.hid hr7.lt
  have K7 : V7.cell? ⟨g9, 0, none⟩ = some (.map (some m1)) ∧ V7.cell? ⟨g9, 1, none⟩ = some (.int .i64 l) ∧ V7.cell? ⟨g11, 0, none⟩ = some (.slice VA3 (pinRef vs nj (1)).2.length VC3) ∧ V7.cell? ⟨g11, 1, none⟩ = some (.slice BA3 bs.length BC3) := by
    rw [hV7]
    exact ⟨far_cell HNE.out.2.2.1 (far_cell HNE.out.2.2.1 K6.1), far_cell HNE.out.2.2.1 (far_cell HNE.out.2.2.1 K6.2.1), far_cell HNE.out.2.2.2 (far_cell HNE.out.2.2.2 K6.2.2.1), far_cell HNE.out.2.2.2 (far_cell HNE.out.2.2.2 K6.2.2.2)⟩
  clear m0 m1' m2 m3 m4 hV7 hr6 hr7 K6
  refine hK.out _ _ K7 (fun hHeld => ?_)
  clear hK K
  try simp only [Act.put]
  try simp only [List.setIfInBounds_toArray]
  try simp only [List.set_cons_succ]
  try simp only [List.set_cons_zero]
  refine takeOp (i := 7) (v := ?_) (some 8) rfl rfl (by kernel_rfl) (by kernel_rfl) (by kernel_rfl) (fun _ _ _ h => h) (Or.inl ⟨by rfl, ?_⟩) (by assumption) ?_
  rotate_left 1
  · (intro w0 hSw; (try dsimp only at hSw); go_simp; try (with_reducible rfl))
  try simp only [Act.put]
  try simp only [List.setIfInBounds_toArray]
  try simp only [List.set_cons_succ]
  try simp only [List.set_cons_zero]
  refine wpAnyH_done (by kernel_rfl) ?_ _
  have x0 := HE0.out
  have x1 := HE1.out
  have x2 := HE2.out
  have x3 := HE3.out
  have x4 := HE4.out
  have x5 := HE5.out
  clear k0 k1 k2 k3 hHeld
  go_wp2_with fail
  refine bodyPost_ret (v := .tuple #[.agg #[.map (some m1), .int .i64 l], .agg #[.slice VA3 (pinRef vs nj (1)).2.length VC3, .slice BA3 bs.length BC3], .bool true]) (by simp [results, Try.results24, go_sem, x0, x1, x2, x3]) rfl ?_
  exact DoPost.mk HST4.out HRS4.out HRL.out.2 HS7.out HB7.out

set_option maxHeartbeats 8000000 in
set_option maxRecDepth 100000 in
theorem l16do_unpin (P : Nat → Prop) (X : Sch) (m rval : Value) (l : Int) (V : List Ver) (vs : List RV) (bs : List (List Upd)) (B : Nat) (a : ActR) (UA : Option Addr) (UC : Nat) (w : World) (hst : StM P X w m V) (hrs : RStP P w rval vs bs) (hrel : RelR X V l vs bs B) (hB : B ≤ 60) (_hXl : X.length ≤ 1000) (hPn : ∀ b, w.heap.size ≤ b → P b) (hfit : ActFit a) (hUP : ∀ w', Stay P w w' → UpdsM w'.heap.size w' UA a.us) (hk : a.kind % 5 = 3) :
    Calls Try.prog 24 #[.agg #[m, .int .i64 l], rval, .agg #[.int .u8 (a.kind : Nat), .int .i64 a.num, .slice UA a.us.length UC]] w (DoPost P X B w) := by
  obtain ⟨b0, rfl⟩ := hst.form
  obtain ⟨VA, VC, BA, BC, hds, rfl, hall⟩ := id hrs
  obtain ⟨kd, nj, us⟩ := a
  have hkd : kd ≤ 255 := hfit.1
  have HNW : Hid ((Lit.int .i64 nj).wf = true) := hfit.2.1
  have HUL : Hid (us.length ≤ 12) := hfit.2.2.1
  have HOK := Lib.hid hfit.upd
  have hk : kd % 5 = 3 := hk
  obtain ⟨W0, hW0⟩ : ∃ W0, W0 = ((((w.alloc (.cells #[.map (some b0), .int .i64 l] 31)).alloc (.cells #[.slice VA vs.length VC, .slice BA bs.length BC] 66)).alloc (.cells #[.int .u8 (kd : Nat), .int .i64 nj, .slice UA us.length UC] 51)).alloc (.cells #[.map none, .int .i64 0] 31)).alloc (.cells #[.slice none 0 0, .slice none 0 0] 66) := ⟨_, rfl⟩
  have hx0 : Ext w W0 := by rw [hW0]; exact (((((Ext.refl w).alloc _).alloc _).alloc _).alloc _).alloc _
  have HX0 := Lib.hid hx0
  have HR1 : Hid (Row W0 w.heap.size 31 [.map (some b0), .int .i64 l]) := by show Row _ _ _ _; rw [hW0]; exact ((((Row.new w _ _).alloc _).alloc _).alloc _).alloc _
  have HR2 : Hid (Row W0 (w.heap.size + 1) 66 [.slice VA vs.length VC, .slice BA bs.length BC]) := by
    show Row _ _ _ _; rw [hW0]
    have h := Row.new (w.alloc (.cells #[.map (some b0), .int .i64 l] 31)) 66 [.slice VA vs.length VC, .slice BA bs.length BC]
    simp only [World.size_alloc] at h
    exact ((h.alloc _).alloc _).alloc _
  have HR3 : Hid (Row W0 (w.heap.size + 2) 51 [.int .u8 (kd : Nat), .int .i64 nj, .slice UA us.length UC]) := by
    show Row _ _ _ _; rw [hW0]
    have h := Row.new ((w.alloc (.cells #[.map (some b0), .int .i64 l] 31)).alloc (.cells #[.slice VA vs.length VC, .slice BA bs.length BC] 66)) 51 [.int .u8 (kd : Nat), .int .i64 nj, .slice UA us.length UC]
    simp only [World.size_alloc] at h
    exact (h.alloc _).alloc _
  have HR6 : Hid (Row W0 (w.heap.size + 3) 31 [.map none, .int .i64 0]) := by
    show Row _ _ _ _; rw [hW0]
    have h := Row.new (((w.alloc (.cells #[.map (some b0), .int .i64 l] 31)).alloc (.cells #[.slice VA vs.length VC, .slice BA bs.length BC] 66)).alloc (.cells #[.int .u8 (kd : Nat), .int .i64 nj, .slice UA us.length UC] 51)) 31 [.map none, .int .i64 0]
    simp only [World.size_alloc] at h
    exact h.alloc _
  have HR7 : Hid (Row W0 (w.heap.size + 4) 66 [.slice none 0 0, .slice none 0 0]) := by
    show Row _ _ _ _; rw [hW0]
    have h := Row.new ((((w.alloc (.cells #[.map (some b0), .int .i64 l] 31)).alloc (.cells #[.slice VA vs.length VC, .slice BA bs.length BC] 66)).alloc (.cells #[.int .u8 (kd : Nat), .int .i64 nj, .slice UA us.length UC] 51)).alloc (.cells #[.map none, .int .i64 0] 31)) 66 [.slice none 0 0, .slice none 0 0]
    simp only [World.size_alloc] at h
    exact h
  have HZ : Hid (w.heap.size + 4 < W0.heap.size) := HR7.out.lt
  have hPP : ∀ b, b < w.heap.size → P b → (P b ∧ b ≠ w.heap.size + 3 ∧ b ≠ w.heap.size + 4) := fun b hb hp => ⟨hp, by omega, by omega⟩
  have HST := Lib.hid ((hst.weak hPP).up hx0.below)
  have HRS := Lib.hid (hrs.sub hx0.below hPP)
  have HUP : Hid (∀ W, Below w.heap.size w W → ∀ w', Stay (fun b => P b ∧ b ≠ w.heap.size + 3 ∧ b ≠ w.heap.size + 4) W w' → UpdsM w'.heap.size w' UA us) := fun W hb w' hs => hUP w' (Stay.sub hb hPP hs)
  have HPN : Hid (∀ W : World, W0.heap.size ≤ W.heap.size → ∀ b, W.heap.size ≤ b → (P b ∧ b ≠ w.heap.size + 3 ∧ b ≠ w.heap.size + 4)) := fun W h1 b h2 => by
    have := HZ.out
    exact ⟨hPn b (by omega), by omega, by omega⟩
  have HREL := Lib.hid hrel
  have HFA := Lib.hid hrel.facts
  have HW0 := Lib.hid hW0
  clear hst hrs hall hfit hUP hx0 hPP hrel hW0 hPn
  have s0 : W0.cell? ⟨w.heap.size, 0, none⟩ = some (.map (some b0)) := HR1.out.cell 0
  have s1 : W0.cell? ⟨w.heap.size, 1, none⟩ = some (.int .i64 l) := HR1.out.cell 1
  have a0 : W0.cell? ⟨w.heap.size + 2, 0, none⟩ = some (.int .u8 (kd : Nat)) := HR3.out.cell 0
  have a1 : W0.cell? ⟨w.heap.size + 2, 1, none⟩ = some (.int .i64 nj) := HR3.out.cell 1
  have a2 : W0.cell? ⟨w.heap.size + 2, 2, none⟩ = some (.slice UA us.length UC) := HR3.out.cell 2
  have z1 := HR1.out.lt
  have z3 := HR3.out.lt
  have q2 : (((kd : Int) % 5) == 2) = false := by have : (kd : Int) % 5 ≠ 2 := by omega
                                                  simpa using this
  have q3 : (((kd : Int) % 5) == 3) = true := by have : (kd : Int) % 5 = 3 := by omega
                                                 rw [this]; rfl
  have HP1 := Lib.hid (snUnpin_all (n := nj) HST.out (HPN.out W0 (Nat.le_refl _)) HREL.out.good (by omega) HNW.out)
  have HRL := Lib.hid (HREL.out.unpin nj)
  clear hk
  go_enter Try.func24, Try.ntmps24
  go_upto_region 7 with (fail)
  rw [← HW0.out]
  clear HW0
  go_wp2_with fail
  clear s0 s1 a0 a1 a2
  refine HP1.out.mono ?_
  rintro e w1 ⟨m1, rfl, -, hst1, hb1⟩
  have HW2a : Hid (W0.heap.size ≤ w1.heap.size) := hb1.size
  obtain ⟨g9, hg9⟩ : ∃ g, g = w1.heap.size := ⟨_, rfl⟩
  obtain ⟨W2, hW2⟩ : ∃ W, W = w1.alloc (.cells #[.map (some m1), .int .i64 l] 31) := ⟨_, rfl⟩
  have hx2 : Ext w1 W2 := by rw [hW2]; exact (Ext.refl w1).alloc _
  have HB02 := Lib.hid (Below.then hb1 hx2.below hb1.size)
  have HG9R : Hid (Row W2 g9 31 [.map (some m1), .int .i64 l]) := by show Row _ _ _ _; rw [hW2, hg9]; exact Row.new w1 31 _
  have HST2 := Lib.hid (hst1.up hx2.below)
  have HBW2 := Lib.hid (Below.then HX0.out.below HB02.out HX0.out.size)
  have HFB := HFA.out
  have HP3 := Lib.hid (r16Pin_any _ _ vs bs nj (-1) W2 (HRS.out.up HB02.out) (HPN.out W2 HB02.out.size) (by omega) HFB.2.2.2.1 (fun r hr => by have := HFB.2.2.2.2 r hr; omega) (by omega))
  have HR22 := Lib.hid (HR2.out.up HB02.out)
  have HR32 := Lib.hid (HR3.out.up HB02.out)
  have r0 : W2.cell? ⟨w.heap.size + 1, 0, none⟩ = some (.slice VA vs.length VC) := HR22.out.cell 0
  have r1 : W2.cell? ⟨w.heap.size + 1, 1, none⟩ = some (.slice BA bs.length BC) := HR22.out.cell 1
  have a1 : W2.cell? ⟨w.heap.size + 2, 1, none⟩ = some (.int .i64 nj) := HR32.out.cell 1
  have z2 := HR22.out.lt
  have z4 := HR32.out.lt
  have HW2 := Lib.hid hW2
  have HG9 := Lib.hid hg9
  clear hst1 hb1 hg9 hW2 hx2 HP1 HFB z1 z3
  go_upto_region 8 with (fail)
  rw [← HW2.out, ← HG9.out]
  clear HW2
  go_wp2_with fail
  clear r0 r1 a1 z2 z4
  refine HP3.out.mono ?_
  rintro e w3 ⟨rv, rfl, hrs3, hb3⟩
  rw [HRL.out.1]
  obtain ⟨VA3, VC3, BA3, BC3, hds3, rfl, hall3⟩ := id hrs3
  clear hall3
  obtain ⟨g11, hg11⟩ : ∃ g, g = w3.heap.size := ⟨_, rfl⟩
  obtain ⟨W4, hW4⟩ : ∃ W, W = w3.alloc (.cells #[.slice VA3 (pinRef vs nj (-1)).2.length VC3, .slice BA3 bs.length BC3] 66) := ⟨_, rfl⟩
  have hx4 : Ext w3 W4 := by rw [hW4]; exact (Ext.refl w3).alloc _
  have HB24 := Lib.hid (Below.then hb3 hx4.below hb3.size)
  have HG11R : Hid (Row W4 g11 66 [.slice VA3 (pinRef vs nj (-1)).2.length VC3, .slice BA3 bs.length BC3]) := by show Row _ _ _ _; rw [hW4, hg11]; exact Row.new w3 66 _
  have HG9R4 := Lib.hid (HG9R.out.up HB24.out)
  have HB04 := Lib.hid (Below.then HB02.out HB24.out HB02.out.size)
  have HR64 := Lib.hid (HR6.out.up HB04.out)
  have HR74 := Lib.hid (HR7.out.up HB04.out)
  have HST4 := Lib.hid (HST2.out.up HB24.out)
  have HRS4 := Lib.hid (hrs3.up hx4.below)
  have HBW4 := Lib.hid (Below.then HBW2.out HB24.out HBW2.out.size)
  have HNE : Hid (w.heap.size + 3 ≠ g9 ∧ w.heap.size + 3 ≠ g11 ∧ w.heap.size + 4 ≠ g9 ∧ w.heap.size + 4 ≠ g11) := by
    have h1 := HZ.out
    have h2 : g9 = _ := HG9.out
    have h3 := HW2a.out
    have h4 := HB02.out.size
    have h5 := hb3.size
    have h6 : w1.heap.size < W2.heap.size := by rw [← h2]; exact HG9R.out.lt
    exact ⟨by omega, by omega, by omega, by omega⟩
  have HW4 := Lib.hid hW4
  have HG11 := Lib.hid hg11
  have k0 : W4.drew.cell? ⟨g9, 0, none⟩ = some (.map (some m1)) := HG9R4.out.cell 0
  have k1 : W4.drew.cell? ⟨g9, 1, none⟩ = some (.int .i64 l) := HG9R4.out.cell 1
  have k2 : W4.drew.cell? ⟨g11, 0, none⟩ = some (.slice VA3 (pinRef vs nj (-1)).2.length VC3) := HG11R.out.cell 0
  have k3 : W4.drew.cell? ⟨g11, 1, none⟩ = some (.slice BA3 bs.length BC3) := HG11R.out.cell 1
  clear hrs3 hb3 hg11 hW4 hx4 HP3
  go_upto_region 9 with (fail)
  rw [← HW4.out, ← HG11.out]
  clear HW4
  refine wp_region_held_drew (S := (fun w' => w'.cell? ⟨g9, 0, none⟩ = some (.map (some m1)) ∧ w'.cell? ⟨g9, 1, none⟩ = some (.int .i64 l) ∧ w'.cell? ⟨g11, 0, none⟩ = some (.slice VA3 (pinRef vs nj (-1)).2.length VC3) ∧ w'.cell? ⟨g11, 1, none⟩ = some (.slice BA3 bs.length BC3))) (by kernel_rfl) ⟨k0, k1, k2, k3⟩ (fun hHeld => ?_)
  refine takeOp (i := 0) (v := ?_) (some 70) rfl rfl (by kernel_rfl) (by kernel_rfl) (by kernel_rfl) (fun _ _ _ h => h) (Or.inl ⟨by rfl, ?_⟩) (by assumption) ?_
  rotate_left 1
  · (intro w0 hSw; (try dsimp only at hSw); go_simp; try (with_reducible rfl))
  try simp only [Act.put]
  try simp only [List.setIfInBounds_toArray]
  try simp only [List.set_cons_succ]
  try simp only [List.set_cons_zero]
  refine takeOp (i := 1) (v := ?_) (some 71) rfl rfl (by kernel_rfl) (by kernel_rfl) (by kernel_rfl) (fun _ _ _ h => h) (Or.inl ⟨by rfl, ?_⟩) (by assumption) ?_
  rotate_left 1
  · (intro w0 hSw; (try dsimp only at hSw); go_simp; try (with_reducible rfl))
  try simp only [Act.put]
  try simp only [List.setIfInBounds_toArray]
  try simp only [List.set_cons_succ]
  try simp only [List.set_cons_zero]
  refine takeOp (i := 2) (v := ?_) (some 72) rfl rfl (by kernel_rfl) (by kernel_rfl) (by kernel_rfl) (fun _ _ _ h => h) (Or.inl ⟨by rfl, ?_⟩) (by assumption) ?_
  rotate_left 1
  · (intro w0 hSw; (try dsimp only at hSw); go_simp; try (with_reducible rfl))
  try simp only [Act.put]
  try simp only [List.setIfInBounds_toArray]
  try simp only [List.set_cons_succ]
  try simp only [List.set_cons_zero]
  refine takeOp (i := 3) (v := ?_) (some 73) rfl rfl (by kernel_rfl) (by kernel_rfl) (by kernel_rfl) (fun _ _ _ h => h) (Or.inl ⟨by rfl, ?_⟩) (by assumption) ?_
  rotate_left 1
  · (intro w0 hSw; (try dsimp only at hSw); go_simp; try (with_reducible rfl))
  try simp only [Act.put]
  try simp only [List.setIfInBounds_toArray]
  try simp only [List.set_cons_succ]
  try simp only [List.set_cons_zero]
  refine takeOp (i := 4) (v := ?_) (some 74) rfl rfl (by kernel_rfl) (by kernel_rfl) (by kernel_rfl) (fun _ _ _ h => h) (Or.inl ⟨by rfl, ?_⟩) (by assumption) ?_
  rotate_left 1
  · (intro w0 hSw; (try dsimp only at hSw); go_simp; try (with_reducible rfl))
  try simp only [Act.put]
  try simp only [List.setIfInBounds_toArray]
  try simp only [List.set_cons_succ]
  try simp only [List.set_cons_zero]
  refine wpAnyH_ready (rs := [5]) (by kernel_rfl) (by simp) ?_
  refine AllReadyH.cons rfl (fun K hK => ?_) AllReadyH.nil
  have m0 : W4.cell? ⟨w.heap.size + 3, 0, none⟩ = some (.map none) := HR64.out.cell 0
  have m1' : W4.cell? ⟨w.heap.size + 3, 1, none⟩ = some (.int .i64 0) := HR64.out.cell 1
  have m2 := HR64.out.frozen 0
  have m3 := HR64.out.frozen 1
  have m4 := HR64.out.lt
  go_simp
  obtain ⟨V6, hV6⟩ : ∃ V', V' = ((W4.setCell ⟨w.heap.size + 3, 0, none⟩ (.map (some m1))).setCell ⟨w.heap.size + 3, 1, none⟩ (.int .i64 l)).drew := ⟨_, rfl⟩
  rw [← hV6]
  have HS6 : Hid (Stay (fun b => P b ∧ b ≠ w.heap.size + 3 ∧ b ≠ w.heap.size + 4) W4 V6) := by show Stay _ _ _; rw [hV6]; exact (Stay.two6 _ _).drawn
  have HB6 : Hid (Below w.heap.size w V6) := by show Below _ _ _; rw [hV6]; exact ((HBW4.out.setCell (by show w.heap.size ≤ w.heap.size + 3; omega) _).setCell (by show w.heap.size ≤ w.heap.size + 3; omega) _).drew
  have HR66 : Hid (Row V6 (w.heap.size + 3) 31 [.map (some m1), .int .i64 l]) := by show Row _ _ _ _; rw [hV6]; exact HR64.out.set2 _ _
  have HR76 : Hid (Row V6 (w.heap.size + 4) 66 [.slice none 0 0, .slice none 0 0]) := by show Row _ _ _ _; rw [hV6]; exact (HR74.out.far (show w.heap.size + 4 ≠ w.heap.size + 3 by omega) _).far (show w.heap.size + 4 ≠ w.heap.size + 3 by omega) _
  have K6 : V6.cell? ⟨g9, 0, none⟩ = some (.map (some m1)) ∧ V6.cell? ⟨g9, 1, none⟩ = some (.int .i64 l) ∧ V6.cell? ⟨g11, 0, none⟩ = some (.slice VA3 (pinRef vs nj (-1)).2.length VC3) ∧ V6.cell? ⟨g11, 1, none⟩ = some (.slice BA3 bs.length BC3) := by
    rw [hV6]
    exact ⟨far_cell HNE.out.1 (far_cell HNE.out.1 (HG9R4.out.cell 0)), far_cell HNE.out.1 (far_cell HNE.out.1 (HG9R4.out.cell 1)), far_cell HNE.out.2.1 (far_cell HNE.out.2.1 (HG11R.out.cell 0)), far_cell HNE.out.2.1 (far_cell HNE.out.2.1 (HG11R.out.cell 1))⟩
  clear m0 m1' m2 m3 m4 hV6
  refine hK.out _ _ K6 (fun hHeld => ?_)
  clear hK K
  try simp only [Act.put]
  try simp only [List.setIfInBounds_toArray]
  try simp only [List.set_cons_succ]
  try simp only [List.set_cons_zero]
  refine wpAnyH_ready (rs := [6]) (by kernel_rfl) (by simp) ?_
  refine AllReadyH.cons rfl (fun K hK => ?_) AllReadyH.nil
  have m0 : V6.cell? ⟨w.heap.size + 4, 0, none⟩ = some (.slice none 0 0) := HR76.out.cell 0
  have m1' : V6.cell? ⟨w.heap.size + 4, 1, none⟩ = some (.slice none 0 0) := HR76.out.cell 1
  have m2 := HR76.out.frozen 0
  have m3 := HR76.out.frozen 1
  have m4 := HR76.out.lt
  go_simp
  obtain ⟨V7, hV7⟩ : ∃ V', V' = (V6.setCell ⟨w.heap.size + 4, 0, none⟩ (.slice VA3 (pinRef vs nj (-1)).2.length VC3)).setCell ⟨w.heap.size + 4, 1, none⟩ (.slice BA3 bs.length BC3) := ⟨_, rfl⟩
  rw [← hV7]
  have HS7 : Hid (Stay (fun b => P b ∧ b ≠ w.heap.size + 3 ∧ b ≠ w.heap.size + 4) W4 V7) := by show Stay _ _ _; rw [hV7]; exact HS6.out.trans (Stay.two7 _ _)
  have HB7 : Hid (Below w.heap.size w V7) := by show Below _ _ _; rw [hV7]; exact (HB6.out.setCell (by show w.heap.size ≤ w.heap.size + 4; omega) _).setCell (by show w.heap.size ≤ w.heap.size + 4; omega) _
  have hr6 : Row V7 (w.heap.size + 3) 31 [.map (some m1), .int .i64 l] := by rw [hV7]; exact (HR66.out.far (show w.heap.size + 3 ≠ w.heap.size + 4 by omega) _).far (show w.heap.size + 3 ≠ w.heap.size + 4 by omega) _
  have hr7 : Row V7 (w.heap.size + 4) 66 [(.slice VA3 (pinRef vs nj (-1)).2.length VC3), (.slice BA3 bs.length BC3)] := by rw [hV7]; exact HR76.out.set2 _ _
  have HE0 : Hid (V7.cell? ⟨w.heap.size + 3, 0, none⟩ = some (.map (some m1))) := hr6.cell 0
  have HE1 : Hid (V7.cell? ⟨w.heap.size + 3, 1, none⟩ = some (.int .i64 l)) := hr6.cell 1
  have HE2 : Hid (V7.cell? ⟨w.heap.size + 4, 0, none⟩ = some (.slice VA3 (pinRef vs nj (-1)).2.length VC3)) := hr7.cell 0
  have HE3 : Hid (V7.cell? ⟨w.heap.size + 4, 1, none⟩ = some (.slice BA3 bs.length BC3)) := hr7.cell 1
  have HE4 := Lib.hid hr6.lt
  have HE5 := Lib.hid hr7.lt
  have K7 : V7.cell? ⟨g9, 0, none⟩ = some (.map (some m1)) ∧ V7.cell? ⟨g9, 1, none⟩ = some (.int .i64 l) ∧ V7.cell? ⟨g11, 0, none⟩ = some (.slice VA3 (pinRef vs nj (-1)).2.length VC3) ∧ V7.cell? ⟨g11, 1, none⟩ = some (.slice BA3 bs.length BC3) := by
    rw [hV7]
    exact ⟨far_cell HNE.out.2.2.1 (far_cell HNE.out.2.2.1 K6.1), far_cell HNE.out.2.2.1 (far_cell HNE.out.2.2.1 K6.2.1), far_cell HNE.out.2.2.2 (far_cell HNE.out.2.2.2 K6.2.2.1), far_cell HNE.out.2.2.2 (far_cell HNE.out.2.2.2 K6.2.2.2)⟩
  clear m0 m1' m2 m3 m4 hV7 hr6 hr7 K6
  refine hK.out _ _ K7 (fun hHeld => ?_)
  clear hK K
  try simp only [Act.put]
  try simp only [List.setIfInBounds_toArray]
  try simp only [List.set_cons_succ]
  try simp only [List.set_cons_zero]
  refine takeOp (i := 7) (v := ?_) (some 8) rfl rfl (by kernel_rfl) (by kernel_rfl) (by kernel_rfl) (fun _ _ _ h => h) (Or.inl ⟨by rfl, ?_⟩) (by assumption) ?_
  rotate_left 1
  · (intro w0 hSw; (try dsimp only at hSw); go_simp; try (with_reducible rfl))
  try simp only [Act.put]
  try simp only [List.setIfInBounds_toArray]
  try simp only [List.set_cons_succ]
  try simp only [List.set_cons_zero]
  refine wpAnyH_done (by kernel_rfl) ?_ _
  have x0 := HE0.out
  have x1 := HE1.out
  have x2 := HE2.out
  have x3 := HE3.out
  have x4 := HE4.out
  have x5 := HE5.out
  clear k0 k1 k2 k3 hHeld
  go_wp2_with fail
  refine bodyPost_ret (v := .tuple #[.agg #[.map (some m1), .int .i64 l], .agg #[.slice VA3 (pinRef vs nj (-1)).2.length VC3, .slice BA3 bs.length BC3], .bool true]) (by simp [results, Try.results24, go_sem, x0, x1, x2, x3]) rfl ?_
  exact DoPost.mk HST4.out HRS4.out HRL.out.2 HS7.out HB7.out

end Go.Proofs.Ytgaffbdcpkbdhaa
end

section
/- Walk: do, collection. -/
namespace Go.Proofs.Ytgaffbdcpkbdhaa
open Go.RowKit Go.Sort Go.ChangeMaps Go.WideShapes

set_option maxHeartbeats 8000000 in
set_option maxRecDepth 100000 in
theorem l16do_collect (P : Nat → Prop) (X : Sch) (m rval : Value) (l : Int) (V : List Ver) (vs : List RV) (bs : List (List Upd)) (B : Nat) (a : ActR) (UA : Option Addr) (UC : Nat) (w : World) (hst : StM P X w m V) (hrs : RStP P w rval vs bs) (hrel : RelR X V l vs bs B) (hB : B ≤ 60) (_hXl : X.length ≤ 1000) (hPn : ∀ b, w.heap.size ≤ b → P b) (hfit : ActFit a) (hUP : ∀ w', Stay P w w' → UpdsM w'.heap.size w' UA a.us) (hk : a.kind % 5 = 4) :
    Calls Try.prog 24 #[.agg #[m, .int .i64 l], rval, .agg #[.int .u8 (a.kind : Nat), .int .i64 a.num, .slice UA a.us.length UC]] w (DoPost P X B w) := by
  obtain ⟨b0, rfl⟩ := hst.form
  obtain ⟨VA, VC, BA, BC, hds, rfl, hall⟩ := id hrs
  obtain ⟨kd, nj, us⟩ := a
  have hkd : kd ≤ 255 := hfit.1
  have HNW : Hid ((Lit.int .i64 nj).wf = true) := hfit.2.1
  have HUL : Hid (us.length ≤ 12) := hfit.2.2.1
  have HOK := Lib.hid hfit.upd
  have hk : kd % 5 = 4 := hk
  obtain ⟨W0, hW0⟩ : ∃ W0, W0 = ((((w.alloc (.cells #[.map (some b0), .int .i64 l] 31)).alloc (.cells #[.slice VA vs.length VC, .slice BA bs.length BC] 66)).alloc (.cells #[.int .u8 (kd : Nat), .int .i64 nj, .slice UA us.length UC] 51)).alloc (.cells #[.map none, .int .i64 0] 31)).alloc (.cells #[.slice none 0 0, .slice none 0 0] 66) := ⟨_, rfl⟩
  have hx0 : Ext w W0 := by rw [hW0]; exact (((((Ext.refl w).alloc _).alloc _).alloc _).alloc _).alloc _
  have HX0 := Lib.hid hx0
  have HR1 : Hid (Row W0 w.heap.size 31 [.map (some b0), .int .i64 l]) := by show Row _ _ _ _; rw [hW0]; exact ((((Row.new w _ _).alloc _).alloc _).alloc _).alloc _
  have HR2 : Hid (Row W0 (w.heap.size + 1) 66 [.slice VA vs.length VC, .slice BA bs.length BC]) := by
    show Row _ _ _ _; rw [hW0]
    have h := Row.new (w.alloc (.cells #[.map (some b0), .int .i64 l] 31)) 66 [.slice VA vs.length VC, .slice BA bs.length BC]
    simp only [World.size_alloc] at h
    exact ((h.alloc _).alloc _).alloc _
  have HR3 : Hid (Row W0 (w.heap.size + 2) 51 [.int .u8 (kd : Nat), .int .i64 nj, .slice UA us.length UC]) := by
    show Row _ _ _ _; rw [hW0]
    have h := Row.new ((w.alloc (.cells #[.map (some b0), .int .i64 l] 31)).alloc (.cells #[.slice VA vs.length VC, .slice BA bs.length BC] 66)) 51 [.int .u8 (kd : Nat), .int .i64 nj, .slice UA us.length UC]
    simp only [World.size_alloc] at h
    exact (h.alloc _).alloc _
  have HR6 : Hid (Row W0 (w.heap.size + 3) 31 [.map none, .int .i64 0]) := by
    show Row _ _ _ _; rw [hW0]
    have h := Row.new (((w.alloc (.cells #[.map (some b0), .int .i64 l] 31)).alloc (.cells #[.slice VA vs.length VC, .slice BA bs.length BC] 66)).alloc (.cells #[.int .u8 (kd : Nat), .int .i64 nj, .slice UA us.length UC] 51)) 31 [.map none, .int .i64 0]
    simp only [World.size_alloc] at h
    exact h.alloc _
  have HR7 : Hid (Row W0 (w.heap.size + 4) 66 [.slice none 0 0, .slice none 0 0]) := by
    show Row _ _ _ _; rw [hW0]
    have h := Row.new ((((w.alloc (.cells #[.map (some b0), .int .i64 l] 31)).alloc (.cells #[.slice VA vs.length VC, .slice BA bs.length BC] 66)).alloc (.cells #[.int .u8 (kd : Nat), .int .i64 nj, .slice UA us.length UC] 51)).alloc (.cells #[.map none, .int .i64 0] 31)) 66 [.slice none 0 0, .slice none 0 0]
    simp only [World.size_alloc] at h
    exact h
  have HZ : Hid (w.heap.size + 4 < W0.heap.size) := HR7.out.lt
  have hPP : ∀ b, b < w.heap.size → P b → (P b ∧ b ≠ w.heap.size + 3 ∧ b ≠ w.heap.size + 4) := fun b hb hp => ⟨hp, by omega, by omega⟩
  have HST := Lib.hid ((hst.weak hPP).up hx0.below)
  have HRS := Lib.hid (hrs.sub hx0.below hPP)
  have HUP : Hid (∀ W, Below w.heap.size w W → ∀ w', Stay (fun b => P b ∧ b ≠ w.heap.size + 3 ∧ b ≠ w.heap.size + 4) W w' → UpdsM w'.heap.size w' UA us) := fun W hb w' hs => hUP w' (Stay.sub hb hPP hs)
  have HPN : Hid (∀ W : World, W0.heap.size ≤ W.heap.size → ∀ b, W.heap.size ≤ b → (P b ∧ b ≠ w.heap.size + 3 ∧ b ≠ w.heap.size + 4)) := fun W h1 b h2 => by
    have := HZ.out
    exact ⟨hPn b (by omega), by omega, by omega⟩
  have HREL := Lib.hid hrel
  have HFA := Lib.hid hrel.facts
  have HW0 := Lib.hid hW0
  clear hst hrs hall hfit hUP hx0 hPP hrel hW0 hPn
  have s0 : W0.cell? ⟨w.heap.size, 0, none⟩ = some (.map (some b0)) := HR1.out.cell 0
  have s1 : W0.cell? ⟨w.heap.size, 1, none⟩ = some (.int .i64 l) := HR1.out.cell 1
  have a0 : W0.cell? ⟨w.heap.size + 2, 0, none⟩ = some (.int .u8 (kd : Nat)) := HR3.out.cell 0
  have a1 : W0.cell? ⟨w.heap.size + 2, 1, none⟩ = some (.int .i64 nj) := HR3.out.cell 1
  have a2 : W0.cell? ⟨w.heap.size + 2, 2, none⟩ = some (.slice UA us.length UC) := HR3.out.cell 2
  have z1 := HR1.out.lt
  have z3 := HR3.out.lt
  have q2 : (((kd : Int) % 5) == 2) = false := by have : (kd : Int) % 5 ≠ 2 := by omega
                                                  simpa using this
  have q3 : (((kd : Int) % 5) == 3) = false := by have : (kd : Int) % 5 ≠ 3 := by omega
                                                  simpa using this
  have q4 : (((kd : Int) % 5) == 4) = true := by have : (kd : Int) % 5 = 4 := by omega
                                                 rw [this]; rfl
  have HFB := HFA.out
  have HP1 := Lib.hid (snCollect_any (l := l) HST.out (HPN.out W0 (Nat.le_refl _)) (by omega))
  have HRL := Lib.hid (HREL.out.gone)
  have HLI := Lib.hid (HREL.out.lastIdx)
  clear hk HFB
  go_enter Try.func24, Try.ntmps24
  go_upto_region 11 with (fail)
  rw [← HW0.out]
  clear HW0
  go_wp2_with fail
  clear s0 s1 a0 a1 a2
  refine HP1.out.mono ?_
  rintro e w1 ⟨mm, A1, C1, rfl, hst1, hsl1, hb1⟩
  obtain ⟨m1, rfl⟩ := hst1.form
  have HW2a : Hid (W0.heap.size ≤ w1.heap.size) := hb1.size
  obtain ⟨g9, hg9⟩ : ∃ g, g = w1.heap.size := ⟨_, rfl⟩
  obtain ⟨W2, hW2⟩ : ∃ W, W = w1.alloc (.cells #[.map (some m1), .int .i64 l] 31) := ⟨_, rfl⟩
  have hx2 : Ext w1 W2 := by rw [hW2]; exact (Ext.refl w1).alloc _
  have HB02 := Lib.hid (Below.then hb1 hx2.below hb1.size)
  have HG9R : Hid (Row W2 g9 31 [.map (some m1), .int .i64 l]) := by show Row _ _ _ _; rw [hW2, hg9]; exact Row.new w1 31 _
  have HST2 := Lib.hid (hst1.up hx2.below)
  have HSL2 : Hid (SlI .i64 W2.heap.size W2 A1 ((V.filter (goneB l)).map (·.num))) := (Sl.below (slip_sl hsl1) hx2.below (Nat.le_refl _)).more hx2.size
  have HBW2 := Lib.hid (Below.then HX0.out.below HB02.out HX0.out.size)
  have HFB := HFA.out
  have HP3 := Lib.hid (r16Collect_any _ _ vs bs l W2 (HRS.out.up HB02.out) (HPN.out W2 HB02.out.size) (by omega) HLI.out)
  have HR22 := Lib.hid (HR2.out.up HB02.out)
  have r0 : W2.cell? ⟨w.heap.size + 1, 0, none⟩ = some (.slice VA vs.length VC) := HR22.out.cell 0
  have r1 : W2.cell? ⟨w.heap.size + 1, 1, none⟩ = some (.slice BA bs.length BC) := HR22.out.cell 1
  have z2 := HR22.out.lt
  have HVL : Hid ((V.filter (goneB l)).length ≤ 1000 ∧ (vs.filter (goneR l)).length ≤ 1000) := ⟨Nat.le_trans (List.length_filter_le _ _) (by omega), Nat.le_trans (List.length_filter_le _ _) (by omega)⟩
  have HW2 := Lib.hid hW2
  have HG9 := Lib.hid hg9
  clear hst1 hb1 hg9 hW2 hx2 hsl1 HP1 HFB z1 z3
  generalize hvg : V.filter (goneB l) = VG at *
  clear hvg
  go_upto_region 12 with (fail)
  rw [← HW2.out, ← HG9.out]
  clear HW2
  go_wp2_with fail
  clear r0 r1 z2
  refine HP3.out.mono ?_
  rintro e w3 ⟨rv, A3, C3, rfl, hrs3, hsl3, hb3⟩
  obtain ⟨VA3, VC3, BA3, BC3, hds3, rfl, hall3⟩ := id hrs3
  clear hall3
  obtain ⟨g11, hg11⟩ : ∃ g, g = w3.heap.size := ⟨_, rfl⟩
  obtain ⟨W4, hW4⟩ : ∃ W, W = w3.alloc (.cells #[.slice VA3 (vs.filter fun r => !goneR l r).length VC3, .slice BA3 bs.length BC3] 66) := ⟨_, rfl⟩
  have hx4 : Ext w3 W4 := by rw [hW4]; exact (Ext.refl w3).alloc _
  have HB24 := Lib.hid (Below.then hb3 hx4.below hb3.size)
  have HG11R : Hid (Row W4 g11 66 [(.slice VA3 (vs.filter fun r => !goneR l r).length VC3), (.slice BA3 bs.length BC3)]) := by show Row _ _ _ _; rw [hW4, hg11]; exact Row.new w3 66 _
  have HG9R4 := Lib.hid (HG9R.out.up HB24.out)
  have HB04 := Lib.hid (Below.then HB02.out HB24.out HB02.out.size)
  have HST4 := Lib.hid (HST2.out.up HB24.out)
  have HRS4 := Lib.hid (hrs3.up hx4.below)
  have HBW4 := Lib.hid (Below.then HBW2.out HB24.out HBW2.out.size)
  have HSM := Lib.hid (r16Same_any A1 A3 C1 C3 (VG.map fun x : Ver => x.num) ((vs.filter (goneR l)).map fun x : RV => x.num) W4.drew ((Sl.below HSL2.out HB24.out (Nat.le_refl _)).more HB24.out.size) ((Sl.below hsl3 hx4.below (Nat.le_refl _)).more hx4.size) (by rw [List.length_map]; exact Nat.le_trans HVL.out.1 (by decide)) (by rw [List.length_map]; exact Nat.le_trans HVL.out.2 (by decide)))
  rw [List.length_map, List.length_map, decide_eq_true HRL.out.1] at HSM
  have HNE : Hid (w.heap.size + 3 ≠ g9 ∧ w.heap.size + 3 ≠ g11 ∧ w.heap.size + 4 ≠ g9 ∧ w.heap.size + 4 ≠ g11) := by
    have h1 := HZ.out
    have h2 : g9 = _ := HG9.out
    have h3 := HW2a.out
    have h4 := HB02.out.size
    have h5 := hb3.size
    have h6 : w1.heap.size < W2.heap.size := by rw [← h2]; exact HG9R.out.lt
    exact ⟨by omega, by omega, by omega, by omega⟩
  have HW4 := Lib.hid hW4
  have HG11 := Lib.hid hg11
  have HKP : Hid (∀ W, Below W4.heap.size W4 W → W.cell? ⟨g9, 0, none⟩ = some (.map (some m1)) ∧ W.cell? ⟨g9, 1, none⟩ = some (.int .i64 l) ∧ W.cell? ⟨g11, 0, none⟩ = some (.slice VA3 (vs.filter fun r => !goneR l r).length VC3) ∧ W.cell? ⟨g11, 1, none⟩ = some (.slice BA3 bs.length BC3)) := fun W hb => ⟨(HG9R4.out.up hb).cell 0, (HG9R4.out.up hb).cell 1, (HG11R.out.up hb).cell 0, (HG11R.out.up hb).cell 1⟩
  clear hrs3 hb3 hg11 hW4 hx4 HP3 hsl3
  go_upto_region 13 with (fail)
  rw [← HW4.out, ← HG11.out]
  clear HW4
  refine wp_region_held_drew (S := (fun w' => w'.cell? ⟨g9, 0, none⟩ = some (.map (some m1)) ∧ w'.cell? ⟨g9, 1, none⟩ = some (.int .i64 l) ∧ w'.cell? ⟨g11, 0, none⟩ = some (.slice VA3 (vs.filter fun r => !goneR l r).length VC3) ∧ w'.cell? ⟨g11, 1, none⟩ = some (.slice BA3 bs.length BC3))) (by kernel_rfl) (HKP.out W4.drew (Below.refl _ _).drew) (fun hHeld => ?_)
  refine takeOp (i := 0) (v := ?_) (some 87) rfl rfl (by kernel_rfl) (by kernel_rfl) (by kernel_rfl) (fun _ _ _ h => h) (Or.inl ⟨by rfl, ?_⟩) (by assumption) ?_
  rotate_left 1
  · (intro w0 hSw; (try dsimp only at hSw); go_simp; try (with_reducible rfl))
  try simp only [Act.put]
  try simp only [List.setIfInBounds_toArray]
  try simp only [List.set_cons_succ]
  try simp only [List.set_cons_zero]
  refine takeOp (i := 1) (v := ?_) (some 88) rfl rfl (by kernel_rfl) (by kernel_rfl) (by kernel_rfl) (fun _ _ _ h => h) (Or.inl ⟨by rfl, ?_⟩) (by assumption) ?_
  rotate_left 1
  · (intro w0 hSw; (try dsimp only at hSw); go_simp; try (with_reducible rfl))
  try simp only [Act.put]
  try simp only [List.setIfInBounds_toArray]
  try simp only [List.set_cons_succ]
  try simp only [List.set_cons_zero]
  refine takeOp (i := 2) (v := ?_) (some 89) rfl rfl (by kernel_rfl) (by kernel_rfl) (by kernel_rfl) (fun _ _ _ h => h) (Or.inl ⟨by rfl, ?_⟩) (by assumption) ?_
  rotate_left 1
  · (intro w0 hSw; (try dsimp only at hSw); go_simp; try (with_reducible rfl))
  try simp only [Act.put]
  try simp only [List.setIfInBounds_toArray]
  try simp only [List.set_cons_succ]
  try simp only [List.set_cons_zero]
  refine takeOp (i := 3) (v := ?_) (some 90) rfl rfl (by kernel_rfl) (by kernel_rfl) (by kernel_rfl) (fun _ _ _ h => h) (Or.inl ⟨by rfl, ?_⟩) (by assumption) ?_
  rotate_left 1
  · (intro w0 hSw; (try dsimp only at hSw); go_simp; try (with_reducible rfl))
  try simp only [Act.put]
  try simp only [List.setIfInBounds_toArray]
  try simp only [List.set_cons_succ]
  try simp only [List.set_cons_zero]
  refine wpAnyH_ready (rs := [4]) (by kernel_rfl) (by simp) ?_
  refine AllReadyH.cons rfl (fun K hK => ?_) AllReadyH.nil
  go_simp
  refine HSM.out.mono ?_
  rintro e V5 ⟨rfl, hx⟩
  have HV5 : Hid (Below W4.heap.size W4 V5) := Below.undrew hx.below
  have HB05 := Lib.hid (Below.then HB04.out HV5.out HB04.out.size)
  have HR64 := Lib.hid (HR6.out.up HB05.out)
  have HR74 := Lib.hid (HR7.out.up HB05.out)
  have HG9R5 := Lib.hid (HG9R4.out.up HV5.out)
  have HG11R5 := Lib.hid (HG11R.out.up HV5.out)
  have HST5 := Lib.hid (HST4.out.up HV5.out)
  have HRS5 := Lib.hid (HRS4.out.up HV5.out)
  have HBW5 := Lib.hid (Below.then HBW4.out HV5.out HBW4.out.size)
  clear hx
  go_wp2_with fail
  refine hK.out _ _ (HKP.out V5 HV5.out) (fun hHeld => ?_)
  clear hK K
  try simp only [Act.put]
  try simp only [List.setIfInBounds_toArray]
  try simp only [List.set_cons_succ]
  try simp only [List.set_cons_zero]
  refine wpAnyH_ready (rs := [5]) (by kernel_rfl) (by simp) ?_
  refine AllReadyH.cons rfl (fun K hK => ?_) AllReadyH.nil
  have m0 : V5.cell? ⟨w.heap.size + 3, 0, none⟩ = some (.map none) := HR64.out.cell 0
  have m1' : V5.cell? ⟨w.heap.size + 3, 1, none⟩ = some (.int .i64 0) := HR64.out.cell 1
  have m2 := HR64.out.frozen 0
  have m3 := HR64.out.frozen 1
  have m4 := HR64.out.lt
  go_simp
  obtain ⟨V6, hV6⟩ : ∃ V', V' = (V5.setCell ⟨w.heap.size + 3, 0, none⟩ (.map (some m1))).setCell ⟨w.heap.size + 3, 1, none⟩ (.int .i64 l) := ⟨_, rfl⟩
  rw [← hV6]
  have HS6 : Hid (Stay (fun b => P b ∧ b ≠ w.heap.size + 3 ∧ b ≠ w.heap.size + 4) V5 V6) := by show Stay _ _ _; rw [hV6]; exact (Stay.two6 _ _)
  have HB6 : Hid (Below w.heap.size w V6) := by show Below _ _ _; rw [hV6]; exact ((HBW5.out.setCell (by show w.heap.size ≤ w.heap.size + 3; omega) _).setCell (by show w.heap.size ≤ w.heap.size + 3; omega) _)
  have HR66 : Hid (Row V6 (w.heap.size + 3) 31 [.map (some m1), .int .i64 l]) := by show Row _ _ _ _; rw [hV6]; exact HR64.out.set2 _ _
  have HR76 : Hid (Row V6 (w.heap.size + 4) 66 [.slice none 0 0, .slice none 0 0]) := by show Row _ _ _ _; rw [hV6]; exact (HR74.out.far (show w.heap.size + 4 ≠ w.heap.size + 3 by omega) _).far (show w.heap.size + 4 ≠ w.heap.size + 3 by omega) _
  have K6 : V6.cell? ⟨g9, 0, none⟩ = some (.map (some m1)) ∧ V6.cell? ⟨g9, 1, none⟩ = some (.int .i64 l) ∧ V6.cell? ⟨g11, 0, none⟩ = some (.slice VA3 (vs.filter fun r => !goneR l r).length VC3) ∧ V6.cell? ⟨g11, 1, none⟩ = some (.slice BA3 bs.length BC3) := by
    rw [hV6]
    exact ⟨far_cell HNE.out.1 (far_cell HNE.out.1 (HG9R5.out.cell 0)), far_cell HNE.out.1 (far_cell HNE.out.1 (HG9R5.out.cell 1)), far_cell HNE.out.2.1 (far_cell HNE.out.2.1 (HG11R5.out.cell 0)), far_cell HNE.out.2.1 (far_cell HNE.out.2.1 (HG11R5.out.cell 1))⟩
  clear m0 m1' m2 m3 m4 hV6
  refine hK.out _ _ K6 (fun hHeld => ?_)
  clear hK K
  try simp only [Act.put]
  try simp only [List.setIfInBounds_toArray]
  try simp only [List.set_cons_succ]
  try simp only [List.set_cons_zero]
  refine wpAnyH_ready (rs := [6]) (by kernel_rfl) (by simp) ?_
  refine AllReadyH.cons rfl (fun K hK => ?_) AllReadyH.nil
  have m0 : V6.cell? ⟨w.heap.size + 4, 0, none⟩ = some (.slice none 0 0) := HR76.out.cell 0
  have m1' : V6.cell? ⟨w.heap.size + 4, 1, none⟩ = some (.slice none 0 0) := HR76.out.cell 1
  have m2 := HR76.out.frozen 0
  have m3 := HR76.out.frozen 1
  have m4 := HR76.out.lt
  go_simp
  obtain ⟨V7, hV7⟩ : ∃ V', V' = (V6.setCell ⟨w.heap.size + 4, 0, none⟩ (.slice VA3 (vs.filter fun r => !goneR l r).length VC3)).setCell ⟨w.heap.size + 4, 1, none⟩ (.slice BA3 bs.length BC3) := ⟨_, rfl⟩
  rw [← hV7]
  have HS7 : Hid (Stay (fun b => P b ∧ b ≠ w.heap.size + 3 ∧ b ≠ w.heap.size + 4) V5 V7) := by show Stay _ _ _; rw [hV7]; exact HS6.out.trans (Stay.two7 _ _)
  have HB7 : Hid (Below w.heap.size w V7) := by show Below _ _ _; rw [hV7]; exact (HB6.out.setCell (by show w.heap.size ≤ w.heap.size + 4; omega) _).setCell (by show w.heap.size ≤ w.heap.size + 4; omega) _
  have hr6 : Row V7 (w.heap.size + 3) 31 [.map (some m1), .int .i64 l] := by rw [hV7]; exact (HR66.out.far (show w.heap.size + 3 ≠ w.heap.size + 4 by omega) _).far (show w.heap.size + 3 ≠ w.heap.size + 4 by omega) _
  have hr7 : Row V7 (w.heap.size + 4) 66 [(.slice VA3 (vs.filter fun r => !goneR l r).length VC3), (.slice BA3 bs.length BC3)] := by rw [hV7]; exact HR76.out.set2 _ _
  have HE0 : Hid (V7.cell? ⟨w.heap.size + 3, 0, none⟩ = some (.map (some m1))) := hr6.cell 0
  have HE1 : Hid (V7.cell? ⟨w.heap.size + 3, 1, none⟩ = some (.int .i64 l)) := hr6.cell 1
  have HE2 : Hid (V7.cell? ⟨w.heap.size + 4, 0, none⟩ = some (.slice VA3 (vs.filter fun r => !goneR l r).length VC3)) := hr7.cell 0
  have HE3 : Hid (V7.cell? ⟨w.heap.size + 4, 1, none⟩ = some (.slice BA3 bs.length BC3)) := hr7.cell 1
  have HE4 := Lib.hid hr6.lt
  have HE5 := Lib.hid hr7.lt
  have K7 : V7.cell? ⟨g9, 0, none⟩ = some (.map (some m1)) ∧ V7.cell? ⟨g9, 1, none⟩ = some (.int .i64 l) ∧ V7.cell? ⟨g11, 0, none⟩ = some (.slice VA3 (vs.filter fun r => !goneR l r).length VC3) ∧ V7.cell? ⟨g11, 1, none⟩ = some (.slice BA3 bs.length BC3) := by
    rw [hV7]
    exact ⟨far_cell HNE.out.2.2.1 (far_cell HNE.out.2.2.1 K6.1), far_cell HNE.out.2.2.1 (far_cell HNE.out.2.2.1 K6.2.1), far_cell HNE.out.2.2.2 (far_cell HNE.out.2.2.2 K6.2.2.1), far_cell HNE.out.2.2.2 (far_cell HNE.out.2.2.2 K6.2.2.2)⟩
  clear m0 m1' m2 m3 m4 hV7 hr6 hr7 K6
  refine hK.out _ _ K7 (fun hHeld => ?_)
  clear hK K
  try simp only [Act.put]
  try simp only [List.setIfInBounds_toArray]
  try simp only [List.set_cons_succ]
  try simp only [List.set_cons_zero]
  refine takeOp (i := 7) (v := ?_) (some 8) rfl rfl (by kernel_rfl) (by kernel_rfl) (by kernel_rfl) (fun _ _ _ h => h) (Or.inl ⟨by rfl, ?_⟩) (by assumption) ?_
  rotate_left 1
  · (intro w0 hSw; (try dsimp only at hSw); go_simp; try (with_reducible rfl))
  try simp only [Act.put]
  try simp only [List.setIfInBounds_toArray]
  try simp only [List.set_cons_succ]
  try simp only [List.set_cons_zero]
  refine wpAnyH_done (by kernel_rfl) ?_ _
  have x0 := HE0.out
  have x1 := HE1.out
  have x2 := HE2.out
  have x3 := HE3.out
  have x4 := HE4.out
  have x5 := HE5.out
  clear hHeld
  go_wp2_with fail
  refine bodyPost_ret (v := .tuple #[.agg #[.map (some m1), .int .i64 l], .agg #[.slice VA3 (vs.filter fun r => !goneR l r).length VC3, .slice BA3 bs.length BC3], .bool true]) (by simp [results, Try.results24, go_sem, x0, x1, x2, x3]) rfl ?_
  exact DoPost.mk HST5.out HRS5.out HRL.out.2 HS7.out HB7.out

end Go.Proofs.Ytgaffbdcpkbdhaa
end

section
/- Walk: do, commit. -/
namespace Go.Proofs.Ytgaffbdcpkbdhaa
open Go.RowKit Go.Sort Go.ChangeMaps Go.WideShapes

set_option maxHeartbeats 8000000 in
set_option maxRecDepth 100000 in
theorem l16do_commit (P : Nat → Prop) (X : Sch) (m rval : Value) (l : Int) (V : List Ver) (vs : List RV) (bs : List (List Upd)) (B : Nat) (a : ActR) (UA : Option Addr) (UC : Nat) (w : World) (hst : StM P X w m V) (hrs : RStP P w rval vs bs) (hrel : RelR X V l vs bs B) (hB : B ≤ 60) (hXl : X.length ≤ 1000) (hPn : ∀ b, w.heap.size ≤ b → P b) (hfit : ActFit a) (hUP : ∀ w', Stay P w w' → UpdsM w'.heap.size w' UA a.us) (hk : a.kind % 5 ≠ 2 ∧ a.kind % 5 ≠ 3 ∧ a.kind % 5 ≠ 4) :
    Calls Try.prog 24 #[.agg #[m, .int .i64 l], rval, .agg #[.int .u8 (a.kind : Nat), .int .i64 a.num, .slice UA a.us.length UC]] w (DoPost P X B w) := by
  obtain ⟨b0, rfl⟩ := hst.form
  obtain ⟨VA, VC, BA, BC, hds, rfl, hall⟩ := id hrs
  obtain ⟨kd, nj, us⟩ := a
  have hkd : kd ≤ 255 := hfit.1
  have HNW : Hid ((Lit.int .i64 nj).wf = true) := hfit.2.1
  have HUL : Hid (us.length ≤ 12) := hfit.2.2.1
  have HOK := Lib.hid hfit.upd
  have hk : kd % 5 ≠ 2 ∧ kd % 5 ≠ 3 ∧ kd % 5 ≠ 4 := hk
  obtain ⟨W0, hW0⟩ : ∃ W0, W0 = ((((w.alloc (.cells #[.map (some b0), .int .i64 l] 31)).alloc (.cells #[.slice VA vs.length VC, .slice BA bs.length BC] 66)).alloc (.cells #[.int .u8 (kd : Nat), .int .i64 nj, .slice UA us.length UC] 51)).alloc (.cells #[.map none, .int .i64 0] 31)).alloc (.cells #[.slice none 0 0, .slice none 0 0] 66) := ⟨_, rfl⟩
  have hx0 : Ext w W0 := by rw [hW0]; exact (((((Ext.refl w).alloc _).alloc _).alloc _).alloc _).alloc _
  have HX0 := Lib.hid hx0
  have HR1 : Hid (Row W0 w.heap.size 31 [.map (some b0), .int .i64 l]) := by show Row _ _ _ _; rw [hW0]; exact ((((Row.new w _ _).alloc _).alloc _).alloc _).alloc _
  have HR2 : Hid (Row W0 (w.heap.size + 1) 66 [.slice VA vs.length VC, .slice BA bs.length BC]) := by
    show Row _ _ _ _; rw [hW0]
    have h := Row.new (w.alloc (.cells #[.map (some b0), .int .i64 l] 31)) 66 [.slice VA vs.length VC, .slice BA bs.length BC]
    simp only [World.size_alloc] at h
    exact ((h.alloc _).alloc _).alloc _
  have HR3 : Hid (Row W0 (w.heap.size + 2) 51 [.int .u8 (kd : Nat), .int .i64 nj, .slice UA us.length UC]) := by
    show Row _ _ _ _; rw [hW0]
    have h := Row.new ((w.alloc (.cells #[.map (some b0), .int .i64 l] 31)).alloc (.cells #[.slice VA vs.length VC, .slice BA bs.length BC] 66)) 51 [.int .u8 (kd : Nat), .int .i64 nj, .slice UA us.length UC]
    simp only [World.size_alloc] at h
    exact (h.alloc _).alloc _
  have HR6 : Hid (Row W0 (w.heap.size + 3) 31 [.map none, .int .i64 0]) := by
    show Row _ _ _ _; rw [hW0]
    have h := Row.new (((w.alloc (.cells #[.map (some b0), .int .i64 l] 31)).alloc (.cells #[.slice VA vs.length VC, .slice BA bs.length BC] 66)).alloc (.cells #[.int .u8 (kd : Nat), .int .i64 nj, .slice UA us.length UC] 51)) 31 [.map none, .int .i64 0]
    simp only [World.size_alloc] at h
    exact h.alloc _
  have HR7 : Hid (Row W0 (w.heap.size + 4) 66 [.slice none 0 0, .slice none 0 0]) := by
    show Row _ _ _ _; rw [hW0]
    have h := Row.new ((((w.alloc (.cells #[.map (some b0), .int .i64 l] 31)).alloc (.cells #[.slice VA vs.length VC, .slice BA bs.length BC] 66)).alloc (.cells #[.int .u8 (kd : Nat), .int .i64 nj, .slice UA us.length UC] 51)).alloc (.cells #[.map none, .int .i64 0] 31)) 66 [.slice none 0 0, .slice none 0 0]
    simp only [World.size_alloc] at h
    exact h
  have HZ : Hid (w.heap.size + 4 < W0.heap.size) := HR7.out.lt
  have hPP : ∀ b, b < w.heap.size → P b → (P b ∧ b ≠ w.heap.size + 3 ∧ b ≠ w.heap.size + 4) := fun b hb hp => ⟨hp, by omega, by omega⟩
  have HST := Lib.hid ((hst.weak hPP).up hx0.below)
  have HRS := Lib.hid (hrs.sub hx0.below hPP)
  have HUP : Hid (∀ W, Below w.heap.size w W → ∀ w', Stay (fun b => P b ∧ b ≠ w.heap.size + 3 ∧ b ≠ w.heap.size + 4) W w' → UpdsM w'.heap.size w' UA us) := fun W hb w' hs => hUP w' (Stay.sub hb hPP hs)
  have HPN : Hid (∀ W : World, W0.heap.size ≤ W.heap.size → ∀ b, W.heap.size ≤ b → (P b ∧ b ≠ w.heap.size + 3 ∧ b ≠ w.heap.size + 4)) := fun W h1 b h2 => by
    have := HZ.out
    exact ⟨hPn b (by omega), by omega, by omega⟩
  have HREL := Lib.hid hrel
  have HFA := Lib.hid hrel.facts
  have HW0 := Lib.hid hW0
  clear hst hrs hall hfit hUP hx0 hPP hrel hW0 hPn
  have s0 : W0.cell? ⟨w.heap.size, 0, none⟩ = some (.map (some b0)) := HR1.out.cell 0
  have s1 : W0.cell? ⟨w.heap.size, 1, none⟩ = some (.int .i64 l) := HR1.out.cell 1
  have a0 : W0.cell? ⟨w.heap.size + 2, 0, none⟩ = some (.int .u8 (kd : Nat)) := HR3.out.cell 0
  have a1 : W0.cell? ⟨w.heap.size + 2, 1, none⟩ = some (.int .i64 nj) := HR3.out.cell 1
  have a2 : W0.cell? ⟨w.heap.size + 2, 2, none⟩ = some (.slice UA us.length UC) := HR3.out.cell 2
  have z1 := HR1.out.lt
  have z3 := HR3.out.lt
  have q2 : (((kd : Int) % 5) == 2) = false := by have : (kd : Int) % 5 ≠ 2 := by omega
                                                  simpa using this
  have q3 : (((kd : Int) % 5) == 3) = false := by have : (kd : Int) % 5 ≠ 3 := by omega
                                                  simpa using this
  have q4 : (((kd : Int) % 5) == 4) = false := by have : (kd : Int) % 5 ≠ 4 := by omega
                                                  simpa using this
  have HFB := HFA.out
  have hgl := HREL.out.good.len
  have hglo := HREL.out.good.low
  have hghi := HREL.out.good.high
  have HP1 := Lib.hid (snCommit_all HST.out (HPN.out W0 (Nat.le_refl _)) HREL.out.good (by omega) (by omega) (by omega) UA UC us (HUP.out W0 HX0.out.below W0 (Stay.refl _ _)) HOK.out (Nat.le_trans HUL.out (by decide)))
  obtain ⟨V2, l2, hcr, hc0, hc1⟩ := commitR_cases X V l us
  obtain ⟨x, hfx, -, hxl⟩ := HREL.out.good.find
  have hdb : dbV V l = x.db := by unfold dbV; rw [hfx]
  have HLW : Hid ((Lit.int .i64 l).wf = true) := by show _ = true; simp [Lit.wf, IntKind.min, IntKind.max, IntKind.signed, IntKind.bits]; omega
  have q64' : ((vs.length : Int) == 64) = false := by
    have : (vs.length : Int) ≠ 64 := by omega
    simpa using this
  have HQ64 := Lib.hid q64'
  have HRL0 : Hid ((applyF X (dbV V l) 0 us).1 = 0 → RelR X V2 (l + 1) (vs ++ [⟨l + 1, 0, bs.length + 1⟩]) (bs ++ [us]) (B + 1)) := fun h => by
    have := HREL.out.commit h ⟨HUL.out, HOK.out⟩
    rw [hcr] at this
    exact this
  have HRL1 : Hid ((applyF X (dbV V l) 0 us).1 ≠ 0 → RelR X V2 l2 vs bs (B + 1)) := fun h => by
    obtain ⟨e1, e2⟩ := hc1 h
    rw [e1, e2]
    exact HREL.out.more (by omega)
  rw [hcr] at HP1
  rw [hdb] at HP1 hc0 hc1 HRL0 HRL1
  clear hcr hdb
  obtain ⟨E, hE⟩ : ∃ E, E = (applyF X x.db 0 us).1 := ⟨_, rfl⟩
  rw [← hE] at HP1 hc0 hc1 HRL0 HRL1
  have HE := Lib.hid hE
  have HC0 := Lib.hid hc0
  have HC1 := Lib.hid hc1
  have HFX := Lib.hid hfx
  clear q64' hk HFB hc0 hc1 hfx hE hgl hglo hghi
  go_enter Try.func24, Try.ntmps24
  go_upto_region 14 with (fail)
  rw [← HW0.out]
  clear HW0
  go_wp2_with fail
  clear s0 s1 a0 a1 a2
  refine HP1.out.mono ?_
  rintro e w1 ⟨m1, n1, rfl, hn1, -, hst1, hb1⟩
  have HN1 : Hid (n1 = if E = 0 then l2 else 0) := hn1
  have HW2a : Hid (W0.heap.size ≤ w1.heap.size) := hb1.size
  obtain ⟨g9, hg9⟩ : ∃ g, g = w1.heap.size := ⟨_, rfl⟩
  obtain ⟨W2, hW2⟩ : ∃ W, W = w1.alloc (.cells #[.map (some m1), .int .i64 l2] 31) := ⟨_, rfl⟩
  have hx2 : Ext w1 W2 := by rw [hW2]; exact (Ext.refl w1).alloc _
  have HB02 := Lib.hid (Below.then hb1 hx2.below hb1.size)
  have HG9R : Hid (Row W2 g9 31 [.map (some m1), .int .i64 l2]) := by show Row _ _ _ _; rw [hW2, hg9]; exact Row.new w1 31 _
  have HST2 : Hid (StM (fun b => P b ∧ b ≠ w.heap.size + 3 ∧ b ≠ w.heap.size + 4) X W2 (.map (some m1)) V2) := hst1.up hx2.below
  have HBW2 := Lib.hid (Below.then HX0.out.below HB02.out HX0.out.size)
  have HR12 := Lib.hid (HR1.out.up HB02.out)
  have HR22 := Lib.hid (HR2.out.up HB02.out)
  have HR32 := Lib.hid (HR3.out.up HB02.out)
  have HSQ : Hid (StM (fun b => (P b ∧ b ≠ w.heap.size + 3 ∧ b ≠ w.heap.size + 4) ∧ b < W2.heap.size) X W2 (.map (some b0)) V) := (HST.out.up HB02.out).weak fun b hb hp => ⟨hp, hb⟩
  have HSS : Hid (∀ W, Below W2.heap.size W2 W → W.cell? ⟨w.heap.size, 0, none⟩ = some (.map (some b0)) ∧ W.cell? ⟨w.heap.size, 1, none⟩ = some (.int .i64 l)) := fun W hb => ⟨(HR12.out.up hb).cell 0, (HR12.out.up hb).cell 1⟩
  have s0 : W2.cell? ⟨w.heap.size, 0, none⟩ = some (.map (some b0)) := HR12.out.cell 0
  have s1 : W2.cell? ⟨w.heap.size, 1, none⟩ = some (.int .i64 l) := HR12.out.cell 1
  have z2 := HR12.out.lt
  have HW2 := Lib.hid hW2
  have HG9 := Lib.hid hg9
  clear hst1 hb1 hg9 hW2 hx2 HP1 z1 z3 hn1
  go_upto_region 15 with (fail)
  rw [← HW2.out, ← HG9.out]
  clear HW2
  go_cut [24, 25] from 100 to 106 (fun vp ve wx => ∃ g bd, vp = .pointer (some ⟨g, 0, none⟩) ∧ ve = .int .i64 0 ∧ W2.heap.size ≤ g ∧ Row wx g 25 [.map (some bd)] ∧ DbM (fun b => (P b ∧ b ≠ w.heap.size + 3 ∧ b ≠ w.heap.size + 4) ∧ b < W2.heap.size) X wx (.map (some bd)) x.db ∧ Below W2.heap.size W2 wx)
  case first =>
    refine wp_region_held_drew (S := (fun w' => w'.cell? ⟨w.heap.size, 0, none⟩ = some (.map (some b0)) ∧ w'.cell? ⟨w.heap.size, 1, none⟩ = some (.int .i64 l))) (by kernel_rfl) ⟨s0, s1⟩ (fun hHeld => ?_)
    obtain ⟨V0, hV0⟩ : ∃ V, V = W2.drew := ⟨_, rfl⟩
    have HV : Hid (Below W2.heap.size W2 V0) := by show Below _ _ _; rw [hV0]; exact ((Ext.refl W2).drew).below
    rw [← hV0]
    clear hV0
    have hHeld0 : V0.cell? ⟨w.heap.size, 0, none⟩ = some (.map (some b0)) ∧ V0.cell? ⟨w.heap.size, 1, none⟩ = some (.int .i64 l) := HSS.out V0 HV.out
    refine takeOp (i := 0) (v := ?_) (some 101) rfl rfl (by kernel_rfl) (by kernel_rfl) (by kernel_rfl) (fun _ _ _ h => h) (Or.inl ⟨by rfl, ?_⟩) (by assumption) ?_
    rotate_left 1
    · (intro w0 hSw; (try dsimp only at hSw); go_simp; try (with_reducible rfl))
    try simp only [Act.put]
    try simp only [List.setIfInBounds_toArray]
    try simp only [List.set_cons_succ]
    try simp only [List.set_cons_zero]
    refine takeOp (i := 1) (v := ?_) (some 102) rfl rfl (by kernel_rfl) (by kernel_rfl) (by kernel_rfl) (fun _ _ _ h => h) (Or.inl ⟨by rfl, ?_⟩) (by assumption) ?_
    rotate_left 1
    · (intro w0 hSw; (try dsimp only at hSw); go_simp; try (with_reducible rfl))
    try simp only [Act.put]
    try simp only [List.setIfInBounds_toArray]
    try simp only [List.set_cons_succ]
    try simp only [List.set_cons_zero]
    refine wpAnyH_ready (rs := [2, 7]) (by kernel_rfl) (by simp) ?_
    refine (AllReadyH.cons rfl (fun K hK => ?_) (AllReadyH.cons rfl (fun K hK => ?_) AllReadyH.nil))
    · go_simp
      refine (snLatest_any (.map (some b0)) l V0).mono ?_
      rintro e V1 ⟨rfl, hx⟩
      have HV := Lib.hid (Below.then HV.out hx.below HV.out.size)
      clear hx
      go_wp2_with fail
      refine hK.out _ _ (HSS.out V1 HV.out) (fun hHeld => ?_)
      clear hK K
      try simp only [Act.put]
      try simp only [List.setIfInBounds_toArray]
      try simp only [List.set_cons_succ]
      try simp only [List.set_cons_zero]
      refine wpAnyH_ready (rs := [3, 7]) (by kernel_rfl) (by simp) ?_
      refine (AllReadyH.cons rfl (fun K hK => ?_) (AllReadyH.cons rfl (fun K hK => ?_) AllReadyH.nil))
      · go_simp
        refine (snAt_all (l := l) (n := l) (HSQ.out.up HV.out) HLW.out).mono ?_
        rintro e V2 ⟨-, hat, hx⟩
        obtain ⟨bd, rfl, hd⟩ := hat x HFX.out
        have HD := Lib.hid (hd.up hx.below)
        have HV := Lib.hid (Below.then HV.out hx.below HV.out.size)
        clear hx hat hd
        go_wp2_with fail
        refine hK.out _ _ (HSS.out V2 HV.out) (fun hHeld => ?_)
        clear hK K
        try simp only [Act.put]
        try simp only [List.setIfInBounds_toArray]
        try simp only [List.set_cons_succ]
        try simp only [List.set_cons_zero]
        refine takeOp (i := 4) (v := ?_) (some 100) rfl rfl (by kernel_rfl) (by kernel_rfl) (by kernel_rfl) (fun _ _ _ h => h) (Or.inl ⟨by rfl, ?_⟩) (by assumption) ?_
        rotate_left 1
        · (intro w0 hSw; (try dsimp only at hSw); go_simp; try (with_reducible rfl))
        try simp only [Act.put]
        try simp only [List.setIfInBounds_toArray]
        try simp only [List.set_cons_succ]
        try simp only [List.set_cons_zero]
        refine takeOp (i := 5) (v := ?_) (some 105) rfl rfl (by kernel_rfl) (by kernel_rfl) (by kernel_rfl) (fun _ _ _ h => h) (Or.inl ⟨by rfl, ?_⟩) (by assumption) ?_
        rotate_left 1
        · (intro w0 hSw; (try dsimp only at hSw); go_simp; try (with_reducible rfl))
        try simp only [Act.put]
        try simp only [List.setIfInBounds_toArray]
        try simp only [List.set_cons_succ]
        try simp only [List.set_cons_zero]
        refine takeOp (i := 6) (v := ?_) (some 106) rfl rfl (by kernel_rfl) (by kernel_rfl) (by kernel_rfl) (fun _ _ _ h => h) (Or.inl ⟨by rfl, ?_⟩) (by assumption) ?_
        rotate_left 1
        · (intro w0 hSw; (try dsimp only at hSw); go_simp; try (with_reducible rfl))
        try simp only [Act.put]
        try simp only [List.setIfInBounds_toArray]
        try simp only [List.set_cons_succ]
        try simp only [List.set_cons_zero]
        refine wpAnyH_ready (rs := [7]) (by kernel_rfl) (by simp) ?_
        refine (AllReadyH.cons rfl (fun K hK => ?_) AllReadyH.nil)
        go_simp
        obtain ⟨V3, hV⟩ : ∃ V', V' = V2.alloc (.cells #[.map none] 25) := ⟨_, rfl⟩
        rw [← hV]
        have hx : Ext V2 V3 := by rw [hV]; exact (Ext.refl V2).alloc _
        have HG : Hid (Row V3 V2.heap.size 25 [.map none]) := by show Row _ _ _ _; rw [hV]; exact Row.new V2 25 _
        have HGZ := Lib.hid HV.out.size
        have HD := Lib.hid (HD.out.up hx.below)
        have HV := Lib.hid (Below.then HV.out hx.below HV.out.size)
        clear hx hV
        refine hK.out _ _ (HSS.out V3 HV.out) (fun hHeld => ?_)
        clear hK K
        try simp only [Act.put]
        try simp only [List.setIfInBounds_toArray]
        try simp only [List.set_cons_succ]
        try simp only [List.set_cons_zero]
        refine wpAnyH_ready (rs := [8]) (by kernel_rfl) (by simp) ?_
        refine (AllReadyH.cons rfl (fun K hK => ?_) AllReadyH.nil)
        have m0 : V3.cell? ⟨V2.heap.size, 0, none⟩ = some (.map none) := HG.out.cell 0
        have m2 := HG.out.frozen 0
        have m4 := HG.out.lt
        go_simp
        obtain ⟨V4, hV⟩ : ∃ V', V' = V3.setCell ⟨V2.heap.size, 0, none⟩ (.map (some bd)) := ⟨_, rfl⟩
        rw [← hV]
        have HG : Hid (Row V4 V2.heap.size 25 [.map (some bd)]) := by show Row _ _ _ _; rw [hV]; exact HG.out.set 0 _
        have HD : Hid (DbM (fun b => (P b ∧ b ≠ w.heap.size + 3 ∧ b ≠ w.heap.size + 4) ∧ b < W2.heap.size) X V4 (.map (some bd)) x.db) := by show DbM _ _ _ _ _; rw [hV]; exact HD.out.keep (Stay.set (fun h => by have := HGZ.out; have := h.2; omega) _ _)
        have HV : Hid (Below W2.heap.size W2 V4) := by show Below _ _ _; rw [hV]; exact HV.out.setCell HGZ.out _
        clear m0 m2 m4 hV
        refine hK.out _ _ (HSS.out V4 HV.out) (fun hHeld => ?_)
        clear hK K
        try simp only [Act.put]
        try simp only [List.setIfInBounds_toArray]
        try simp only [List.set_cons_succ]
        try simp only [List.set_cons_zero]
        refine takeOp (i := 9) (v := ?_) (some 25) rfl rfl (by kernel_rfl) (by kernel_rfl) (by kernel_rfl) (fun _ _ _ h => h) (Or.inl ⟨by rfl, ?_⟩) (by assumption) ?_
        rotate_left 1
        · (intro w0 hSw; (try dsimp only at hSw); go_simp; try (with_reducible rfl))
        try simp only [Act.put]
        try simp only [List.setIfInBounds_toArray]
        try simp only [List.set_cons_succ]
        try simp only [List.set_cons_zero]
        refine wpAnyH_done (by kernel_rfl) ?_ _
        go_wp2_with fail
        go_meet
        case rel => exact ⟨V2.heap.size, bd, rfl, rfl, HGZ.out, HG.out, HD.out, HV.out⟩
      · go_simp
        obtain ⟨V2, hV⟩ : ∃ V', V' = V1.alloc (.cells #[.map none] 25) := ⟨_, rfl⟩
        rw [← hV]
        have hx : Ext V1 V2 := by rw [hV]; exact (Ext.refl V1).alloc _
        have HG : Hid (Row V2 V1.heap.size 25 [.map none]) := by show Row _ _ _ _; rw [hV]; exact Row.new V1 25 _
        have HGZ := Lib.hid HV.out.size
        have HV := Lib.hid (Below.then HV.out hx.below HV.out.size)
        clear hx hV
        refine hK.out _ _ (HSS.out V2 HV.out) (fun hHeld => ?_)
        clear hK K
        try simp only [Act.put]
        try simp only [List.setIfInBounds_toArray]
        try simp only [List.set_cons_succ]
        try simp only [List.set_cons_zero]
        refine wpAnyH_ready (rs := [3]) (by kernel_rfl) (by simp) ?_
        refine (AllReadyH.cons rfl (fun K hK => ?_) AllReadyH.nil)
        go_simp
        refine (snAt_all (l := l) (n := l) (HSQ.out.up HV.out) HLW.out).mono ?_
        rintro e V3 ⟨-, hat, hx⟩
        obtain ⟨bd, rfl, hd⟩ := hat x HFX.out
        have HD := Lib.hid (hd.up hx.below)
        have HG := Lib.hid (HG.out.up hx.below)
        have HV := Lib.hid (Below.then HV.out hx.below HV.out.size)
        clear hx hat hd
        go_wp2_with fail
        refine hK.out _ _ (HSS.out V3 HV.out) (fun hHeld => ?_)
        clear hK K
        try simp only [Act.put]
        try simp only [List.setIfInBounds_toArray]
        try simp only [List.set_cons_succ]
        try simp only [List.set_cons_zero]
        refine takeOp (i := 4) (v := ?_) (some 100) rfl rfl (by kernel_rfl) (by kernel_rfl) (by kernel_rfl) (fun _ _ _ h => h) (Or.inl ⟨by rfl, ?_⟩) (by assumption) ?_
        rotate_left 1
        · (intro w0 hSw; (try dsimp only at hSw); go_simp; try (with_reducible rfl))
        try simp only [Act.put]
        try simp only [List.setIfInBounds_toArray]
        try simp only [List.set_cons_succ]
        try simp only [List.set_cons_zero]
        refine takeOp (i := 5) (v := ?_) (some 105) rfl rfl (by kernel_rfl) (by kernel_rfl) (by kernel_rfl) (fun _ _ _ h => h) (Or.inl ⟨by rfl, ?_⟩) (by assumption) ?_
        rotate_left 1
        · (intro w0 hSw; (try dsimp only at hSw); go_simp; try (with_reducible rfl))
        try simp only [Act.put]
        try simp only [List.setIfInBounds_toArray]
        try simp only [List.set_cons_succ]
        try simp only [List.set_cons_zero]
        refine takeOp (i := 6) (v := ?_) (some 106) rfl rfl (by kernel_rfl) (by kernel_rfl) (by kernel_rfl) (fun _ _ _ h => h) (Or.inl ⟨by rfl, ?_⟩) (by assumption) ?_
        rotate_left 1
        · (intro w0 hSw; (try dsimp only at hSw); go_simp; try (with_reducible rfl))
        try simp only [Act.put]
        try simp only [List.setIfInBounds_toArray]
        try simp only [List.set_cons_succ]
        try simp only [List.set_cons_zero]
        refine wpAnyH_ready (rs := [8]) (by kernel_rfl) (by simp) ?_
        refine (AllReadyH.cons rfl (fun K hK => ?_) AllReadyH.nil)
        have m0 : V3.cell? ⟨V1.heap.size, 0, none⟩ = some (.map none) := HG.out.cell 0
        have m2 := HG.out.frozen 0
        have m4 := HG.out.lt
        go_simp
        obtain ⟨V4, hV⟩ : ∃ V', V' = V3.setCell ⟨V1.heap.size, 0, none⟩ (.map (some bd)) := ⟨_, rfl⟩
        rw [← hV]
        have HG : Hid (Row V4 V1.heap.size 25 [.map (some bd)]) := by show Row _ _ _ _; rw [hV]; exact HG.out.set 0 _
        have HD : Hid (DbM (fun b => (P b ∧ b ≠ w.heap.size + 3 ∧ b ≠ w.heap.size + 4) ∧ b < W2.heap.size) X V4 (.map (some bd)) x.db) := by show DbM _ _ _ _ _; rw [hV]; exact HD.out.keep (Stay.set (fun h => by have := HGZ.out; have := h.2; omega) _ _)
        have HV : Hid (Below W2.heap.size W2 V4) := by show Below _ _ _; rw [hV]; exact HV.out.setCell HGZ.out _
        clear m0 m2 m4 hV
        refine hK.out _ _ (HSS.out V4 HV.out) (fun hHeld => ?_)
        clear hK K
        try simp only [Act.put]
        try simp only [List.setIfInBounds_toArray]
        try simp only [List.set_cons_succ]
        try simp only [List.set_cons_zero]
        refine takeOp (i := 9) (v := ?_) (some 25) rfl rfl (by kernel_rfl) (by kernel_rfl) (by kernel_rfl) (fun _ _ _ h => h) (Or.inl ⟨by rfl, ?_⟩) (by assumption) ?_
        rotate_left 1
        · (intro w0 hSw; (try dsimp only at hSw); go_simp; try (with_reducible rfl))
        try simp only [Act.put]
        try simp only [List.setIfInBounds_toArray]
        try simp only [List.set_cons_succ]
        try simp only [List.set_cons_zero]
        refine wpAnyH_done (by kernel_rfl) ?_ _
        go_wp2_with fail
        go_meet
        case rel => exact ⟨V1.heap.size, bd, rfl, rfl, HGZ.out, HG.out, HD.out, HV.out⟩
    · go_simp
      obtain ⟨V1, hV⟩ : ∃ V', V' = V0.alloc (.cells #[.map none] 25) := ⟨_, rfl⟩
      rw [← hV]
      have hx : Ext V0 V1 := by rw [hV]; exact (Ext.refl V0).alloc _
      have HG : Hid (Row V1 V0.heap.size 25 [.map none]) := by show Row _ _ _ _; rw [hV]; exact Row.new V0 25 _
      have HGZ := Lib.hid HV.out.size
      have HV := Lib.hid (Below.then HV.out hx.below HV.out.size)
      clear hx hV
      refine hK.out _ _ (HSS.out V1 HV.out) (fun hHeld => ?_)
      clear hK K
      try simp only [Act.put]
      try simp only [List.setIfInBounds_toArray]
      try simp only [List.set_cons_succ]
      try simp only [List.set_cons_zero]
      refine wpAnyH_ready (rs := [2]) (by kernel_rfl) (by simp) ?_
      refine (AllReadyH.cons rfl (fun K hK => ?_) AllReadyH.nil)
      go_simp
      refine (snLatest_any (.map (some b0)) l V1).mono ?_
      rintro e V2 ⟨rfl, hx⟩
      have HG := Lib.hid (HG.out.up hx.below)
      have HV := Lib.hid (Below.then HV.out hx.below HV.out.size)
      clear hx
      go_wp2_with fail
      refine hK.out _ _ (HSS.out V2 HV.out) (fun hHeld => ?_)
      clear hK K
      try simp only [Act.put]
      try simp only [List.setIfInBounds_toArray]
      try simp only [List.set_cons_succ]
      try simp only [List.set_cons_zero]
      refine wpAnyH_ready (rs := [3]) (by kernel_rfl) (by simp) ?_
      refine (AllReadyH.cons rfl (fun K hK => ?_) AllReadyH.nil)
      go_simp
      refine (snAt_all (l := l) (n := l) (HSQ.out.up HV.out) HLW.out).mono ?_
      rintro e V3 ⟨-, hat, hx⟩
      obtain ⟨bd, rfl, hd⟩ := hat x HFX.out
      have HD := Lib.hid (hd.up hx.below)
      have HG := Lib.hid (HG.out.up hx.below)
      have HV := Lib.hid (Below.then HV.out hx.below HV.out.size)
      clear hx hat hd
      go_wp2_with fail
      refine hK.out _ _ (HSS.out V3 HV.out) (fun hHeld => ?_)
      clear hK K
      try simp only [Act.put]
      try simp only [List.setIfInBounds_toArray]
      try simp only [List.set_cons_succ]
      try simp only [List.set_cons_zero]
      refine takeOp (i := 4) (v := ?_) (some 100) rfl rfl (by kernel_rfl) (by kernel_rfl) (by kernel_rfl) (fun _ _ _ h => h) (Or.inl ⟨by rfl, ?_⟩) (by assumption) ?_
      rotate_left 1
      · (intro w0 hSw; (try dsimp only at hSw); go_simp; try (with_reducible rfl))
      try simp only [Act.put]
      try simp only [List.setIfInBounds_toArray]
      try simp only [List.set_cons_succ]
      try simp only [List.set_cons_zero]
      refine takeOp (i := 5) (v := ?_) (some 105) rfl rfl (by kernel_rfl) (by kernel_rfl) (by kernel_rfl) (fun _ _ _ h => h) (Or.inl ⟨by rfl, ?_⟩) (by assumption) ?_
      rotate_left 1
      · (intro w0 hSw; (try dsimp only at hSw); go_simp; try (with_reducible rfl))
      try simp only [Act.put]
      try simp only [List.setIfInBounds_toArray]
      try simp only [List.set_cons_succ]
      try simp only [List.set_cons_zero]
      refine takeOp (i := 6) (v := ?_) (some 106) rfl rfl (by kernel_rfl) (by kernel_rfl) (by kernel_rfl) (fun _ _ _ h => h) (Or.inl ⟨by rfl, ?_⟩) (by assumption) ?_
      rotate_left 1
      · (intro w0 hSw; (try dsimp only at hSw); go_simp; try (with_reducible rfl))
      try simp only [Act.put]
      try simp only [List.setIfInBounds_toArray]
      try simp only [List.set_cons_succ]
      try simp only [List.set_cons_zero]
      refine wpAnyH_ready (rs := [8]) (by kernel_rfl) (by simp) ?_
      refine (AllReadyH.cons rfl (fun K hK => ?_) AllReadyH.nil)
      have m0 : V3.cell? ⟨V0.heap.size, 0, none⟩ = some (.map none) := HG.out.cell 0
      have m2 := HG.out.frozen 0
      have m4 := HG.out.lt
      go_simp
      obtain ⟨V4, hV⟩ : ∃ V', V' = V3.setCell ⟨V0.heap.size, 0, none⟩ (.map (some bd)) := ⟨_, rfl⟩
      rw [← hV]
      have HG : Hid (Row V4 V0.heap.size 25 [.map (some bd)]) := by show Row _ _ _ _; rw [hV]; exact HG.out.set 0 _
      have HD : Hid (DbM (fun b => (P b ∧ b ≠ w.heap.size + 3 ∧ b ≠ w.heap.size + 4) ∧ b < W2.heap.size) X V4 (.map (some bd)) x.db) := by show DbM _ _ _ _ _; rw [hV]; exact HD.out.keep (Stay.set (fun h => by have := HGZ.out; have := h.2; omega) _ _)
      have HV : Hid (Below W2.heap.size W2 V4) := by show Below _ _ _; rw [hV]; exact HV.out.setCell HGZ.out _
      clear m0 m2 m4 hV
      refine hK.out _ _ (HSS.out V4 HV.out) (fun hHeld => ?_)
      clear hK K
      try simp only [Act.put]
      try simp only [List.setIfInBounds_toArray]
      try simp only [List.set_cons_succ]
      try simp only [List.set_cons_zero]
      refine takeOp (i := 9) (v := ?_) (some 25) rfl rfl (by kernel_rfl) (by kernel_rfl) (by kernel_rfl) (fun _ _ _ h => h) (Or.inl ⟨by rfl, ?_⟩) (by assumption) ?_
      rotate_left 1
      · (intro w0 hSw; (try dsimp only at hSw); go_simp; try (with_reducible rfl))
      try simp only [Act.put]
      try simp only [List.setIfInBounds_toArray]
      try simp only [List.set_cons_succ]
      try simp only [List.set_cons_zero]
      refine wpAnyH_done (by kernel_rfl) ?_ _
      go_wp2_with fail
      go_meet
      case rel => exact ⟨V0.heap.size, bd, rfl, rfl, HGZ.out, HG.out, HD.out, HV.out⟩
  case rest =>
  obtain ⟨g24, bd, rfl, rfl, -, hg24, hd24, hb24⟩ := hcut
  have HDB := Lib.hid (hd24.weak (P' := fun b => P b ∧ b ≠ w.heap.size + 3 ∧ b ≠ w.heap.size + 4) fun b _ hp => hp.1)
  have HB04 := Lib.hid (Below.then HB02.out hb24 HB02.out.size)
  have HBW4 := Lib.hid (Below.then HBW2.out hb24 HBW2.out.size)
  have HB24 := Lib.hid hb24
  have HR34 := Lib.hid (HR32.out.up hb24)
  have HP5 := Lib.hid (ctApply_any _ X _ x.db UA UC us wc HDB.out (HPN.out wc HB04.out.size) (HUP.out wc HBW4.out wc (Stay.refl _ _)) HOK.out (Nat.le_trans HUL.out (by decide)) (Nat.le_trans hXl (by decide)))
  have d0 : wc.cell? ⟨g24, 0, none⟩ = some (.map (some bd)) := hg24.cell 0
  have d1 := hg24.lt
  have a2 : wc.cell? ⟨w.heap.size + 2, 2, none⟩ = some (.slice UA us.length UC) := HR34.out.cell 2
  have a3 := HR34.out.lt
  clear hg24 hd24 hb24 HDB s0 s1 z2 HSQ HSS
  go_wp2_with fail
  clear d0 d1 a2 a3
  refine HP5.out.mono ?_
  rintro e w5 hap
  obtain ⟨mm, nn, rfl, hb5⟩ : ∃ mm nn, e = .returned (.tuple #[.agg #[.map mm], .int .i64 nn, .int .i64 E]) ∧ Below wc.heap.size wc w5 := by
    have h1 := HE.out
    obtain ⟨p1, p2, p3⟩ := hap
    rw [← h1] at p1 p2
    by_cases h0 : E = 0
    · obtain ⟨mm, e1, hd1⟩ := p1 h0
      obtain ⟨b1, rfl⟩ := hd1.form
      exact ⟨some b1, _, by rw [e1, h0], p3⟩
    · exact ⟨_, _, p2 h0, p3⟩
  obtain ⟨g26, hg26⟩ : ∃ g, g = w5.heap.size := ⟨_, rfl⟩
  obtain ⟨W8, hW8⟩ : ∃ W, W = w5.alloc (.cells #[.map mm] 25) := ⟨_, rfl⟩
  have hx8 : Ext w5 W8 := by rw [hW8]; exact (Ext.refl w5).alloc _
  have HBc8 := Lib.hid (Below.then hb5 hx8.below hb5.size)
  have HB28 := Lib.hid (Below.then HB24.out HBc8.out HB24.out.size)
  have HB08 := Lib.hid (Below.then HB04.out HBc8.out HB04.out.size)
  have HBW8 := Lib.hid (Below.then HBW4.out HBc8.out HBW4.out.size)
  have HR28 := Lib.hid (HR22.out.up HB28.out)
  have HR38 := Lib.hid (HR32.out.up HB28.out)
  have HG9R8 := Lib.hid (HG9R.out.up HB28.out)
  have HST8 := Lib.hid (HST2.out.up HB28.out)
  have HRS8 := Lib.hid (HRS.out.up HB08.out)
  have r0 : W8.cell? ⟨w.heap.size + 1, 0, none⟩ = some (.slice VA vs.length VC) := HR28.out.cell 0
  have r1 : W8.cell? ⟨w.heap.size + 1, 1, none⟩ = some (.slice BA bs.length BC) := HR28.out.cell 1
  have z2 := HR28.out.lt
  have a2 : W8.cell? ⟨w.heap.size + 2, 2, none⟩ = some (.slice UA us.length UC) := HR38.out.cell 2
  have a3 := HR38.out.lt
  have q64 := HQ64.out
  have HW8 := Lib.hid hW8
  have HG26 := Lib.hid hg26
  have HZ9 : Hid (w.heap.size + 4 < g9) := by
    have h1 := HZ.out
    have h2 : g9 = _ := HG9.out
    have h3 := HW2a.out
    show _ < _
    omega
  clear hap hb5 hg26 hW8 hx8 HP5
  go_upto_region 17 with (fail)
  rw [← HW8.out, ← HG26.out]
  clear HW8
  by_cases h0 : E = 0
  · have e0 : (E != 0) = false := by simpa using h0
    have HCM : Hid (Calls Try.prog 44 #[.agg #[.slice VA vs.length VC, .slice BA bs.length BC], .slice UA us.length UC] W8 (ComPost (fun b => P b ∧ b ≠ w.heap.size + 3 ∧ b ≠ w.heap.size + 4) (vs ++ [⟨l + 1, 0, bs.length + 1⟩]) (bs ++ [us]) W8)) := by
      obtain ⟨t, p, hvs⟩ := HREL.out.last
      have hgd := HREL.out.good
      have h1 := hgd.low
      have h2 := hgd.high
      have h3 := HFA.out
      have hl3 : vs.length = t.length + 1 := by rw [hvs, List.length_append]; rfl
      have := r16Commit_any (fun b => P b ∧ b ≠ w.heap.size + 3 ∧ b ≠ w.heap.size + 4) (.agg #[.slice VA vs.length VC, .slice BA bs.length BC]) t ⟨l, p, bs.length⟩ bs UA UC us W8 (by rw [← hvs]; exact HRS8.out) (HPN.out W8 HB08.out.size) (by omega) (by omega) ⟨h1, by show l ≤ 1000000; omega⟩ (HUP.out W8 HBW8.out)
      rw [← hvs] at this
      exact this
    have HRL := Lib.hid (HRL0.out h0)
    have hl2 := HC0.out h0
    have hn1 := HN1.out
    rw [if_pos h0] at hn1
    have hn2 := hn1.symm
    clear hn1
    subst hn2
    subst h0
    clear HC0 HC1 HN1 HRL0 HRL1 HE
    go_wp2_with fail
    clear r0 r1 z2 a2 a3
    refine HCM.out.mono ?_
    rintro e w9 ⟨rv, rfl, hrs9, hb9⟩
    obtain ⟨VA3, VC3, BA3, BC3, hds3, rfl, hall3⟩ := id hrs9
    clear hall3
    obtain ⟨vs2, hvs2⟩ : ∃ v, v = vs ++ [(⟨l + 1, 0, bs.length + 1⟩ : RV)] := ⟨_, rfl⟩
    obtain ⟨bs2, hbs2⟩ : ∃ v, v = bs ++ [us] := ⟨_, rfl⟩
    rw [← hvs2, ← hbs2] at hrs9
    rw [← hvs2, ← hbs2] at HRL
    rw [← hvs2, ← hbs2]
    obtain ⟨g11, hg11⟩ : ∃ g, g = w9.heap.size := ⟨_, rfl⟩
    obtain ⟨W4, hW4⟩ : ∃ W, W = w9.alloc (.cells #[.slice VA3 vs2.length VC3, .slice BA3 bs2.length BC3] 66) := ⟨_, rfl⟩
    have hx4 : Ext w9 W4 := by rw [hW4]; exact (Ext.refl w9).alloc _
    have HB84 := Lib.hid (Below.then hb9 hx4.below hb9.size)
    have HG11R : Hid (Row W4 g11 66 [.slice VA3 vs2.length VC3, .slice BA3 bs2.length BC3]) := by show Row _ _ _ _; rw [hW4, hg11]; exact Row.new w9 66 _
    have HG9R4 := Lib.hid (HG9R8.out.up HB84.out)
    have HB04 := Lib.hid (Below.then HB08.out HB84.out HB08.out.size)
    have HST4 := Lib.hid (HST8.out.up HB84.out)
    have HRS4 := Lib.hid (hrs9.up hx4.below)
    have HBW4 := Lib.hid (Below.then HBW8.out HB84.out HBW8.out.size)
    have HLT : Hid (∀ W, Below W4.heap.size W4 W → Calls Try.prog 40 #[.agg #[.slice VA3 vs2.length VC3, .slice BA3 bs2.length BC3]] W fun e w' => e = .returned (.int .i64 l2) ∧ Ext W w') := fun W hb => by
      obtain ⟨VA', VC', BA', BC', hds', e', hsl, -⟩ := (HRS4.out.up hb).plain
      simp at e'
      obtain ⟨⟨e1, e2⟩, e3, e4⟩ := e'
      subst e1 e2 e3 e4
      have h3 := HFA.out
      rw [hvs2] at hsl
      have := r16Latest_any VA3 BA3 VC3 BC3 bs2.length vs ⟨l + 1, 0, bs.length + 1⟩ W hsl (by omega)
      rw [← hvs2] at this
      rw [hl2]
      exact this
    have HNE : Hid (w.heap.size + 3 ≠ g9 ∧ w.heap.size + 3 ≠ g11 ∧ w.heap.size + 4 ≠ g9 ∧ w.heap.size + 4 ≠ g11) := by
      have h1 := HZ.out
      have h2 := HZ9.out
      have h3 := HB08.out.size
      have h5 := hb9.size
      exact ⟨by omega, by omega, by omega, by omega⟩
    have HW4 := Lib.hid hW4
    have HG11 := Lib.hid hg11
    have HKP : Hid (∀ W, Below W4.heap.size W4 W → W.cell? ⟨g9, 0, none⟩ = some (.map (some m1)) ∧ W.cell? ⟨g9, 1, none⟩ = some (.int .i64 l2) ∧ W.cell? ⟨g11, 0, none⟩ = some (.slice VA3 vs2.length VC3) ∧ W.cell? ⟨g11, 1, none⟩ = some (.slice BA3 bs2.length BC3)) := fun W hb => ⟨(HG9R4.out.up hb).cell 0, (HG9R4.out.up hb).cell 1, (HG11R.out.up hb).cell 0, (HG11R.out.up hb).cell 1⟩
    have HL2 := Lib.hid hl2
    clear hrs9 hb9 hg11 hW4 hx4 HCM hvs2 hbs2 hl2
    go_upto_region 22 with (fail)
    rw [← HW4.out, ← HG11.out]
    clear HW4
    refine wp_region_held_drew (S := (fun w' => w'.cell? ⟨g9, 0, none⟩ = some (.map (some m1)) ∧ w'.cell? ⟨g9, 1, none⟩ = some (.int .i64 l2) ∧ w'.cell? ⟨g11, 0, none⟩ = some (.slice VA3 vs2.length VC3) ∧ w'.cell? ⟨g11, 1, none⟩ = some (.slice BA3 bs2.length BC3))) (by kernel_rfl) (HKP.out W4.drew (Below.refl _ _).drew) (fun hHeld => ?_)
    refine takeOp (i := 0) (v := ?_) (some 142) rfl rfl (by kernel_rfl) (by kernel_rfl) (by kernel_rfl) (fun _ _ _ h => h) (Or.inl ⟨by rfl, ?_⟩) (by assumption) ?_
    rotate_left 1
    · (intro w0 hSw; (try dsimp only at hSw); go_simp; try (with_reducible rfl))
    try simp only [Act.put]
    try simp only [List.setIfInBounds_toArray]
    try simp only [List.set_cons_succ]
    try simp only [List.set_cons_zero]
    refine takeOp (i := 1) (v := ?_) (some 143) rfl rfl (by kernel_rfl) (by kernel_rfl) (by kernel_rfl) (fun _ _ _ h => h) (Or.inl ⟨by rfl, ?_⟩) (by assumption) ?_
    rotate_left 1
    · (intro w0 hSw; (try dsimp only at hSw); go_simp; try (with_reducible rfl))
    try simp only [Act.put]
    try simp only [List.setIfInBounds_toArray]
    try simp only [List.set_cons_succ]
    try simp only [List.set_cons_zero]
    refine takeOp (i := 2) (v := ?_) (some 144) rfl rfl (by kernel_rfl) (by kernel_rfl) (by kernel_rfl) (fun _ _ _ h => h) (Or.inl ⟨by rfl, ?_⟩) (by assumption) ?_
    rotate_left 1
    · (intro w0 hSw; (try dsimp only at hSw); go_simp; try (with_reducible rfl))
    try simp only [Act.put]
    try simp only [List.setIfInBounds_toArray]
    try simp only [List.set_cons_succ]
    try simp only [List.set_cons_zero]
    refine takeOp (i := 3) (v := ?_) (some 145) rfl rfl (by kernel_rfl) (by kernel_rfl) (by kernel_rfl) (fun _ _ _ h => h) (Or.inl ⟨by rfl, ?_⟩) (by assumption) ?_
    rotate_left 1
    · (intro w0 hSw; (try dsimp only at hSw); go_simp; try (with_reducible rfl))
    try simp only [Act.put]
    try simp only [List.setIfInBounds_toArray]
    try simp only [List.set_cons_succ]
    try simp only [List.set_cons_zero]
    refine takeOp (i := 4) (v := ?_) (some 146) rfl rfl (by kernel_rfl) (by kernel_rfl) (by kernel_rfl) (fun _ _ _ h => h) (Or.inl ⟨by rfl, ?_⟩) (by assumption) ?_
    rotate_left 1
    · (intro w0 hSw; (try dsimp only at hSw); go_simp; try (with_reducible rfl))
    try simp only [Act.put]
    try simp only [List.setIfInBounds_toArray]
    try simp only [List.set_cons_succ]
    try simp only [List.set_cons_zero]
    refine takeOp (i := 5) (v := ?_) (some 147) rfl rfl (by kernel_rfl) (by kernel_rfl) (by kernel_rfl) (fun _ _ _ h => h) (Or.inl ⟨by rfl, ?_⟩) (by assumption) ?_
    rotate_left 1
    · (intro w0 hSw; (try dsimp only at hSw); go_simp; try (with_reducible rfl))
    try simp only [Act.put]
    try simp only [List.setIfInBounds_toArray]
    try simp only [List.set_cons_succ]
    try simp only [List.set_cons_zero]
    refine takeOp (i := 6) (v := ?_) (some 148) rfl rfl (by kernel_rfl) (by kernel_rfl) (by kernel_rfl) (fun _ _ _ h => h) (Or.inl ⟨by rfl, ?_⟩) (by assumption) ?_
    rotate_left 1
    · (intro w0 hSw; (try dsimp only at hSw); go_simp; try (with_reducible rfl))
    try simp only [Act.put]
    try simp only [List.setIfInBounds_toArray]
    try simp only [List.set_cons_succ]
    try simp only [List.set_cons_zero]
    refine wpAnyH_ready (rs := [7]) (by kernel_rfl) (by simp) ?_
    refine AllReadyH.cons rfl (fun K hK => ?_) AllReadyH.nil
    go_simp
    refine (HLT.out W4.drew (Below.refl _ _).drew).mono ?_
    rintro e V5 ⟨rfl, hx⟩
    have HV5 : Hid (Below W4.heap.size W4 V5) := Below.undrew hx.below
    have HB05 := Lib.hid (Below.then HB04.out HV5.out HB04.out.size)
    have HR64 := Lib.hid (HR6.out.up HB05.out)
    have HR74 := Lib.hid (HR7.out.up HB05.out)
    have HG9R5 := Lib.hid (HG9R4.out.up HV5.out)
    have HG11R5 := Lib.hid (HG11R.out.up HV5.out)
    have HST5 := Lib.hid (HST4.out.up HV5.out)
    have HRS5 := Lib.hid (HRS4.out.up HV5.out)
    have HBW5 := Lib.hid (Below.then HBW4.out HV5.out HBW4.out.size)
    clear hx
    go_wp2_with fail
    refine hK.out _ _ (HKP.out V5 HV5.out) (fun hHeld => ?_)
    clear hK K
    try simp only [Act.put]
    try simp only [List.setIfInBounds_toArray]
    try simp only [List.set_cons_succ]
    try simp only [List.set_cons_zero]
    refine takeOp (i := 8) (v := ?_) (some 150) rfl rfl (by kernel_rfl) (by kernel_rfl) (by kernel_rfl) (fun _ _ _ h => h) (Or.inl ⟨by rfl, ?_⟩) (by assumption) ?_
    rotate_left 1
    · (intro w0 hSw; (try dsimp only at hSw); go_simp; try (with_reducible rfl))
    try simp only [Act.put]
    try simp only [List.setIfInBounds_toArray]
    try simp only [List.set_cons_succ]
    try simp only [List.set_cons_zero]
    refine takeOp (i := 9) (v := ?_) (some 151) rfl rfl (by kernel_rfl) (by kernel_rfl) (by kernel_rfl) (fun _ _ _ h => h) (Or.inl ⟨by rfl, ?_⟩) (by assumption) ?_
    rotate_left 1
    · (intro w0 hSw; (try dsimp only at hSw); go_simp; try (with_reducible rfl))
    try simp only [Act.put]
    try simp only [List.setIfInBounds_toArray]
    try simp only [List.set_cons_succ]
    try simp only [List.set_cons_zero]
    refine wpAnyH_ready (rs := [10]) (by kernel_rfl) (by simp) ?_
    refine AllReadyH.cons rfl (fun K hK => ?_) AllReadyH.nil
    have m0 : V5.cell? ⟨w.heap.size + 3, 0, none⟩ = some (.map none) := HR64.out.cell 0
    have m1' : V5.cell? ⟨w.heap.size + 3, 1, none⟩ = some (.int .i64 0) := HR64.out.cell 1
    have m2 := HR64.out.frozen 0
    have m3 := HR64.out.frozen 1
    have m4 := HR64.out.lt
    go_simp
    obtain ⟨V6, hV6⟩ : ∃ V', V' = (V5.setCell ⟨w.heap.size + 3, 0, none⟩ (.map (some m1))).setCell ⟨w.heap.size + 3, 1, none⟩ (.int .i64 l2) := ⟨_, rfl⟩
    rw [← hV6]
    have HS6 : Hid (Stay (fun b => P b ∧ b ≠ w.heap.size + 3 ∧ b ≠ w.heap.size + 4) V5 V6) := by show Stay _ _ _; rw [hV6]; exact (Stay.two6 _ _)
    have HB6 : Hid (Below w.heap.size w V6) := by show Below _ _ _; rw [hV6]; exact ((HBW5.out.setCell (by show w.heap.size ≤ w.heap.size + 3; omega) _).setCell (by show w.heap.size ≤ w.heap.size + 3; omega) _)
    have HR66 : Hid (Row V6 (w.heap.size + 3) 31 [.map (some m1), .int .i64 l2]) := by show Row _ _ _ _; rw [hV6]; exact HR64.out.set2 _ _
    have HR76 : Hid (Row V6 (w.heap.size + 4) 66 [.slice none 0 0, .slice none 0 0]) := by show Row _ _ _ _; rw [hV6]; exact (HR74.out.far (show w.heap.size + 4 ≠ w.heap.size + 3 by omega) _).far (show w.heap.size + 4 ≠ w.heap.size + 3 by omega) _
    have K6 : V6.cell? ⟨g9, 0, none⟩ = some (.map (some m1)) ∧ V6.cell? ⟨g9, 1, none⟩ = some (.int .i64 l2) ∧ V6.cell? ⟨g11, 0, none⟩ = some (.slice VA3 vs2.length VC3) ∧ V6.cell? ⟨g11, 1, none⟩ = some (.slice BA3 bs2.length BC3) := by
      rw [hV6]
      exact ⟨far_cell HNE.out.1 (far_cell HNE.out.1 (HG9R5.out.cell 0)), far_cell HNE.out.1 (far_cell HNE.out.1 (HG9R5.out.cell 1)), far_cell HNE.out.2.1 (far_cell HNE.out.2.1 (HG11R5.out.cell 0)), far_cell HNE.out.2.1 (far_cell HNE.out.2.1 (HG11R5.out.cell 1))⟩
    clear m0 m1' m2 m3 m4 hV6
    refine hK.out _ _ K6 (fun hHeld => ?_)
    clear hK K
    try simp only [Act.put]
    try simp only [List.setIfInBounds_toArray]
    try simp only [List.set_cons_succ]
    try simp only [List.set_cons_zero]
    refine wpAnyH_ready (rs := [11]) (by kernel_rfl) (by simp) ?_
    refine AllReadyH.cons rfl (fun K hK => ?_) AllReadyH.nil
    have m0 : V6.cell? ⟨w.heap.size + 4, 0, none⟩ = some (.slice none 0 0) := HR76.out.cell 0
    have m1' : V6.cell? ⟨w.heap.size + 4, 1, none⟩ = some (.slice none 0 0) := HR76.out.cell 1
    have m2 := HR76.out.frozen 0
    have m3 := HR76.out.frozen 1
    have m4 := HR76.out.lt
    go_simp
    obtain ⟨V7, hV7⟩ : ∃ V', V' = (V6.setCell ⟨w.heap.size + 4, 0, none⟩ (.slice VA3 vs2.length VC3)).setCell ⟨w.heap.size + 4, 1, none⟩ (.slice BA3 bs2.length BC3) := ⟨_, rfl⟩
    rw [← hV7]
    have HS7 : Hid (Stay (fun b => P b ∧ b ≠ w.heap.size + 3 ∧ b ≠ w.heap.size + 4) V5 V7) := by show Stay _ _ _; rw [hV7]; exact HS6.out.trans (Stay.two7 _ _)
    have HB7 : Hid (Below w.heap.size w V7) := by show Below _ _ _; rw [hV7]; exact (HB6.out.setCell (by show w.heap.size ≤ w.heap.size + 4; omega) _).setCell (by show w.heap.size ≤ w.heap.size + 4; omega) _
    have hr6 : Row V7 (w.heap.size + 3) 31 [.map (some m1), .int .i64 l2] := by rw [hV7]; exact (HR66.out.far (show w.heap.size + 3 ≠ w.heap.size + 4 by omega) _).far (show w.heap.size + 3 ≠ w.heap.size + 4 by omega) _
    have hr7 : Row V7 (w.heap.size + 4) 66 [(.slice VA3 vs2.length VC3), (.slice BA3 bs2.length BC3)] := by rw [hV7]; exact HR76.out.set2 _ _
    have HE0 : Hid (V7.cell? ⟨w.heap.size + 3, 0, none⟩ = some (.map (some m1))) := hr6.cell 0
    have HE1 : Hid (V7.cell? ⟨w.heap.size + 3, 1, none⟩ = some (.int .i64 l2)) := hr6.cell 1
    have HE2 : Hid (V7.cell? ⟨w.heap.size + 4, 0, none⟩ = some (.slice VA3 vs2.length VC3)) := hr7.cell 0
    have HE3 : Hid (V7.cell? ⟨w.heap.size + 4, 1, none⟩ = some (.slice BA3 bs2.length BC3)) := hr7.cell 1
    have HE4 := Lib.hid hr6.lt
    have HE5 := Lib.hid hr7.lt
    have K7 : V7.cell? ⟨g9, 0, none⟩ = some (.map (some m1)) ∧ V7.cell? ⟨g9, 1, none⟩ = some (.int .i64 l2) ∧ V7.cell? ⟨g11, 0, none⟩ = some (.slice VA3 vs2.length VC3) ∧ V7.cell? ⟨g11, 1, none⟩ = some (.slice BA3 bs2.length BC3) := by
      rw [hV7]
      exact ⟨far_cell HNE.out.2.2.1 (far_cell HNE.out.2.2.1 K6.1), far_cell HNE.out.2.2.1 (far_cell HNE.out.2.2.1 K6.2.1), far_cell HNE.out.2.2.2 (far_cell HNE.out.2.2.2 K6.2.2.1), far_cell HNE.out.2.2.2 (far_cell HNE.out.2.2.2 K6.2.2.2)⟩
    clear m0 m1' m2 m3 m4 hV7 hr6 hr7 K6
    refine hK.out _ _ K7 (fun hHeld => ?_)
    clear hK K
    try simp only [Act.put]
    try simp only [List.setIfInBounds_toArray]
    try simp only [List.set_cons_succ]
    try simp only [List.set_cons_zero]
    refine takeOp (i := 12) (v := ?_) (some 8) rfl rfl (by kernel_rfl) (by kernel_rfl) (by kernel_rfl) (fun _ _ _ h => h) (Or.inl ⟨by rfl, ?_⟩) (by assumption) ?_
    rotate_left 1
    · (intro w0 hSw; (try dsimp only at hSw); go_simp; try (with_reducible rfl))
    try simp only [Act.put]
    try simp only [List.setIfInBounds_toArray]
    try simp only [List.set_cons_succ]
    try simp only [List.set_cons_zero]
    refine wpAnyH_done (by kernel_rfl) ?_ _
    have x0 := HE0.out
    have x1 := HE1.out
    have x2 := HE2.out
    have x3 := HE3.out
    have x4 := HE4.out
    have x5 := HE5.out
    clear hHeld
    go_wp2_with fail
    refine bodyPost_ret (v := .tuple #[.agg #[.map (some m1), .int .i64 l2], .agg #[.slice VA3 vs2.length VC3, .slice BA3 bs2.length BC3], .bool true]) (by simp [results, Try.results24, go_sem, x0, x1, x2, x3]) rfl ?_
    exact DoPost.mk HST5.out HRS5.out (by rw [HL2.out]; exact HRL.out) HS7.out HB7.out
  · have e0 : (E != 0) = true := by simpa using h0
    have HRL := Lib.hid (HRL1.out h0)
    have hn1 := HN1.out
    rw [if_neg h0] at hn1
    subst hn1
    clear HC0 HC1 HN1 HRL0 HRL1 HE h0
    have HG9R4 := HG9R8
    have HG11R := HR28
    have HR64 := Lib.hid (HR6.out.up HB08.out)
    have HR74 := Lib.hid (HR7.out.up HB08.out)
    have HNE : Hid (w.heap.size + 3 ≠ g9 ∧ w.heap.size + 3 ≠ w.heap.size + 1 ∧ w.heap.size + 4 ≠ g9 ∧ w.heap.size + 4 ≠ w.heap.size + 1) := by
      have h2 := HZ9.out
      exact ⟨by omega, by omega, by omega, by omega⟩
    have HKP : Hid (∀ W, Below W8.heap.size W8 W → W.cell? ⟨g9, 0, none⟩ = some (.map (some m1)) ∧ W.cell? ⟨g9, 1, none⟩ = some (.int .i64 l2) ∧ W.cell? ⟨w.heap.size + 1, 0, none⟩ = some (.slice VA vs.length VC) ∧ W.cell? ⟨w.heap.size + 1, 1, none⟩ = some (.slice BA bs.length BC)) := fun W hb => ⟨(HG9R4.out.up hb).cell 0, (HG9R4.out.up hb).cell 1, (HG11R.out.up hb).cell 0, (HG11R.out.up hb).cell 1⟩
    go_upto_region 20 with (fail)
    clear r0 r1 z2 a2 a3
    refine wp_region_held_drew (S := (fun w' => w'.cell? ⟨g9, 0, none⟩ = some (.map (some m1)) ∧ w'.cell? ⟨g9, 1, none⟩ = some (.int .i64 l2) ∧ w'.cell? ⟨w.heap.size + 1, 0, none⟩ = some (.slice VA vs.length VC) ∧ w'.cell? ⟨w.heap.size + 1, 1, none⟩ = some (.slice BA bs.length BC))) (by kernel_rfl) (HKP.out W8.drew (Below.refl _ _).drew) (fun hHeld => ?_)
    refine takeOp (i := 0) (v := ?_) (some 129) rfl rfl (by kernel_rfl) (by kernel_rfl) (by kernel_rfl) (fun _ _ _ h => h) (Or.inl ⟨by rfl, ?_⟩) (by assumption) ?_
    rotate_left 1
    · (intro w0 hSw; (try dsimp only at hSw); go_simp; try (with_reducible rfl))
    try simp only [Act.put]
    try simp only [List.setIfInBounds_toArray]
    try simp only [List.set_cons_succ]
    try simp only [List.set_cons_zero]
    refine takeOp (i := 1) (v := ?_) (some 130) rfl rfl (by kernel_rfl) (by kernel_rfl) (by kernel_rfl) (fun _ _ _ h => h) (Or.inl ⟨by rfl, ?_⟩) (by assumption) ?_
    rotate_left 1
    · (intro w0 hSw; (try dsimp only at hSw); go_simp; try (with_reducible rfl))
    try simp only [Act.put]
    try simp only [List.setIfInBounds_toArray]
    try simp only [List.set_cons_succ]
    try simp only [List.set_cons_zero]
    refine takeOp (i := 2) (v := ?_) (some 131) rfl rfl (by kernel_rfl) (by kernel_rfl) (by kernel_rfl) (fun _ _ _ h => h) (Or.inl ⟨by rfl, ?_⟩) (by assumption) ?_
    rotate_left 1
    · (intro w0 hSw; (try dsimp only at hSw); go_simp; try (with_reducible rfl))
    try simp only [Act.put]
    try simp only [List.setIfInBounds_toArray]
    try simp only [List.set_cons_succ]
    try simp only [List.set_cons_zero]
    refine takeOp (i := 3) (v := ?_) (some 132) rfl rfl (by kernel_rfl) (by kernel_rfl) (by kernel_rfl) (fun _ _ _ h => h) (Or.inl ⟨by rfl, ?_⟩) (by assumption) ?_
    rotate_left 1
    · (intro w0 hSw; (try dsimp only at hSw); go_simp; try (with_reducible rfl))
    try simp only [Act.put]
    try simp only [List.setIfInBounds_toArray]
    try simp only [List.set_cons_succ]
    try simp only [List.set_cons_zero]
    refine takeOp (i := 4) (v := ?_) (some 133) rfl rfl (by kernel_rfl) (by kernel_rfl) (by kernel_rfl) (fun _ _ _ h => h) (Or.inl ⟨by rfl, ?_⟩) (by assumption) ?_
    rotate_left 1
    · (intro w0 hSw; (try dsimp only at hSw); go_simp; try (with_reducible rfl))
    try simp only [Act.put]
    try simp only [List.setIfInBounds_toArray]
    try simp only [List.set_cons_succ]
    try simp only [List.set_cons_zero]
    refine takeOp (i := 5) (v := ?_) (some 134) rfl rfl (by kernel_rfl) (by kernel_rfl) (by kernel_rfl) (fun _ _ _ h => h) (Or.inl ⟨by rfl, ?_⟩) (by assumption) ?_
    rotate_left 1
    · (intro w0 hSw; (try dsimp only at hSw); go_simp; try (with_reducible rfl))
    try simp only [Act.put]
    try simp only [List.setIfInBounds_toArray]
    try simp only [List.set_cons_succ]
    try simp only [List.set_cons_zero]
    refine takeOp (i := 6) (v := ?_) (some 135) rfl rfl (by kernel_rfl) (by kernel_rfl) (by kernel_rfl) (fun _ _ _ h => h) (Or.inl ⟨by rfl, ?_⟩) (by assumption) ?_
    rotate_left 1
    · (intro w0 hSw; (try dsimp only at hSw); go_simp; try (with_reducible rfl))
    try simp only [Act.put]
    try simp only [List.setIfInBounds_toArray]
    try simp only [List.set_cons_succ]
    try simp only [List.set_cons_zero]
    refine takeOp (i := 7) (v := ?_) (some 136) rfl rfl (by kernel_rfl) (by kernel_rfl) (by kernel_rfl) (fun _ _ _ h => h) (Or.inl ⟨by rfl, ?_⟩) (by assumption) ?_
    rotate_left 1
    · (intro w0 hSw; (try dsimp only at hSw); go_simp; try (with_reducible rfl))
    try simp only [Act.put]
    try simp only [List.setIfInBounds_toArray]
    try simp only [List.set_cons_succ]
    try simp only [List.set_cons_zero]
    refine takeOp (i := 8) (v := ?_) (some 137) rfl rfl (by kernel_rfl) (by kernel_rfl) (by kernel_rfl) (fun _ _ _ h => h) (Or.inl ⟨by rfl, ?_⟩) (by assumption) ?_
    rotate_left 1
    · (intro w0 hSw; (try dsimp only at hSw); go_simp; try (with_reducible rfl))
    try simp only [Act.put]
    try simp only [List.setIfInBounds_toArray]
    try simp only [List.set_cons_succ]
    try simp only [List.set_cons_zero]
    refine wpAnyH_ready (rs := [9]) (by kernel_rfl) (by simp) ?_
    refine AllReadyH.cons rfl (fun K hK => ?_) AllReadyH.nil
    have m0 : W8.cell? ⟨w.heap.size + 3, 0, none⟩ = some (.map none) := HR64.out.cell 0
    have m1' : W8.cell? ⟨w.heap.size + 3, 1, none⟩ = some (.int .i64 0) := HR64.out.cell 1
    have m2 := HR64.out.frozen 0
    have m3 := HR64.out.frozen 1
    have m4 := HR64.out.lt
    go_simp
    obtain ⟨V6, hV6⟩ : ∃ V', V' = ((W8.setCell ⟨w.heap.size + 3, 0, none⟩ (.map (some m1))).setCell ⟨w.heap.size + 3, 1, none⟩ (.int .i64 l2)).drew := ⟨_, rfl⟩
    rw [← hV6]
    have HS6 : Hid (Stay (fun b => P b ∧ b ≠ w.heap.size + 3 ∧ b ≠ w.heap.size + 4) W8 V6) := by show Stay _ _ _; rw [hV6]; exact (Stay.two6 _ _).drawn
    have HB6 : Hid (Below w.heap.size w V6) := by show Below _ _ _; rw [hV6]; exact ((HBW8.out.setCell (by show w.heap.size ≤ w.heap.size + 3; omega) _).setCell (by show w.heap.size ≤ w.heap.size + 3; omega) _).drew
    have HR66 : Hid (Row V6 (w.heap.size + 3) 31 [.map (some m1), .int .i64 l2]) := by show Row _ _ _ _; rw [hV6]; exact HR64.out.set2 _ _
    have HR76 : Hid (Row V6 (w.heap.size + 4) 66 [.slice none 0 0, .slice none 0 0]) := by show Row _ _ _ _; rw [hV6]; exact (HR74.out.far (show w.heap.size + 4 ≠ w.heap.size + 3 by omega) _).far (show w.heap.size + 4 ≠ w.heap.size + 3 by omega) _
    have K6 : V6.cell? ⟨g9, 0, none⟩ = some (.map (some m1)) ∧ V6.cell? ⟨g9, 1, none⟩ = some (.int .i64 l2) ∧ V6.cell? ⟨(w.heap.size + 1), 0, none⟩ = some (.slice VA vs.length VC) ∧ V6.cell? ⟨(w.heap.size + 1), 1, none⟩ = some (.slice BA bs.length BC) := by
      rw [hV6]
      exact ⟨far_cell HNE.out.1 (far_cell HNE.out.1 (HG9R4.out.cell 0)), far_cell HNE.out.1 (far_cell HNE.out.1 (HG9R4.out.cell 1)), far_cell HNE.out.2.1 (far_cell HNE.out.2.1 (HG11R.out.cell 0)), far_cell HNE.out.2.1 (far_cell HNE.out.2.1 (HG11R.out.cell 1))⟩
    clear m0 m1' m2 m3 m4 hV6
    refine hK.out _ _ K6 (fun hHeld => ?_)
    clear hK K
    try simp only [Act.put]
    try simp only [List.setIfInBounds_toArray]
    try simp only [List.set_cons_succ]
    try simp only [List.set_cons_zero]
    refine wpAnyH_ready (rs := [10]) (by kernel_rfl) (by simp) ?_
    refine AllReadyH.cons rfl (fun K hK => ?_) AllReadyH.nil
    have m0 : V6.cell? ⟨w.heap.size + 4, 0, none⟩ = some (.slice none 0 0) := HR76.out.cell 0
    have m1' : V6.cell? ⟨w.heap.size + 4, 1, none⟩ = some (.slice none 0 0) := HR76.out.cell 1
    have m2 := HR76.out.frozen 0
    have m3 := HR76.out.frozen 1
    have m4 := HR76.out.lt
    go_simp
    obtain ⟨V7, hV7⟩ : ∃ V', V' = (V6.setCell ⟨w.heap.size + 4, 0, none⟩ (.slice VA vs.length VC)).setCell ⟨w.heap.size + 4, 1, none⟩ (.slice BA bs.length BC) := ⟨_, rfl⟩
    rw [← hV7]
    have HS7 : Hid (Stay (fun b => P b ∧ b ≠ w.heap.size + 3 ∧ b ≠ w.heap.size + 4) W8 V7) := by show Stay _ _ _; rw [hV7]; exact HS6.out.trans (Stay.two7 _ _)
    have HB7 : Hid (Below w.heap.size w V7) := by show Below _ _ _; rw [hV7]; exact (HB6.out.setCell (by show w.heap.size ≤ w.heap.size + 4; omega) _).setCell (by show w.heap.size ≤ w.heap.size + 4; omega) _
    have hr6 : Row V7 (w.heap.size + 3) 31 [.map (some m1), .int .i64 l2] := by rw [hV7]; exact (HR66.out.far (show w.heap.size + 3 ≠ w.heap.size + 4 by omega) _).far (show w.heap.size + 3 ≠ w.heap.size + 4 by omega) _
    have hr7 : Row V7 (w.heap.size + 4) 66 [(.slice VA vs.length VC), (.slice BA bs.length BC)] := by rw [hV7]; exact HR76.out.set2 _ _
    have HE0 : Hid (V7.cell? ⟨w.heap.size + 3, 0, none⟩ = some (.map (some m1))) := hr6.cell 0
    have HE1 : Hid (V7.cell? ⟨w.heap.size + 3, 1, none⟩ = some (.int .i64 l2)) := hr6.cell 1
    have HE2 : Hid (V7.cell? ⟨w.heap.size + 4, 0, none⟩ = some (.slice VA vs.length VC)) := hr7.cell 0
    have HE3 : Hid (V7.cell? ⟨w.heap.size + 4, 1, none⟩ = some (.slice BA bs.length BC)) := hr7.cell 1
    have HE4 := Lib.hid hr6.lt
    have HE5 := Lib.hid hr7.lt
    have K7 : V7.cell? ⟨g9, 0, none⟩ = some (.map (some m1)) ∧ V7.cell? ⟨g9, 1, none⟩ = some (.int .i64 l2) ∧ V7.cell? ⟨(w.heap.size + 1), 0, none⟩ = some (.slice VA vs.length VC) ∧ V7.cell? ⟨(w.heap.size + 1), 1, none⟩ = some (.slice BA bs.length BC) := by
      rw [hV7]
      exact ⟨far_cell HNE.out.2.2.1 (far_cell HNE.out.2.2.1 K6.1), far_cell HNE.out.2.2.1 (far_cell HNE.out.2.2.1 K6.2.1), far_cell HNE.out.2.2.2 (far_cell HNE.out.2.2.2 K6.2.2.1), far_cell HNE.out.2.2.2 (far_cell HNE.out.2.2.2 K6.2.2.2)⟩
    clear m0 m1' m2 m3 m4 hV7 hr6 hr7 K6
    refine hK.out _ _ K7 (fun hHeld => ?_)
    clear hK K
    try simp only [Act.put]
    try simp only [List.setIfInBounds_toArray]
    try simp only [List.set_cons_succ]
    try simp only [List.set_cons_zero]
    refine takeOp (i := 11) (v := ?_) (some 8) rfl rfl (by kernel_rfl) (by kernel_rfl) (by kernel_rfl) (fun _ _ _ h => h) (Or.inl ⟨by rfl, ?_⟩) (by assumption) ?_
    rotate_left 1
    · (intro w0 hSw; (try dsimp only at hSw); go_simp; try (with_reducible rfl))
    try simp only [Act.put]
    try simp only [List.setIfInBounds_toArray]
    try simp only [List.set_cons_succ]
    try simp only [List.set_cons_zero]
    refine wpAnyH_done (by kernel_rfl) ?_ _
    have x0 := HE0.out
    have x1 := HE1.out
    have x2 := HE2.out
    have x3 := HE3.out
    have x4 := HE4.out
    have x5 := HE5.out
    clear hHeld
    go_wp2_with fail
    refine bodyPost_ret (v := .tuple #[.agg #[.map (some m1), .int .i64 l2], .agg #[.slice VA vs.length VC, .slice BA bs.length BC], .bool true]) (by simp [results, Try.results24, go_sem, x0, x1, x2, x3]) rfl ?_
    exact DoPost.mk HST8.out HRS8.out HRL.out HS7.out HB7.out

end Go.Proofs.Ytgaffbdcpkbdhaa
end

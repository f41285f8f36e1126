/- Walk: the law SnapshotPins (chapter 16). -/
import Derived.Test.YtgaffbdcpkbdhaaQ6
namespace Go.Proofs.Ytgaffbdcpkbdhaa
open Go.RowKit Go.Sort Go.ChangeMaps Go.WideShapes

theorem putV_one (n : Int) (F : Cont) (p q : Int) : putV [⟨n, F, p⟩] ⟨n, F, q⟩ = [⟨n, F, q⟩] := by
  unfold putV
  rw [if_neg (by show ¬ n < n; omega), if_pos rfl]

set_option maxHeartbeats 16000000 in
set_option maxRecDepth 100000 in
theorem l16Pins_any (A : Option Addr) (C : Nat) (l : List Bool) (w : World) (hs : BoolsM w.heap.size w A l) : Calls Try.prog 4 #[.slice A l.length C] w fun e w' => e = .returned (.bool true) ∧ Below w.heap.size w w' := by
  have HA := Lib.hid (l16awake_any w)
  have HS := Lib.hid hs
  clear hs
  go_enter Try.func4, Try.ntmps4
  go_wp2_with fail
  refine HA.out.mono ?_
  rintro e w1 ⟨rfl, hb1⟩
  have HN := Lib.hid (ctNew_any (fun _ => True) none 0 [] w1 (fun _ _ => trivial) (schs_nil w1) (fun p hp => by cases hp) (by decide))
  have HB1 := Lib.hid hb1
  clear hb1 HA
  by_cases hlen : 100 < l.length
  · have q1 : (100 : Int) < (l.length : Int) := by omega
    go_wp2_with fail
    go_ret
    exact ⟨rfl, HB1.out⟩
  have q1 : ¬ (100 : Int) < (l.length : Int) := by omega
  have q2 : l.length ≤ 100 := by omega
  go_wp2_with fail
  refine HN.out.mono ?_
  rintro e w2 ⟨h2, -, hb2⟩
  obtain ⟨m2, rfl, hdb⟩ := h2 errS_nil
  obtain ⟨bd, rfl⟩ := hdb.form
  obtain ⟨W2, hW2⟩ : ∃ W2, W2 = w2.alloc (.cells #[.map (some bd)] 25) := ⟨_, rfl⟩
  have hx2 : Ext w2 W2 := by rw [hW2]; exact (Ext.refl w2).alloc _
  have HB2 := Lib.hid (Below.then (Below.then HB1.out hb2 HB1.out.size) hx2.below (Nat.le_trans HB1.out.size hb2.size))
  have hr2 : Row W2 w2.heap.size 25 [.map (some bd)] := by rw [hW2]; exact Row.new w2 25 _
  have k0 : W2.cell? ⟨w2.heap.size, 0, none⟩ = some (.map (some bd)) := hr2.cell 0
  have k1 := hr2.lt
  have HDB := Lib.hid (hdb.up hx2.below)
  have HW2 := Lib.hid hW2
  clear h2 hb2 hdb hx2 hr2 hW2 HN HB1
  go_upto_region 6 with (fail)
  rw [← HW2.out]
  clear HW2
  go_wp2_with fail
  refine (snNew_ok (P := fun _ => True) (S := []) (m := .map (some bd)) (F := cont0) 3 (by decide) (by decide) W2 HDB.out (fun _ _ => trivial)).mono ?_
  rintro e w3 ⟨m3, rfl, hst3, hb3⟩
  obtain ⟨b3, rfl⟩ := hst3.form
  obtain ⟨W4, hW4⟩ : ∃ W4, W4 = w3.alloc (.cells #[.map (some b3), .int .i64 3] 31) := ⟨_, rfl⟩
  obtain ⟨g, hg⟩ : ∃ g, g = w3.heap.size := ⟨_, rfl⟩
  have hx4 : Ext w3 W4 := by rw [hW4]; exact (Ext.refl w3).alloc _
  have HR4 : Hid (Row W4 g 31 [.map (some b3), .int .i64 3]) := by show Row _ _ _ _; rw [hW4, hg]; exact Row.new w3 31 _
  have HB4 := Lib.hid (Below.then (Below.then HB2.out hb3 HB2.out.size) hx4.below (Nat.le_trans HB2.out.size hb3.size))
  have HS4 : Hid (StM (fun b => b ≠ g) [] W4 (.map (some b3)) [⟨3, cont0, 0⟩]) := (hst3.weak (P' := fun b => b ≠ g) fun b hb _ => by show b ≠ g; omega).up hx4.below
  have hgw : w.heap.size ≤ g := by rw [hg]; exact Nat.le_trans HB2.out.size hb3.size
  have HW4 := Lib.hid hW4
  have HG := Lib.hid hg
  clear hst3 hb3 hx4 hW4 hg k0 k1 HDB HB2
  go_upto_region 9 with (fail)
  rw [← HW4.out, ← HG.out]
  clear HW4 HG
  go_loopw [7, 8] (fun mv c wx => ∃ (k j b : Nat), j ≤ l.length ∧ k ≤ j ∧ c = .int .i64 j ∧ mv = .int .i64 k ∧ Row wx g 31 [.map (some b), .int .i64 3] ∧ StM (fun b => b ≠ g) [] wx (.map (some b)) [⟨3, cont0, k⟩] ∧ Below w.heap.size w wx) (fun _ c _ => l.length - (intOf c).toNat)
  case atStart => exact ⟨0, 0, b3, Nat.zero_le _, Nat.le_refl _, rfl, rfl, HR4.out, HS4.out, HB4.out⟩
  case round =>
    obtain ⟨k, j, b, hj, hk, rfl, rfl, hr, hst, hbw⟩ := hrel
    have g0 : wr.cell? ⟨g, 0, none⟩ = some (.map (some b)) := hr.cell 0
    have g1 : wr.cell? ⟨g, 1, none⟩ = some (.int .i64 3) := hr.cell 1
    have g2 := hr.lt
    have HR := Lib.hid hr
    have HT := Lib.hid hst
    have HB := Lib.hid hbw
    clear hr hst hbw HR4 HS4 HB4
    by_cases hjl : j < l.length
    rotate_left
    · obtain rfl : j = l.length := by omega
      have r1 : ¬ (l.length : Int) < (l.length : Int) := by omega
      have HPN := Lib.hid (snPin_none (l := 3) (n := 4) HT.out (by decide) (fun x hx => by rw [List.mem_singleton.1 hx]; show (3 : Int) ≠ 4; decide))
      go_wp2_with fail
      refine HPN.out.mono ?_
      rintro e w5 ⟨rfl, hx5⟩
      obtain ⟨W6, hW6⟩ : ∃ W, W = w5.alloc (.cells #[.map (some b), .int .i64 3] 31) := ⟨_, rfl⟩
      have hx6 : Ext w5 W6 := by rw [hW6]; exact (Ext.refl w5).alloc _
      have hx := (hx5.trans hx6).below
      have HR6 := Lib.hid (HR.out.up hx)
      have HT6 := Lib.hid (HT.out.up hx)
      have HB6 := Lib.hid (Below.then HB.out hx HB.out.size)
      have HUN := Lib.hid (snUnpin_none (l := 3) (n := 2) HT6.out (by decide) (fun x hx => by rw [List.mem_singleton.1 hx]; show (3 : Int) ≠ 2; decide))
      have HW6 := Lib.hid hW6
      clear hW6 hx5 hx6 hx HPN g0 g1 g2 HR HT HB
      have j0 : W6.cell? ⟨g, 0, none⟩ = some (.map (some b)) := HR6.out.cell 0
      have j1 : W6.cell? ⟨g, 1, none⟩ = some (.int .i64 3) := HR6.out.cell 1
      have j2 := HR6.out.lt
      go_upto_region 23 with (fail)
      rw [← HW6.out]
      clear HW6
      go_wp2_with fail
      clear j0 j1 j2
      refine HUN.out.mono ?_
      rintro e w7 ⟨rfl, hx7⟩
      obtain ⟨W8, hW8⟩ : ∃ W, W = w7.alloc (.cells #[.map (some b), .int .i64 3] 31) := ⟨_, rfl⟩
      have hx8 : Ext w7 W8 := by rw [hW8]; exact (Ext.refl w7).alloc _
      have hx := (hx7.trans hx8).below
      have HR8 := Lib.hid (HR6.out.up hx)
      have HT8 := Lib.hid (HT6.out.up hx)
      have HB8 := Lib.hid (Below.then HB6.out hx HB6.out.size)
      have HPS := Lib.hid (snPins_some (l := 3) HT8.out (List.mem_singleton.2 rfl))
      have HW8 := Lib.hid hW8
      clear hW8 hx7 hx8 hx HUN HR6 HT6 HB6
      have j0 : W8.cell? ⟨g, 0, none⟩ = some (.map (some b)) := HR8.out.cell 0
      have j1 : W8.cell? ⟨g, 1, none⟩ = some (.int .i64 3) := HR8.out.cell 1
      have j2 := HR8.out.lt
      go_upto_region 24 with (fail)
      rw [← HW8.out]
      clear HW8
      go_wp2_with fail
      clear j0 j1 j2
      refine HPS.out.mono ?_
      rintro e w9 ⟨rfl, hx9⟩
      have HB9 := Lib.hid (Below.then HB8.out hx9.below HB8.out.size)
      clear hx9 HPS HR8 HT8 HB8
      go_wp2_with fail
      go_ret
      exact ⟨rfl, HB9.out⟩
    obtain ⟨ab, ao, rfl, hab, hac⟩ := HS.out (by intro h0; rw [h0] at hjl; simp at hjl)
    have c1 := (HB.out.cell hab).trans (hac j hjl)
    have c2 := Nat.lt_of_lt_of_le hab HB.out.size
    have r0 : (0 : Int) ≤ (j : Int) := by omega
    have r1 : (j : Int) < (l.length : Int) := by omega
    have r2 : IntKind.i64.wrap ((j : Int) + 1) = ((j + 1 : Nat) : Int) := by rw [IntWalk.i64_in _ (by omega)]; omega
    have r3 : IntKind.i64.wrap ((k : Int) + 1) = ((k + 1 : Nat) : Int) := by rw [IntWalk.i64_in _ (by omega)]; omega
    clear hac
    generalize l[j] = bit at *
    cases bit with
    | true =>
      have HPP := Lib.hid (snPin_some (l := 3) HT.out (fun b hb => by show b ≠ g; omega) (by show (1 : Nat) ≤ 1000; decide) (List.mem_singleton.2 rfl) (by show (0 : Int) ≤ (k : Int) ∧ (k : Int) ≤ 1000000; omega))
      go_upto_region 12 with (fail)
      go_wp2_with fail
      refine HPP.out.mono ?_
      rintro e w5 ⟨m5, rfl, hst5, hb5⟩
      rw [putV_one] at hst5
      obtain ⟨b5, rfl⟩ := hst5.form
      have e5 : (k : Int) + 1 = ((k + 1 : Nat) : Int) := by omega
      rw [e5] at hst5
      obtain ⟨W6, hW6⟩ : ∃ W6, W6 = w5.alloc (.cells #[.map (some b5), .int .i64 3] 31) := ⟨_, rfl⟩
      have hx6 : Ext w5 W6 := by rw [hW6]; exact (Ext.refl w5).alloc _
      have hr6 : Row W6 w5.heap.size 31 [.map (some b5), .int .i64 3] := by rw [hW6]; exact Row.new w5 31 _
      have hx := Below.then hb5 hx6.below hb5.size
      have q := HR.out.up hx
      have HR6 := Lib.hid q
      have HT6 := Lib.hid (hst5.up hx6.below)
      have HB6 := Lib.hid (Below.then HB.out hx HB.out.size)
      have j0 : W6.cell? ⟨w5.heap.size, 0, none⟩ = some (.map (some b5)) := hr6.cell 0
      have j1 : W6.cell? ⟨w5.heap.size, 1, none⟩ = some (.int .i64 3) := hr6.cell 1
      have j2 := hr6.lt
      have j3 : W6.cell? ⟨g, 0, none⟩ = some (.map (some b)) := q.cell 0
      have j4 : W6.cell? ⟨g, 1, none⟩ = some (.int .i64 3) := q.cell 1
      have j5 := q.frozen 0
      have j6 := q.frozen 1
      have j7 := q.lt
      have hgne : g < w5.heap.size := by have := hb5.size; omega
      have HW6 := Lib.hid hW6
      clear hW6 hb5 hx6 hr6 hx HPP g0 g1 g2 HB e5 q hst5 c1 c2 hab
      go_upto_region 13 with (fail)
      rw [← HW6.out]
      clear HW6
      go_wp2_with fail
      obtain ⟨W7, hW7⟩ : ∃ W, W = (W6.setCell ⟨g, 0, none⟩ (.map (some b5))).setCell ⟨g, 1, none⟩ (.int .i64 3) := ⟨_, rfl⟩
      rw [← hW7]
      have HR7 : Hid (Row W7 g 31 [.map (some b5), .int .i64 3]) := by show Row _ _ _ _; rw [hW7]; exact HR6.out.set2 _ _
      have HT7 : Hid (StM (fun b => b ≠ g) [] W7 (.map (some b5)) [⟨3, cont0, (k + 1 : Nat)⟩]) := by show StM _ _ _ _ _; rw [hW7]; exact StM.setBox HT6.out _ _
      have HB7 : Hid (Below w.heap.size w W7) := by show Below _ _ _; rw [hW7]; exact (HB6.out.setCell hgw _).setCell hgw _
      clear hW7
      go_roundw
      case rel => exact ⟨k + 1, j + 1, b5, by omega, by omega, by go_num, rfl, HR7.out, HT7.out, HB7.out⟩
      case measure => simp [intOf]; omega
    | false =>
      by_cases hk0 : k = 0
      · have n0 : decide ((0 : Int) < (k : Int)) = false := decide_eq_false (by omega)
        have HK0 := Lib.hid hk0
        have HM : Hid (Value.int IntKind.i64 (max (-1) 0) = Value.int IntKind.i64 (k : Int)) := by show _ = _; rw [hk0]; rfl
        have HUP := Lib.hid (snUnpin_zero (l := 3) HT.out (List.mem_singleton.2 rfl) (by show (k : Int) = 0; omega))
        clear hk0
        go_upto_region 17 with (fail)
        go_wp2_with fail
        refine HUP.out.mono ?_
        rintro e w5 ⟨rfl, hx5⟩
        obtain ⟨W6, hW6⟩ : ∃ W6, W6 = w5.alloc (.cells #[.map (some b), .int .i64 3] 31) := ⟨_, rfl⟩
        have hx6 : Ext w5 W6 := by rw [hW6]; exact (Ext.refl w5).alloc _
        have hr6 : Row W6 w5.heap.size 31 [.map (some b), .int .i64 3] := by rw [hW6]; exact Row.new w5 31 _
        have hx := (hx5.trans hx6).below
        have q := HR.out.up hx
        have HR6 := Lib.hid q
        have HT6 := Lib.hid (HT.out.up hx)
        have HB6 := Lib.hid (Below.then HB.out hx HB.out.size)
        have j0 : W6.cell? ⟨w5.heap.size, 0, none⟩ = some (.map (some b)) := hr6.cell 0
        have j1 : W6.cell? ⟨w5.heap.size, 1, none⟩ = some (.int .i64 3) := hr6.cell 1
        have j2 := hr6.lt
        have j3 : W6.cell? ⟨g, 0, none⟩ = some (.map (some b)) := q.cell 0
        have j4 : W6.cell? ⟨g, 1, none⟩ = some (.int .i64 3) := q.cell 1
        have j5 := q.frozen 0
        have j6 := q.frozen 1
        have j7 := q.lt
        have hgne : g < w5.heap.size := Nat.lt_of_lt_of_le g2 hx5.size
        have HW6 := Lib.hid hW6
        clear hW6 hx5 hx6 hr6 hx HUP g0 g1 g2 HB q c1 c2 hab
        go_upto_region 18 with (fail)
        rw [← HW6.out]
        clear HW6
        go_wp2_with fail
        all_goals first | exact absurd HK0.out ‹¬k = 0› | skip
        obtain ⟨W7, hW7⟩ : ∃ W, W = (W6.setCell ⟨g, 0, none⟩ (.map (some b))).setCell ⟨g, 1, none⟩ (.int .i64 3) := ⟨_, rfl⟩
        rw [← hW7]
        have HR7 : Hid (Row W7 g 31 [.map (some b), .int .i64 3]) := by show Row _ _ _ _; rw [hW7]; exact HR6.out.set2 _ _
        have HT7 : Hid (StM (fun b => b ≠ g) [] W7 (.map (some b)) [⟨3, cont0, k⟩]) := by show StM _ _ _ _ _; rw [hW7]; exact StM.setBox HT6.out _ _
        have HB7 : Hid (Below w.heap.size w W7) := by show Below _ _ _; rw [hW7]; exact (HB6.out.setCell hgw _).setCell hgw _
        clear hW7
        go_roundw
        case rel => exact ⟨k, j + 1, b, by omega, by omega, by go_num, HM.out, HR7.out, HT7.out, HB7.out⟩
        case measure => simp [intOf]; omega
      · have n0 : decide ((0 : Int) < (k : Int)) = true := decide_eq_true (by omega)
        have n1 : ((k : Int) == 0) = false := by simpa using hk0
        have e5 : (k : Int) - 1 = ((k - 1 : Nat) : Int) := by omega
        have n2 : IntKind.i64.wrap ((k : Int) - 1) = ((k - 1 : Nat) : Int) := by rw [IntWalk.i64_in _ (by omega), e5]
        have HUP := Lib.hid (snUnpin_some (l := 3) HT.out (fun b hb => by show b ≠ g; omega) (by show (1 : Nat) ≤ 1000; decide) (List.mem_singleton.2 rfl) (by show (1 : Int) ≤ (k : Int) ∧ (k : Int) ≤ 1000000; omega))
        have HE5 := Lib.hid e5
        clear e5
        go_upto_region 17 with (fail)
        go_wp2_with fail
        refine HUP.out.mono ?_
        rintro e w5 ⟨m5, rfl, hst5, hb5⟩
        rw [putV_one] at hst5
        obtain ⟨b5, rfl⟩ := hst5.form
        have hst5 : StM (fun b => b ≠ g) [] w5 (.map (some b5)) [⟨3, cont0, ((k - 1 : Nat) : Int)⟩] := by rw [← HE5.out]; exact hst5
        obtain ⟨W6, hW6⟩ : ∃ W6, W6 = w5.alloc (.cells #[.map (some b5), .int .i64 3] 31) := ⟨_, rfl⟩
        have hx6 : Ext w5 W6 := by rw [hW6]; exact (Ext.refl w5).alloc _
        have hr6 : Row W6 w5.heap.size 31 [.map (some b5), .int .i64 3] := by rw [hW6]; exact Row.new w5 31 _
        have hx := Below.then hb5 hx6.below hb5.size
        have q := HR.out.up hx
        have HR6 := Lib.hid q
        have HT6 := Lib.hid (hst5.up hx6.below)
        have HB6 := Lib.hid (Below.then HB.out hx HB.out.size)
        have j0 : W6.cell? ⟨w5.heap.size, 0, none⟩ = some (.map (some b5)) := hr6.cell 0
        have j1 : W6.cell? ⟨w5.heap.size, 1, none⟩ = some (.int .i64 3) := hr6.cell 1
        have j2 := hr6.lt
        have j3 : W6.cell? ⟨g, 0, none⟩ = some (.map (some b)) := q.cell 0
        have j4 : W6.cell? ⟨g, 1, none⟩ = some (.int .i64 3) := q.cell 1
        have j5 := q.frozen 0
        have j6 := q.frozen 1
        have j7 := q.lt
        have hgne : g < w5.heap.size := by have := hb5.size; omega
        have HW6 := Lib.hid hW6
        clear hW6 hb5 hx6 hr6 hx HUP g0 g1 g2 HB q hst5 c1 c2 hab
        go_upto_region 18 with (fail)
        rw [← HW6.out]
        clear HW6
        go_wp2_with fail
        obtain ⟨W7, hW7⟩ : ∃ W, W = (W6.setCell ⟨g, 0, none⟩ (.map (some b5))).setCell ⟨g, 1, none⟩ (.int .i64 3) := ⟨_, rfl⟩
        rw [← hW7]
        have HR7 : Hid (Row W7 g 31 [.map (some b5), .int .i64 3]) := by show Row _ _ _ _; rw [hW7]; exact HR6.out.set2 _ _
        have HT7 : Hid (StM (fun b => b ≠ g) [] W7 (.map (some b5)) [⟨3, cont0, ((k - 1 : Nat) : Int)⟩]) := by show StM _ _ _ _ _; rw [hW7]; exact StM.setBox HT6.out _ _
        have HB7 : Hid (Below w.heap.size w W7) := by show Below _ _ _; rw [hW7]; exact (HB6.out.setCell hgw _).setCell hgw _
        clear hW7
        go_roundw
        case rel => exact ⟨k - 1, j + 1, b5, by omega, by omega, by go_num, rfl, HR7.out, HT7.out, HB7.out⟩
        case measure => simp [intOf]; omega

end Go.Proofs.Ytgaffbdcpkbdhaa

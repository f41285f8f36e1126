/- Walk: the law RelationLaws. -/
import Derived.Test.YtiopkooigeaneaaM9a
namespace Go.Proofs.Ytiopkooigeaneaa
open Go.RowKit Go.Sort

set_option maxHeartbeats 16000000 in
set_option maxRecDepth 100000 in
theorem laws_walk (A B D : Option Addr) (AC BC DC : Nat) (Xa Xb Xc : List RL.R) (w : World) (hA : SlRs w.heap.size w A Xa) (hbA : BigRs Xa) (hB : SlRs w.heap.size w B Xb) (hbB : BigRs Xb) (hD : SlRs w.heap.size w D Xc) (hbD : BigRs Xc) :
    Calls Try.prog 10 #[.slice A Xa.length AC, .slice B Xb.length BC, .slice D Xc.length DC] w fun e w' => e = .returned (.bool true) ∧ Below w.heap.size w w' := by
  have HA := Lib.hid hA
  have HBB := Lib.hid hB
  have HDD := Lib.hid hD
  have HG1 := Lib.hid (l7Great_any A AC Xa w hA (by have := hbA.1; omega) hbA.2)
  have HG2 := Lib.hid (fun (W : World) (h : Ext w W) => l7Great_any B BC Xb W (hB.up h) (by have := hbB.1; omega) hbB.2)
  have HG3 := Lib.hid (fun (W : World) (h : Ext w W) => l7Great_any D DC Xc W (hD.up h) (by have := hbD.1; omega) hbD.2)
  have HEND := Lib.hid (fun (W : World) (hb : Below w.heap.size w W) => (l7awake_any W).mono (fun e W' h => (⟨h.1, Below.then hb h.2 hb.size⟩ : e = .returned (.bool true) ∧ Below w.heap.size w W')))
  have eg1 : ∀ args w, (callFunc 42 args).run Try.prog w = .ok (.enter 42 args) w := enters_of Try.func42 (by kernel_rfl) rfl
  have eg2 : ∀ args w, (callFunc 44 args).run Try.prog w = .ok (.enter 44 args) w := enters_of Try.func44 (by kernel_rfl) rfl
  have eg3 : ∀ args w, (callFunc 46 args).run Try.prog w = .ok (.enter 46 args) w := enters_of Try.func46 (by kernel_rfl) rfl
  clear hA hB hbA hbB hD hbD
  go_enter Try.func10, Try.ntmps10
  go_wp2_with fail
  refine HG1.out.mono ?_
  rintro e w1 ⟨rfl, hx1⟩
  have HX1 := Lib.hid hx1
  clear hx1 HG1
  cases hgr : greatF Xa
  rotate_left
  · clear hgr
    go_wp2_with fail
    refine (HEND.out w1 HX1.out.below).mono ?_
    rintro e w5 ⟨rfl, hb5⟩
    go_wp2
    go_ret
    exact ⟨rfl, hb5⟩
  obtain ⟨g1, g2, -⟩ := greatF_false hgr
  have HOKA := Lib.hid g2
  clear g2 hgr
  go_wp2_with fail
  refine (HG2.out w1 HX1.out).mono ?_
  rintro e w2 ⟨rfl, hx2⟩
  have HX2 := Lib.hid (HX1.out.trans hx2)
  clear hx2 HG2 HX1
  cases hgr : greatF Xb
  rotate_left
  · clear hgr
    go_wp2_with fail
    refine (HEND.out w2 HX2.out.below).mono ?_
    rintro e w5 ⟨rfl, hb5⟩
    go_wp2
    go_ret
    exact ⟨rfl, hb5⟩
  obtain ⟨k1, g2, -⟩ := greatF_false hgr
  have HOKB := Lib.hid g2
  clear g2 hgr
  go_wp2_with fail
  refine (HG3.out w2 HX2.out).mono ?_
  rintro e w2b ⟨rfl, hx2⟩
  have HX3 := Lib.hid (HX2.out.trans hx2)
  clear hx2 HG3 HX2
  cases hgr : greatF Xc
  rotate_left
  · clear hgr
    go_wp2_with fail
    refine (HEND.out w2b HX3.out.below).mono ?_
    rintro e w5 ⟨rfl, hb5⟩
    go_wp2
    go_ret
    exact ⟨rfl, hb5⟩
  obtain ⟨k2, g2, -⟩ := greatF_false hgr
  have HOKC := Lib.hid g2
  clear g2 hgr
  go_wp2_with fail
  refine (l7made_any 2 A AC Xa w2b (by omega) (by omega) (HA.out.up HX3.out) HOKA.out (by omega)).mono ?_
  rintro e w3 ⟨rv, mv, rfl, ⟨XA, XC, rfl, hxc1, hxc2, hxs⟩, ⟨LA, LC, rfl, -, -, -⟩, hb3⟩
  have HXO := Lib.hid (validR_ss (n := 2) HOKA.out)
  have hxl := Nat.le_trans (RL.ofF_length_le (validR 2 Xa)) (validR_length _ Xa)
  generalize RL.ofF (validR 2 Xa) = X at *
  have hbn := (Below.refl _ w3).alloc (Nat.le_refl _) (.cells #[.int .i64 2, .slice XA X.length XC] 29)
  have HB3 := Lib.hid (Below.then (Below.then HX3.out.below hb3 HX3.out.size) hbn (Nat.le_trans HX3.out.size hb3.size))
  have HRX := Lib.hid ((show RelV w3 2 X XA XC from ⟨hxs, hxc1, hxc2⟩).up hbn)
  have HBX := Lib.hid (Row.new w3 29 [.int .i64 2, .slice XA X.length XC])
  clear hxs hb3 hbn HX3 HA
  go_wp2_with fail
  generalize w3.heap.size = bx at *
  generalize w3.alloc (.cells #[.int .i64 2, .slice XA X.length XC] 29) = W3 at *
  refine (l7made_any 2 B BC Xb W3 (by omega) (by omega) (HBB.out.below HB3.out (Nat.le_refl _) |>.more HB3.out.size) HOKB.out (by omega)).mono ?_
  rintro e w4 ⟨rv, mv, rfl, ⟨YA, YC, rfl, hyc1, hyc2, hys⟩, ⟨MA, MC, rfl, -, -, -⟩, hb4⟩
  have HYO := Lib.hid (validR_ss (n := 2) HOKB.out)
  have hyl := Nat.le_trans (RL.ofF_length_le (validR 2 Xb)) (validR_length _ Xb)
  generalize RL.ofF (validR 2 Xb) = Y at *
  have hbn := (Below.refl _ w4).alloc (Nat.le_refl _) (.cells #[.int .i64 2, .slice YA Y.length YC] 29)
  have hb34 := Below.then hb4 hbn hb4.size
  have HB4 := Lib.hid (Below.then HB3.out hb34 HB3.out.size)
  have HRX4 := Lib.hid (HRX.out.up hb34)
  have HBX4 := Lib.hid (HBX.out.up hb34)
  have HRY4 := Lib.hid ((show RelV w4 2 Y YA YC from ⟨hys, hyc1, hyc2⟩).up hbn)
  have HBY4 := Lib.hid (Row.new w4 29 [.int .i64 2, .slice YA Y.length YC])
  clear hys hb4 hb34 hbn HRX HBX HB3 HBB HOKA HOKB
  go_wp2_with fail
  generalize w4.heap.size = by_ at *
  generalize w4.alloc (.cells #[.int .i64 2, .slice YA Y.length YC] 29) = W4 at *
  refine (l7made_any 2 D DC Xc W4 (by omega) (by omega) (HDD.out.below HB4.out (Nat.le_refl _) |>.more HB4.out.size) HOKC.out (by omega)).mono ?_
  rintro e w5 ⟨rv, mv, rfl, ⟨ZA, ZC, rfl, hyc3, hyc4, hys⟩, ⟨NA, NC, rfl, -, -, -⟩, hb5⟩
  have HZO := Lib.hid (validR_ss (n := 2) HOKC.out)
  have hzl := Nat.le_trans (RL.ofF_length_le (validR 2 Xc)) (validR_length _ Xc)
  generalize RL.ofF (validR 2 Xc) = Z at *
  have hbn := (Below.refl _ w5).alloc (Nat.le_refl _) (.cells #[.int .i64 2, .slice ZA Z.length ZC] 29)
  have hb45 := Below.then hb5 hbn hb5.size
  have HB0 := Lib.hid (Below.then HB4.out hb45 HB4.out.size)
  have HRX0 := Lib.hid (HRX4.out.up hb45)
  have HBX0 := Lib.hid (HBX4.out.up hb45)
  have HRY0 := Lib.hid (HRY4.out.up hb45)
  have HBY0 := Lib.hid (HBY4.out.up hb45)
  have HRZ0 := Lib.hid ((show RelV w5 2 Z ZA ZC from ⟨hys, hyc3, hyc4⟩).up hbn)
  have HBZ0 := Lib.hid (Row.new w5 29 [.int .i64 2, .slice ZA Z.length ZC])
  clear hys hb5 hb45 hbn HRX4 HBX4 HRY4 HBY4 HB4 HDD HOKC
  go_wp2
  generalize w5.heap.size = bz at *
  generalize w5.alloc (.cells #[.int .i64 2, .slice ZA Z.length ZC] 29) = v0 at *
  have HK := Lib.hid (fun (W : World) (hb : Below v0.heap.size v0 W) => (⟨(HBX0.out.up hb).cell 0, (HBX0.out.up hb).cell 1, (HBY0.out.up hb).cell 0, (HBY0.out.up hb).cell 1, (HBZ0.out.up hb).cell 0, (HBZ0.out.up hb).cell 1⟩ : W.cell? ⟨bx, 0, none⟩ = some (.int .i64 2) ∧ W.cell? ⟨bx, 1, none⟩ = some (.slice XA X.length XC) ∧ W.cell? ⟨by_, 0, none⟩ = some (.int .i64 2) ∧ W.cell? ⟨by_, 1, none⟩ = some (.slice YA Y.length YC) ∧ W.cell? ⟨bz, 0, none⟩ = some (.int .i64 2) ∧ W.cell? ⟨bz, 1, none⟩ = some (.slice ZA Z.length ZC)))
  have KEEP0 := HK.out v0.drew (Below.refl _ _).drew
  go_region_held3 (fun w' => w'.cell? ⟨bx, 0, none⟩ = some (.int .i64 2) ∧ w'.cell? ⟨bx, 1, none⟩ = some (.slice XA X.length XC) ∧ w'.cell? ⟨by_, 0, none⟩ = some (.int .i64 2) ∧ w'.cell? ⟨by_, 1, none⟩ = some (.slice YA Y.length YC) ∧ w'.cell? ⟨bz, 0, none⟩ = some (.int .i64 2) ∧ w'.cell? ⟨bz, 1, none⟩ = some (.slice ZA Z.length ZC)) (first | exact KEEP10 | exact KEEP9 | exact KEEP8 | exact KEEP7 | exact KEEP6 | exact KEEP5 | exact KEEP4 | exact KEEP3 | exact KEEP2 | exact KEEP1 | exact KEEP0 | go_keep)
    (first
      | (go_at_call 48; refine (rlEqual_true 2 pA9 XA pC9 XC pR9 X p9 HpR9.out (HRX0.out.up HpB9.out) HpO9.out (by omega) (by rw [HpV9.out]; exact meet_self HXO.out)).mono ?_; rintro e p10 ⟨rfl, hb⟩
         have HpB10 := Lib.hid (Below.then HpB9.out hb HpB9.out.size)
         have HpC1_10 := Lib.hid (Below.then HpC1_9.out hb HpC1_9.out.size)
         have HpC2_10 := Lib.hid (Below.then HpC2_9.out hb HpC2_9.out.size)
         have HpC4_10 := Lib.hid (Below.then HpC4_9.out hb HpC4_9.out.size)
         have HpC5_10 := Lib.hid (Below.then HpC5_9.out hb HpC5_9.out.size)
         have HpC7_10 := Lib.hid (Below.then HpC7_9.out hb HpC7_9.out.size)
         have HpC9_10 := Lib.hid (hb)
         have KEEP10 := HK.out p10 HpB10.out
         clear hb)
      | (go_at_call 44; refine (l7Laws2_any 2 XA XA XC XC X X p8 (HRX0.out.up HpB8.out) (HRX0.out.up HpB8.out) HXO.out HXO.out (by omega)).mono ?_; rintro e p9 ⟨pA9, pC9, rfl, hr, hb⟩
         obtain ⟨pR9, hv⟩ : ∃ R, R = bothF X X false := ⟨_, rfl⟩
         rw [← hv] at hr
         rw [← hv]
         have HpV9 := Lib.hid hv
         have HpO9 : Hid (RelOk pR9) := by rw [hv]; exact bothF_ok _ _ HXO.out
         have pl9 : pR9.length ≤ 40 := by rw [hv]; have := bothF_len X X false; omega
         have HpR9 := Lib.hid hr
         have HpB9 := Lib.hid (Below.then HpB8.out hb HpB8.out.size)
         have HpC1_9 := Lib.hid (Below.then HpC1_8.out hb HpC1_8.out.size)
         have HpC2_9 := Lib.hid (Below.then HpC2_8.out hb HpC2_8.out.size)
         have HpC4_9 := Lib.hid (Below.then HpC4_8.out hb HpC4_8.out.size)
         have HpC5_9 := Lib.hid (Below.then HpC5_8.out hb HpC5_8.out.size)
         have HpC7_9 := Lib.hid (Below.then HpC7_8.out hb HpC7_8.out.size)
         have KEEP9 := HK.out p9 HpB9.out
         clear hr hb hv)
      | (go_at_call 48; refine (rlEqual_true 2 pA7 XA pC7 XC pR7 X p7 HpR7.out (HRX0.out.up HpB7.out) HpO7.out (by omega) (by rw [HpV7.out]; exact union_self HXO.out)).mono ?_; rintro e p8 ⟨rfl, hb⟩
         have HpB8 := Lib.hid (Below.then HpB7.out hb HpB7.out.size)
         have HpC1_8 := Lib.hid (Below.then HpC1_7.out hb HpC1_7.out.size)
         have HpC2_8 := Lib.hid (Below.then HpC2_7.out hb HpC2_7.out.size)
         have HpC4_8 := Lib.hid (Below.then HpC4_7.out hb HpC4_7.out.size)
         have HpC5_8 := Lib.hid (Below.then HpC5_7.out hb HpC5_7.out.size)
         have HpC7_8 := Lib.hid (hb)
         have KEEP8 := HK.out p8 HpB8.out
         clear hb)
      | (go_at_call 42; refine (l7Laws1_any 2 XA XA XC XC X X p6 (HRX0.out.up HpB6.out) (HRX0.out.up HpB6.out) HXO.out HXO.out (by omega)).mono ?_; rintro e p7 ⟨pA7, pC7, rfl, hr, hb⟩
         obtain ⟨pR7, hv⟩ : ∃ R, R = unionF X X := ⟨_, rfl⟩
         rw [← hv] at hr
         rw [← hv]
         have HpV7 := Lib.hid hv
         have HpO7 : Hid (RelOk pR7) := by rw [hv]; exact unionF_ok HXO.out HXO.out
         have pl7 : pR7.length ≤ 80 := by rw [hv]; have := unionF_length X X; omega
         have HpR7 := Lib.hid hr
         have HpB7 := Lib.hid (Below.then HpB6.out hb HpB6.out.size)
         have HpC1_7 := Lib.hid (Below.then HpC1_6.out hb HpC1_6.out.size)
         have HpC2_7 := Lib.hid (Below.then HpC2_6.out hb HpC2_6.out.size)
         have HpC4_7 := Lib.hid (Below.then HpC4_6.out hb HpC4_6.out.size)
         have HpC5_7 := Lib.hid (Below.then HpC5_6.out hb HpC5_6.out.size)
         have KEEP7 := HK.out p7 HpB7.out
         clear hr hb hv)
      | (go_at_call 48; refine (rlEqual_true 2 pA4 pA5 pC4 pC5 pR4 pR5 p5 (HpR4.out.up HpC4_5.out) HpR5.out HpO4.out (by omega) (by rw [HpV4.out, HpV5.out]; exact meet_comm HXO.out HYO.out)).mono ?_; rintro e p6 ⟨rfl, hb⟩
         have HpB6 := Lib.hid (Below.then HpB5.out hb HpB5.out.size)
         have HpC1_6 := Lib.hid (Below.then HpC1_5.out hb HpC1_5.out.size)
         have HpC2_6 := Lib.hid (Below.then HpC2_5.out hb HpC2_5.out.size)
         have HpC4_6 := Lib.hid (Below.then HpC4_5.out hb HpC4_5.out.size)
         have HpC5_6 := Lib.hid (hb)
         have KEEP6 := HK.out p6 HpB6.out
         clear hb)
      | (go_at_call 44; refine (l7Laws2_any 2 YA XA YC XC Y X p4 (HRY0.out.up HpB4.out) (HRX0.out.up HpB4.out) HYO.out HXO.out (by omega)).mono ?_; rintro e p5 ⟨pA5, pC5, rfl, hr, hb⟩
         obtain ⟨pR5, hv⟩ : ∃ R, R = bothF Y X false := ⟨_, rfl⟩
         rw [← hv] at hr
         rw [← hv]
         have HpV5 := Lib.hid hv
         have HpO5 : Hid (RelOk pR5) := by rw [hv]; exact bothF_ok _ _ HYO.out
         have pl5 : pR5.length ≤ 40 := by rw [hv]; have := bothF_len Y X false; omega
         have HpR5 := Lib.hid hr
         have HpB5 := Lib.hid (Below.then HpB4.out hb HpB4.out.size)
         have HpC1_5 := Lib.hid (Below.then HpC1_4.out hb HpC1_4.out.size)
         have HpC2_5 := Lib.hid (Below.then HpC2_4.out hb HpC2_4.out.size)
         have HpC4_5 := Lib.hid (hb)
         have KEEP5 := HK.out p5 HpB5.out
         clear hr hb hv)
      | (go_at_call 44; refine (l7Laws2_any 2 XA YA XC YC X Y p3 (HRX0.out.up HpB3.out) (HRY0.out.up HpB3.out) HXO.out HYO.out (by omega)).mono ?_; rintro e p4 ⟨pA4, pC4, rfl, hr, hb⟩
         obtain ⟨pR4, hv⟩ : ∃ R, R = bothF X Y false := ⟨_, rfl⟩
         rw [← hv] at hr
         rw [← hv]
         have HpV4 := Lib.hid hv
         have HpO4 : Hid (RelOk pR4) := by rw [hv]; exact bothF_ok _ _ HXO.out
         have pl4 : pR4.length ≤ 40 := by rw [hv]; have := bothF_len X Y false; omega
         have HpR4 := Lib.hid hr
         have HpB4 := Lib.hid (Below.then HpB3.out hb HpB3.out.size)
         have HpC1_4 := Lib.hid (Below.then HpC1_3.out hb HpC1_3.out.size)
         have HpC2_4 := Lib.hid (Below.then HpC2_3.out hb HpC2_3.out.size)
         have KEEP4 := HK.out p4 HpB4.out
         clear hr hb hv)
      | (go_at_call 48; refine (rlEqual_true 2 pA1 pA2 pC1 pC2 pR1 pR2 p2 (HpR1.out.up HpC1_2.out) HpR2.out HpO1.out (by omega) (by rw [HpV1.out, HpV2.out]; exact union_comm HXO.out HYO.out)).mono ?_; rintro e p3 ⟨rfl, hb⟩
         have HpB3 := Lib.hid (Below.then HpB2.out hb HpB2.out.size)
         have HpC1_3 := Lib.hid (Below.then HpC1_2.out hb HpC1_2.out.size)
         have HpC2_3 := Lib.hid (hb)
         have KEEP3 := HK.out p3 HpB3.out
         clear hb)
      | (go_at_call 42; refine (l7Laws1_any 2 YA XA YC XC Y X p1 (HRY0.out.up HpB1.out) (HRX0.out.up HpB1.out) HYO.out HXO.out (by omega)).mono ?_; rintro e p2 ⟨pA2, pC2, rfl, hr, hb⟩
         obtain ⟨pR2, hv⟩ : ∃ R, R = unionF Y X := ⟨_, rfl⟩
         rw [← hv] at hr
         rw [← hv]
         have HpV2 := Lib.hid hv
         have HpO2 : Hid (RelOk pR2) := by rw [hv]; exact unionF_ok HYO.out HXO.out
         have pl2 : pR2.length ≤ 80 := by rw [hv]; have := unionF_length Y X; omega
         have HpR2 := Lib.hid hr
         have HpB2 := Lib.hid (Below.then HpB1.out hb HpB1.out.size)
         have HpC1_2 := Lib.hid (hb)
         have KEEP2 := HK.out p2 HpB2.out
         clear hr hb hv)
      | (go_at_call 42; refine (l7Laws1_any 2 XA YA XC YC X Y v0.drew (HRX0.out.up (Below.refl _ _).drew) (HRY0.out.up (Below.refl _ _).drew) HXO.out HYO.out (by omega)).mono ?_; rintro e p1 ⟨pA1, pC1, rfl, hr, hb⟩
         obtain ⟨pR1, hv⟩ : ∃ R, R = unionF X Y := ⟨_, rfl⟩
         rw [← hv] at hr
         rw [← hv]
         have HpV1 := Lib.hid hv
         have HpO1 : Hid (RelOk pR1) := by rw [hv]; exact unionF_ok HXO.out HYO.out
         have pl1 : pR1.length ≤ 80 := by rw [hv]; have := unionF_length X Y; omega
         have HpR1 := Lib.hid hr
         have HpB1 := Lib.hid (Below.undrew hb)
         have KEEP1 := HK.out p1 HpB1.out
         clear hr hb hv)
      | fail)
  go_wp2
  clear HK KEEP0 KEEP1 KEEP2 KEEP3 KEEP4 KEEP5 KEEP6 KEEP7 KEEP8 KEEP9 KEEP10
  have HRX1 := Lib.hid (HRX0.out.up HpB10.out)
  have HRY1 := Lib.hid (HRY0.out.up HpB10.out)
  have HRZ1 := Lib.hid (HRZ0.out.up HpB10.out)
  have HBX1 := Lib.hid (HBX0.out.up HpB10.out)
  have HBY1 := Lib.hid (HBY0.out.up HpB10.out)
  have HBZ1 := Lib.hid (HBZ0.out.up HpB10.out)
  have HB1 := Lib.hid (Below.then HB0.out HpB10.out HB0.out.size)
  clear HRX0 HRY0 HRZ0 HBX0 HBY0 HBZ0 HB0
  clear HpB1 HpB2 HpB3 HpB4 HpB5 HpB6 HpB7 HpB8 HpB9 HpB10 HpR1 HpV1 HpO1 pl1 HpR2 HpV2 HpO2 pl2 HpR4 HpV4 HpO4 pl4 HpR5 HpV5 HpO5 pl5 HpR7 HpV7 HpO7 pl7 HpR9 HpV9 HpO9 pl9 HpC1_2 HpC1_3 HpC1_4 HpC1_5 HpC1_6 HpC1_7 HpC1_8 HpC1_9 HpC1_10 HpC2_3 HpC2_4 HpC2_5 HpC2_6 HpC2_7 HpC2_8 HpC2_9 HpC2_10 HpC4_5 HpC4_6 HpC4_7 HpC4_8 HpC4_9 HpC4_10 HpC5_6 HpC5_7 HpC5_8 HpC5_9 HpC5_10 HpC7_8 HpC7_9 HpC7_10 HpC9_10
  have HK := Lib.hid (fun (W : World) (hb : Below p10.heap.size p10 W) => (⟨(HBX1.out.up hb).cell 0, (HBX1.out.up hb).cell 1, (HBY1.out.up hb).cell 0, (HBY1.out.up hb).cell 1, (HBZ1.out.up hb).cell 0, (HBZ1.out.up hb).cell 1⟩ : W.cell? ⟨bx, 0, none⟩ = some (.int .i64 2) ∧ W.cell? ⟨bx, 1, none⟩ = some (.slice XA X.length XC) ∧ W.cell? ⟨by_, 0, none⟩ = some (.int .i64 2) ∧ W.cell? ⟨by_, 1, none⟩ = some (.slice YA Y.length YC) ∧ W.cell? ⟨bz, 0, none⟩ = some (.int .i64 2) ∧ W.cell? ⟨bz, 1, none⟩ = some (.slice ZA Z.length ZC)))
  have KEEP0 := HK.out p10.drew (Below.refl _ _).drew
  go_region_held3 (fun w' => w'.cell? ⟨bx, 0, none⟩ = some (.int .i64 2) ∧ w'.cell? ⟨bx, 1, none⟩ = some (.slice XA X.length XC) ∧ w'.cell? ⟨by_, 0, none⟩ = some (.int .i64 2) ∧ w'.cell? ⟨by_, 1, none⟩ = some (.slice YA Y.length YC) ∧ w'.cell? ⟨bz, 0, none⟩ = some (.int .i64 2) ∧ w'.cell? ⟨bz, 1, none⟩ = some (.slice ZA Z.length ZC)) (first | exact KEEP19 | exact KEEP18 | exact KEEP17 | exact KEEP16 | exact KEEP15 | exact KEEP14 | exact KEEP13 | exact KEEP12 | exact KEEP11 | exact KEEP10 | exact KEEP9 | exact KEEP8 | exact KEEP7 | exact KEEP6 | exact KEEP5 | exact KEEP4 | exact KEEP3 | exact KEEP2 | exact KEEP1 | exact KEEP0 | go_keep)
    (first
      | (go_at_call 14; refine (l7awake_any q18).mono ?_; rintro e q19 ⟨rfl, hb⟩
         have HqB19 := Lib.hid (Below.then HqB18.out hb HqB18.out.size)
         have HqC1_19 := Lib.hid (Below.then HqC1_18.out hb HqC1_18.out.size)
         have HqC2_19 := Lib.hid (Below.then HqC2_18.out hb HqC2_18.out.size)
         have HqC3_19 := Lib.hid (Below.then HqC3_18.out hb HqC3_18.out.size)
         have HqC4_19 := Lib.hid (Below.then HqC4_18.out hb HqC4_18.out.size)
         have HqC6_19 := Lib.hid (Below.then HqC6_18.out hb HqC6_18.out.size)
         have HqC7_19 := Lib.hid (Below.then HqC7_18.out hb HqC7_18.out.size)
         have HqC8_19 := Lib.hid (Below.then HqC8_18.out hb HqC8_18.out.size)
         have HqC9_19 := Lib.hid (Below.then HqC9_18.out hb HqC9_18.out.size)
         have HqC10_19 := Lib.hid (Below.then HqC10_18.out hb HqC10_18.out.size)
         have HqC12_19 := Lib.hid (Below.then HqC12_18.out hb HqC12_18.out.size)
         have HqC13_19 := Lib.hid (Below.then HqC13_18.out hb HqC13_18.out.size)
         have HqC14_19 := Lib.hid (Below.then HqC14_18.out hb HqC14_18.out.size)
         have HqC16_19 := Lib.hid (Below.then HqC16_18.out hb HqC16_18.out.size)
         have HqC17_19 := Lib.hid (Below.then HqC17_18.out hb HqC17_18.out.size)
         have KEEP19 := HK.out q19 HqB19.out
         clear hb)
      | (go_at_call 31; refine (rlLen_any 2 qA17 qR17.length qC17 q17).mono ?_; rintro e q18 ⟨rfl, hx⟩
         have hb := hx.below
         rw [show qR17.length = 0 by rw [HqV17.out, HqV16.out, minus_none]; rfl]
         have HqB18 := Lib.hid (Below.then HqB17.out hb HqB17.out.size)
         have HqC1_18 := Lib.hid (Below.then HqC1_17.out hb HqC1_17.out.size)
         have HqC2_18 := Lib.hid (Below.then HqC2_17.out hb HqC2_17.out.size)
         have HqC3_18 := Lib.hid (Below.then HqC3_17.out hb HqC3_17.out.size)
         have HqC4_18 := Lib.hid (Below.then HqC4_17.out hb HqC4_17.out.size)
         have HqC6_18 := Lib.hid (Below.then HqC6_17.out hb HqC6_17.out.size)
         have HqC7_18 := Lib.hid (Below.then HqC7_17.out hb HqC7_17.out.size)
         have HqC8_18 := Lib.hid (Below.then HqC8_17.out hb HqC8_17.out.size)
         have HqC9_18 := Lib.hid (Below.then HqC9_17.out hb HqC9_17.out.size)
         have HqC10_18 := Lib.hid (Below.then HqC10_17.out hb HqC10_17.out.size)
         have HqC12_18 := Lib.hid (Below.then HqC12_17.out hb HqC12_17.out.size)
         have HqC13_18 := Lib.hid (Below.then HqC13_17.out hb HqC13_17.out.size)
         have HqC14_18 := Lib.hid (Below.then HqC14_17.out hb HqC14_17.out.size)
         have HqC16_18 := Lib.hid (Below.then HqC16_17.out hb HqC16_17.out.size)
         have HqC17_18 := Lib.hid (hb)
         have KEEP18 := HK.out q18 HqB18.out
         clear hb hx)
      | (go_at_call 44; refine (l7Laws2_any 2 qA16 YA qC16 YC qR16 Y q16 HqR16.out (HRY1.out.up HqB16.out) HqO16.out HYO.out (by omega)).mono ?_; rintro e q17 ⟨qA17, qC17, rfl, hr, hb⟩
         obtain ⟨qR17, hv⟩ : ∃ R, R = bothF qR16 Y false := ⟨_, rfl⟩
         rw [← hv] at hr
         rw [← hv]
         have HqV17 := Lib.hid hv
         have HqO17 : Hid (RelOk qR17) := by rw [hv]; exact bothF_ok _ _ HqO16.out
         have ql17 : qR17.length ≤ 40 := by rw [hv]; have := bothF_len qR16 Y false; omega
         have HqR17 := Lib.hid hr
         have HqB17 := Lib.hid (Below.then HqB16.out hb HqB16.out.size)
         have HqC1_17 := Lib.hid (Below.then HqC1_16.out hb HqC1_16.out.size)
         have HqC2_17 := Lib.hid (Below.then HqC2_16.out hb HqC2_16.out.size)
         have HqC3_17 := Lib.hid (Below.then HqC3_16.out hb HqC3_16.out.size)
         have HqC4_17 := Lib.hid (Below.then HqC4_16.out hb HqC4_16.out.size)
         have HqC6_17 := Lib.hid (Below.then HqC6_16.out hb HqC6_16.out.size)
         have HqC7_17 := Lib.hid (Below.then HqC7_16.out hb HqC7_16.out.size)
         have HqC8_17 := Lib.hid (Below.then HqC8_16.out hb HqC8_16.out.size)
         have HqC9_17 := Lib.hid (Below.then HqC9_16.out hb HqC9_16.out.size)
         have HqC10_17 := Lib.hid (Below.then HqC10_16.out hb HqC10_16.out.size)
         have HqC12_17 := Lib.hid (Below.then HqC12_16.out hb HqC12_16.out.size)
         have HqC13_17 := Lib.hid (Below.then HqC13_16.out hb HqC13_16.out.size)
         have HqC14_17 := Lib.hid (Below.then HqC14_16.out hb HqC14_16.out.size)
         have HqC16_17 := Lib.hid (hb)
         have KEEP17 := HK.out q17 HqB17.out
         clear hr hb hv)
      | (go_at_call 46; refine (l7Laws3_any 2 XA YA XC YC X Y q15 (HRX1.out.up HqB15.out) (HRY1.out.up HqB15.out) HXO.out HYO.out (by omega)).mono ?_; rintro e q16 ⟨qA16, qC16, rfl, hr, hb⟩
         obtain ⟨qR16, hv⟩ : ∃ R, R = bothF X Y true := ⟨_, rfl⟩
         rw [← hv] at hr
         rw [← hv]
         have HqV16 := Lib.hid hv
         have HqO16 : Hid (RelOk qR16) := by rw [hv]; exact bothF_ok _ _ HXO.out
         have ql16 : qR16.length ≤ 40 := by rw [hv]; have := bothF_len X Y true; omega
         have HqR16 := Lib.hid hr
         have HqB16 := Lib.hid (Below.then HqB15.out hb HqB15.out.size)
         have HqC1_16 := Lib.hid (Below.then HqC1_15.out hb HqC1_15.out.size)
         have HqC2_16 := Lib.hid (Below.then HqC2_15.out hb HqC2_15.out.size)
         have HqC3_16 := Lib.hid (Below.then HqC3_15.out hb HqC3_15.out.size)
         have HqC4_16 := Lib.hid (Below.then HqC4_15.out hb HqC4_15.out.size)
         have HqC6_16 := Lib.hid (Below.then HqC6_15.out hb HqC6_15.out.size)
         have HqC7_16 := Lib.hid (Below.then HqC7_15.out hb HqC7_15.out.size)
         have HqC8_16 := Lib.hid (Below.then HqC8_15.out hb HqC8_15.out.size)
         have HqC9_16 := Lib.hid (Below.then HqC9_15.out hb HqC9_15.out.size)
         have HqC10_16 := Lib.hid (Below.then HqC10_15.out hb HqC10_15.out.size)
         have HqC12_16 := Lib.hid (Below.then HqC12_15.out hb HqC12_15.out.size)
         have HqC13_16 := Lib.hid (Below.then HqC13_15.out hb HqC13_15.out.size)
         have HqC14_16 := Lib.hid (Below.then HqC14_15.out hb HqC14_15.out.size)
         have KEEP16 := HK.out q16 HqB16.out
         clear hr hb hv)
      | (go_at_call 48; refine (rlEqual_true 2 qA14 XA qC14 XC qR14 X q14 HqR14.out (HRX1.out.up HqB14.out) HqO14.out (by omega) (by rw [HqV14.out, HqV12.out, HqV13.out]; exact minus_meet HXO.out)).mono ?_; rintro e q15 ⟨rfl, hb⟩
         have HqB15 := Lib.hid (Below.then HqB14.out hb HqB14.out.size)
         have HqC1_15 := Lib.hid (Below.then HqC1_14.out hb HqC1_14.out.size)
         have HqC2_15 := Lib.hid (Below.then HqC2_14.out hb HqC2_14.out.size)
         have HqC3_15 := Lib.hid (Below.then HqC3_14.out hb HqC3_14.out.size)
         have HqC4_15 := Lib.hid (Below.then HqC4_14.out hb HqC4_14.out.size)
         have HqC6_15 := Lib.hid (Below.then HqC6_14.out hb HqC6_14.out.size)
         have HqC7_15 := Lib.hid (Below.then HqC7_14.out hb HqC7_14.out.size)
         have HqC8_15 := Lib.hid (Below.then HqC8_14.out hb HqC8_14.out.size)
         have HqC9_15 := Lib.hid (Below.then HqC9_14.out hb HqC9_14.out.size)
         have HqC10_15 := Lib.hid (Below.then HqC10_14.out hb HqC10_14.out.size)
         have HqC12_15 := Lib.hid (Below.then HqC12_14.out hb HqC12_14.out.size)
         have HqC13_15 := Lib.hid (Below.then HqC13_14.out hb HqC13_14.out.size)
         have HqC14_15 := Lib.hid (hb)
         have KEEP15 := HK.out q15 HqB15.out
         clear hb)
      | (go_at_call 42; refine (l7Laws1_any 2 qA12 qA13 qC12 qC13 qR12 qR13 q13 (HqR12.out.up HqC12_13.out) HqR13.out HqO12.out HqO13.out (by omega)).mono ?_; rintro e q14 ⟨qA14, qC14, rfl, hr, hb⟩
         obtain ⟨qR14, hv⟩ : ∃ R, R = unionF qR12 qR13 := ⟨_, rfl⟩
         rw [← hv] at hr
         rw [← hv]
         have HqV14 := Lib.hid hv
         have HqO14 : Hid (RelOk qR14) := by rw [hv]; exact unionF_ok HqO12.out HqO13.out
         have ql14 : qR14.length ≤ 80 := by rw [hv]; have := unionF_length qR12 qR13; omega
         have HqR14 := Lib.hid hr
         have HqB14 := Lib.hid (Below.then HqB13.out hb HqB13.out.size)
         have HqC1_14 := Lib.hid (Below.then HqC1_13.out hb HqC1_13.out.size)
         have HqC2_14 := Lib.hid (Below.then HqC2_13.out hb HqC2_13.out.size)
         have HqC3_14 := Lib.hid (Below.then HqC3_13.out hb HqC3_13.out.size)
         have HqC4_14 := Lib.hid (Below.then HqC4_13.out hb HqC4_13.out.size)
         have HqC6_14 := Lib.hid (Below.then HqC6_13.out hb HqC6_13.out.size)
         have HqC7_14 := Lib.hid (Below.then HqC7_13.out hb HqC7_13.out.size)
         have HqC8_14 := Lib.hid (Below.then HqC8_13.out hb HqC8_13.out.size)
         have HqC9_14 := Lib.hid (Below.then HqC9_13.out hb HqC9_13.out.size)
         have HqC10_14 := Lib.hid (Below.then HqC10_13.out hb HqC10_13.out.size)
         have HqC12_14 := Lib.hid (Below.then HqC12_13.out hb HqC12_13.out.size)
         have HqC13_14 := Lib.hid (hb)
         have KEEP14 := HK.out q14 HqB14.out
         clear hr hb hv)
      | (go_at_call 44; refine (l7Laws2_any 2 XA YA XC YC X Y q12 (HRX1.out.up HqB12.out) (HRY1.out.up HqB12.out) HXO.out HYO.out (by omega)).mono ?_; rintro e q13 ⟨qA13, qC13, rfl, hr, hb⟩
         obtain ⟨qR13, hv⟩ : ∃ R, R = bothF X Y false := ⟨_, rfl⟩
         rw [← hv] at hr
         rw [← hv]
         have HqV13 := Lib.hid hv
         have HqO13 : Hid (RelOk qR13) := by rw [hv]; exact bothF_ok _ _ HXO.out
         have ql13 : qR13.length ≤ 40 := by rw [hv]; have := bothF_len X Y false; omega
         have HqR13 := Lib.hid hr
         have HqB13 := Lib.hid (Below.then HqB12.out hb HqB12.out.size)
         have HqC1_13 := Lib.hid (Below.then HqC1_12.out hb HqC1_12.out.size)
         have HqC2_13 := Lib.hid (Below.then HqC2_12.out hb HqC2_12.out.size)
         have HqC3_13 := Lib.hid (Below.then HqC3_12.out hb HqC3_12.out.size)
         have HqC4_13 := Lib.hid (Below.then HqC4_12.out hb HqC4_12.out.size)
         have HqC6_13 := Lib.hid (Below.then HqC6_12.out hb HqC6_12.out.size)
         have HqC7_13 := Lib.hid (Below.then HqC7_12.out hb HqC7_12.out.size)
         have HqC8_13 := Lib.hid (Below.then HqC8_12.out hb HqC8_12.out.size)
         have HqC9_13 := Lib.hid (Below.then HqC9_12.out hb HqC9_12.out.size)
         have HqC10_13 := Lib.hid (Below.then HqC10_12.out hb HqC10_12.out.size)
         have HqC12_13 := Lib.hid (hb)
         have KEEP13 := HK.out q13 HqB13.out
         clear hr hb hv)
      | (go_at_call 46; refine (l7Laws3_any 2 XA YA XC YC X Y q11 (HRX1.out.up HqB11.out) (HRY1.out.up HqB11.out) HXO.out HYO.out (by omega)).mono ?_; rintro e q12 ⟨qA12, qC12, rfl, hr, hb⟩
         obtain ⟨qR12, hv⟩ : ∃ R, R = bothF X Y true := ⟨_, rfl⟩
         rw [← hv] at hr
         rw [← hv]
         have HqV12 := Lib.hid hv
         have HqO12 : Hid (RelOk qR12) := by rw [hv]; exact bothF_ok _ _ HXO.out
         have ql12 : qR12.length ≤ 40 := by rw [hv]; have := bothF_len X Y true; omega
         have HqR12 := Lib.hid hr
         have HqB12 := Lib.hid (Below.then HqB11.out hb HqB11.out.size)
         have HqC1_12 := Lib.hid (Below.then HqC1_11.out hb HqC1_11.out.size)
         have HqC2_12 := Lib.hid (Below.then HqC2_11.out hb HqC2_11.out.size)
         have HqC3_12 := Lib.hid (Below.then HqC3_11.out hb HqC3_11.out.size)
         have HqC4_12 := Lib.hid (Below.then HqC4_11.out hb HqC4_11.out.size)
         have HqC6_12 := Lib.hid (Below.then HqC6_11.out hb HqC6_11.out.size)
         have HqC7_12 := Lib.hid (Below.then HqC7_11.out hb HqC7_11.out.size)
         have HqC8_12 := Lib.hid (Below.then HqC8_11.out hb HqC8_11.out.size)
         have HqC9_12 := Lib.hid (Below.then HqC9_11.out hb HqC9_11.out.size)
         have HqC10_12 := Lib.hid (Below.then HqC10_11.out hb HqC10_11.out.size)
         have KEEP12 := HK.out q12 HqB12.out
         clear hr hb hv)
      | (go_at_call 48; refine (rlEqual_true 2 qA7 qA10 qC7 qC10 qR7 qR10 q10 (HqR7.out.up HqC7_10.out) HqR10.out HqO7.out (by omega) (by rw [HqV7.out, HqV10.out, HqV6.out, HqV8.out, HqV9.out]; exact meet_union HXO.out)).mono ?_; rintro e q11 ⟨rfl, hb⟩
         have HqB11 := Lib.hid (Below.then HqB10.out hb HqB10.out.size)
         have HqC1_11 := Lib.hid (Below.then HqC1_10.out hb HqC1_10.out.size)
         have HqC2_11 := Lib.hid (Below.then HqC2_10.out hb HqC2_10.out.size)
         have HqC3_11 := Lib.hid (Below.then HqC3_10.out hb HqC3_10.out.size)
         have HqC4_11 := Lib.hid (Below.then HqC4_10.out hb HqC4_10.out.size)
         have HqC6_11 := Lib.hid (Below.then HqC6_10.out hb HqC6_10.out.size)
         have HqC7_11 := Lib.hid (Below.then HqC7_10.out hb HqC7_10.out.size)
         have HqC8_11 := Lib.hid (Below.then HqC8_10.out hb HqC8_10.out.size)
         have HqC9_11 := Lib.hid (Below.then HqC9_10.out hb HqC9_10.out.size)
         have HqC10_11 := Lib.hid (hb)
         have KEEP11 := HK.out q11 HqB11.out
         clear hb)
      | (go_at_call 42; refine (l7Laws1_any 2 qA8 qA9 qC8 qC9 qR8 qR9 q9 (HqR8.out.up HqC8_9.out) HqR9.out HqO8.out HqO9.out (by omega)).mono ?_; rintro e q10 ⟨qA10, qC10, rfl, hr, hb⟩
         obtain ⟨qR10, hv⟩ : ∃ R, R = unionF qR8 qR9 := ⟨_, rfl⟩
         rw [← hv] at hr
         rw [← hv]
         have HqV10 := Lib.hid hv
         have HqO10 : Hid (RelOk qR10) := by rw [hv]; exact unionF_ok HqO8.out HqO9.out
         have ql10 : qR10.length ≤ 80 := by rw [hv]; have := unionF_length qR8 qR9; omega
         have HqR10 := Lib.hid hr
         have HqB10 := Lib.hid (Below.then HqB9.out hb HqB9.out.size)
         have HqC1_10 := Lib.hid (Below.then HqC1_9.out hb HqC1_9.out.size)
         have HqC2_10 := Lib.hid (Below.then HqC2_9.out hb HqC2_9.out.size)
         have HqC3_10 := Lib.hid (Below.then HqC3_9.out hb HqC3_9.out.size)
         have HqC4_10 := Lib.hid (Below.then HqC4_9.out hb HqC4_9.out.size)
         have HqC6_10 := Lib.hid (Below.then HqC6_9.out hb HqC6_9.out.size)
         have HqC7_10 := Lib.hid (Below.then HqC7_9.out hb HqC7_9.out.size)
         have HqC8_10 := Lib.hid (Below.then HqC8_9.out hb HqC8_9.out.size)
         have HqC9_10 := Lib.hid (hb)
         have KEEP10 := HK.out q10 HqB10.out
         clear hr hb hv)
      | (go_at_call 44; refine (l7Laws2_any 2 XA ZA XC ZC X Z q8 (HRX1.out.up HqB8.out) (HRZ1.out.up HqB8.out) HXO.out HZO.out (by omega)).mono ?_; rintro e q9 ⟨qA9, qC9, rfl, hr, hb⟩
         obtain ⟨qR9, hv⟩ : ∃ R, R = bothF X Z false := ⟨_, rfl⟩
         rw [← hv] at hr
         rw [← hv]
         have HqV9 := Lib.hid hv
         have HqO9 : Hid (RelOk qR9) := by rw [hv]; exact bothF_ok _ _ HXO.out
         have ql9 : qR9.length ≤ 40 := by rw [hv]; have := bothF_len X Z false; omega
         have HqR9 := Lib.hid hr
         have HqB9 := Lib.hid (Below.then HqB8.out hb HqB8.out.size)
         have HqC1_9 := Lib.hid (Below.then HqC1_8.out hb HqC1_8.out.size)
         have HqC2_9 := Lib.hid (Below.then HqC2_8.out hb HqC2_8.out.size)
         have HqC3_9 := Lib.hid (Below.then HqC3_8.out hb HqC3_8.out.size)
         have HqC4_9 := Lib.hid (Below.then HqC4_8.out hb HqC4_8.out.size)
         have HqC6_9 := Lib.hid (Below.then HqC6_8.out hb HqC6_8.out.size)
         have HqC7_9 := Lib.hid (Below.then HqC7_8.out hb HqC7_8.out.size)
         have HqC8_9 := Lib.hid (hb)
         have KEEP9 := HK.out q9 HqB9.out
         clear hr hb hv)
      | (go_at_call 44; refine (l7Laws2_any 2 XA YA XC YC X Y q7 (HRX1.out.up HqB7.out) (HRY1.out.up HqB7.out) HXO.out HYO.out (by omega)).mono ?_; rintro e q8 ⟨qA8, qC8, rfl, hr, hb⟩
         obtain ⟨qR8, hv⟩ : ∃ R, R = bothF X Y false := ⟨_, rfl⟩
         rw [← hv] at hr
         rw [← hv]
         have HqV8 := Lib.hid hv
         have HqO8 : Hid (RelOk qR8) := by rw [hv]; exact bothF_ok _ _ HXO.out
         have ql8 : qR8.length ≤ 40 := by rw [hv]; have := bothF_len X Y false; omega
         have HqR8 := Lib.hid hr
         have HqB8 := Lib.hid (Below.then HqB7.out hb HqB7.out.size)
         have HqC1_8 := Lib.hid (Below.then HqC1_7.out hb HqC1_7.out.size)
         have HqC2_8 := Lib.hid (Below.then HqC2_7.out hb HqC2_7.out.size)
         have HqC3_8 := Lib.hid (Below.then HqC3_7.out hb HqC3_7.out.size)
         have HqC4_8 := Lib.hid (Below.then HqC4_7.out hb HqC4_7.out.size)
         have HqC6_8 := Lib.hid (Below.then HqC6_7.out hb HqC6_7.out.size)
         have HqC7_8 := Lib.hid (hb)
         have KEEP8 := HK.out q8 HqB8.out
         clear hr hb hv)
      | (go_at_call 44; refine (l7Laws2_any 2 XA qA6 XC qC6 X qR6 q6 (HRX1.out.up HqB6.out) HqR6.out HXO.out HqO6.out (by omega)).mono ?_; rintro e q7 ⟨qA7, qC7, rfl, hr, hb⟩
         obtain ⟨qR7, hv⟩ : ∃ R, R = bothF X qR6 false := ⟨_, rfl⟩
         rw [← hv] at hr
         rw [← hv]
         have HqV7 := Lib.hid hv
         have HqO7 : Hid (RelOk qR7) := by rw [hv]; exact bothF_ok _ _ HXO.out
         have ql7 : qR7.length ≤ 40 := by rw [hv]; have := bothF_len X qR6 false; omega
         have HqR7 := Lib.hid hr
         have HqB7 := Lib.hid (Below.then HqB6.out hb HqB6.out.size)
         have HqC1_7 := Lib.hid (Below.then HqC1_6.out hb HqC1_6.out.size)
         have HqC2_7 := Lib.hid (Below.then HqC2_6.out hb HqC2_6.out.size)
         have HqC3_7 := Lib.hid (Below.then HqC3_6.out hb HqC3_6.out.size)
         have HqC4_7 := Lib.hid (Below.then HqC4_6.out hb HqC4_6.out.size)
         have HqC6_7 := Lib.hid (hb)
         have KEEP7 := HK.out q7 HqB7.out
         clear hr hb hv)
      | (go_at_call 42; refine (l7Laws1_any 2 YA ZA YC ZC Y Z q5 (HRY1.out.up HqB5.out) (HRZ1.out.up HqB5.out) HYO.out HZO.out (by omega)).mono ?_; rintro e q6 ⟨qA6, qC6, rfl, hr, hb⟩
         obtain ⟨qR6, hv⟩ : ∃ R, R = unionF Y Z := ⟨_, rfl⟩
         rw [← hv] at hr
         rw [← hv]
         have HqV6 := Lib.hid hv
         have HqO6 : Hid (RelOk qR6) := by rw [hv]; exact unionF_ok HYO.out HZO.out
         have ql6 : qR6.length ≤ 80 := by rw [hv]; have := unionF_length Y Z; omega
         have HqR6 := Lib.hid hr
         have HqB6 := Lib.hid (Below.then HqB5.out hb HqB5.out.size)
         have HqC1_6 := Lib.hid (Below.then HqC1_5.out hb HqC1_5.out.size)
         have HqC2_6 := Lib.hid (Below.then HqC2_5.out hb HqC2_5.out.size)
         have HqC3_6 := Lib.hid (Below.then HqC3_5.out hb HqC3_5.out.size)
         have HqC4_6 := Lib.hid (Below.then HqC4_5.out hb HqC4_5.out.size)
         have KEEP6 := HK.out q6 HqB6.out
         clear hr hb hv)
      | (go_at_call 48; refine (rlEqual_true 2 qA2 qA4 qC2 qC4 qR2 qR4 q4 (HqR2.out.up HqC2_4.out) HqR4.out HqO2.out (by omega) (by rw [HqV2.out, HqV4.out, HqV1.out, HqV3.out]; exact union_assoc HXO.out)).mono ?_; rintro e q5 ⟨rfl, hb⟩
         have HqB5 := Lib.hid (Below.then HqB4.out hb HqB4.out.size)
         have HqC1_5 := Lib.hid (Below.then HqC1_4.out hb HqC1_4.out.size)
         have HqC2_5 := Lib.hid (Below.then HqC2_4.out hb HqC2_4.out.size)
         have HqC3_5 := Lib.hid (Below.then HqC3_4.out hb HqC3_4.out.size)
         have HqC4_5 := Lib.hid (hb)
         have KEEP5 := HK.out q5 HqB5.out
         clear hb)
      | (go_at_call 42; refine (l7Laws1_any 2 XA qA3 XC qC3 X qR3 q3 (HRX1.out.up HqB3.out) HqR3.out HXO.out HqO3.out (by omega)).mono ?_; rintro e q4 ⟨qA4, qC4, rfl, hr, hb⟩
         obtain ⟨qR4, hv⟩ : ∃ R, R = unionF X qR3 := ⟨_, rfl⟩
         rw [← hv] at hr
         rw [← hv]
         have HqV4 := Lib.hid hv
         have HqO4 : Hid (RelOk qR4) := by rw [hv]; exact unionF_ok HXO.out HqO3.out
         have ql4 : qR4.length ≤ 120 := by rw [hv]; have := unionF_length X qR3; omega
         have HqR4 := Lib.hid hr
         have HqB4 := Lib.hid (Below.then HqB3.out hb HqB3.out.size)
         have HqC1_4 := Lib.hid (Below.then HqC1_3.out hb HqC1_3.out.size)
         have HqC2_4 := Lib.hid (Below.then HqC2_3.out hb HqC2_3.out.size)
         have HqC3_4 := Lib.hid (hb)
         have KEEP4 := HK.out q4 HqB4.out
         clear hr hb hv)
      | (go_at_call 42; refine (l7Laws1_any 2 YA ZA YC ZC Y Z q2 (HRY1.out.up HqB2.out) (HRZ1.out.up HqB2.out) HYO.out HZO.out (by omega)).mono ?_; rintro e q3 ⟨qA3, qC3, rfl, hr, hb⟩
         obtain ⟨qR3, hv⟩ : ∃ R, R = unionF Y Z := ⟨_, rfl⟩
         rw [← hv] at hr
         rw [← hv]
         have HqV3 := Lib.hid hv
         have HqO3 : Hid (RelOk qR3) := by rw [hv]; exact unionF_ok HYO.out HZO.out
         have ql3 : qR3.length ≤ 80 := by rw [hv]; have := unionF_length Y Z; omega
         have HqR3 := Lib.hid hr
         have HqB3 := Lib.hid (Below.then HqB2.out hb HqB2.out.size)
         have HqC1_3 := Lib.hid (Below.then HqC1_2.out hb HqC1_2.out.size)
         have HqC2_3 := Lib.hid (hb)
         have KEEP3 := HK.out q3 HqB3.out
         clear hr hb hv)
      | (go_at_call 42; refine (l7Laws1_any 2 qA1 ZA qC1 ZC qR1 Z q1 HqR1.out (HRZ1.out.up HqB1.out) HqO1.out HZO.out (by omega)).mono ?_; rintro e q2 ⟨qA2, qC2, rfl, hr, hb⟩
         obtain ⟨qR2, hv⟩ : ∃ R, R = unionF qR1 Z := ⟨_, rfl⟩
         rw [← hv] at hr
         rw [← hv]
         have HqV2 := Lib.hid hv
         have HqO2 : Hid (RelOk qR2) := by rw [hv]; exact unionF_ok HqO1.out HZO.out
         have ql2 : qR2.length ≤ 120 := by rw [hv]; have := unionF_length qR1 Z; omega
         have HqR2 := Lib.hid hr
         have HqB2 := Lib.hid (Below.then HqB1.out hb HqB1.out.size)
         have HqC1_2 := Lib.hid (hb)
         have KEEP2 := HK.out q2 HqB2.out
         clear hr hb hv)
      | (go_at_call 42; refine (l7Laws1_any 2 XA YA XC YC X Y p10.drew (HRX1.out.up (Below.refl _ _).drew) (HRY1.out.up (Below.refl _ _).drew) HXO.out HYO.out (by omega)).mono ?_; rintro e q1 ⟨qA1, qC1, rfl, hr, hb⟩
         obtain ⟨qR1, hv⟩ : ∃ R, R = unionF X Y := ⟨_, rfl⟩
         rw [← hv] at hr
         rw [← hv]
         have HqV1 := Lib.hid hv
         have HqO1 : Hid (RelOk qR1) := by rw [hv]; exact unionF_ok HXO.out HYO.out
         have ql1 : qR1.length ≤ 80 := by rw [hv]; have := unionF_length X Y; omega
         have HqR1 := Lib.hid hr
         have HqB1 := Lib.hid (Below.undrew hb)
         have KEEP1 := HK.out q1 HqB1.out
         clear hr hb hv)
      | fail)
  all_goals
    go_wp2
    go_ret
    exact ⟨rfl, Below.then HB1.out HqB19.out HB1.out.size⟩

end Go.Proofs.Ytiopkooigeaneaa

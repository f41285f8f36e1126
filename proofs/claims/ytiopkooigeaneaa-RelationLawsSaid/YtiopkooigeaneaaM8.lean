/- Walk: the law RelationSets. -/
import Derived.Test.YtiopkooigeaneaaV31
import Derived.Test.YtiopkooigeaneaaM7
namespace Go.Proofs.Ytiopkooigeaneaa
open Go.RowKit Go.Sort

theorem validR_ss {n : Int} {X : List RL.R} (h : RsOk X) : RelOk (RL.ofF (validR n X)) := ⟨RL.SS.of _, h.of_mem (fun y hy => validR_sub _ X y ((RL.mem_ofF _ _).1 hy))⟩

set_option maxHeartbeats 8000000 in
set_option maxRecDepth 100000 in
theorem sets_walk (ar : Nat) (A B : Option Addr) (C D : Nat) (Xa Xb : List RL.R) (w : World) (har : ar < 256) (hA : SlRs w.heap.size w A Xa) (hbA : BigRs Xa) (hB : SlRs w.heap.size w B Xb) (hbB : BigRs Xb) :
    Calls Try.prog 11 #[.int .u8 ar, .slice A Xa.length C, .slice B Xb.length D] w fun e w' => e = .returned (.bool true) ∧ Below w.heap.size w w' := by
  have HA := Lib.hid hA
  have HBB := Lib.hid hB
  have HWD := Lib.hid (l7width_ex ar w har)
  have HG1 := Lib.hid (l7Great_any A C Xa w hA (by have := hbA.1; omega) hbA.2)
  have HG2 := Lib.hid (fun (W : World) (h : Ext w W) => l7Great_any B D Xb W (hB.up h) (by have := hbB.1; omega) hbB.2)
  have HEND := Lib.hid (fun (W : World) (hb : Below w.heap.size w W) => (l7awake_any W).mono (fun e W' h => (⟨h.1, Below.then hb h.2 hb.size⟩ : e = .returned (.bool true) ∧ Below w.heap.size w W')))
  clear hA hB hbA hbB har
  go_enter Try.func11, Try.ntmps11
  go_wp2_with fail
  refine HWD.out.mono ?_
  rintro e w0 ⟨n, hn4, rfl, rfl⟩
  clear HWD
  go_wp2_with fail
  refine HG1.out.mono ?_
  rintro e w1 ⟨rfl, hx1⟩
  have HX1 := Lib.hid hx1
  clear hx1 HG1
  cases hgr : greatF Xa
  rotate_left
  · clear hgr
    go_wp2_with fail
    refine (HEND.out w1 HX1.out.below).mono ?_
    rintro e w5 ⟨rfl, hb5⟩
    go_wp2
    go_ret
    exact ⟨rfl, hb5⟩
  obtain ⟨g1, g2, -⟩ := greatF_false hgr
  have HOKA := Lib.hid g2
  clear g2 hgr
  go_wp2_with fail
  refine (HG2.out w1 HX1.out).mono ?_
  rintro e w2 ⟨rfl, hx2⟩
  have HX2 := Lib.hid (HX1.out.trans hx2)
  clear hx2 HG2 HX1
  cases hgr : greatF Xb
  rotate_left
  · clear hgr
    go_wp2_with fail
    refine (HEND.out w2 HX2.out.below).mono ?_
    rintro e w5 ⟨rfl, hb5⟩
    go_wp2
    go_ret
    exact ⟨rfl, hb5⟩
  obtain ⟨k1, g2, -⟩ := greatF_false hgr
  have HOKB := Lib.hid g2
  clear g2 hgr
  go_wp2_with fail
  refine (l7made_any (n : Int) A C Xa w2 (by omega) (by omega) (HA.out.up HX2.out) HOKA.out (by omega)).mono ?_
  rintro e w3 ⟨rv, mv, rfl, ⟨XA, XC, rfl, hxc1, hxc2, hxs⟩, ⟨LA, LC, rfl, hlc1, hlc2, hls⟩, hb3⟩
  have HXO := Lib.hid (validR_ss (n := (n : Int)) HOKA.out)
  have hxl := Nat.le_trans (RL.ofF_length_le (validR (n : Int) Xa)) (validR_length _ Xa)
  generalize RL.ofF (validR (n : Int) Xa) = X at *
  have hbn := (Below.refl _ w3).alloc (Nat.le_refl _) (.cells #[.int .i64 n, .slice XA X.length XC] 29)
  have HB3 := Lib.hid (Below.then (Below.then HX2.out.below hb3 HX2.out.size) hbn (Nat.le_trans HX2.out.size hb3.size))
  have HRX := Lib.hid ((show RelV w3 n X XA XC from ⟨hxs, hxc1, hxc2⟩).up hbn)
  have HLX := Lib.hid (hls.upB hbn)
  have HBX := Lib.hid (Row.new w3 29 [.int .i64 n, .slice XA X.length XC])
  clear hxs hls hb3 hbn HX2 HA
  go_wp2_with fail
  generalize w3.heap.size = bx at *
  generalize w3.alloc (.cells #[.int .i64 n, .slice XA X.length XC] 29) = W3 at *
  refine (l7made_any (n : Int) B D Xb W3 (by omega) (by omega) (HBB.out.below HB3.out (Nat.le_refl _) |>.more HB3.out.size) HOKB.out (by omega)).mono ?_
  rintro e w4 ⟨rv, mv, rfl, ⟨YA, YC, rfl, hyc1, hyc2, hys⟩, ⟨MA, MC, rfl, hmc1, hmc2, hms⟩, hb4⟩
  have HYO := Lib.hid (validR_ss (n := (n : Int)) HOKB.out)
  have hyl := Nat.le_trans (RL.ofF_length_le (validR (n : Int) Xb)) (validR_length _ Xb)
  generalize RL.ofF (validR (n : Int) Xb) = Y at *
  have hbn := (Below.refl _ w4).alloc (Nat.le_refl _) (.cells #[.int .i64 n, .slice YA Y.length YC] 29)
  have hb34 := Below.then hb4 hbn hb4.size
  have HB4 := Lib.hid (Below.then HB3.out hb34 HB3.out.size)
  have HRX4 := Lib.hid (HRX.out.up hb34)
  have HLX4 := Lib.hid (HLX.out.upB hb34)
  have HBX4 := Lib.hid (HBX.out.up hb34)
  have HRY4 := Lib.hid ((show RelV w4 n Y YA YC from ⟨hys, hyc1, hyc2⟩).up hbn)
  have HMY4 := Lib.hid (hms.upB hbn)
  have HBY4 := Lib.hid (Row.new w4 29 [.int .i64 n, .slice YA Y.length YC])
  have x0 : w4.cell? ⟨bx, 0, none⟩ = some (.int .i64 n) := (HBX.out.up hb4).cell 0
  have x1 : w4.cell? ⟨bx, 1, none⟩ = some (.slice XA X.length XC) := (HBX.out.up hb4).cell 1
  have hzx : bx < w4.heap.size := (HBX.out.up hb4).lt
  clear hys hms hb4 hb34 hbn HRX HLX HBX HB3 HBB HOKA HOKB
  go_wp2_with fail
  clear x0 x1
  generalize hby : w4.heap.size = by_ at *
  clear hby
  generalize w4.alloc (.cells #[.int .i64 n, .slice YA Y.length YC] 29) = W4 at *
  refine (rlUnion_all (n : Int) XA YA XC YC X Y W4 HRX4.out HRY4.out HXO.out HYO.out (by omega)).mono ?_
  rintro e w5 ⟨UA, UC, rfl, hr, hb⟩
  obtain ⟨U, hv⟩ : ∃ U, U = unionF X Y := ⟨_, rfl⟩
  rw [← hv] at hr
  rw [← hv]
  have HVU := Lib.hid hv
  clear hv
  have hbn := (Below.refl _ w5).alloc (Nat.le_refl _) (.cells #[.int .i64 n, .slice UA U.length UC] 29)
  have hbb := Below.then hb hbn hb.size
  have HK5 := Lib.hid hbb
  have HRU := Lib.hid (hr.up hbn)
  have HBU := Lib.hid (Row.new w5 29 [.int .i64 n, .slice UA U.length UC])
  have x0 : w5.cell? ⟨bx, 0, none⟩ = some (.int .i64 n) := (HBX4.out.up hb).cell 0
  have x1 : w5.cell? ⟨bx, 1, none⟩ = some (.slice XA X.length XC) := (HBX4.out.up hb).cell 1
  have y0 : w5.cell? ⟨by_, 0, none⟩ = some (.int .i64 n) := (HBY4.out.up hb).cell 0
  have y1 : w5.cell? ⟨by_, 1, none⟩ = some (.slice YA Y.length YC) := (HBY4.out.up hb).cell 1
  have hzx5 : bx < w5.heap.size := cell_lt x0
  have hzy5 : by_ < w5.heap.size := cell_lt y0
  clear hr hb hbn hbb
  go_wp2_with fail
  clear x0 x1 y0 y1 hzx5 hzy5
  generalize hbq : w5.heap.size = bu at *
  clear hbq
  generalize w5.alloc (.cells #[.int .i64 n, .slice UA U.length UC] 29) = W5 at *
  refine (rlIntersect_all (n : Int) XA YA XC YC X Y W5 (HRX4.out.up HK5.out) (HRY4.out.up HK5.out) HXO.out HYO.out (by omega) (by omega)).mono ?_
  rintro e w6 ⟨IA, IC, rfl, hr, hb⟩
  obtain ⟨I, hv⟩ : ∃ I, I = bothF X Y false := ⟨_, rfl⟩
  rw [← hv] at hr
  rw [← hv]
  have HVI := Lib.hid hv
  clear hv
  have hbn := (Below.refl _ w6).alloc (Nat.le_refl _) (.cells #[.int .i64 n, .slice IA I.length IC] 29)
  have hbb := Below.then hb hbn hb.size
  have HK6 := Lib.hid (Below.then HK5.out hbb HK5.out.size)
  have HRI := Lib.hid (hr.up hbn)
  have HBI := Lib.hid (Row.new w6 29 [.int .i64 n, .slice IA I.length IC])
  have HRU6 := Lib.hid (HRU.out.up hbb)
  have HBU6 := Lib.hid (HBU.out.up hbb)
  have x0 : w6.cell? ⟨bx, 0, none⟩ = some (.int .i64 n) := (HBX4.out.up (Below.then HK5.out hb HK5.out.size)).cell 0
  have x1 : w6.cell? ⟨bx, 1, none⟩ = some (.slice XA X.length XC) := (HBX4.out.up (Below.then HK5.out hb HK5.out.size)).cell 1
  have y0 : w6.cell? ⟨by_, 0, none⟩ = some (.int .i64 n) := (HBY4.out.up (Below.then HK5.out hb HK5.out.size)).cell 0
  have y1 : w6.cell? ⟨by_, 1, none⟩ = some (.slice YA Y.length YC) := (HBY4.out.up (Below.then HK5.out hb HK5.out.size)).cell 1
  have hzx6 : bx < w6.heap.size := cell_lt x0
  have hzy6 : by_ < w6.heap.size := cell_lt y0
  clear hr hb hbn hbb
  go_wp2_with fail
  clear x0 x1 y0 y1 hzx6 hzy6
  generalize hbq : w6.heap.size = bi at *
  clear hbq
  generalize w6.alloc (.cells #[.int .i64 n, .slice IA I.length IC] 29) = W6 at *
  refine (rlMinus_all (n : Int) XA YA XC YC X Y W6 (HRX4.out.up HK6.out) (HRY4.out.up HK6.out) HXO.out HYO.out (by omega) (by omega)).mono ?_
  rintro e w7 ⟨DA, DC, rfl, hr, hb⟩
  obtain ⟨D_, hv⟩ : ∃ D_, D_ = bothF X Y true := ⟨_, rfl⟩
  rw [← hv] at hr
  rw [← hv]
  have HVD := Lib.hid hv
  clear hv
  have hbn := (Below.refl _ w7).alloc (Nat.le_refl _) (.cells #[.int .i64 n, .slice DA D_.length DC] 29)
  have hbb := Below.then hb hbn hb.size
  have HK7 := Lib.hid (Below.then HK6.out hbb HK6.out.size)
  have HRD := Lib.hid (hr.up hbn)
  have HBD := Lib.hid (Row.new w7 29 [.int .i64 n, .slice DA D_.length DC])
  have HRU7 := Lib.hid (HRU6.out.up hbb)
  have HBU7 := Lib.hid (HBU6.out.up hbb)
  have HRI7 := Lib.hid (HRI.out.up hbb)
  have HBI7 := Lib.hid (HBI.out.up hbb)
  clear hr hb hbn hbb
  go_wp2
  generalize hbq : w7.heap.size = bd at *
  clear hbq
  generalize w7.alloc (.cells #[.int .i64 n, .slice DA D_.length DC] 29) = W7 at *
  have HK := Lib.hid (fun (W : World) (hb : Below W7.heap.size W7 W) => (⟨(HBU7.out.up hb).cell 0, (HBU7.out.up hb).cell 1, (HBI7.out.up hb).cell 0, (HBI7.out.up hb).cell 1, (HBD.out.up hb).cell 0, (HBD.out.up hb).cell 1, ((HBX4.out.up HK7.out).up hb).cell 0, ((HBX4.out.up HK7.out).up hb).cell 1, ((HBY4.out.up HK7.out).up hb).cell 0, ((HBY4.out.up HK7.out).up hb).cell 1⟩ : W.cell? ⟨bu, 0, none⟩ = some (.int .i64 n) ∧ W.cell? ⟨bu, 1, none⟩ = some (.slice UA U.length UC) ∧ W.cell? ⟨bi, 0, none⟩ = some (.int .i64 n) ∧ W.cell? ⟨bi, 1, none⟩ = some (.slice IA I.length IC) ∧ W.cell? ⟨bd, 0, none⟩ = some (.int .i64 n) ∧ W.cell? ⟨bd, 1, none⟩ = some (.slice DA D_.length DC) ∧ W.cell? ⟨bx, 0, none⟩ = some (.int .i64 n) ∧ W.cell? ⟨bx, 1, none⟩ = some (.slice XA X.length XC) ∧ W.cell? ⟨by_, 0, none⟩ = some (.int .i64 n) ∧ W.cell? ⟨by_, 1, none⟩ = some (.slice YA Y.length YC)))
  have HLX7 := Lib.hid (HLX4.out.upB HK7.out)
  have HMY7 := Lib.hid (HMY4.out.upB HK7.out)
  have HRX7 := Lib.hid (HRX4.out.up HK7.out)
  have HRY7 := Lib.hid (HRY4.out.up HK7.out)
  have HBX7 := Lib.hid (HBX4.out.up HK7.out)
  have HBY7 := Lib.hid (HBY4.out.up HK7.out)
  have HB7 := Lib.hid (Below.then HB4.out HK7.out HB4.out.size)
  have HUO : Hid (RelOk U) := by rw [HVU.out]; exact unionF_ok HXO.out HYO.out
  have HIO : Hid (RelOk I) := by rw [HVI.out]; exact bothF_ok Y false HXO.out
  have HDO : Hid (RelOk D_) := by rw [HVD.out]; exact bothF_ok Y true HXO.out
  have hul : U.length ≤ 80 := by rw [HVU.out]; have := unionF_length X Y; omega
  have hil : I.length ≤ 80 := by rw [HVI.out]; have := bothF_len X Y false; omega
  have hdl : D_.length ≤ 80 := by rw [HVD.out]; have := bothF_len X Y true; omega
  clear HRX4 HRY4 HLX4 HMY4 HBX4 HBY4 HK5 HK6 HK7 HRU HRU6 HRI HBU HBU6 HBI HB4
  obtain ⟨q, hq⟩ : ∃ q, q = decide (X = Y) := ⟨_, rfl⟩
  have HQ := Lib.hid hq
  clear hq
  have HC1 := Lib.hid (fun (W : World) (hb : Below W7.heap.size W7 W) => r7Union_any LA MA LC MC X Y W (HLX7.out.upB hb) (HMY7.out.upB hb) (by omega) (by omega) HXO.out.2 HYO.out.2 hlc1 hlc2)
  have HC2 := Lib.hid (fun (W : World) (hb : Below W7.heap.size W7 W) (nt : Bool) => r7Both_any LA MA LC MC X Y nt W (HLX7.out.upB hb) (HMY7.out.upB hb) (by omega) (by omega) HXO.out.2 HYO.out.2)
  have HC3 := Lib.hid (fun (W : World) (hb : Below W7.heap.size W7 W) NA NC (hs : SlRs W.heap.size W NA U) => l7Is_ok (n : Int) UA NA UC NC U W (HRU7.out.up hb).1 hs HUO.out.2 (by omega))
  have HC4 := Lib.hid (fun (W : World) (hb : Below W7.heap.size W7 W) NA NC (hs : SlRs W.heap.size W NA I) => l7Is_ok (n : Int) IA NA IC NC I W (HRI7.out.up hb).1 hs HIO.out.2 (by omega))
  have HC5 := Lib.hid (fun (W : World) (hb : Below W7.heap.size W7 W) NA NC (hs : SlRs W.heap.size W NA D_) => l7Is_ok (n : Int) DA NA DC NC D_ W (HRD.out.up hb).1 hs HDO.out.2 (by omega))
  have HC6 := Lib.hid (fun (W : World) (hb : Below W7.heap.size W7 W) => rlEqual_any (n : Int) (n : Int) XA YA XC YC X Y W (HRX7.out.up hb).1 (HRY7.out.up hb).1 (by omega) (by omega) HXO.out.2 HYO.out.2)
  have HC7 := Lib.hid (fun (W : World) (hb : Below W7.heap.size W7 W) => r7Same_any LA MA LC MC X Y W (HLX7.out.upB hb) (HMY7.out.upB hb) (by omega) (by omega) HXO.out.2 HYO.out.2)
  have KEEP0 := HK.out W7.drew (Below.refl _ _).drew
  go_region_held3 (fun w' => w'.cell? ⟨bu, 0, none⟩ = some (.int .i64 n) ∧ w'.cell? ⟨bu, 1, none⟩ = some (.slice UA U.length UC) ∧ w'.cell? ⟨bi, 0, none⟩ = some (.int .i64 n) ∧ w'.cell? ⟨bi, 1, none⟩ = some (.slice IA I.length IC) ∧ w'.cell? ⟨bd, 0, none⟩ = some (.int .i64 n) ∧ w'.cell? ⟨bd, 1, none⟩ = some (.slice DA D_.length DC) ∧ w'.cell? ⟨bx, 0, none⟩ = some (.int .i64 n) ∧ w'.cell? ⟨bx, 1, none⟩ = some (.slice XA X.length XC) ∧ w'.cell? ⟨by_, 0, none⟩ = some (.int .i64 n) ∧ w'.cell? ⟨by_, 1, none⟩ = some (.slice YA Y.length YC)) (first | exact KEEP8 | exact KEEP7 | exact KEEP6 | exact KEEP5 | exact KEEP4 | exact KEEP3 | exact KEEP2 | exact KEEP1 | exact KEEP0 | go_keep)
    (first
      | (go_at_call 51; refine (HC7.out v7 HB_7.out).mono ?_; rintro e v8 ⟨rfl, hx⟩
         rw [← HQ.out]
         have HB_8 := Lib.hid (Below.then HB_7.out hx.below HB_7.out.size)
         have KEEP8 := HK.out v8 HB_8.out
         clear hx)
      | (go_at_call 48; refine (HC6.out v6 HB_6.out).mono ?_; rintro e v7 ⟨rfl, hx⟩
         rw [← HQ.out]
         have HB_7 := Lib.hid (Below.then HB_6.out hx.below HB_6.out.size)
         have KEEP7 := HK.out v7 HB_7.out
         clear hx)
      | (go_at_call 24; refine (HC5.out v5 HB_5.out NA5 NC5 HS5.out).mono ?_; rintro e v6 ⟨rfl, hb⟩
         have HB_6 := Lib.hid (Below.then HB_5.out hb HB_5.out.size)
         have KEEP6 := HK.out v6 HB_6.out
         clear hb)
      | (go_at_call 50; refine (HC2.out v4 HB_4.out true).mono ?_; rintro e v5 ⟨z5, rfl, hz5, hb⟩
         rw [← HVD.out] at hz5
         obtain ⟨NA5, NC5, rfl, -, -, hs5⟩ := hz5
         have HB_5 := Lib.hid (Below.then HB_4.out hb HB_4.out.size)
         have KEEP5 := HK.out v5 HB_5.out
         have HS5 := Lib.hid hs5
         clear hb hs5)
      | (go_at_call 24; refine (HC4.out v3 HB_3.out NA3 NC3 HS3.out).mono ?_; rintro e v4 ⟨rfl, hb⟩
         have HB_4 := Lib.hid (Below.then HB_3.out hb HB_3.out.size)
         have KEEP4 := HK.out v4 HB_4.out
         clear hb)
      | (go_at_call 50; refine (HC2.out v2 HB_2.out false).mono ?_; rintro e v3 ⟨z3, rfl, hz3, hb⟩
         rw [← HVI.out] at hz3
         obtain ⟨NA3, NC3, rfl, -, -, hs3⟩ := hz3
         have HB_3 := Lib.hid (Below.then HB_2.out hb HB_2.out.size)
         have KEEP3 := HK.out v3 HB_3.out
         have HS3 := Lib.hid hs3
         clear hb hs3)
      | (go_at_call 24; refine (HC3.out v1 HB_1.out NA1 NC1 HS1.out).mono ?_; rintro e v2 ⟨rfl, hb⟩
         have HB_2 := Lib.hid (Below.then HB_1.out hb HB_1.out.size)
         have KEEP2 := HK.out v2 HB_2.out
         clear hb)
      | (go_at_call 49; refine (HC1.out W7.drew (Below.refl _ _).drew).mono ?_; rintro e v1 ⟨z1, rfl, hz1, hb⟩
         rw [← HVU.out] at hz1
         obtain ⟨NA1, NC1, rfl, -, -, hs1⟩ := hz1
         have HB_1 := Lib.hid (Below.undrew hb)
         have KEEP1 := HK.out v1 HB_1.out
         have HS1 := Lib.hid hs1
         clear hb hs1)
      | fail)
  all_goals
    clear KEEP0 KEEP1 KEEP2 KEEP3 KEEP4 KEEP5 KEEP6 KEEP7 KEEP8 HC1 HC2 HC3 HC4 HC5 HC6 HC7
    go_wp2_with fail
    refine (rlNew_ok ((n : Int) + 1) v8 (by omega) (by omega)).mono ?_
    rintro e v9 ⟨rfl, hx9⟩
    have HB9 := Lib.hid (Below.then HB_8.out hx9.below HB_8.out.size)
    have hbn := (Below.refl _ v9).alloc (Nat.le_refl _) (.cells #[.int .i64 ((n : Int) + 1), .slice none 0 0] 29)
    have HB10 := Lib.hid (Below.then HB9.out hbn HB9.out.size)
    have HBZ := Lib.hid (Row.new v9 29 [.int .i64 ((n : Int) + 1), .slice none 0 0])
    have x0 : v9.cell? ⟨bx, 0, none⟩ = some (.int .i64 n) := (HBX7.out.up HB9.out).cell 0
    have x1 : v9.cell? ⟨bx, 1, none⟩ = some (.slice XA X.length XC) := (HBX7.out.up HB9.out).cell 1
    have hzx9 := cell_lt x0
    clear hx9 hbn HB_1 HB_2 HB_3 HB_4 HB_5 HB_6 HB_7 HB_8
    go_wp2_with fail
    clear x0 x1 hzx9
    generalize hbz : v9.heap.size = bz at *
    clear hbz
    generalize v9.alloc (.cells #[.int .i64 ((n : Int) + 1), .slice none 0 0] 29) = V9 at *
    refine (rlUnion_arity (n : Int) ((n : Int) + 1) XA none XC 0 X.length 0 V9 (by omega)).mono ?_
    rintro e v10 ⟨rfl, hb⟩
    have HB11 := Lib.hid (Below.then HB10.out hb HB10.out.size)
    have HBZ1 := Lib.hid (HBZ.out.up hb)
    have x0 : v10.cell? ⟨bx, 0, none⟩ = some (.int .i64 n) := (HBX7.out.up HB11.out).cell 0
    have x1 : v10.cell? ⟨bx, 1, none⟩ = some (.slice XA X.length XC) := (HBX7.out.up HB11.out).cell 1
    have z0 : v10.cell? ⟨bz, 0, none⟩ = some (.int .i64 ((n : Int) + 1)) := HBZ1.out.cell 0
    have z1 : v10.cell? ⟨bz, 1, none⟩ = some (.slice none 0 0) := HBZ1.out.cell 1
    clear hb HBZ HB10 HB9
    go_wp2_with fail
    refine (rlIntersect_arity ((n : Int) + 1) (n : Int) none XA 0 XC 0 X.length v10 (by omega)).mono ?_
    rintro e v11 ⟨rfl, hb⟩
    have HB12 := Lib.hid (Below.then HB11.out hb HB11.out.size)
    have HBZ2 := Lib.hid (HBZ1.out.up hb)
    clear hb HBZ1 HB11 x0 x1 z0 z1
    have x0 : v11.cell? ⟨bx, 0, none⟩ = some (.int .i64 n) := (HBX7.out.up HB12.out).cell 0
    have x1 : v11.cell? ⟨bx, 1, none⟩ = some (.slice XA X.length XC) := (HBX7.out.up HB12.out).cell 1
    have z0 : v11.cell? ⟨bz, 0, none⟩ = some (.int .i64 ((n : Int) + 1)) := HBZ2.out.cell 0
    have z1 : v11.cell? ⟨bz, 1, none⟩ = some (.slice none 0 0) := HBZ2.out.cell 1
    go_wp2_with fail
    refine (rlMinus_arity (n : Int) ((n : Int) + 1) XA none XC 0 X.length 0 v11 (by omega)).mono ?_
    rintro e v12 ⟨rfl, hb⟩
    have HB13 := Lib.hid (Below.then HB12.out hb HB12.out.size)
    have HBZ3 := Lib.hid (HBZ2.out.up hb)
    clear hb HBZ2 HB12 x0 x1 z0 z1
    have x0 : v12.cell? ⟨bx, 0, none⟩ = some (.int .i64 n) := (HBX7.out.up HB13.out).cell 0
    have x1 : v12.cell? ⟨bx, 1, none⟩ = some (.slice XA X.length XC) := (HBX7.out.up HB13.out).cell 1
    have z0 : v12.cell? ⟨bz, 0, none⟩ = some (.int .i64 ((n : Int) + 1)) := HBZ3.out.cell 0
    have z1 : v12.cell? ⟨bz, 1, none⟩ = some (.slice none 0 0) := HBZ3.out.cell 1
    have HEQ : Hid (Calls Try.prog 48 #[.agg #[.int .i64 n, .slice XA X.length XC], .agg #[.int .i64 ((n : Int) + 1), .slice none 0 0]] v12 fun e w' => e = .returned (.bool false) ∧ Ext v12 w') :=
      (rlEqual_any (n : Int) ((n : Int) + 1) XA none XC 0 X [] v12 (HRX7.out.up HB13.out).1 SlRs.nil (by omega) (by simp) HXO.out.2 (fun y hy => by cases hy)).mono (fun e w' h => ⟨by rw [h.1, show decide ((n : Int) = (n : Int) + 1) = false by simp; omega]; rfl, h.2⟩)
    go_wp2_with fail
    refine HEQ.out.mono ?_
    rintro e v13 ⟨rfl, hx⟩
    have HB14 := Lib.hid (Below.then HB7.out (Below.then HB13.out hx.below HB13.out.size) HB7.out.size)
    clear hx HEQ x0 x1 z0 z1 HB13 HBZ3
    go_wp2_with fail
    refine (HEND.out v13 HB14.out).mono ?_
    rintro e v14 ⟨rfl, hb⟩
    go_wp2
    go_ret
    exact ⟨rfl, hb⟩

end Go.Proofs.Ytiopkooigeaneaa

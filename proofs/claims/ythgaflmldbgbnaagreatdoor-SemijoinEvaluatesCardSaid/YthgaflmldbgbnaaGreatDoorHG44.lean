/- Walk of chapter 36: SemijoinEvaluates (printed by tools/g44.py). -/
import Derived.Test.YthgaflmldbgbnaaGreatDoorQ14
namespace Go.Proofs.YthgaflmldbgbnaaGreatDoor
open Go.RowKit Go.Sort

set_option maxHeartbeats 32000000 in
set_option maxRecDepth 100000 in
theorem l36Evaluates_any (A : Option Addr) (C : Nat) (l : List LA) (root K : Nat) (w : World) (hA : AtsL w.heap.size w A l) (hB : LBytes l) (hl : l.length ≤ 3518437208780) (hroot : root < 256) (hK : K < 4294967296) :
    Calls Tryz.prog 6 #[.slice A l.length C, .int .u8 (root : Nat), .int .u32 (K : Nat)] w fun e w' => e = .returned (.bool true) ∧ Below w.heap.size w w' := by
  have HMK := Lib.hid (l35Made3 A C l w hA hB hl)
  clear hA hB hl
  go_enter Tryz.func6, Tryz.ntmps6
  go_wp2_with fail
  refine HMK.out.mono ?_
  rintro e w1 ⟨hb1, rfl | ⟨X, A1, A2, A3, C1, C2, C3, rfl, hX, ha, hr, hz⟩⟩
  · clear HMK
    have HB1 := Lib.hid (hb1)
    clear hb1
    go_wp2_with fail
    refine (l36awake_any _).mono ?_
    rintro e wz ⟨rfl, hbz⟩
    have hbw := Below.then HB1.out hbz (HB1.out).size
    clear hbz
    go_wp2
    go_ret
    exact ⟨rfl, hbw⟩
  have HB1 := Lib.hid (hb1)
  by_cases h6 : X.length ≤ 6
  rotate_left
  · rw [decide_eq_false h6]
    clear HMK hX ha hr hz hb1
    go_wp2_with fail
    refine (l36awake_any _).mono ?_
    rintro e wz ⟨rfl, hbz⟩
    have hbw := Below.then HB1.out hbz (HB1.out).size
    clear hbz
    go_wp2
    go_ret
    exact ⟨rfl, hbw⟩
  rw [decide_eq_true h6]
  have HS : Hid (∀ a ∈ X, Small a) := by obtain ⟨rfl, h⟩ := hX; exact LA.smalls h
  have HWR := Lib.hid (r36Wrong_any A2 A3 C2 C3 X w1 hr hz (by omega) (fun a ha => Nat.le_trans (HS.out a ha).vl (by omega)))
  have HAM := Lib.hid ha
  have HAR := Lib.hid hr
  have HX := Lib.hid hX
  clear HMK hX ha hr hz hb1
  go_wp2_with fail
  refine HWR.out.mono ?_
  rintro e w2 ⟨rfl, hb2⟩
  have HB2 := Lib.hid (Below.then HB1.out hb2 HB1.out.size)
  have HAM2 := Lib.hid (HAM.out.upB hb2)
  have HAR2 := Lib.hid (HAR.out.upB hb2)
  clear hb2 HWR HAM HAR
  by_cases he : errC X = 0
  rotate_left
  · have hne : (errC X != 0) = true := by simpa using he
    clear he
    generalize errC X = code at *
    go_wp2_with fail
    refine (l36awake_any _).mono ?_
    rintro e wz ⟨rfl, hbz⟩
    have hbw := Below.then HB2.out hbz (HB2.out).size
    clear hbz
    go_wp2
    go_ret
    exact ⟨rfl, hbw⟩
  rw [he]
  obtain ⟨al, hal, hall, hgl⟩ : ∃ al : List At, X = al.map At.ra ∧ al.length = X.length ∧ GoodL al := by
    obtain ⟨rfl, hok⟩ := HX.out
    obtain ⟨al, h1, h2, h3⟩ := good_all hok (by rw [List.length_map] at h6; exact h6) he
    exact ⟨al, h1, by rw [h2, List.length_map], h3⟩
  subst hal
  rw [List.length_map] at h6 hall ⊢
  have HGL := Lib.hid hgl
  have HA := Lib.hid (fun W (h : Below w2.heap.size w2 W) => HAM2.out.upB h)
  have HR := Lib.hid (fun W (h : Below w2.heap.size w2 W) => HAR2.out.upB h)
  clear hgl hall he HX HS HAM2 HAR2
  have HTR := Lib.hid (l36tree_any A2 C2 al root hroot w2 (HR.out w2 (Below.refl _ _)) (by omega) HGL.out.gd)
  have HFIN := Lib.hid (fun W (hb : Below w2.heap.size w2 W) => (l36awake_any W).mono fun e W' h => (⟨h.1, Below.then hb h.2 hb.size⟩ : e = .returned (.bool true) ∧ Below w2.heap.size w2 W'))
  have HEND : Hid (∀ W, Below w2.heap.size w2 W → Below w.heap.size w W) := fun W hb => Below.then HB2.out hb HB2.out.size
  go_wp2_with fail
  refine HTR.out.mono ?_
  rintro e w3 ⟨TA, tl, TC, tb, rfl, hok, hb3⟩
  obtain ⟨W3, hW3⟩ : ∃ W, W = w3.alloc (.cells #[.slice TA tl TC] 51) := ⟨_, rfl⟩
  obtain ⟨gt, hgt⟩ : ∃ g, g = w3.heap.size := ⟨_, rfl⟩
  have HB3 : Hid (Below w2.heap.size w2 W3) := by show Below _ _ _; rw [hW3]; exact Below.then hb3 ((Ext.refl w3).alloc _).below hb3.size
  have HX3 : Hid (Below w3.heap.size w3 W3) := by show Below _ _ _; rw [hW3]; exact ((Ext.refl w3).alloc _).below
  have HRT : Hid (Row W3 gt 51 [.slice TA tl TC]) := by show Row _ _ _ _; rw [hW3, hgt]; exact Row.new w3 _ _
  have HOK := Lib.hid hok
  have HW3E := Lib.hid hW3
  have HGTE := Lib.hid hgt
  clear hok hb3 hW3 hgt HTR
  go_upto_region 5 with (fail)
  rw [← HW3E.out, ← HGTE.out]
  clear HW3E HGTE
  cases tb
  · go_wp2_with fail
    refine (HFIN.out W3 HB3.out).mono ?_
    rintro e w4 ⟨rfl, hb4⟩
    have HB4 := Lib.hid (HEND.out w4 hb4)
    clear hb4
    go_wp2
    go_ret
    exact ⟨rfl, HB4.out⟩
  obtain ⟨qs, rfl, hql, hqs, ht⟩ := HOK.out rfl
  have HT := Lib.hid ht
  have HQS := Lib.hid (fun W (h : Below W3.heap.size W3 W) => ((Sl.below ((Sl.below hqs HX3.out (Nat.le_refl _)).more HX3.out.size) h (Nat.le_refl _)).more h.size : SlI .i64 W.heap.size W TA qs))
  clear hqs ht HOK hql
  have HJN := Lib.hid (r36Join_any A2 C2 al W3 (HR.out W3 HB3.out) (by omega) HGL.out.gd HGL.out.v8)
  unfold JoinRP at HJN
  have HGJ := Lib.hid HGL.out.join
  have HSU := Lib.hid (set_union al HGL.out.gd)
  have HBIT : Hid (∀ v ∈ (joinR al).vs, K / 2 ^ v % 2 = if v ∈ bitsL K then 1 else 0) := fun v hv => bit_if (keep_bit (HGJ.out.lt v hv))
  have HNEC := Lib.hid (fun PA PC W (h : Below w2.heap.size w2 W) (hp : SlI .i64 W.heap.size W PA qs) => nonemptyL_any HGL.out PA A1 PC C1 qs W (HA.out W h) hp HT.out)
  have HEVC := Lib.hid (fun PA PC W (h : Below w2.heap.size w2 W) (hp : SlI .i64 W.heap.size W PA qs) => evaluateL_any HGL.out PA A1 PC C1 qs K hK W (HA.out W h) hp HT.out)
  have HGE := Lib.hid (evA_gd HGL.out K)
  have HEA : Hid (JT.dif K (setN (joinR al).vs) = 0 → evC al K = 0 ∧ evA al K = projA (joinR al) fun v => decide (v ∈ bitsL K)) := fun h => by
    rw [show (joinR al).vs = unionV al from rfl, HSU.out] at h
    unfold evC evA
    rw [if_pos h, if_pos h]
    exact ⟨rfl, rfl⟩
  have HEB : Hid (JT.dif K (setN (joinR al).vs) ≠ 0 → evC al K = 22 ∧ evA al K = ⟨[], []⟩) := fun h => by
    rw [show (joinR al).vs = unionV al from rfl, HSU.out] at h
    unfold evC evA
    rw [if_neg h, if_neg h]
    exact ⟨rfl, rfl⟩
  have HSL : Hid (setN (joinR al).vs < 4294967296) := setN_lt HGJ.out.lt
  clear HSU
  generalize joinR al = J at *
  generalize evA al K = E at *
  generalize evC al K = ec at *
  go_wp2_with fail
  refine HJN.out.mono ?_
  rintro e w4 ⟨v, rfl, hv, hb4⟩
  have hv0 := hv
  obtain ⟨JA, JC, MA, MC, rfl, -, -, -, -, hjv, -⟩ := hv
  rw [List.length_map] at hv0 ⊢
  obtain ⟨W5, hW5⟩ : ∃ W, W = w4.alloc (.cells #[.slice JA J.vs.length JC, .slice MA J.P.length MC] 45) := ⟨_, rfl⟩
  obtain ⟨gj, hgj⟩ : ∃ g, g = w4.heap.size := ⟨_, rfl⟩
  have hx5 : Ext w4 W5 := by rw [hW5]; exact (Ext.refl w4).alloc _
  have HB35 : Hid (Below W3.heap.size W3 W5) := Below.then hb4 hx5.below hb4.size
  have HB5 : Hid (Below w2.heap.size w2 W5) := Below.then HB3.out HB35.out HB3.out.size
  have HRJ : Hid (Row W5 gj 45 [.slice JA J.vs.length JC, .slice MA J.P.length MC]) := by show Row _ _ _ _; rw [hW5, hgj]; exact Row.new w4 _ _
  have HVJ := Lib.hid (hv0.up hx5.below)
  have HJV := Lib.hid ((Sl.below hjv hx5.below (Nat.le_refl _)).more hx5.size)
  have HRT5 := Lib.hid (HRT.out.up HB35.out)
  have HW5E := Lib.hid hW5
  have HGJE := Lib.hid hgj
  clear hv0 hb4 hjv hW5 hgj hx5 HJN HRT
  go_upto_region 8 with (fail)
  rw [← HW5E.out, ← HGJE.out]
  have c0 : W5.cell? ⟨gt, 0, none⟩ = some (.slice TA qs.length TC) := HRT5.out.cell 0
  have c1 := HRT5.out.lt
  obtain ⟨bq, hbq⟩ : ∃ bq, bq = decide (0 < J.P.length) := ⟨_, rfl⟩
  have HBQ := Lib.hid hbq
  have HNE := Lib.hid (HNEC.out TA TC W5 HB5.out (HQS.out W5 HB35.out))
  rw [← hbq] at HNE
  clear HW5E HGJE hbq HNEC
  go_wp2_with fail
  refine HNE.out.mono ?_
  rintro e w6 ⟨rfl, hb6⟩
  have HB56 := Lib.hid hb6
  have HB6 : Hid (Below w2.heap.size w2 w6) := Below.then HB5.out hb6 HB5.out.size
  have HRT6 := Lib.hid (HRT5.out.up hb6)
  have c0 : w6.cell? ⟨gt, 0, none⟩ = some (.slice TA qs.length TC) := HRT6.out.cell 0
  have c1 := HRT6.out.lt
  have HEV := Lib.hid (HEVC.out TA TC w6 HB6.out (HQS.out w6 (Below.then HB35.out hb6 HB35.out.size)))
  clear hb6 HNE HRT5 HEVC
  go_wp2_with fail
  refine HEV.out.mono ?_
  rintro e w7 ⟨EA, EC, FA, FC, rfl, hae, hb7⟩
  obtain ⟨W8, hW8⟩ : ∃ W, W = w7.alloc (.cells #[.slice EA E.vs.length EC, .int .i64 (E.vs.length : Nat), .slice FA E.P.length FC] 36) := ⟨_, rfl⟩
  obtain ⟨ge, hge⟩ : ∃ g, g = w7.heap.size := ⟨_, rfl⟩
  have hx8 : Ext w7 W8 := by rw [hW8]; exact (Ext.refl w7).alloc _
  have HB68 : Hid (Below w6.heap.size w6 W8) := Below.then hb7 hx8.below hb7.size
  have HB8 : Hid (Below w2.heap.size w2 W8) := Below.then HB6.out HB68.out HB6.out.size
  have HB58 : Hid (Below W5.heap.size W5 W8) := Below.then HB56.out HB68.out HB56.out.size
  have HRE : Hid (Row W8 ge 36 [.slice EA E.vs.length EC, .int .i64 (E.vs.length : Nat), .slice FA E.P.length FC]) := by show Row _ _ _ _; rw [hW8, hge]; exact Row.new w7 _ _
  have HVE := Lib.hid (hae.up hx8.below)
  have HRJ8 := Lib.hid (HRJ.out.up HB58.out)
  have HVJ8 := Lib.hid (HVJ.out.up HB58.out)
  have HJV8 := Lib.hid ((Sl.below HJV.out HB58.out (Nat.le_refl _)).more HB58.out.size)
  have HW8E := Lib.hid hW8
  have HGEE := Lib.hid hge
  clear hae hb7 hW8 hge hx8 HEV HRJ HVJ HJV HRT6 c0 c1
  go_upto_region 10 with (fail)
  rw [← HW8E.out, ← HGEE.out]
  clear HW8E HGEE
  have d0 : W8.cell? ⟨gj, 0, none⟩ = some (.slice JA J.vs.length JC) := HRJ8.out.cell 0
  have d1 : W8.cell? ⟨gj, 1, none⟩ = some (.slice MA J.P.length MC) := HRJ8.out.cell 1
  have d2 := HRJ8.out.lt
  have hd : decide ((0 : Int) < (J.P.length : Int)) = bq := by rw [HBQ.out]; exact decide_eq_decide.2 (by omega)
  have hd1 : decide (0 < J.P.length) = bq := HBQ.out.symm
  have hbb : (bq != bq) = false := by simp
  have hba : bits .andNot .u32 (K : Int) ((setN J.vs : Nat) : Int) = (JT.dif K (setN J.vs) : Nat) := u32_andNot_nat K (setN J.vs) hK HSL.out
  have HSET := Lib.hid (r36Set_any JA MA JC MC J.P.length J.vs W8 HJV8.out (by have := HGJ.out.vl; omega) HGJ.out.asc HGJ.out.lt)
  clear HBQ
  go_wp2_with fail
  refine HSET.out.mono ?_
  rintro e w9 ⟨rfl, hx9⟩
  have HB89 := Lib.hid hx9.below
  have HB9 : Hid (Below w2.heap.size w2 w9) := Below.then HB8.out hx9.below HB8.out.size
  have HRE9 := Lib.hid (HRE.out.up hx9.below)
  have HRJ9 := Lib.hid (HRJ8.out.up hx9.below)
  have HVE9 := Lib.hid (HVE.out.up hx9.below)
  have HVJ9 := Lib.hid (HVJ8.out.up hx9.below)
  clear hx9 HSET HRE HRJ8 HVE HVJ8 d0 d1 d2
  by_cases hdz : JT.dif K (setN J.vs) = 0
  rotate_left
  · obtain ⟨g1, g2⟩ := HEB.out hdz
    have hq : (((JT.dif K (setN J.vs) : Nat) : Int) != 0) = true := by simpa using hdz
    subst g1 g2
    clear hdz HEA HEB
    go_wp2_with fail
    refine (l36awake_any w9).mono ?_
    rintro e w10 ⟨rfl, hb10⟩
    have rc := HRE9.out.up hb10
    have d0 : w10.cell? ⟨ge, 0, none⟩ = some (.slice EA 0 EC) := rc.cell 0
    have d1 : w10.cell? ⟨ge, 1, none⟩ = some (.int .i64 0) := rc.cell 1
    have d2 : w10.cell? ⟨ge, 2, none⟩ = some (.slice FA 0 FC) := rc.cell 2
    have d3 := rc.lt
    have HB10 : Hid (Below w2.heap.size w2 w10) := Below.then HB9.out hb10 HB9.out.size
    clear hb10 rc
    go_wp2_with fail
    refine (rlLen_any 0 FA 0 FC w10).mono ?_
    rintro e w11 ⟨rfl, hx⟩
    have HB11 := Lib.hid (HEND.out w11 (Below.then HB10.out hx.below HB10.out.size))
    clear hx
    go_wp2_with fail
    go_ret
    exact ⟨rfl, HB11.out⟩
  obtain ⟨g1, g2⟩ := HEA.out hdz
  have hq : (((JT.dif K (setN J.vs) : Nat) : Int) != 0) = false := by rw [hdz]; rfl
  subst g1
  have HG2 := Lib.hid g2
  have HKP : Hid (∀ W, Below w9.heap.size w9 W → (W.cell? ⟨ge, 0, none⟩ = some (.slice EA E.vs.length EC) ∧ W.cell? ⟨ge, 1, none⟩ = some (.int .i64 (E.vs.length : Nat)) ∧ W.cell? ⟨ge, 2, none⟩ = some (.slice FA E.P.length FC)) ∧ W.cell? ⟨gj, 0, none⟩ = some (.slice JA J.vs.length JC) ∧ W.cell? ⟨gj, 1, none⟩ = some (.slice MA J.P.length MC)) := fun W h => ⟨⟨(HRE9.out.up h).cell 0, (HRE9.out.up h).cell 1, (HRE9.out.up h).cell 2⟩, (HRJ9.out.up h).cell 0, (HRJ9.out.up h).cell 1⟩
  have HPJ : Hid (∀ W, Below w9.heap.size w9 W → Calls Tryz.prog 19 #[.agg #[.slice JA J.vs.length JC, .slice MA J.P.length MC], .int .u32 (K : Nat)] W (ProjRP J (bitsL K) W)) := fun W h => r36Project_any _ J K (bitsL K) W (HVJ9.out.up h) HGJ.out HBIT.out
  have HIS : Hid (∀ W v, Below w9.heap.size w9 W → RefV W v (E.vs.map Int.ofNat) E.P → Calls Tryz.prog 13 #[.agg #[.slice EA E.vs.length EC, .int .i64 (E.vs.length : Nat), .slice FA E.P.length FC], v] W fun e w' => e = .returned (.bool true) ∧ Below W.heap.size W w') := fun W v h hv => l36is_any _ v E W (HVE9.out.up h) hv HGE.out
  clear hdz HEA HEB g2 HRE9 HRJ9 HVJ9 HVE9 HFIN
  go_upto_region 14 with (fail)
  refine wp_region_held_drew (S := (fun w' => (w'.cell? ⟨ge, 0, none⟩ = some (.slice EA E.vs.length EC) ∧ w'.cell? ⟨ge, 1, none⟩ = some (.int .i64 (E.vs.length : Nat)) ∧ w'.cell? ⟨ge, 2, none⟩ = some (.slice FA E.P.length FC)) ∧ w'.cell? ⟨gj, 0, none⟩ = some (.slice JA J.vs.length JC) ∧ w'.cell? ⟨gj, 1, none⟩ = some (.slice MA J.P.length MC))) (by kernel_rfl) (HKP.out w9.drew (Below.refl _ _).drew) (fun hHeld => ?_)
  refine wpAnyH_ready (rs := [0]) (by kernel_rfl) (by simp) ?_
  refine AllReadyH.cons rfl (fun K hK => ?_) AllReadyH.nil
  go_simp
  refine (l36awake_any w9.drew).mono ?_
  rintro e V1 ⟨rfl, hb⟩
  have HV1 : Hid (Below w9.heap.size w9 V1) := Below.undrew hb
  clear hb
  go_wp2_with fail
  refine hK.out _ _ (HKP.out V1 HV1.out) (fun hHeld => ?_)
  clear hK K
  try simp only [Act.put, List.setIfInBounds_toArray, List.set_cons_succ, List.set_cons_zero]
  refine takeOp (i := 1) (v := ?_) (some 85) rfl rfl (by kernel_rfl) (by kernel_rfl) (by kernel_rfl) (fun _ _ _ h => h) (Or.inl ⟨by rfl, ?_⟩) (by assumption) ?_
  rotate_left 1
  · (intro w0 hSw; (try dsimp only at hSw); go_simp; try (with_reducible rfl))
  try simp only [Act.put, List.setIfInBounds_toArray, List.set_cons_succ, List.set_cons_zero]
  refine takeOp (i := 2) (v := ?_) (some 86) rfl rfl (by kernel_rfl) (by kernel_rfl) (by kernel_rfl) (fun _ _ _ h => h) (Or.inl ⟨by rfl, ?_⟩) (by assumption) ?_
  rotate_left 1
  · (intro w0 hSw; (try dsimp only at hSw); go_simp; try (with_reducible rfl))
  try simp only [Act.put, List.setIfInBounds_toArray, List.set_cons_succ, List.set_cons_zero]
  refine takeOp (i := 3) (v := ?_) (some 87) rfl rfl (by kernel_rfl) (by kernel_rfl) (by kernel_rfl) (fun _ _ _ h => h) (Or.inl ⟨by rfl, ?_⟩) (by assumption) ?_
  rotate_left 1
  · (intro w0 hSw; (try dsimp only at hSw); go_simp; try (with_reducible rfl))
  try simp only [Act.put, List.setIfInBounds_toArray, List.set_cons_succ, List.set_cons_zero]
  refine takeOp (i := 4) (v := ?_) (some 88) rfl rfl (by kernel_rfl) (by kernel_rfl) (by kernel_rfl) (fun _ _ _ h => h) (Or.inl ⟨by rfl, ?_⟩) (by assumption) ?_
  rotate_left 1
  · (intro w0 hSw; (try dsimp only at hSw); go_simp; try (with_reducible rfl))
  try simp only [Act.put, List.setIfInBounds_toArray, List.set_cons_succ, List.set_cons_zero]
  refine takeOp (i := 5) (v := ?_) (some 89) rfl rfl (by kernel_rfl) (by kernel_rfl) (by kernel_rfl) (fun _ _ _ h => h) (Or.inl ⟨by rfl, ?_⟩) (by assumption) ?_
  rotate_left 1
  · (intro w0 hSw; (try dsimp only at hSw); go_simp; try (with_reducible rfl))
  try simp only [Act.put, List.setIfInBounds_toArray, List.set_cons_succ, List.set_cons_zero]
  refine takeOp (i := 6) (v := ?_) (some 90) rfl rfl (by kernel_rfl) (by kernel_rfl) (by kernel_rfl) (fun _ _ _ h => h) (Or.inl ⟨by rfl, ?_⟩) (by assumption) ?_
  rotate_left 1
  · (intro w0 hSw; (try dsimp only at hSw); go_simp; try (with_reducible rfl))
  try simp only [Act.put, List.setIfInBounds_toArray, List.set_cons_succ, List.set_cons_zero]
  refine takeOp (i := 7) (v := ?_) (some 91) rfl rfl (by kernel_rfl) (by kernel_rfl) (by kernel_rfl) (fun _ _ _ h => h) (Or.inl ⟨by rfl, ?_⟩) (by assumption) ?_
  rotate_left 1
  · (intro w0 hSw; (try dsimp only at hSw); go_simp; try (with_reducible rfl))
  try simp only [Act.put, List.setIfInBounds_toArray, List.set_cons_succ, List.set_cons_zero]
  refine takeOp (i := 8) (v := ?_) (some 92) rfl rfl (by kernel_rfl) (by kernel_rfl) (by kernel_rfl) (fun _ _ _ h => h) (Or.inl ⟨by rfl, ?_⟩) (by assumption) ?_
  rotate_left 1
  · (intro w0 hSw; (try dsimp only at hSw); go_simp; try (with_reducible rfl))
  try simp only [Act.put, List.setIfInBounds_toArray, List.set_cons_succ, List.set_cons_zero]
  refine wpAnyH_ready (rs := [9]) (by kernel_rfl) (by simp) ?_
  refine AllReadyH.cons rfl (fun K hK => ?_) AllReadyH.nil
  go_simp
  refine (HPJ.out V1 HV1.out).mono ?_
  rintro e V2 ⟨v1, rfl, hv, hb⟩
  have HV2 : Hid (Below w9.heap.size w9 V2) := Below.then HV1.out hb HV1.out.size
  have HIS2 := Lib.hid (HIS.out V2 v1 HV2.out (by rw [HG2.out]; exact hv.v))
  clear hb hv
  go_wp2_with fail
  refine hK.out _ _ (HKP.out V2 HV2.out) (fun hHeld => ?_)
  clear hK K
  try simp only [Act.put, List.setIfInBounds_toArray, List.set_cons_succ, List.set_cons_zero]
  refine wpAnyH_ready (rs := [10]) (by kernel_rfl) (by simp) ?_
  refine AllReadyH.cons rfl (fun K hK => ?_) AllReadyH.nil
  go_simp
  refine HIS2.out.mono ?_
  rintro e V3 ⟨rfl, hb⟩
  have HV3 : Hid (Below w9.heap.size w9 V3) := Below.then HV2.out hb HV2.out.size
  clear hb HIS2
  go_wp2_with fail
  refine hK.out _ _ (HKP.out V3 HV3.out) (fun hHeld => ?_)
  clear hK K
  try simp only [Act.put, List.setIfInBounds_toArray, List.set_cons_succ, List.set_cons_zero]
  refine takeOp (i := 11) (v := ?_) (some 95) rfl rfl (by kernel_rfl) (by kernel_rfl) (by kernel_rfl) (fun _ _ _ h => h) (Or.inl ⟨by rfl, ?_⟩) (by assumption) ?_
  rotate_left 1
  · (intro w0 hSw; (try dsimp only at hSw); go_simp; try (with_reducible rfl))
  try simp only [Act.put, List.setIfInBounds_toArray, List.set_cons_succ, List.set_cons_zero]
  refine takeOp (i := 12) (v := ?_) (some 6) rfl rfl (by kernel_rfl) (by kernel_rfl) (by kernel_rfl) (fun _ _ _ h => h) (Or.inl ⟨by rfl, ?_⟩) (by assumption) ?_
  rotate_left 1
  · (intro w0 hSw; (try dsimp only at hSw); go_simp; try (with_reducible rfl))
  try simp only [Act.put, List.setIfInBounds_toArray, List.set_cons_succ, List.set_cons_zero]
  refine wpAnyH_done (by kernel_rfl) ?_ _
  have HB11 := Lib.hid (HEND.out V3 (Below.then HB9.out HV3.out HB9.out.size))
  clear hHeld
  go_wp2_with fail
  go_ret
  exact ⟨rfl, HB11.out⟩

end Go.Proofs.YthgaflmldbgbnaaGreatDoor

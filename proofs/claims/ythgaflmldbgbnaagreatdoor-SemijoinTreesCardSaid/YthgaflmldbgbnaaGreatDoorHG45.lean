/- Walk of chapter 36: SemijoinTrees (printed by tools/g44.py). -/
import Derived.Test.YthgaflmldbgbnaaGreatDoorQ14
namespace Go.Proofs.YthgaflmldbgbnaaGreatDoor
open Go.RowKit Go.Sort

theorem AtsL.upB {w w' : World} {A : Option Addr} {l : List LA} (h : AtsL w.heap.size w A l) (hb : Below w.heap.size w w') : AtsL w'.heap.size w' A l := fun hn => by
  obtain ⟨b, o, e, hlt, hc⟩ := h hn
  refine ⟨b, o, e, Nat.lt_of_lt_of_le hlt hb.size, fun i hi => ?_⟩
  obtain ⟨RA, RC, h1, h2, h3, h4⟩ := hc i hi
  exact ⟨RA, RC, (hb.cell (p := ⟨b, o + i * 3, none⟩) hlt).trans h1, (hb.cell (p := ⟨b, o + i * 3 + 1, none⟩) hlt).trans h2, (hb.cell (p := ⟨b, o + i * 3 + 2, none⟩) hlt).trans h3, SlA.upB h4 hb⟩

set_option maxHeartbeats 64000000 in
set_option maxRecDepth 100000 in
theorem l36Trees_any (A : Option Addr) (C : Nat) (l : List LA) (r0 r1 K : Nat) (w : World) (hA : AtsL w.heap.size w A l) (hB : LBytes l) (hl : l.length ≤ 3518437208780) (hr0 : r0 < 256) (hr1 : r1 < 256) (hK : K < 4294967296) :
    Calls Tryz.prog 5 #[.slice A l.length C, .agg #[.int .u8 (r0 : Nat), .int .u8 (r1 : Nat)], .int .u32 (K : Nat)] w fun e w' => e = .returned (.bool true) ∧ Below w.heap.size w w' := by
  obtain ⟨W0, hW0⟩ : ∃ W0, W0 = w.alloc (.cells #[.int .u8 (r0 : Nat), .int .u8 (r1 : Nat)] 61) := ⟨_, rfl⟩
  have hx0 : Ext w W0 := by rw [hW0]; exact (Ext.refl w).alloc _
  have HR0 : Hid (Row W0 w.heap.size 61 [.int .u8 (r0 : Nat), .int .u8 (r1 : Nat)]) := by show Row _ _ _ _; rw [hW0]; exact Row.new w 61 _
  have HMK := Lib.hid (l35Made3 A C l W0 (hA.upB hx0.below) hB hl)
  have HX0 := Lib.hid hx0
  have HW0E := Lib.hid hW0
  clear hA hB hl hx0 hW0
  go_enter Tryz.func5, Tryz.ntmps5
  go_upto_region 1 with (fail)
  rw [← HW0E.out]
  clear HW0E
  go_wp2_with fail
  refine HMK.out.mono ?_
  rintro e w1 ⟨hb1, rfl | ⟨X, A1, A2, A3, C1, C2, C3, rfl, hX, ha, hr, hz⟩⟩
  · clear HMK
    have HB1 := Lib.hid (Below.then HX0.out.below hb1 HX0.out.size)
    clear hb1
    go_wp2_with fail
    refine (l36awake_any _).mono ?_
    rintro e wz ⟨rfl, hbz⟩
    have hbw := Below.then HB1.out hbz (HB1.out).size
    clear hbz
    go_wp2
    go_ret
    exact ⟨rfl, hbw⟩
  have HB1 := Lib.hid (Below.then HX0.out.below hb1 HX0.out.size)
  have HRB1 := Lib.hid (HR0.out.up hb1)
  by_cases h6 : X.length ≤ 6
  rotate_left
  · rw [decide_eq_false h6]
    clear HMK hX ha hr hz hb1
    go_wp2_with fail
    refine (l36awake_any _).mono ?_
    rintro e wz ⟨rfl, hbz⟩
    have hbw := Below.then HB1.out hbz (HB1.out).size
    clear hbz
    go_wp2
    go_ret
    exact ⟨rfl, hbw⟩
  rw [decide_eq_true h6]
  have HS : Hid (∀ a ∈ X, Small a) := by obtain ⟨rfl, h⟩ := hX; exact LA.smalls h
  have HWR := Lib.hid (r36Wrong_any A2 A3 C2 C3 X w1 hr hz (by omega) (fun a ha => Nat.le_trans (HS.out a ha).vl (by omega)))
  have HAM := Lib.hid ha
  have HAR := Lib.hid hr
  have HX := Lib.hid hX
  clear HMK hX ha hr hz hb1
  go_wp2_with fail
  refine HWR.out.mono ?_
  rintro e w2 ⟨rfl, hb2⟩
  have HB2 := Lib.hid (Below.then HB1.out hb2 HB1.out.size)
  have HAM2 := Lib.hid (HAM.out.upB hb2)
  have HAR2 := Lib.hid (HAR.out.upB hb2)
  have HRB := Lib.hid (HRB1.out.up hb2)
  clear hb2 HWR HAM HAR
  by_cases he : errC X = 0
  rotate_left
  · have hne : (errC X != 0) = true := by simpa using he
    clear he
    generalize errC X = code at *
    go_wp2_with fail
    refine (l36awake_any _).mono ?_
    rintro e wz ⟨rfl, hbz⟩
    have hbw := Below.then HB2.out hbz (HB2.out).size
    clear hbz
    go_wp2
    go_ret
    exact ⟨rfl, hbw⟩
  rw [he]
  obtain ⟨al, hal, hall, hgl⟩ : ∃ al : List At, X = al.map At.ra ∧ al.length = X.length ∧ GoodL al := by
    obtain ⟨rfl, hok⟩ := HX.out
    obtain ⟨al, h1, h2, h3⟩ := good_all hok (by rw [List.length_map] at h6; exact h6) he
    exact ⟨al, h1, by rw [h2, List.length_map], h3⟩
  subst hal
  rw [List.length_map] at h6 hall ⊢
  have HGL := Lib.hid hgl
  have HA := Lib.hid (fun W (h : Below w2.heap.size w2 W) => HAM2.out.upB h)
  have HR := Lib.hid (fun W (h : Below w2.heap.size w2 W) => HAR2.out.upB h)
  clear hgl hall he HX HS HAM2 HAR2
  have HTR : Hid (∀ W (root : Nat), Below w2.heap.size w2 W → root < 256 → Calls Tryz.prog 17 #[.slice A2 al.length C2, .int .u8 (root : Nat)] W (TreeP al W)) := fun W root hb hroot => l36tree_any A2 C2 al root hroot W (HR.out W hb) (by omega) HGL.out.gd
  have HFIN := Lib.hid (fun W (hb : Below w2.heap.size w2 W) => (l36awake_any W).mono fun e W' h => (⟨h.1, Below.then hb h.2 hb.size⟩ : e = .returned (.bool true) ∧ Below w2.heap.size w2 W'))
  have HEND : Hid (∀ W, Below w2.heap.size w2 W → Below w.heap.size w W) := fun W hb => Below.then HB2.out hb HB2.out.size
  have HZ : Hid (Below w2.heap.size w2 w2) := Below.refl _ _
  have k0 : w2.cell? ⟨w.heap.size, 0, none⟩ = some (.int .u8 (r0 : Nat)) := HRB.out.cell 0
  have k1 : w2.cell? ⟨w.heap.size, 1, none⟩ = some (.int .u8 (r1 : Nat)) := HRB.out.cell 1
  have k2 := HRB.out.lt
  go_wp2_with fail
  refine (HTR.out w2 r0 HZ.out hr0).mono ?_
  rintro e u1 ⟨TA1, tl1, TC1, tb1, rfl, hok, hb⟩
  obtain ⟨W3, hW⟩ : ∃ W, W = u1.alloc (.cells #[.slice TA1 tl1 TC1] 51) := ⟨_, rfl⟩
  obtain ⟨g1, hg⟩ : ∃ g, g = u1.heap.size := ⟨_, rfl⟩
  have hx : Ext u1 W3 := by rw [hW]; exact (Ext.refl u1).alloc _
  have HX1 : Hid (Below w2.heap.size w2 W3) := Below.then hb hx.below hb.size
  have HB3 : Hid (Below w2.heap.size w2 W3) := Below.then HZ.out HX1.out HZ.out.size
  have HT1 : Hid (Row W3 g1 51 [.slice TA1 tl1 TC1]) := by show Row _ _ _ _; rw [hW, hg]; exact Row.new u1 _ _
  have HOK1 : Hid (tb1 = true → ∃ qs : List Int, tl1 = qs.length ∧ qs.length = al.length ∧ SlI .i64 W3.heap.size W3 TA1 qs ∧ errT (al.map At.ra) qs = 0) := fun h => by
    obtain ⟨qs, e1, e2, e3, e4⟩ := hok h
    exact ⟨qs, e1, e2, (Sl.below e3 hx.below (Nat.le_refl _)).more hx.size, e4⟩
  have HWE := Lib.hid hW
  have HGE := Lib.hid hg
  clear hok hb hW hg hx
  go_upto_region 5 with (fail)
  rw [← HWE.out, ← HGE.out]
  clear HWE HGE
  have hrb := HRB.out.up HX1.out
  clear k0 k1 k2
  have k0 : W3.cell? ⟨w.heap.size, 0, none⟩ = some (.int .u8 (r0 : Nat)) := hrb.cell 0
  have k1 : W3.cell? ⟨w.heap.size, 1, none⟩ = some (.int .u8 (r1 : Nat)) := hrb.cell 1
  have k2 := hrb.lt
  clear hrb
  go_wp2_with fail
  refine (HTR.out W3 r1 HB3.out hr1).mono ?_
  rintro e u2 ⟨TA2, tl2, TC2, tb2, rfl, hok, hb⟩
  obtain ⟨W5, hW⟩ : ∃ W, W = u2.alloc (.cells #[.slice TA2 tl2 TC2] 51) := ⟨_, rfl⟩
  obtain ⟨g2, hg⟩ : ∃ g, g = u2.heap.size := ⟨_, rfl⟩
  have hx : Ext u2 W5 := by rw [hW]; exact (Ext.refl u2).alloc _
  have HX2 : Hid (Below W3.heap.size W3 W5) := Below.then hb hx.below hb.size
  have HB5 : Hid (Below w2.heap.size w2 W5) := Below.then HB3.out HX2.out HB3.out.size
  have HT2 : Hid (Row W5 g2 51 [.slice TA2 tl2 TC2]) := by show Row _ _ _ _; rw [hW, hg]; exact Row.new u2 _ _
  have HOK2 : Hid (tb2 = true → ∃ qs : List Int, tl2 = qs.length ∧ qs.length = al.length ∧ SlI .i64 W5.heap.size W5 TA2 qs ∧ errT (al.map At.ra) qs = 0) := fun h => by
    obtain ⟨qs, e1, e2, e3, e4⟩ := hok h
    exact ⟨qs, e1, e2, (Sl.below e3 hx.below (Nat.le_refl _)).more hx.size, e4⟩
  have HWE := Lib.hid hW
  have HGE := Lib.hid hg
  clear hok hb hW hg hx
  go_upto_region 6 with (fail)
  rw [← HWE.out, ← HGE.out]
  clear HWE HGE
  have HT15 := Lib.hid (HT1.out.up HX2.out)
  clear k0 k1 k2 HT1 HTR
  cases tb1
  · go_wp2_with fail
    refine (HFIN.out W5 HB5.out).mono ?_
    rintro e w4 ⟨rfl, hb4⟩
    have HB4 := Lib.hid (HEND.out w4 hb4)
    clear hb4
    go_wp2
    go_ret
    exact ⟨rfl, HB4.out⟩
  cases tb2
  · go_wp2_with fail
    refine (HFIN.out W5 HB5.out).mono ?_
    rintro e w4 ⟨rfl, hb4⟩
    have HB4 := Lib.hid (HEND.out w4 hb4)
    clear hb4
    go_wp2
    go_ret
    exact ⟨rfl, HB4.out⟩
  obtain ⟨ps, rfl, hpl, hps, htp⟩ := HOK1.out rfl
  obtain ⟨qs, rfl, hql, hqs, htq⟩ := HOK2.out rfl
  have HTP := Lib.hid htp
  have HTQ := Lib.hid htq
  have HPS := Lib.hid (fun W (h : Below W5.heap.size W5 W) => ((Sl.below ((Sl.below hps HX2.out (Nat.le_refl _)).more HX2.out.size) h (Nat.le_refl _)).more h.size : SlI .i64 W.heap.size W TA1 ps))
  have HQS := Lib.hid (fun W (h : Below W5.heap.size W5 W) => ((Sl.below hqs h (Nat.le_refl _)).more h.size : SlI .i64 W.heap.size W TA2 qs))
  have HLN : Hid (ps.length ≤ 6 ∧ qs.length ≤ 6) := ⟨by omega, by omega⟩
  have HT25 := HT2
  clear hps hqs htp htq hpl hql HOK1 HOK2 HT2
  have HU5 : Hid (∀ W, Below W5.heap.size W5 W → Below w2.heap.size w2 W) := fun W h => Below.then HB5.out h HB5.out.size
  have HEV1 : Hid (∀ W, Below W5.heap.size W5 W → Calls Tryz.prog 22 #[.agg #[.slice TA1 ps.length TC1], .int .u32 (K : Nat), .slice A1 al.length C1] W _) := fun W h => evaluateL_any HGL.out TA1 A1 TC1 C1 ps K hK W (HA.out W (HU5.out W h)) (HPS.out W h) HTP.out
  have HEV2 : Hid (∀ W, Below W5.heap.size W5 W → Calls Tryz.prog 22 #[.agg #[.slice TA2 qs.length TC2], .int .u32 (K : Nat), .slice A1 al.length C1] W _) := fun W h => evaluateL_any HGL.out TA2 A1 TC2 C1 qs K hK W (HA.out W (HU5.out W h)) (HQS.out W h) HTQ.out
  obtain ⟨bl, hbl⟩ : ∃ bl, bl = redA al ps := ⟨_, rfl⟩
  have HRD1 : Hid (∀ W, Below W5.heap.size W5 W → Calls Tryz.prog 18 #[.agg #[.slice TA1 ps.length TC1], .slice A1 al.length C1] W (RedAP bl W)) := fun W h => by rw [hbl]; exact reduceL_any HGL.out.gd h6 TA1 A1 TC1 C1 ps W (HA.out W (HU5.out W h)) (HPS.out W h) HLN.out.1 HTP.out
  have HRD2 : Hid (∀ W, Below W5.heap.size W5 W → Calls Tryz.prog 18 #[.agg #[.slice TA2 qs.length TC2], .slice A1 al.length C1] W (RedAP bl W)) := fun W h => by rw [hbl, redA_trees HGL.out HTP.out HTQ.out]; exact reduceL_any HGL.out.gd h6 TA2 A1 TC2 C1 qs W (HA.out W (HU5.out W h)) (HQS.out W h) HLN.out.2 HTQ.out
  have HGB : Hid (∀ a ∈ bl, Gd a) := by rw [hbl]; exact redA_good HGL.out HTP.out
  have hbll : bl.length ≤ 6 := by rw [hbl, redA_len]; exact h6
  have HGE := Lib.hid (evA_gd HGL.out K)
  clear hbl
  generalize evA al K = E at *
  generalize evC al K = ec at *
  have c0 : W5.cell? ⟨g1, 0, none⟩ = some (.slice TA1 ps.length TC1) := HT15.out.cell 0
  have c1 := HT15.out.lt
  go_wp2_with fail
  refine (HEV1.out W5 (Below.refl _ _)).mono ?_
  rintro e w6 ⟨EA, EC, FA, FC, rfl, hae, hb⟩
  obtain ⟨W7, hW⟩ : ∃ W, W = w6.alloc (.cells #[.slice EA E.vs.length EC, .int .i64 (E.vs.length : Nat), .slice FA E.P.length FC] 36) := ⟨_, rfl⟩
  obtain ⟨ge, hg⟩ : ∃ g, g = w6.heap.size := ⟨_, rfl⟩
  have hx : Ext w6 W7 := by rw [hW]; exact (Ext.refl w6).alloc _
  have HB7 : Hid (Below W5.heap.size W5 W7) := Below.then hb hx.below hb.size
  have HRE : Hid (Row W7 ge 36 [.slice EA E.vs.length EC, .int .i64 (E.vs.length : Nat), .slice FA E.P.length FC]) := by show Row _ _ _ _; rw [hW, hg]; exact Row.new w6 _ _
  have HVE := Lib.hid (hae.up hx.below)
  have HT27 := Lib.hid (HT25.out.up HB7.out)
  have HT17 := Lib.hid (HT15.out.up HB7.out)
  have HWE := Lib.hid hW
  have HGE2 := Lib.hid hg
  clear hae hb hW hg hx c0 c1 HEV1
  go_upto_region 9 with (fail)
  rw [← HWE.out, ← HGE2.out]
  clear HWE HGE2
  have c0 : W7.cell? ⟨g2, 0, none⟩ = some (.slice TA2 qs.length TC2) := HT27.out.cell 0
  have c1 := HT27.out.lt
  go_wp2_with fail
  refine (HEV2.out W7 HB7.out).mono ?_
  rintro e w8 ⟨EA2, EC2, FA2, FC2, rfl, hae, hb⟩
  obtain ⟨W9, hW⟩ : ∃ W, W = w8.alloc (.cells #[.slice EA2 E.vs.length EC2, .int .i64 (E.vs.length : Nat), .slice FA2 E.P.length FC2] 36) := ⟨_, rfl⟩
  obtain ⟨gf, hg⟩ : ∃ g, g = w8.heap.size := ⟨_, rfl⟩
  have hx : Ext w8 W9 := by rw [hW]; exact (Ext.refl w8).alloc _
  have HX9 : Hid (Below W7.heap.size W7 W9) := Below.then hb hx.below hb.size
  have HB9 : Hid (Below W5.heap.size W5 W9) := Below.then HB7.out HX9.out HB7.out.size
  have HRF : Hid (Row W9 gf 36 [.slice EA2 E.vs.length EC2, .int .i64 (E.vs.length : Nat), .slice FA2 E.P.length FC2]) := by show Row _ _ _ _; rw [hW, hg]; exact Row.new w8 _ _
  have HVF := Lib.hid (hae.up hx.below)
  have HT29 := Lib.hid (HT27.out.up HX9.out)
  have HT19 := Lib.hid (HT17.out.up HX9.out)
  have HRE9 := Lib.hid (HRE.out.up HX9.out)
  have HVE9 := Lib.hid (HVE.out.up HX9.out)
  have HWE := Lib.hid hW
  have HGE2 := Lib.hid hg
  clear hae hb hW hg hx c0 c1 HEV2 HRE HVE
  go_upto_region 10 with (fail)
  rw [← HWE.out, ← HGE2.out]
  clear HWE HGE2
  have c0 : W9.cell? ⟨g1, 0, none⟩ = some (.slice TA1 ps.length TC1) := HT19.out.cell 0
  have c1 := HT19.out.lt
  go_wp2_with fail
  refine (HRD1.out W9 HB9.out).mono ?_
  rintro e w10 ⟨R1, RC1, rfl, hbk, hb⟩
  have HB10 : Hid (Below W5.heap.size W5 w10) := Below.then HB9.out hb HB9.out.size
  have HBK1 := Lib.hid hbk
  have HT210 := Lib.hid (HT29.out.up hb)
  have HRE10 := Lib.hid (HRE9.out.up hb)
  have HVE10 := Lib.hid (HVE9.out.up hb)
  have HRF10 := Lib.hid (HRF.out.up hb)
  have HVF10 := Lib.hid (HVF.out.up hb)
  clear hbk hb c0 c1 HRD1
  have c0 : w10.cell? ⟨g2, 0, none⟩ = some (.slice TA2 qs.length TC2) := HT210.out.cell 0
  have c1 := HT210.out.lt
  go_wp2_with fail
  refine (HRD2.out w10 HB10.out).mono ?_
  rintro e w11 ⟨R2, RC2, rfl, hbk, hb⟩
  have HB11 : Hid (Below W5.heap.size W5 w11) := Below.then HB10.out hb HB10.out.size
  have HBK2 := Lib.hid hbk
  have HBK11 := Lib.hid (HBK1.out.keep hb)
  have HRE11 := Lib.hid (HRE10.out.up hb)
  have HVE11 := Lib.hid (HVE10.out.up hb)
  have HRF11 := Lib.hid (HRF10.out.up hb)
  have HVF11 := Lib.hid (HVF10.out.up hb)
  clear hbk hb c0 c1 HRD2
  have HS12 : Hid (∀ W, Below w11.heap.size w11 W → (W.cell? ⟨ge, 0, none⟩ = some (.slice EA E.vs.length EC) ∧ W.cell? ⟨ge, 1, none⟩ = some (.int .i64 (E.vs.length : Nat)) ∧ W.cell? ⟨ge, 2, none⟩ = some (.slice FA E.P.length FC)) ∧ W.cell? ⟨gf, 0, none⟩ = some (.slice EA2 E.vs.length EC2) ∧ W.cell? ⟨gf, 1, none⟩ = some (.int .i64 (E.vs.length : Nat)) ∧ W.cell? ⟨gf, 2, none⟩ = some (.slice FA2 E.P.length FC2)) := fun W h => ⟨⟨(HRE11.out.up h).cell 0, (HRE11.out.up h).cell 1, (HRE11.out.up h).cell 2⟩, (HRF11.out.up h).cell 0, (HRF11.out.up h).cell 1, (HRF11.out.up h).cell 2⟩
  have hee : (ec != ec) = false := by simp
  go_upto_region 12 with (fail)
  refine wp_region_held_drew (S := (fun w' => (w'.cell? ⟨ge, 0, none⟩ = some (.slice EA E.vs.length EC) ∧ w'.cell? ⟨ge, 1, none⟩ = some (.int .i64 (E.vs.length : Nat)) ∧ w'.cell? ⟨ge, 2, none⟩ = some (.slice FA E.P.length FC)) ∧ w'.cell? ⟨gf, 0, none⟩ = some (.slice EA2 E.vs.length EC2) ∧ w'.cell? ⟨gf, 1, none⟩ = some (.int .i64 (E.vs.length : Nat)) ∧ w'.cell? ⟨gf, 2, none⟩ = some (.slice FA2 E.P.length FC2))) (by kernel_rfl) (HS12.out w11.drew (Below.refl _ _).drew) (fun hHeld => ?_)
  refine takeOp (i := 0) (v := ?_) (some 87) rfl rfl (by kernel_rfl) (by kernel_rfl) (by kernel_rfl) (fun _ _ _ h => h) (Or.inl ⟨by rfl, ?_⟩) (by assumption) ?_
  rotate_left 1
  · (intro w0 hSw; (try dsimp only at hSw); go_simp; try (with_reducible rfl))
  try simp only [Act.put, List.setIfInBounds_toArray, List.set_cons_succ, List.set_cons_zero]
  refine takeOp (i := 1) (v := ?_) (some 88) rfl rfl (by kernel_rfl) (by kernel_rfl) (by kernel_rfl) (fun _ _ _ h => h) (Or.inl ⟨by rfl, ?_⟩) (by assumption) ?_
  rotate_left 1
  · (intro w0 hSw; (try dsimp only at hSw); go_simp; try (with_reducible rfl))
  try simp only [Act.put, List.setIfInBounds_toArray, List.set_cons_succ, List.set_cons_zero]
  refine takeOp (i := 2) (v := ?_) (some 89) rfl rfl (by kernel_rfl) (by kernel_rfl) (by kernel_rfl) (fun _ _ _ h => h) (Or.inl ⟨by rfl, ?_⟩) (by assumption) ?_
  rotate_left 1
  · (intro w0 hSw; (try dsimp only at hSw); go_simp; try (with_reducible rfl))
  try simp only [Act.put, List.setIfInBounds_toArray, List.set_cons_succ, List.set_cons_zero]
  refine takeOp (i := 3) (v := ?_) (some 90) rfl rfl (by kernel_rfl) (by kernel_rfl) (by kernel_rfl) (fun _ _ _ h => h) (Or.inl ⟨by rfl, ?_⟩) (by assumption) ?_
  rotate_left 1
  · (intro w0 hSw; (try dsimp only at hSw); go_simp; try (with_reducible rfl))
  try simp only [Act.put, List.setIfInBounds_toArray, List.set_cons_succ, List.set_cons_zero]
  refine takeOp (i := 4) (v := ?_) (some 91) rfl rfl (by kernel_rfl) (by kernel_rfl) (by kernel_rfl) (fun _ _ _ h => h) (Or.inl ⟨by rfl, ?_⟩) (by assumption) ?_
  rotate_left 1
  · (intro w0 hSw; (try dsimp only at hSw); go_simp; try (with_reducible rfl))
  try simp only [Act.put, List.setIfInBounds_toArray, List.set_cons_succ, List.set_cons_zero]
  refine takeOp (i := 6) (v := ?_) (some 93) rfl rfl (by kernel_rfl) (by kernel_rfl) (by kernel_rfl) (fun _ _ _ h => h) (Or.inl ⟨by rfl, ?_⟩) (by assumption) ?_
  rotate_left 1
  · (intro w0 hSw; (try dsimp only at hSw); go_simp; try (with_reducible rfl))
  try simp only [Act.put, List.setIfInBounds_toArray, List.set_cons_succ, List.set_cons_zero]
  refine wpAnyH_ready (rs := [5]) (by kernel_rfl) (by simp) ?_
  refine AllReadyH.cons rfl (fun K hK => ?_) AllReadyH.nil
  go_simp
  refine (l36Of_any _ E w11.drew (HVE11.out.up (Below.refl _ _).drew) HGE.out).mono ?_
  rintro e V1 ⟨v1, rfl, hv, hb⟩
  have HV1 : Hid (Below w11.heap.size w11 V1) := Below.undrew hb
  have HRV1 := Lib.hid hv
  clear hb hv
  go_wp2_with fail
  refine hK.out _ _ (HS12.out V1 HV1.out) (fun hHeld => ?_)
  clear hK K
  try simp only [Act.put, List.setIfInBounds_toArray, List.set_cons_succ, List.set_cons_zero]
  refine wpAnyH_ready (rs := [7]) (by kernel_rfl) (by simp) ?_
  refine AllReadyH.cons rfl (fun K hK => ?_) AllReadyH.nil
  go_simp
  refine (l36Of_any _ E V1 (HVF11.out.up HV1.out) HGE.out).mono ?_
  rintro e V2 ⟨v2, rfl, hv, hb⟩
  have HV2 : Hid (Below w11.heap.size w11 V2) := Below.then HV1.out hb HV1.out.size
  have HSM1 := Lib.hid (same36 HGE.out (HRV1.out.up hb) hv)
  clear hb hv HRV1
  go_wp2_with fail
  refine hK.out _ _ (HS12.out V2 HV2.out) (fun hHeld => ?_)
  clear hK K
  try simp only [Act.put, List.setIfInBounds_toArray, List.set_cons_succ, List.set_cons_zero]
  refine wpAnyH_ready (rs := [8]) (by kernel_rfl) (by simp) ?_
  refine AllReadyH.cons rfl (fun K hK => ?_) AllReadyH.nil
  go_simp
  refine HSM1.out.mono ?_
  rintro e V3 ⟨rfl, hb⟩
  have HV3 : Hid (Below w11.heap.size w11 V3) := Below.then HV2.out hb HV2.out.size
  clear hb HSM1
  go_wp2_with fail
  refine hK.out _ _ (HS12.out V3 HV3.out) (fun hHeld => ?_)
  clear hK K
  try simp only [Act.put, List.setIfInBounds_toArray, List.set_cons_succ, List.set_cons_zero]
  refine takeOp (i := 9) (v := ?_) (some 96) rfl rfl (by kernel_rfl) (by kernel_rfl) (by kernel_rfl) (fun _ _ _ h => h) (Or.inl ⟨by rfl, ?_⟩) (by assumption) ?_
  rotate_left 1
  · (intro w0 hSw; (try dsimp only at hSw); go_simp; try (with_reducible rfl))
  try simp only [Act.put, List.setIfInBounds_toArray, List.set_cons_succ, List.set_cons_zero]
  refine takeOp (i := 10) (v := ?_) (some 97) rfl rfl (by kernel_rfl) (by kernel_rfl) (by kernel_rfl) (fun _ _ _ h => h) (Or.inl ⟨by rfl, ?_⟩) (by assumption) ?_
  rotate_left 1
  · (intro w0 hSw; (try dsimp only at hSw); go_simp; try (with_reducible rfl))
  try simp only [Act.put, List.setIfInBounds_toArray, List.set_cons_succ, List.set_cons_zero]
  refine takeOp (i := 11) (v := ?_) (some 98) rfl rfl (by kernel_rfl) (by kernel_rfl) (by kernel_rfl) (fun _ _ _ h => h) (Or.inl ⟨by rfl, ?_⟩) (by assumption) ?_
  rotate_left 1
  · (intro w0 hSw; (try dsimp only at hSw); go_simp; try (with_reducible rfl))
  try simp only [Act.put, List.setIfInBounds_toArray, List.set_cons_succ, List.set_cons_zero]
  refine takeOp (i := 12) (v := ?_) (some 99) rfl rfl (by kernel_rfl) (by kernel_rfl) (by kernel_rfl) (fun _ _ _ h => h) (Or.inl ⟨by rfl, ?_⟩) (by assumption) ?_
  rotate_left 1
  · (intro w0 hSw; (try dsimp only at hSw); go_simp; try (with_reducible rfl))
  try simp only [Act.put, List.setIfInBounds_toArray, List.set_cons_succ, List.set_cons_zero]
  refine takeOp (i := 13) (v := ?_) (some 100) rfl rfl (by kernel_rfl) (by kernel_rfl) (by kernel_rfl) (fun _ _ _ h => h) (Or.inl ⟨by rfl, ?_⟩) (by assumption) ?_
  rotate_left 1
  · (intro w0 hSw; (try dsimp only at hSw); go_simp; try (with_reducible rfl))
  try simp only [Act.put, List.setIfInBounds_toArray, List.set_cons_succ, List.set_cons_zero]
  refine takeOp (i := 14) (v := ?_) (some 101) rfl rfl (by kernel_rfl) (by kernel_rfl) (by kernel_rfl) (fun _ _ _ h => h) (Or.inl ⟨by rfl, ?_⟩) (by assumption) ?_
  rotate_left 1
  · (intro w0 hSw; (try dsimp only at hSw); go_simp; try (with_reducible rfl))
  try simp only [Act.put, List.setIfInBounds_toArray, List.set_cons_succ, List.set_cons_zero]
  refine takeOp (i := 15) (v := ?_) (some 102) rfl rfl (by kernel_rfl) (by kernel_rfl) (by kernel_rfl) (fun _ _ _ h => h) (Or.inl ⟨by rfl, ?_⟩) (by assumption) ?_
  rotate_left 1
  · (intro w0 hSw; (try dsimp only at hSw); go_simp; try (with_reducible rfl))
  try simp only [Act.put, List.setIfInBounds_toArray, List.set_cons_succ, List.set_cons_zero]
  refine takeOp (i := 16) (v := ?_) (some 103) rfl rfl (by kernel_rfl) (by kernel_rfl) (by kernel_rfl) (fun _ _ _ h => h) (Or.inl ⟨by rfl, ?_⟩) (by assumption) ?_
  rotate_left 1
  · (intro w0 hSw; (try dsimp only at hSw); go_simp; try (with_reducible rfl))
  try simp only [Act.put, List.setIfInBounds_toArray, List.set_cons_succ, List.set_cons_zero]
  refine takeOp (i := 17) (v := ?_) (some 104) rfl rfl (by kernel_rfl) (by kernel_rfl) (by kernel_rfl) (fun _ _ _ h => h) (Or.inl ⟨by rfl, ?_⟩) (by assumption) ?_
  rotate_left 1
  · (intro w0 hSw; (try dsimp only at hSw); go_simp; try (with_reducible rfl))
  try simp only [Act.put, List.setIfInBounds_toArray, List.set_cons_succ, List.set_cons_zero]
  refine takeOp (i := 18) (v := ?_) (some 105) rfl rfl (by kernel_rfl) (by kernel_rfl) (by kernel_rfl) (fun _ _ _ h => h) (Or.inl ⟨by rfl, ?_⟩) (by assumption) ?_
  rotate_left 1
  · (intro w0 hSw; (try dsimp only at hSw); go_simp; try (with_reducible rfl))
  try simp only [Act.put, List.setIfInBounds_toArray, List.set_cons_succ, List.set_cons_zero]
  refine takeOp (i := 19) (v := ?_) (some 106) rfl rfl (by kernel_rfl) (by kernel_rfl) (by kernel_rfl) (fun _ _ _ h => h) (Or.inl ⟨by rfl, ?_⟩) (by assumption) ?_
  rotate_left 1
  · (intro w0 hSw; (try dsimp only at hSw); go_simp; try (with_reducible rfl))
  try simp only [Act.put, List.setIfInBounds_toArray, List.set_cons_succ, List.set_cons_zero]
  refine takeOp (i := 20) (v := ?_) (some 107) rfl rfl (by kernel_rfl) (by kernel_rfl) (by kernel_rfl) (fun _ _ _ h => h) (Or.inl ⟨by rfl, ?_⟩) (by assumption) ?_
  rotate_left 1
  · (intro w0 hSw; (try dsimp only at hSw); go_simp; try (with_reducible rfl))
  try simp only [Act.put, List.setIfInBounds_toArray, List.set_cons_succ, List.set_cons_zero]
  refine takeOp (i := 21) (v := ?_) (some 108) rfl rfl (by kernel_rfl) (by kernel_rfl) (by kernel_rfl) (fun _ _ _ h => h) (Or.inl ⟨by rfl, ?_⟩) (by assumption) ?_
  rotate_left 1
  · (intro w0 hSw; (try dsimp only at hSw); go_simp; try (with_reducible rfl))
  try simp only [Act.put, List.setIfInBounds_toArray, List.set_cons_succ, List.set_cons_zero]
  refine takeOp (i := 22) (v := ?_) (some 109) rfl rfl (by kernel_rfl) (by kernel_rfl) (by kernel_rfl) (fun _ _ _ h => h) (Or.inl ⟨by rfl, ?_⟩) (by assumption) ?_
  rotate_left 1
  · (intro w0 hSw; (try dsimp only at hSw); go_simp; try (with_reducible rfl))
  try simp only [Act.put, List.setIfInBounds_toArray, List.set_cons_succ, List.set_cons_zero]
  refine takeOp (i := 23) (v := ?_) (some 110) rfl rfl (by kernel_rfl) (by kernel_rfl) (by kernel_rfl) (fun _ _ _ h => h) (Or.inl ⟨by rfl, ?_⟩) (by assumption) ?_
  rotate_left 1
  · (intro w0 hSw; (try dsimp only at hSw); go_simp; try (with_reducible rfl))
  try simp only [Act.put, List.setIfInBounds_toArray, List.set_cons_succ, List.set_cons_zero]
  refine takeOp (i := 24) (v := ?_) (some 111) rfl rfl (by kernel_rfl) (by kernel_rfl) (by kernel_rfl) (fun _ _ _ h => h) (Or.inl ⟨by rfl, ?_⟩) (by assumption) ?_
  rotate_left 1
  · (intro w0 hSw; (try dsimp only at hSw); go_simp; try (with_reducible rfl))
  try simp only [Act.put, List.setIfInBounds_toArray, List.set_cons_succ, List.set_cons_zero]
  refine takeOp (i := 25) (v := ?_) (some 112) rfl rfl (by kernel_rfl) (by kernel_rfl) (by kernel_rfl) (fun _ _ _ h => h) (Or.inl ⟨by rfl, ?_⟩) (by assumption) ?_
  rotate_left 1
  · (intro w0 hSw; (try dsimp only at hSw); go_simp; try (with_reducible rfl))
  try simp only [Act.put, List.setIfInBounds_toArray, List.set_cons_succ, List.set_cons_zero]
  refine wpAnyH_done (by kernel_rfl) ?_ _
  clear hHeld
  have HBK23 := Lib.hid (HBK2.out.keep HV3.out)
  have HBK13 := Lib.hid (HBK11.out.keep HV3.out)
  have HB13 : Hid (Below W5.heap.size W5 V3) := Below.then HB11.out HV3.out HB11.out.size
  clear HS12 HBK2 HBK11 HBK1 HRE11 HRF11 HVE11 HVF11 HRE10 HRF10 HVE10 HVF10 HT210 HT29 HT19 HT17 HT27 HT15 HT25 hee
  go_wp2_with fail
  go_loopw [115] (fun c wx => ∃ k : Nat, k ≤ bl.length ∧ c = .int .i64 k ∧ Below V3.heap.size V3 wx) (fun c _ => bl.length - (intOf c).toNat)
  case atStart => exact ⟨0, Nat.zero_le _, rfl, Below.refl _ _⟩
  case round =>
    obtain ⟨k, hk, rfl, hbw⟩ := hrel
    have HBR := Lib.hid hbw
    clear hbw
    by_cases hkl : k < bl.length
    rotate_left
    · obtain rfl : k = bl.length := by omega
      have q1 : ¬ (bl.length : Int) < (bl.length : Int) := by omega
      go_wp2_with fail
      refine (HFIN.out wr (Below.then HB5.out (Below.then HB13.out HBR.out HB13.out.size) HB5.out.size)).mono ?_
      rintro e w4 ⟨rfl, hb4⟩
      have HB4 := Lib.hid (HEND.out w4 hb4)
      clear hb4
      go_wp2
      go_ret
      exact ⟨rfl, HB4.out⟩
    have q0 : (0 : Int) ≤ (k : Int) := by omega
    have q1 : (k : Int) < (bl.length : Int) := by omega
    have q3 : IntKind.i64.wrap ((k : Int) + 1) = ((k + 1 : Nat) : Int) := by rw [IntWalk.i64_in _ (by omega)]; omega
    have hbk1 := HBK13.out.keep HBR.out
    have hbk2 := HBK23.out.keep HBR.out
    have hat : bl[k]? = some bl[k] := List.getElem?_eq_getElem hkl
    obtain ⟨SA, SC, TA, TC, s0, s1, s2, hap1⟩ := hbk1.at_ hat
    obtain ⟨SA2, SC2, TA', TC', t0, t1, t2, hap2⟩ := hbk2.at_ hat
    have HGK := Lib.hid (HGB.out _ (List.getElem_mem hkl))
    have HV1k := Lib.hid hap1.v
    have HV2k := Lib.hid hap2.v
    have hl1 := hbk1.lt
    have hl2 := hbk2.lt
    clear hat hap1 hap2 hbk1 hbk2
    generalize bl[k] = a at *
    have HKP : Hid (∀ W, Below wr.heap.size wr W → (W.cell? ⟨R1, k * 3, none⟩ = some (.slice SA a.vs.length SC) ∧ W.cell? ⟨R1, k * 3 + 1, none⟩ = some (.int .i64 (a.vs.length : Nat)) ∧ W.cell? ⟨R1, k * 3 + 2, none⟩ = some (.slice TA a.P.length TC)) ∧ W.cell? ⟨R2, k * 3, none⟩ = some (.slice SA2 a.vs.length SC2) ∧ W.cell? ⟨R2, k * 3 + 1, none⟩ = some (.int .i64 (a.vs.length : Nat)) ∧ W.cell? ⟨R2, k * 3 + 2, none⟩ = some (.slice TA' a.P.length TC')) := fun W h => ⟨⟨(h.cell (p := ⟨R1, k * 3, none⟩) hl1).trans s0, (h.cell (p := ⟨R1, k * 3 + 1, none⟩) hl1).trans s1, (h.cell (p := ⟨R1, k * 3 + 2, none⟩) hl1).trans s2⟩, (h.cell (p := ⟨R2, k * 3, none⟩) hl2).trans t0, (h.cell (p := ⟨R2, k * 3 + 1, none⟩) hl2).trans t1, (h.cell (p := ⟨R2, k * 3 + 2, none⟩) hl2).trans t2⟩
    clear s0 s1 s2 t0 t1 t2
    obtain ⟨wo, hwo⟩ : ∃ wo, wo = wr := ⟨_, rfl⟩
    subst hwo
    go_upto_region 17 with (fail)
    refine wp_region_held_drew (S := (fun w' => (w'.cell? ⟨R1, k * 3, none⟩ = some (.slice SA a.vs.length SC) ∧ w'.cell? ⟨R1, k * 3 + 1, none⟩ = some (.int .i64 (a.vs.length : Nat)) ∧ w'.cell? ⟨R1, k * 3 + 2, none⟩ = some (.slice TA a.P.length TC)) ∧ w'.cell? ⟨R2, k * 3, none⟩ = some (.slice SA2 a.vs.length SC2) ∧ w'.cell? ⟨R2, k * 3 + 1, none⟩ = some (.int .i64 (a.vs.length : Nat)) ∧ w'.cell? ⟨R2, k * 3 + 2, none⟩ = some (.slice TA' a.P.length TC'))) (by kernel_rfl) (HKP.out wo.drew (Below.refl _ _).drew) (fun hHeld => ?_)
    refine takeOp (i := 0) (v := ?_) (some 118) rfl rfl (by kernel_rfl) (by kernel_rfl) (by kernel_rfl) (fun _ _ _ h => h) (Or.inl ⟨by rfl, ?_⟩) (by assumption) ?_
    rotate_left 1
    · (intro w0 hSw; (try dsimp only at hSw); go_simp; try (with_reducible rfl))
    try simp only [Act.put, List.setIfInBounds_toArray, List.set_cons_succ, List.set_cons_zero]
    refine takeOp (i := 1) (v := ?_) (some 119) rfl rfl (by kernel_rfl) (by kernel_rfl) (by kernel_rfl) (fun _ _ _ h => h) (Or.inl ⟨by rfl, ?_⟩) (by assumption) ?_
    rotate_left 1
    · (intro w0 hSw; (try dsimp only at hSw); go_simp; try (with_reducible rfl))
    try simp only [Act.put, List.setIfInBounds_toArray, List.set_cons_succ, List.set_cons_zero]
    refine takeOp (i := 2) (v := ?_) (some 120) rfl rfl (by kernel_rfl) (by kernel_rfl) (by kernel_rfl) (fun _ _ _ h => h) (Or.inl ⟨by rfl, ?_⟩) (by assumption) ?_
    rotate_left 1
    · (intro w0 hSw; (try dsimp only at hSw); go_simp; try (with_reducible rfl))
    try simp only [Act.put, List.setIfInBounds_toArray, List.set_cons_succ, List.set_cons_zero]
    refine takeOp (i := 3) (v := ?_) (some 121) rfl rfl (by kernel_rfl) (by kernel_rfl) (by kernel_rfl) (fun _ _ _ h => h) (Or.inl ⟨by rfl, ?_⟩) (by assumption) ?_
    rotate_left 1
    · (intro w0 hSw; (try dsimp only at hSw); go_simp; try (with_reducible rfl))
    try simp only [Act.put, List.setIfInBounds_toArray, List.set_cons_succ, List.set_cons_zero]
    refine takeOp (i := 5) (v := ?_) (some 123) rfl rfl (by kernel_rfl) (by kernel_rfl) (by kernel_rfl) (fun _ _ _ h => h) (Or.inl ⟨by rfl, ?_⟩) (by assumption) ?_
    rotate_left 1
    · (intro w0 hSw; (try dsimp only at hSw); go_simp; try (with_reducible rfl))
    try simp only [Act.put, List.setIfInBounds_toArray, List.set_cons_succ, List.set_cons_zero]
    refine takeOp (i := 6) (v := ?_) (some 124) rfl rfl (by kernel_rfl) (by kernel_rfl) (by kernel_rfl) (fun _ _ _ h => h) (Or.inl ⟨by rfl, ?_⟩) (by assumption) ?_
    rotate_left 1
    · (intro w0 hSw; (try dsimp only at hSw); go_simp; try (with_reducible rfl))
    try simp only [Act.put, List.setIfInBounds_toArray, List.set_cons_succ, List.set_cons_zero]
    refine takeOp (i := 7) (v := ?_) (some 125) rfl rfl (by kernel_rfl) (by kernel_rfl) (by kernel_rfl) (fun _ _ _ h => h) (Or.inl ⟨by rfl, ?_⟩) (by assumption) ?_
    rotate_left 1
    · (intro w0 hSw; (try dsimp only at hSw); go_simp; try (with_reducible rfl))
    try simp only [Act.put, List.setIfInBounds_toArray, List.set_cons_succ, List.set_cons_zero]
    refine takeOp (i := 8) (v := ?_) (some 126) rfl rfl (by kernel_rfl) (by kernel_rfl) (by kernel_rfl) (fun _ _ _ h => h) (Or.inl ⟨by rfl, ?_⟩) (by assumption) ?_
    rotate_left 1
    · (intro w0 hSw; (try dsimp only at hSw); go_simp; try (with_reducible rfl))
    try simp only [Act.put, List.setIfInBounds_toArray, List.set_cons_succ, List.set_cons_zero]
    refine wpAnyH_ready (rs := [4]) (by kernel_rfl) (by simp) ?_
    refine AllReadyH.cons rfl (fun K hK => ?_) AllReadyH.nil
    go_simp
    refine (l36Of_any _ a wo.drew (HV1k.out.up (Below.refl _ _).drew) HGK.out).mono ?_
    rintro e V4 ⟨v1, rfl, hv, hb⟩
    have HV4 : Hid (Below wo.heap.size wo V4) := Below.undrew hb
    have HRV1 := Lib.hid hv
    clear hb hv
    go_wp2_with fail
    refine hK.out _ _ (HKP.out V4 HV4.out) (fun hHeld => ?_)
    clear hK K
    try simp only [Act.put, List.setIfInBounds_toArray, List.set_cons_succ, List.set_cons_zero]
    refine wpAnyH_ready (rs := [9]) (by kernel_rfl) (by simp) ?_
    refine AllReadyH.cons rfl (fun K hK => ?_) AllReadyH.nil
    go_simp
    refine (l36Of_any _ a V4 (HV2k.out.up HV4.out) HGK.out).mono ?_
    rintro e V5 ⟨v2, rfl, hv, hb⟩
    have HV5 : Hid (Below wo.heap.size wo V5) := Below.then HV4.out hb HV4.out.size
    have HSM1 := Lib.hid (same36 HGK.out (HRV1.out.up hb) hv)
    clear hb hv HRV1
    go_wp2_with fail
    refine hK.out _ _ (HKP.out V5 HV5.out) (fun hHeld => ?_)
    clear hK K
    try simp only [Act.put, List.setIfInBounds_toArray, List.set_cons_succ, List.set_cons_zero]
    refine wpAnyH_ready (rs := [10]) (by kernel_rfl) (by simp) ?_
    refine AllReadyH.cons rfl (fun K hK => ?_) AllReadyH.nil
    go_simp
    refine HSM1.out.mono ?_
    rintro e V6 ⟨rfl, hb⟩
    have HV6 : Hid (Below wo.heap.size wo V6) := Below.then HV5.out hb HV5.out.size
    clear hb HSM1
    go_wp2_with fail
    refine hK.out _ _ (HKP.out V6 HV6.out) (fun hHeld => ?_)
    clear hK K
    try simp only [Act.put, List.setIfInBounds_toArray, List.set_cons_succ, List.set_cons_zero]
    refine takeOp (i := 11) (v := ?_) (some 129) rfl rfl (by kernel_rfl) (by kernel_rfl) (by kernel_rfl) (fun _ _ _ h => h) (Or.inl ⟨by rfl, ?_⟩) (by assumption) ?_
    rotate_left 1
    · (intro w0 hSw; (try dsimp only at hSw); go_simp; try (with_reducible rfl))
    try simp only [Act.put, List.setIfInBounds_toArray, List.set_cons_succ, List.set_cons_zero]
    refine wpAnyH_done (by kernel_rfl) ?_ _
    clear hHeld
    have HB14 : Hid (Below V3.heap.size V3 V6) := Below.then HBR.out HV6.out HBR.out.size
    go_wp2_with fail
    go_roundw
    case rel => exact ⟨k + 1, hkl, by go_num, HB14.out⟩
    case measure => simp [intOf]; omega

end Go.Proofs.YthgaflmldbgbnaaGreatDoor

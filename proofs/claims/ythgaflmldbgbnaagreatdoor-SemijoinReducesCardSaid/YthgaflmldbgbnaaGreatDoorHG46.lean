/- Walk of chapter 36: SemijoinReduces (printed by tools/g44.py). -/
import Derived.Test.YthgaflmldbgbnaaGreatDoorQ14
namespace Go.Proofs.YthgaflmldbgbnaaGreatDoor
open Go.RowKit Go.Sort

theorem refs_at {B : Nat} {w : World} {A : Option Addr} {al : List At} (h : AtsR B w A (al.map At.ra)) {i : Nat} (hi : i < al.length) : ∃ bk o VA VC PA PC, A = some ⟨bk, o, none⟩ ∧ bk < B ∧ w.cell? ⟨bk, o + i * 2, none⟩ = some (.slice VA al[i].vs.length VC) ∧ w.cell? ⟨bk, o + i * 2 + 1, none⟩ = some (.slice PA al[i].P.length PC) ∧ SlI .i64 B w VA (al[i].vs.map Int.ofNat) := by
  obtain ⟨ab, ao, VA, VC, QA, QC, e, hab, a0, a1, -, -, -, -, av, -⟩ := atsR_at h (i := i) (by rw [List.length_map]; exact hi)
  simp only [List.getElem_map] at a0 a1 av
  have hvl : al[i].ra.vs.length = al[i].vs.length := List.length_map ..
  rw [hvl] at a0
  exact ⟨ab, ao, VA, VC, QA, QC, e, hab, a0, a1, av⟩
theorem and_bit (us vs : List Nat) (v : Nat) : (setN us &&& setN vs) / 2 ^ v % 2 = if v ∈ us.filter (fun x => decide (x ∈ vs)) then 1 else 0 := by
  refine bit_if ?_
  rw [Nat.testBit_and, setN_bit, setN_bit, Bool.eq_iff_iff]
  simp

set_option maxHeartbeats 64000000 in
set_option maxRecDepth 100000 in
theorem l36Reduces_any (A : Option Addr) (C : Nat) (l : List LA) (r0 : Nat) (w : World) (hA : AtsL w.heap.size w A l) (hB : LBytes l) (hl : l.length ≤ 3518437208780) (hr0 : r0 < 256) :
    Calls Tryz.prog 4 #[.slice A l.length C, .int .u8 (r0 : Nat)] w fun e w' => e = .returned (.bool true) ∧ Below w.heap.size w w' := by
  have HMK := Lib.hid (l35Made3 A C l w hA hB hl)
  clear hA hB hl
  go_enter Tryz.func4, Tryz.ntmps4
  go_wp2_with fail
  refine HMK.out.mono ?_
  rintro e w1 ⟨hb1, rfl | ⟨X, A1, A2, A3, C1, C2, C3, rfl, hX, ha, hr, hz⟩⟩
  · clear HMK
    have HB1 := Lib.hid (hb1)
    clear hb1
    go_wp2_with fail
    refine (l36awake_any _).mono ?_
    rintro e wz ⟨rfl, hbz⟩
    have hbw := Below.then HB1.out hbz (HB1.out).size
    clear hbz
    go_wp2
    go_ret
    exact ⟨rfl, hbw⟩
  have HB1 := Lib.hid (hb1)
  by_cases h6 : X.length ≤ 6
  rotate_left
  · rw [decide_eq_false h6]
    clear HMK hX ha hr hz hb1
    go_wp2_with fail
    refine (l36awake_any _).mono ?_
    rintro e wz ⟨rfl, hbz⟩
    have hbw := Below.then HB1.out hbz (HB1.out).size
    clear hbz
    go_wp2
    go_ret
    exact ⟨rfl, hbw⟩
  rw [decide_eq_true h6]
  have HS : Hid (∀ a ∈ X, Small a) := by obtain ⟨rfl, h⟩ := hX; exact LA.smalls h
  have HWR := Lib.hid (r36Wrong_any A2 A3 C2 C3 X w1 hr hz (by omega) (fun a ha => Nat.le_trans (HS.out a ha).vl (by omega)))
  have HAM := Lib.hid ha
  have HAR := Lib.hid hr
  have HX := Lib.hid hX
  clear HMK hX ha hr hz hb1
  go_wp2_with fail
  refine HWR.out.mono ?_
  rintro e w2 ⟨rfl, hb2⟩
  have HB2 := Lib.hid (Below.then HB1.out hb2 HB1.out.size)
  have HAM2 := Lib.hid (HAM.out.upB hb2)
  have HAR2 := Lib.hid (HAR.out.upB hb2)
  clear hb2 HWR HAM HAR
  by_cases he : errC X = 0
  rotate_left
  · have hne : (errC X != 0) = true := by simpa using he
    clear he
    generalize errC X = code at *
    go_wp2_with fail
    refine (l36awake_any _).mono ?_
    rintro e wz ⟨rfl, hbz⟩
    have hbw := Below.then HB2.out hbz (HB2.out).size
    clear hbz
    go_wp2
    go_ret
    exact ⟨rfl, hbw⟩
  rw [he]
  obtain ⟨al, hal, hall, hgl⟩ : ∃ al : List At, X = al.map At.ra ∧ al.length = X.length ∧ GoodL al := by
    obtain ⟨rfl, hok⟩ := HX.out
    obtain ⟨al, h1, h2, h3⟩ := good_all hok (by rw [List.length_map] at h6; exact h6) he
    exact ⟨al, h1, by rw [h2, List.length_map], h3⟩
  subst hal
  rw [List.length_map] at h6 hall ⊢
  have HGL := Lib.hid hgl
  have HA := Lib.hid (fun W (h : Below w2.heap.size w2 W) => HAM2.out.upB h)
  have HR := Lib.hid (fun W (h : Below w2.heap.size w2 W) => HAR2.out.upB h)
  clear hgl hall he HX HS HAM2 HAR2
  have HTR : Hid (∀ W (root : Nat), Below w2.heap.size w2 W → root < 256 → Calls Tryz.prog 17 #[.slice A2 al.length C2, .int .u8 (root : Nat)] W (TreeP al W)) := fun W root hb hroot => l36tree_any A2 C2 al root hroot W (HR.out W hb) (by omega) HGL.out.gd
  have HFIN := Lib.hid (fun W (hb : Below w2.heap.size w2 W) => (l36awake_any W).mono fun e W' h => (⟨h.1, Below.then hb h.2 hb.size⟩ : e = .returned (.bool true) ∧ Below w2.heap.size w2 W'))
  have HEND : Hid (∀ W, Below w2.heap.size w2 W → Below w.heap.size w W) := fun W hb => Below.then HB2.out hb HB2.out.size
  have HZ : Hid (Below w2.heap.size w2 w2) := Below.refl _ _
  go_wp2_with fail
  refine (HTR.out w2 r0 HZ.out hr0).mono ?_
  rintro e u1 ⟨TA1, tl1, TC1, tb1, rfl, hok, hb⟩
  obtain ⟨W3, hW⟩ : ∃ W, W = u1.alloc (.cells #[.slice TA1 tl1 TC1] 51) := ⟨_, rfl⟩
  obtain ⟨g1, hg⟩ : ∃ g, g = u1.heap.size := ⟨_, rfl⟩
  have hx : Ext u1 W3 := by rw [hW]; exact (Ext.refl u1).alloc _
  have HX1 : Hid (Below w2.heap.size w2 W3) := Below.then hb hx.below hb.size
  have HB3 : Hid (Below w2.heap.size w2 W3) := Below.then HZ.out HX1.out HZ.out.size
  have HT1 : Hid (Row W3 g1 51 [.slice TA1 tl1 TC1]) := by show Row _ _ _ _; rw [hW, hg]; exact Row.new u1 _ _
  have HOK1 : Hid (tb1 = true → ∃ qs : List Int, tl1 = qs.length ∧ qs.length = al.length ∧ SlI .i64 W3.heap.size W3 TA1 qs ∧ errT (al.map At.ra) qs = 0) := fun h => by
    obtain ⟨qs, e1, e2, e3, e4⟩ := hok h
    exact ⟨qs, e1, e2, (Sl.below e3 hx.below (Nat.le_refl _)).more hx.size, e4⟩
  have HWE := Lib.hid hW
  have HGE := Lib.hid hg
  clear hok hb hW hg hx
  go_upto_region 5 with (fail)
  rw [← HWE.out, ← HGE.out]
  clear HWE HGE
  clear HTR
  cases tb1
  · go_wp2_with fail
    refine (HFIN.out W3 HB3.out).mono ?_
    rintro e w4 ⟨rfl, hb4⟩
    have HB4 := Lib.hid (HEND.out w4 hb4)
    clear hb4
    go_wp2
    go_ret
    exact ⟨rfl, HB4.out⟩
  obtain ⟨ps, rfl, hpl, hps, htp⟩ := HOK1.out rfl
  have HTP := Lib.hid htp
  have HPS := Lib.hid (fun W (h : Below W3.heap.size W3 W) => ((Sl.below hps h (Nat.le_refl _)).more h.size : SlI .i64 W.heap.size W TA1 ps))
  have HLN : Hid (ps.length ≤ 6) := by show _ ≤ _; omega
  have HU3 : Hid (∀ W, Below W3.heap.size W3 W → Below w2.heap.size w2 W) := fun W h => Below.then HB3.out h HB3.out.size
  obtain ⟨bl, hbl⟩ : ∃ bl, bl = redA al ps := ⟨_, rfl⟩
  have hbll0 : bl.length = al.length := by rw [hbl, redA_len]
  have HBLL := Lib.hid hbll0
  have HGB : Hid (∀ a ∈ bl, Gd a) := by rw [hbl]; exact redA_good HGL.out HTP.out
  have HBAT : Hid (∀ i (hi : i < al.length), bl[i]? = some (projA (joinR al) fun v => decide (v ∈ al[i].vs))) := fun i hi => by rw [hbl]; exact redA_at HGL.out HTP.out hi
  have HPAIR : Hid (∀ i k (hi : i < al.length) (hk : k < al.length) (bi bk : At), bl[i]? = some bi → bl[k]? = some bk → projA bi (fun v => decide (v ∈ al[i].vs.filter fun x => decide (x ∈ al[k].vs))) = projA bk (fun v => decide (v ∈ al[i].vs.filter fun x => decide (x ∈ al[k].vs)))) := fun i k hi hk bi bk h1 h2 => by
    have e1 : bl[i]? = some ⟨(al.getD i ⟨[], []⟩).vs, redF ps (fun i => al.getD i ⟨[], []⟩) i⟩ := by rw [hbl]; exact mkL_get hi
    have e2 : bl[k]? = some ⟨(al.getD k ⟨[], []⟩).vs, redF ps (fun i => al.getD i ⟨[], []⟩) k⟩ := by rw [hbl]; exact mkL_get hk
    rw [h1] at e1
    rw [h2] at e2
    injection e1 with e1
    injection e2 with e2
    rw [e1, e2]
    refine red_pair (X := fun i => al.getD i ⟨[], []⟩) rfl HGL.out.gd (HGL.out.tree HTP.out) hi hk fun v => ?_
    rw [decide_eq_true_eq, List.mem_filter, decide_eq_true_eq]
    simp [hi, hk]
  have HRD1 : Hid (∀ W, Below W3.heap.size W3 W → Calls Tryz.prog 18 #[.agg #[.slice TA1 ps.length TC1], .slice A1 al.length C1] W (RedAP bl W)) := fun W h => by rw [hbl]; exact reduceL_any HGL.out.gd h6 TA1 A1 TC1 C1 ps W (HA.out W (HU3.out W h)) (HPS.out W h) HLN.out HTP.out
  have HRD2 : Hid (∀ R RC W, Below W3.heap.size W3 W → BlkA (fun c => c ≠ R) R W bl → Calls Tryz.prog 18 #[.agg #[.slice TA1 ps.length TC1], .slice (some ⟨R, 0, none⟩) al.length RC] W (RedAP bl W)) := fun R RC W h hb => by
    have h1 := reduceL_any HGB.out (by omega) TA1 (some ⟨R, 0, none⟩) TC1 RC ps W hb.atsM (HPS.out W h) HLN.out (by rw [hbl]; exact redA_err HGL.out HTP.out)
    have h2 : redA bl ps = bl := by rw [hbl]; exact redA_twice HGL.out HTP.out
    rw [h2, hbll0] at h1
    exact h1
  have HJN : Hid (∀ W, Below w2.heap.size w2 W → Calls Tryz.prog 15 #[.slice A2 al.length C2] W (JoinRP al W)) := fun W h => r36Join_any A2 C2 al W (HR.out W h) (by omega) HGL.out.gd HGL.out.v8
  have HGJ := Lib.hid HGL.out.join
  unfold JoinRP at HJN
  clear hps htp hpl HOK1 hbl
  generalize joinR al = J at *
  have c0 : W3.cell? ⟨g1, 0, none⟩ = some (.slice TA1 ps.length TC1) := HT1.out.cell 0
  have c1 := HT1.out.lt
  clear hbll0
  go_wp2_with fail
  refine (HRD1.out W3 (Below.refl _ _)).mono ?_
  rintro e w4 ⟨R1, RC1, rfl, hbk, hb⟩
  rw [HBLL.out]
  have HB4 : Hid (Below W3.heap.size W3 w4) := hb
  have HBK1 := Lib.hid hbk
  have HT4 := Lib.hid (HT1.out.up hb)
  clear hbk hb c0 c1 HRD1
  have c0 : w4.cell? ⟨g1, 0, none⟩ = some (.slice TA1 ps.length TC1) := HT4.out.cell 0
  have c1 := HT4.out.lt
  go_wp2_with fail
  refine (HRD2.out R1 RC1 w4 HB4.out HBK1.out).mono ?_
  rintro e w5 ⟨R2, RC2, rfl, hbk, hb⟩
  rw [HBLL.out]
  have HB5 : Hid (Below W3.heap.size W3 w5) := Below.then HB4.out hb HB4.out.size
  have HBK2 := Lib.hid hbk
  have HBK15 := Lib.hid (HBK1.out.keep hb)
  clear hbk hb c0 c1 HRD2
  go_wp2_with fail
  refine (HJN.out w5 (HU3.out w5 HB5.out)).mono ?_
  rintro e w6 ⟨v, rfl, hv, hb6⟩
  have hv0 := hv
  obtain ⟨JA, JC, MA, MC, rfl, -, -, -, -, -, -⟩ := hv
  rw [List.length_map] at hv0 ⊢
  obtain ⟨W7, hW⟩ : ∃ W, W = w6.alloc (.cells #[.slice JA J.vs.length JC, .slice MA J.P.length MC] 45) := ⟨_, rfl⟩
  obtain ⟨gj, hg⟩ : ∃ g, g = w6.heap.size := ⟨_, rfl⟩
  have hx : Ext w6 W7 := by rw [hW]; exact (Ext.refl w6).alloc _
  have HX7 : Hid (Below w5.heap.size w5 W7) := Below.then hb6 hx.below hb6.size
  have HB7 : Hid (Below W3.heap.size W3 W7) := Below.then HB5.out HX7.out HB5.out.size
  have HRJ : Hid (Row W7 gj 45 [.slice JA J.vs.length JC, .slice MA J.P.length MC]) := by show Row _ _ _ _; rw [hW, hg]; exact Row.new w6 _ _
  have HVJ := Lib.hid (hv0.up hx.below)
  have HBK27 := Lib.hid (HBK2.out.keep HX7.out)
  have HBK17 := Lib.hid (HBK15.out.keep HX7.out)
  have HWE := Lib.hid hW
  have HGE := Lib.hid hg
  clear hv0 hb6 hW hg hx HJN HBK2 HBK15 HBK1
  go_upto_region 12 with (fail)
  rw [← HWE.out, ← HGE.out]
  clear HWE HGE
  have HR7 := Lib.hid (HR.out W7 (HU3.out W7 HB7.out))
  go_wp2_with fail
  go_loopw [80] (fun c wx => ∃ k : Nat, k ≤ al.length ∧ c = .int .i64 k ∧ Below W7.heap.size W7 wx) (fun c _ => al.length - (intOf c).toNat)
  case atStart => exact ⟨0, Nat.zero_le _, rfl, Below.refl _ _⟩
  case round =>
    obtain ⟨k, hk, rfl, hbw⟩ := hrel
    have HBR := Lib.hid hbw
    clear hbw
    by_cases hkl : k < al.length
    rotate_left
    · obtain rfl : k = al.length := by omega
      have q1 : ¬ (al.length : Int) < (al.length : Int) := by omega
      go_wp2_with fail
      refine (HFIN.out wr (HU3.out wr (Below.then HB7.out HBR.out HB7.out.size))).mono ?_
      rintro e w8 ⟨rfl, hb8⟩
      have HB8 := Lib.hid (HEND.out w8 hb8)
      clear hb8
      go_wp2
      go_ret
      exact ⟨rfl, HB8.out⟩
    have q0 : (0 : Int) ≤ (k : Int) := by omega
    have q1 : (k : Int) < (al.length : Int) := by omega
    have q3 : IntKind.i64.wrap ((k : Int) + 1) = ((k + 1 : Nat) : Int) := by rw [IntWalk.i64_in _ (by omega)]; omega
    have hbk1 := HBK17.out.keep HBR.out
    have hbk2 := HBK27.out.keep HBR.out
    have hat := HBAT.out k hkl
    obtain ⟨b, hb⟩ : ∃ b, b = projA J fun v => decide (v ∈ al[k].vs) := ⟨_, rfl⟩
    rw [← hb] at hat
    have HATK := Lib.hid hat
    obtain ⟨SA, SC, TA, TC, s0, s1, s2, hap1⟩ := hbk1.at_ hat
    obtain ⟨SA2, SC2, TA', TC', t0, t1, t2, hap2⟩ := hbk2.at_ hat
    have HGK : Hid (Gd b) := HGB.out _ (List.mem_of_getElem? hat)
    have HV1k := Lib.hid hap1.v
    have HV2k := Lib.hid hap2.v
    have hl1 := hbk1.lt
    have hl2 := hbk2.lt
    obtain ⟨bm, om, VA, VC, PA, PC, hA2, hbm, m0, m1, mv⟩ := refs_at HR7.out hkl
    have HAE := Lib.hid hA2
    subst hA2
    have HMV : Hid (SlI .i64 wr.heap.size wr VA (al[k].vs.map Int.ofNat)) := (Sl.below mv HBR.out (Nat.le_refl _)).more HBR.out.size
    have HGA := Lib.hid (HGL.out.gd _ (List.getElem_mem hkl))
    have HPJ : Hid (∀ W v, RefV W v (J.vs.map Int.ofNat) J.P → Calls Tryz.prog 19 #[v, .int .u32 (setN al[k].vs : Nat)] W fun e w' => ∃ u, e = .returned u ∧ RefN W.heap.size w' u (b.vs.map Int.ofNat) b.P ∧ Below W.heap.size W w') := fun W v hv => by rw [hb]; exact r36Project_any v J (setN al[k].vs) al[k].vs W hv HGJ.out (fun v _ => bit_if (setN_bit _ v))
    have hm0 := (HBR.out.cell (p := ⟨bm, om + k * 2, none⟩) hbm).trans m0
    have hm1 := (HBR.out.cell (p := ⟨bm, om + k * 2 + 1, none⟩) hbm).trans m1
    have hbm2 : bm < wr.heap.size := Nat.lt_of_lt_of_le hbm HBR.out.size
    have hrj := HRJ.out.up HBR.out
    have hvj := HVJ.out.up HBR.out
    obtain ⟨a, hae⟩ : ∃ a, a = al[k] := ⟨_, rfl⟩
    have HAK : Hid (a = al[k]) := hae
    rw [← hae] at hm0 hm1 HMV HGA HPJ
    have HKP : Hid (∀ W, Below wr.heap.size wr W → (((W.cell? ⟨R1, k * 3, none⟩ = some (.slice SA b.vs.length SC) ∧ W.cell? ⟨R1, k * 3 + 1, none⟩ = some (.int .i64 (b.vs.length : Nat)) ∧ W.cell? ⟨R1, k * 3 + 2, none⟩ = some (.slice TA b.P.length TC)) ∧ W.cell? ⟨R2, k * 3, none⟩ = some (.slice SA2 b.vs.length SC2) ∧ W.cell? ⟨R2, k * 3 + 1, none⟩ = some (.int .i64 (b.vs.length : Nat)) ∧ W.cell? ⟨R2, k * 3 + 2, none⟩ = some (.slice TA' b.P.length TC')) ∧ W.cell? ⟨bm, om + k * 2, none⟩ = some (.slice VA a.vs.length VC) ∧ W.cell? ⟨bm, om + k * 2 + 1, none⟩ = some (.slice PA a.P.length PC)) ∧ W.cell? ⟨gj, 0, none⟩ = some (.slice JA J.vs.length JC) ∧ W.cell? ⟨gj, 1, none⟩ = some (.slice MA J.P.length MC)) := fun W h => ⟨⟨⟨⟨(h.cell (p := ⟨R1, k * 3, none⟩) hl1).trans s0, (h.cell (p := ⟨R1, k * 3 + 1, none⟩) hl1).trans s1, (h.cell (p := ⟨R1, k * 3 + 2, none⟩) hl1).trans s2⟩, (h.cell (p := ⟨R2, k * 3, none⟩) hl2).trans t0, (h.cell (p := ⟨R2, k * 3 + 1, none⟩) hl2).trans t1, (h.cell (p := ⟨R2, k * 3 + 2, none⟩) hl2).trans t2⟩, (h.cell (p := ⟨bm, om + k * 2, none⟩) hbm2).trans hm0, (h.cell (p := ⟨bm, om + k * 2 + 1, none⟩) hbm2).trans hm1⟩, (hrj.up h).cell 0, (hrj.up h).cell 1⟩
    have HVJR := Lib.hid hvj
    clear hat hap1 hap2 hbk1 hbk2 s0 s1 s2 t0 t1 t2 m0 m1 mv hm0 hm1 hrj hvj hb hae hbm
    obtain ⟨wo, hwo⟩ : ∃ wo, wo = wr := ⟨_, rfl⟩
    subst hwo
    go_upto_region 15 with (fail)
    refine wp_region_held_drew (S := (fun w' => (((w'.cell? ⟨R1, k * 3, none⟩ = some (.slice SA b.vs.length SC) ∧ w'.cell? ⟨R1, k * 3 + 1, none⟩ = some (.int .i64 (b.vs.length : Nat)) ∧ w'.cell? ⟨R1, k * 3 + 2, none⟩ = some (.slice TA b.P.length TC)) ∧ w'.cell? ⟨R2, k * 3, none⟩ = some (.slice SA2 b.vs.length SC2) ∧ w'.cell? ⟨R2, k * 3 + 1, none⟩ = some (.int .i64 (b.vs.length : Nat)) ∧ w'.cell? ⟨R2, k * 3 + 2, none⟩ = some (.slice TA' b.P.length TC')) ∧ w'.cell? ⟨bm, om + k * 2, none⟩ = some (.slice VA a.vs.length VC) ∧ w'.cell? ⟨bm, om + k * 2 + 1, none⟩ = some (.slice PA a.P.length PC)) ∧ w'.cell? ⟨gj, 0, none⟩ = some (.slice JA J.vs.length JC) ∧ w'.cell? ⟨gj, 1, none⟩ = some (.slice MA J.P.length MC))) (by kernel_rfl) (HKP.out wo.drew (Below.refl _ _).drew) (fun hHeld => ?_)
    refine takeOp (i := 0) (v := ?_) (some 83) rfl rfl (by kernel_rfl) (by kernel_rfl) (by kernel_rfl) (fun _ _ _ h => h) (Or.inl ⟨by rfl, ?_⟩) (by assumption) ?_
    rotate_left 1
    · (intro w0 hSw; (try dsimp only at hSw); go_simp; try (with_reducible rfl))
    try simp only [Act.put, List.setIfInBounds_toArray, List.set_cons_succ, List.set_cons_zero]
    refine takeOp (i := 1) (v := ?_) (some 84) rfl rfl (by kernel_rfl) (by kernel_rfl) (by kernel_rfl) (fun _ _ _ h => h) (Or.inl ⟨by rfl, ?_⟩) (by assumption) ?_
    rotate_left 1
    · (intro w0 hSw; (try dsimp only at hSw); go_simp; try (with_reducible rfl))
    try simp only [Act.put, List.setIfInBounds_toArray, List.set_cons_succ, List.set_cons_zero]
    refine takeOp (i := 2) (v := ?_) (some 85) rfl rfl (by kernel_rfl) (by kernel_rfl) (by kernel_rfl) (fun _ _ _ h => h) (Or.inl ⟨by rfl, ?_⟩) (by assumption) ?_
    rotate_left 1
    · (intro w0 hSw; (try dsimp only at hSw); go_simp; try (with_reducible rfl))
    try simp only [Act.put, List.setIfInBounds_toArray, List.set_cons_succ, List.set_cons_zero]
    refine takeOp (i := 3) (v := ?_) (some 86) rfl rfl (by kernel_rfl) (by kernel_rfl) (by kernel_rfl) (fun _ _ _ h => h) (Or.inl ⟨by rfl, ?_⟩) (by assumption) ?_
    rotate_left 1
    · (intro w0 hSw; (try dsimp only at hSw); go_simp; try (with_reducible rfl))
    try simp only [Act.put, List.setIfInBounds_toArray, List.set_cons_succ, List.set_cons_zero]
    refine takeOp (i := 4) (v := ?_) (some 87) rfl rfl (by kernel_rfl) (by kernel_rfl) (by kernel_rfl) (fun _ _ _ h => h) (Or.inl ⟨by rfl, ?_⟩) (by assumption) ?_
    rotate_left 1
    · (intro w0 hSw; (try dsimp only at hSw); go_simp; try (with_reducible rfl))
    try simp only [Act.put, List.setIfInBounds_toArray, List.set_cons_succ, List.set_cons_zero]
    refine takeOp (i := 5) (v := ?_) (some 88) rfl rfl (by kernel_rfl) (by kernel_rfl) (by kernel_rfl) (fun _ _ _ h => h) (Or.inl ⟨by rfl, ?_⟩) (by assumption) ?_
    rotate_left 1
    · (intro w0 hSw; (try dsimp only at hSw); go_simp; try (with_reducible rfl))
    try simp only [Act.put, List.setIfInBounds_toArray, List.set_cons_succ, List.set_cons_zero]
    refine takeOp (i := 6) (v := ?_) (some 89) rfl rfl (by kernel_rfl) (by kernel_rfl) (by kernel_rfl) (fun _ _ _ h => h) (Or.inl ⟨by rfl, ?_⟩) (by assumption) ?_
    rotate_left 1
    · (intro w0 hSw; (try dsimp only at hSw); go_simp; try (with_reducible rfl))
    try simp only [Act.put, List.setIfInBounds_toArray, List.set_cons_succ, List.set_cons_zero]
    refine takeOp (i := 7) (v := ?_) (some 90) rfl rfl (by kernel_rfl) (by kernel_rfl) (by kernel_rfl) (fun _ _ _ h => h) (Or.inl ⟨by rfl, ?_⟩) (by assumption) ?_
    rotate_left 1
    · (intro w0 hSw; (try dsimp only at hSw); go_simp; try (with_reducible rfl))
    try simp only [Act.put, List.setIfInBounds_toArray, List.set_cons_succ, List.set_cons_zero]
    refine takeOp (i := 8) (v := ?_) (some 91) rfl rfl (by kernel_rfl) (by kernel_rfl) (by kernel_rfl) (fun _ _ _ h => h) (Or.inl ⟨by rfl, ?_⟩) (by assumption) ?_
    rotate_left 1
    · (intro w0 hSw; (try dsimp only at hSw); go_simp; try (with_reducible rfl))
    try simp only [Act.put, List.setIfInBounds_toArray, List.set_cons_succ, List.set_cons_zero]
    refine wpAnyH_ready (rs := [9]) (by kernel_rfl) (by simp) ?_
    refine AllReadyH.cons rfl (fun K hK => ?_) AllReadyH.nil
    go_simp
    refine (r36Set_any VA PA VC PC a.P.length a.vs wo.drew (Sl.drew HMV.out) (by have := HGA.out.vl; omega) HGA.out.asc HGA.out.lt).mono ?_
    rintro e V1 ⟨rfl, hx⟩
    have HV1 : Hid (Below wo.heap.size wo V1) := Below.undrew hx.below
    have HPJ2 := Lib.hid (HPJ.out V1 _ (HVJR.out.up HV1.out))
    clear hx
    go_wp2_with fail
    refine hK.out _ _ (HKP.out V1 HV1.out) (fun hHeld => ?_)
    clear hK K
    try simp only [Act.put, List.setIfInBounds_toArray, List.set_cons_succ, List.set_cons_zero]
    refine wpAnyH_ready (rs := [10]) (by kernel_rfl) (by simp) ?_
    refine AllReadyH.cons rfl (fun K hK => ?_) AllReadyH.nil
    go_simp
    refine HPJ2.out.mono ?_
    rintro e V2 ⟨v1, rfl, hv, hb⟩
    have HV2 : Hid (Below wo.heap.size wo V2) := Below.then HV1.out hb HV1.out.size
    have HIS1 := Lib.hid (l36is_any _ v1 b V2 (HV1k.out.up HV2.out) hv.v HGK.out)
    clear hb hv HPJ2
    go_wp2_with fail
    refine hK.out _ _ (HKP.out V2 HV2.out) (fun hHeld => ?_)
    clear hK K
    try simp only [Act.put, List.setIfInBounds_toArray, List.set_cons_succ, List.set_cons_zero]
    refine wpAnyH_ready (rs := [11]) (by kernel_rfl) (by simp) ?_
    refine AllReadyH.cons rfl (fun K hK => ?_) AllReadyH.nil
    go_simp
    refine HIS1.out.mono ?_
    rintro e V3 ⟨rfl, hb⟩
    have HV3 : Hid (Below wo.heap.size wo V3) := Below.then HV2.out hb HV2.out.size
    clear hb HIS1
    go_wp2_with fail
    refine hK.out _ _ (HKP.out V3 HV3.out) (fun hHeld => ?_)
    clear hK K
    try simp only [Act.put, List.setIfInBounds_toArray, List.set_cons_succ, List.set_cons_zero]
    refine takeOp (i := 12) (v := ?_) (some 95) rfl rfl (by kernel_rfl) (by kernel_rfl) (by kernel_rfl) (fun _ _ _ h => h) (Or.inl ⟨by rfl, ?_⟩) (by assumption) ?_
    rotate_left 1
    · (intro w0 hSw; (try dsimp only at hSw); go_simp; try (with_reducible rfl))
    try simp only [Act.put, List.setIfInBounds_toArray, List.set_cons_succ, List.set_cons_zero]
    refine takeOp (i := 13) (v := ?_) (some 96) rfl rfl (by kernel_rfl) (by kernel_rfl) (by kernel_rfl) (fun _ _ _ h => h) (Or.inl ⟨by rfl, ?_⟩) (by assumption) ?_
    rotate_left 1
    · (intro w0 hSw; (try dsimp only at hSw); go_simp; try (with_reducible rfl))
    try simp only [Act.put, List.setIfInBounds_toArray, List.set_cons_succ, List.set_cons_zero]
    refine takeOp (i := 14) (v := ?_) (some 97) rfl rfl (by kernel_rfl) (by kernel_rfl) (by kernel_rfl) (fun _ _ _ h => h) (Or.inl ⟨by rfl, ?_⟩) (by assumption) ?_
    rotate_left 1
    · (intro w0 hSw; (try dsimp only at hSw); go_simp; try (with_reducible rfl))
    try simp only [Act.put, List.setIfInBounds_toArray, List.set_cons_succ, List.set_cons_zero]
    refine takeOp (i := 15) (v := ?_) (some 98) rfl rfl (by kernel_rfl) (by kernel_rfl) (by kernel_rfl) (fun _ _ _ h => h) (Or.inl ⟨by rfl, ?_⟩) (by assumption) ?_
    rotate_left 1
    · (intro w0 hSw; (try dsimp only at hSw); go_simp; try (with_reducible rfl))
    try simp only [Act.put, List.setIfInBounds_toArray, List.set_cons_succ, List.set_cons_zero]
    refine takeOp (i := 16) (v := ?_) (some 99) rfl rfl (by kernel_rfl) (by kernel_rfl) (by kernel_rfl) (fun _ _ _ h => h) (Or.inl ⟨by rfl, ?_⟩) (by assumption) ?_
    rotate_left 1
    · (intro w0 hSw; (try dsimp only at hSw); go_simp; try (with_reducible rfl))
    try simp only [Act.put, List.setIfInBounds_toArray, List.set_cons_succ, List.set_cons_zero]
    refine takeOp (i := 17) (v := ?_) (some 100) rfl rfl (by kernel_rfl) (by kernel_rfl) (by kernel_rfl) (fun _ _ _ h => h) (Or.inl ⟨by rfl, ?_⟩) (by assumption) ?_
    rotate_left 1
    · (intro w0 hSw; (try dsimp only at hSw); go_simp; try (with_reducible rfl))
    try simp only [Act.put, List.setIfInBounds_toArray, List.set_cons_succ, List.set_cons_zero]
    refine takeOp (i := 18) (v := ?_) (some 101) rfl rfl (by kernel_rfl) (by kernel_rfl) (by kernel_rfl) (fun _ _ _ h => h) (Or.inl ⟨by rfl, ?_⟩) (by assumption) ?_
    rotate_left 1
    · (intro w0 hSw; (try dsimp only at hSw); go_simp; try (with_reducible rfl))
    try simp only [Act.put, List.setIfInBounds_toArray, List.set_cons_succ, List.set_cons_zero]
    refine takeOp (i := 19) (v := ?_) (some 102) rfl rfl (by kernel_rfl) (by kernel_rfl) (by kernel_rfl) (fun _ _ _ h => h) (Or.inl ⟨by rfl, ?_⟩) (by assumption) ?_
    rotate_left 1
    · (intro w0 hSw; (try dsimp only at hSw); go_simp; try (with_reducible rfl))
    try simp only [Act.put, List.setIfInBounds_toArray, List.set_cons_succ, List.set_cons_zero]
    refine takeOp (i := 20) (v := ?_) (some 103) rfl rfl (by kernel_rfl) (by kernel_rfl) (by kernel_rfl) (fun _ _ _ h => h) (Or.inl ⟨by rfl, ?_⟩) (by assumption) ?_
    rotate_left 1
    · (intro w0 hSw; (try dsimp only at hSw); go_simp; try (with_reducible rfl))
    try simp only [Act.put, List.setIfInBounds_toArray, List.set_cons_succ, List.set_cons_zero]
    refine takeOp (i := 21) (v := ?_) (some 104) rfl rfl (by kernel_rfl) (by kernel_rfl) (by kernel_rfl) (fun _ _ _ h => h) (Or.inl ⟨by rfl, ?_⟩) (by assumption) ?_
    rotate_left 1
    · (intro w0 hSw; (try dsimp only at hSw); go_simp; try (with_reducible rfl))
    try simp only [Act.put, List.setIfInBounds_toArray, List.set_cons_succ, List.set_cons_zero]
    refine wpAnyH_ready (rs := [22]) (by kernel_rfl) (by simp) ?_
    refine AllReadyH.cons rfl (fun K hK => ?_) AllReadyH.nil
    go_simp
    refine (l36Of_any _ b V3 (HV1k.out.up HV3.out) HGK.out).mono ?_
    rintro e V4 ⟨v2, rfl, hv, hb⟩
    have HV4 : Hid (Below wo.heap.size wo V4) := Below.then HV3.out hb HV3.out.size
    have HIS2 := Lib.hid (l36is_any _ v2 b V4 (HV2k.out.up HV4.out) hv HGK.out)
    clear hb hv
    go_wp2_with fail
    refine hK.out _ _ (HKP.out V4 HV4.out) (fun hHeld => ?_)
    clear hK K
    try simp only [Act.put, List.setIfInBounds_toArray, List.set_cons_succ, List.set_cons_zero]
    refine wpAnyH_ready (rs := [23]) (by kernel_rfl) (by simp) ?_
    refine AllReadyH.cons rfl (fun K hK => ?_) AllReadyH.nil
    go_simp
    refine HIS2.out.mono ?_
    rintro e V5 ⟨rfl, hb⟩
    have HV5 : Hid (Below wo.heap.size wo V5) := Below.then HV4.out hb HV4.out.size
    clear hb HIS2
    go_wp2_with fail
    refine hK.out _ _ (HKP.out V5 HV5.out) (fun hHeld => ?_)
    clear hK K
    try simp only [Act.put, List.setIfInBounds_toArray, List.set_cons_succ, List.set_cons_zero]
    refine takeOp (i := 24) (v := ?_) (some 107) rfl rfl (by kernel_rfl) (by kernel_rfl) (by kernel_rfl) (fun _ _ _ h => h) (Or.inl ⟨by rfl, ?_⟩) (by assumption) ?_
    rotate_left 1
    · (intro w0 hSw; (try dsimp only at hSw); go_simp; try (with_reducible rfl))
    try simp only [Act.put, List.setIfInBounds_toArray, List.set_cons_succ, List.set_cons_zero]
    refine takeOp (i := 25) (v := ?_) (some 108) rfl rfl (by kernel_rfl) (by kernel_rfl) (by kernel_rfl) (fun _ _ _ h => h) (Or.inl ⟨by rfl, ?_⟩) (by assumption) ?_
    rotate_left 1
    · (intro w0 hSw; (try dsimp only at hSw); go_simp; try (with_reducible rfl))
    try simp only [Act.put, List.setIfInBounds_toArray, List.set_cons_succ, List.set_cons_zero]
    refine wpAnyH_done (by kernel_rfl) ?_ _
    clear hHeld
    have HB16 : Hid (Below W7.heap.size W7 V5) := Below.then HBR.out HV5.out HBR.out.size
    have HV15 := Lib.hid (HV1k.out.up HV5.out)
    clear HPJ HVJR HV1k HV2k HMV HKP
    go_wp2_with fail
    go_loopw [110] (fun c wx => ∃ j : Nat, j ≤ k ∧ c = .int .i64 j ∧ Below V5.heap.size V5 wx) (fun c _ => k - (intOf c).toNat)
    case atStart => exact ⟨0, Nat.zero_le _, rfl, Below.refl _ _⟩
    case round =>
      obtain ⟨j, hj, rfl, hbw⟩ := hrel
      have HBJ := Lib.hid hbw
      have HBQ : Hid (Below W7.heap.size W7 wr) := Below.then HB16.out hbw HB16.out.size
      clear hbw
      by_cases hjl : j < k
      rotate_left
      · obtain rfl : j = k := by omega
        have t1 : ¬ (j : Int) < (j : Int) := by omega
        go_wp2_with fail
        go_roundw
        case rel => exact ⟨j + 1, hkl, by go_num, HBQ.out⟩
        case measure => simp [intOf]; omega
      have t0 : (0 : Int) ≤ (j : Int) := by omega
      have t1 : (j : Int) < (k : Int) := by omega
      have t2 : (j : Int) < (al.length : Int) := by omega
      have t3 : IntKind.i64.wrap ((j : Int) + 1) = ((j + 1 : Nat) : Int) := by rw [IntWalk.i64_in _ (by omega)]; omega
      have hjal : j < al.length := by omega
      have hbk1 := HBK17.out.keep HBQ.out
      obtain ⟨b2, hb2⟩ : ∃ b2, b2 = projA J fun v => decide (v ∈ al[j].vs) := ⟨_, rfl⟩
      have hat2 := HBAT.out j hjal
      rw [← hb2] at hat2
      have HPR := Lib.hid (HPAIR.out k j hkl hjal b b2 HATK.out hat2)
      obtain ⟨SA, SC, TA, TC, s0, s1, s2, hap1⟩ := hbk1.at_ HATK.out
      obtain ⟨SA3, SC3, TA3, TC3, x0, x1, x2, hap3⟩ := hbk1.at_ hat2
      have HG2 : Hid (Gd b2) := HGB.out _ (List.mem_of_getElem? hat2)
      have HV1j := Lib.hid hap1.v
      have HV3j := Lib.hid hap3.v
      have hl1 := hbk1.lt
      obtain ⟨bm0, om0, VA, VC, PA, PC, e1, hbm, m0, m1, mv⟩ := refs_at HR7.out hkl
      injection e1 with e1
      injection e1 with e1 e2
      subst e1 e2
      obtain ⟨bm1, om1, VA2, VC2, PA2, PC2, e1, -, n0, n1, nv⟩ := refs_at HR7.out hjal
      injection e1 with e1
      injection e1 with e1 e2
      subst e1 e2
      have HMV : Hid (SlI .i64 wr.heap.size wr VA (al[k].vs.map Int.ofNat)) := (Sl.below mv HBQ.out (Nat.le_refl _)).more HBQ.out.size
      have HNV : Hid (SlI .i64 wr.heap.size wr VA2 (al[j].vs.map Int.ofNat)) := (Sl.below nv HBQ.out (Nat.le_refl _)).more HBQ.out.size
      have hm0 := (HBQ.out.cell (p := ⟨bm, om + k * 2, none⟩) hbm).trans m0
      have hm1 := (HBQ.out.cell (p := ⟨bm, om + k * 2 + 1, none⟩) hbm).trans m1
      have hn0 := (HBQ.out.cell (p := ⟨bm, om + j * 2, none⟩) hbm).trans n0
      have hn1 := (HBQ.out.cell (p := ⟨bm, om + j * 2 + 1, none⟩) hbm).trans n1
      have hbm3 : bm < wr.heap.size := Nat.lt_of_lt_of_le hbm HBQ.out.size
      have HGA2 := Lib.hid (HGL.out.gd _ (List.getElem_mem hjal))
      rw [← HAK.out] at hm0 hm1 HMV HPR
      obtain ⟨a2, ha2⟩ : ∃ a2, a2 = al[j] := ⟨_, rfl⟩
      rw [← ha2] at hn0 hn1 HNV HPR HGA2
      have HKP : Hid (∀ W, Below wr.heap.size wr W → (W.cell? ⟨bm, om + k * 2, none⟩ = some (.slice VA a.vs.length VC) ∧ W.cell? ⟨bm, om + k * 2 + 1, none⟩ = some (.slice PA a.P.length PC)) ∧ W.cell? ⟨bm, om + j * 2, none⟩ = some (.slice VA2 a2.vs.length VC2) ∧ W.cell? ⟨bm, om + j * 2 + 1, none⟩ = some (.slice PA2 a2.P.length PC2)) := fun W h => ⟨⟨(h.cell (p := ⟨bm, om + k * 2, none⟩) hbm3).trans hm0, (h.cell (p := ⟨bm, om + k * 2 + 1, none⟩) hbm3).trans hm1⟩, (h.cell (p := ⟨bm, om + j * 2, none⟩) hbm3).trans hn0, (h.cell (p := ⟨bm, om + j * 2 + 1, none⟩) hbm3).trans hn1⟩
      have HKQ : Hid (∀ W, Below wr.heap.size wr W → (W.cell? ⟨R1, k * 3, none⟩ = some (.slice SA b.vs.length SC) ∧ W.cell? ⟨R1, k * 3 + 1, none⟩ = some (.int .i64 (b.vs.length : Nat)) ∧ W.cell? ⟨R1, k * 3 + 2, none⟩ = some (.slice TA b.P.length TC)) ∧ W.cell? ⟨R1, j * 3, none⟩ = some (.slice SA3 b2.vs.length SC3) ∧ W.cell? ⟨R1, j * 3 + 1, none⟩ = some (.int .i64 (b2.vs.length : Nat)) ∧ W.cell? ⟨R1, j * 3 + 2, none⟩ = some (.slice TA3 b2.P.length TC3)) := fun W h => ⟨⟨(h.cell (p := ⟨R1, k * 3, none⟩) hl1).trans s0, (h.cell (p := ⟨R1, k * 3 + 1, none⟩) hl1).trans s1, (h.cell (p := ⟨R1, k * 3 + 2, none⟩) hl1).trans s2⟩, (h.cell (p := ⟨R1, j * 3, none⟩) hl1).trans x0, (h.cell (p := ⟨R1, j * 3 + 1, none⟩) hl1).trans x1, (h.cell (p := ⟨R1, j * 3 + 2, none⟩) hl1).trans x2⟩
      clear hat2 hap1 hap3 hbk1 s0 s1 s2 x0 x1 x2 m0 m1 mv n0 n1 nv hm0 hm1 hn0 hn1 hb2 ha2 hbm
      obtain ⟨wp, hwp⟩ : ∃ wp, wp = wr := ⟨_, rfl⟩
      subst hwp
      have hand : bits .and .u32 ((setN a.vs : Nat) : Int) ((setN a2.vs : Nat) : Int) = ((setN a.vs &&& setN a2.vs : Nat) : Int) := u32_and_nat _ _ (setN_lt HGA.out.lt) (setN_lt HGA2.out.lt)
      go_upto_region 20 with (fail)
      refine wp_region_held_drew (S := (fun w' => (w'.cell? ⟨bm, om + k * 2, none⟩ = some (.slice VA a.vs.length VC) ∧ w'.cell? ⟨bm, om + k * 2 + 1, none⟩ = some (.slice PA a.P.length PC)) ∧ w'.cell? ⟨bm, om + j * 2, none⟩ = some (.slice VA2 a2.vs.length VC2) ∧ w'.cell? ⟨bm, om + j * 2 + 1, none⟩ = some (.slice PA2 a2.P.length PC2))) (by kernel_rfl) (HKP.out wp.drew (Below.refl _ _).drew) (fun hHeld => ?_)
      refine takeOp (i := 0) (v := ?_) (some 113) rfl rfl (by kernel_rfl) (by kernel_rfl) (by kernel_rfl) (fun _ _ _ h => h) (Or.inl ⟨by rfl, ?_⟩) (by assumption) ?_
      rotate_left 1
      · (intro w0 hSw; (try dsimp only at hSw); go_simp; try (with_reducible rfl))
      try simp only [Act.put, List.setIfInBounds_toArray, List.set_cons_succ, List.set_cons_zero]
      refine takeOp (i := 1) (v := ?_) (some 114) rfl rfl (by kernel_rfl) (by kernel_rfl) (by kernel_rfl) (fun _ _ _ h => h) (Or.inl ⟨by rfl, ?_⟩) (by assumption) ?_
      rotate_left 1
      · (intro w0 hSw; (try dsimp only at hSw); go_simp; try (with_reducible rfl))
      try simp only [Act.put, List.setIfInBounds_toArray, List.set_cons_succ, List.set_cons_zero]
      refine takeOp (i := 2) (v := ?_) (some 115) rfl rfl (by kernel_rfl) (by kernel_rfl) (by kernel_rfl) (fun _ _ _ h => h) (Or.inl ⟨by rfl, ?_⟩) (by assumption) ?_
      rotate_left 1
      · (intro w0 hSw; (try dsimp only at hSw); go_simp; try (with_reducible rfl))
      try simp only [Act.put, List.setIfInBounds_toArray, List.set_cons_succ, List.set_cons_zero]
      refine takeOp (i := 3) (v := ?_) (some 116) rfl rfl (by kernel_rfl) (by kernel_rfl) (by kernel_rfl) (fun _ _ _ h => h) (Or.inl ⟨by rfl, ?_⟩) (by assumption) ?_
      rotate_left 1
      · (intro w0 hSw; (try dsimp only at hSw); go_simp; try (with_reducible rfl))
      try simp only [Act.put, List.setIfInBounds_toArray, List.set_cons_succ, List.set_cons_zero]
      refine takeOp (i := 5) (v := ?_) (some 118) rfl rfl (by kernel_rfl) (by kernel_rfl) (by kernel_rfl) (fun _ _ _ h => h) (Or.inl ⟨by rfl, ?_⟩) (by assumption) ?_
      rotate_left 1
      · (intro w0 hSw; (try dsimp only at hSw); go_simp; try (with_reducible rfl))
      try simp only [Act.put, List.setIfInBounds_toArray, List.set_cons_succ, List.set_cons_zero]
      refine takeOp (i := 6) (v := ?_) (some 119) rfl rfl (by kernel_rfl) (by kernel_rfl) (by kernel_rfl) (fun _ _ _ h => h) (Or.inl ⟨by rfl, ?_⟩) (by assumption) ?_
      rotate_left 1
      · (intro w0 hSw; (try dsimp only at hSw); go_simp; try (with_reducible rfl))
      try simp only [Act.put, List.setIfInBounds_toArray, List.set_cons_succ, List.set_cons_zero]
      refine takeOp (i := 7) (v := ?_) (some 120) rfl rfl (by kernel_rfl) (by kernel_rfl) (by kernel_rfl) (fun _ _ _ h => h) (Or.inl ⟨by rfl, ?_⟩) (by assumption) ?_
      rotate_left 1
      · (intro w0 hSw; (try dsimp only at hSw); go_simp; try (with_reducible rfl))
      try simp only [Act.put, List.setIfInBounds_toArray, List.set_cons_succ, List.set_cons_zero]
      refine takeOp (i := 8) (v := ?_) (some 121) rfl rfl (by kernel_rfl) (by kernel_rfl) (by kernel_rfl) (fun _ _ _ h => h) (Or.inl ⟨by rfl, ?_⟩) (by assumption) ?_
      rotate_left 1
      · (intro w0 hSw; (try dsimp only at hSw); go_simp; try (with_reducible rfl))
      try simp only [Act.put, List.setIfInBounds_toArray, List.set_cons_succ, List.set_cons_zero]
      refine wpAnyH_ready (rs := [4]) (by kernel_rfl) (by simp) ?_
      refine AllReadyH.cons rfl (fun K hK => ?_) AllReadyH.nil
      go_simp
      refine (r36Set_any VA PA VC PC a.P.length a.vs wp.drew (Sl.drew HMV.out) (by have := HGA.out.vl; omega) HGA.out.asc HGA.out.lt).mono ?_
      rintro e V6 ⟨rfl, hx⟩
      have HV6 : Hid (Below wp.heap.size wp V6) := Below.undrew hx.below
      clear hx
      go_wp2_with fail
      refine hK.out _ _ (HKP.out V6 HV6.out) (fun hHeld => ?_)
      clear hK K
      try simp only [Act.put, List.setIfInBounds_toArray, List.set_cons_succ, List.set_cons_zero]
      refine wpAnyH_ready (rs := [9]) (by kernel_rfl) (by simp) ?_
      refine AllReadyH.cons rfl (fun K hK => ?_) AllReadyH.nil
      go_simp
      refine (r36Set_any VA2 PA2 VC2 PC2 a2.P.length a2.vs V6 ((Sl.below HNV.out HV6.out (Nat.le_refl _)).more HV6.out.size) (by have := HGA2.out.vl; omega) HGA2.out.asc HGA2.out.lt).mono ?_
      rintro e V7 ⟨rfl, hx⟩
      have HV7 : Hid (Below wp.heap.size wp V7) := Below.then HV6.out hx.below HV6.out.size
      clear hx
      go_wp2_with fail
      refine hK.out _ _ (HKP.out V7 HV7.out) (fun hHeld => ?_)
      clear hK K
      try simp only [Act.put, List.setIfInBounds_toArray, List.set_cons_succ, List.set_cons_zero]
      refine takeOp (i := 10) (v := ?_) (some 123) rfl rfl (by kernel_rfl) (by kernel_rfl) (by kernel_rfl) (fun _ _ _ h => h) (Or.inl ⟨by rfl, ?_⟩) (by assumption) ?_
      rotate_left 1
      · (intro w0 hSw; (try dsimp only at hSw); go_simp; try (with_reducible rfl))
      try simp only [Act.put, List.setIfInBounds_toArray, List.set_cons_succ, List.set_cons_zero]
      refine takeOp (i := 11) (v := ?_) (some 18) rfl rfl (by kernel_rfl) (by kernel_rfl) (by kernel_rfl) (fun _ _ _ h => h) (Or.inl ⟨by rfl, ?_⟩) (by assumption) ?_
      rotate_left 1
      · (intro w0 hSw; (try dsimp only at hSw); go_simp; try (with_reducible rfl))
      try simp only [Act.put, List.setIfInBounds_toArray, List.set_cons_succ, List.set_cons_zero]
      refine wpAnyH_done (by kernel_rfl) ?_ _
      clear hHeld
      obtain ⟨M, hM⟩ : ∃ M, M = setN a.vs &&& setN a2.vs := ⟨_, rfl⟩
      obtain ⟨ks, hks⟩ : ∃ ks, ks = a.vs.filter fun x => decide (x ∈ a2.vs) := ⟨_, rfl⟩
      have HBT : Hid (∀ v, M / 2 ^ v % 2 = if v ∈ ks then 1 else 0) := fun v => by rw [hM, hks]; exact and_bit _ _ v
      rw [← hks] at HPR
      rw [← hM] at hand ⊢
      have HPQ1 : Hid (∀ W v, RefV W v (b.vs.map Int.ofNat) b.P → Calls Tryz.prog 19 #[v, .int .u32 (M : Nat)] W (ProjRP b ks W)) := fun W v hv => r36Project_any v b M ks W hv HGK.out (fun v _ => HBT.out v)
      have HPQ2 : Hid (∀ W v, RefV W v (b2.vs.map Int.ofNat) b2.P → Calls Tryz.prog 19 #[v, .int .u32 (M : Nat)] W (ProjRP b2 ks W)) := fun W v hv => r36Project_any v b2 M ks W hv HG2.out (fun v _ => HBT.out v)
      have HGP := Lib.hid (HGK.out.proj fun v => decide (v ∈ ks))
      have HKR : Hid (∀ W, Below V7.heap.size V7 W → (W.cell? ⟨R1, k * 3, none⟩ = some (.slice SA b.vs.length SC) ∧ W.cell? ⟨R1, k * 3 + 1, none⟩ = some (.int .i64 (b.vs.length : Nat)) ∧ W.cell? ⟨R1, k * 3 + 2, none⟩ = some (.slice TA b.P.length TC)) ∧ W.cell? ⟨R1, j * 3, none⟩ = some (.slice SA3 b2.vs.length SC3) ∧ W.cell? ⟨R1, j * 3 + 1, none⟩ = some (.int .i64 (b2.vs.length : Nat)) ∧ W.cell? ⟨R1, j * 3 + 2, none⟩ = some (.slice TA3 b2.P.length TC3)) := fun W h => HKQ.out W (Below.then HV7.out h HV7.out.size)
      have HV1q := Lib.hid (HV1j.out.up HV7.out)
      have HV3q := Lib.hid (HV3j.out.up HV7.out)
      have HB21 : Hid (Below V5.heap.size V5 V7) := Below.then HBJ.out HV7.out HBJ.out.size
      clear hM hks HKP HKQ HV1j HV3j HMV HNV HBJ
      go_upto_region 21 with (fail)
      refine wp_region_held_drew (S := (fun w' => (w'.cell? ⟨R1, k * 3, none⟩ = some (.slice SA b.vs.length SC) ∧ w'.cell? ⟨R1, k * 3 + 1, none⟩ = some (.int .i64 (b.vs.length : Nat)) ∧ w'.cell? ⟨R1, k * 3 + 2, none⟩ = some (.slice TA b.P.length TC)) ∧ w'.cell? ⟨R1, j * 3, none⟩ = some (.slice SA3 b2.vs.length SC3) ∧ w'.cell? ⟨R1, j * 3 + 1, none⟩ = some (.int .i64 (b2.vs.length : Nat)) ∧ w'.cell? ⟨R1, j * 3 + 2, none⟩ = some (.slice TA3 b2.P.length TC3))) (by kernel_rfl) (HKR.out V7.drew (Below.refl _ _).drew) (fun hHeld => ?_)
      refine takeOp (i := 0) (v := ?_) (some 124) rfl rfl (by kernel_rfl) (by kernel_rfl) (by kernel_rfl) (fun _ _ _ h => h) (Or.inl ⟨by rfl, ?_⟩) (by assumption) ?_
      rotate_left 1
      · (intro w0 hSw; (try dsimp only at hSw); go_simp; try (with_reducible rfl))
      try simp only [Act.put, List.setIfInBounds_toArray, List.set_cons_succ, List.set_cons_zero]
      refine takeOp (i := 1) (v := ?_) (some 125) rfl rfl (by kernel_rfl) (by kernel_rfl) (by kernel_rfl) (fun _ _ _ h => h) (Or.inl ⟨by rfl, ?_⟩) (by assumption) ?_
      rotate_left 1
      · (intro w0 hSw; (try dsimp only at hSw); go_simp; try (with_reducible rfl))
      try simp only [Act.put, List.setIfInBounds_toArray, List.set_cons_succ, List.set_cons_zero]
      refine takeOp (i := 2) (v := ?_) (some 126) rfl rfl (by kernel_rfl) (by kernel_rfl) (by kernel_rfl) (fun _ _ _ h => h) (Or.inl ⟨by rfl, ?_⟩) (by assumption) ?_
      rotate_left 1
      · (intro w0 hSw; (try dsimp only at hSw); go_simp; try (with_reducible rfl))
      try simp only [Act.put, List.setIfInBounds_toArray, List.set_cons_succ, List.set_cons_zero]
      refine takeOp (i := 3) (v := ?_) (some 127) rfl rfl (by kernel_rfl) (by kernel_rfl) (by kernel_rfl) (fun _ _ _ h => h) (Or.inl ⟨by rfl, ?_⟩) (by assumption) ?_
      rotate_left 1
      · (intro w0 hSw; (try dsimp only at hSw); go_simp; try (with_reducible rfl))
      try simp only [Act.put, List.setIfInBounds_toArray, List.set_cons_succ, List.set_cons_zero]
      refine takeOp (i := 5) (v := ?_) (some 129) rfl rfl (by kernel_rfl) (by kernel_rfl) (by kernel_rfl) (fun _ _ _ h => h) (Or.inl ⟨by rfl, ?_⟩) (by assumption) ?_
      rotate_left 1
      · (intro w0 hSw; (try dsimp only at hSw); go_simp; try (with_reducible rfl))
      try simp only [Act.put, List.setIfInBounds_toArray, List.set_cons_succ, List.set_cons_zero]
      refine takeOp (i := 7) (v := ?_) (some 131) rfl rfl (by kernel_rfl) (by kernel_rfl) (by kernel_rfl) (fun _ _ _ h => h) (Or.inl ⟨by rfl, ?_⟩) (by assumption) ?_
      rotate_left 1
      · (intro w0 hSw; (try dsimp only at hSw); go_simp; try (with_reducible rfl))
      try simp only [Act.put, List.setIfInBounds_toArray, List.set_cons_succ, List.set_cons_zero]
      refine takeOp (i := 8) (v := ?_) (some 132) rfl rfl (by kernel_rfl) (by kernel_rfl) (by kernel_rfl) (fun _ _ _ h => h) (Or.inl ⟨by rfl, ?_⟩) (by assumption) ?_
      rotate_left 1
      · (intro w0 hSw; (try dsimp only at hSw); go_simp; try (with_reducible rfl))
      try simp only [Act.put, List.setIfInBounds_toArray, List.set_cons_succ, List.set_cons_zero]
      refine takeOp (i := 9) (v := ?_) (some 133) rfl rfl (by kernel_rfl) (by kernel_rfl) (by kernel_rfl) (fun _ _ _ h => h) (Or.inl ⟨by rfl, ?_⟩) (by assumption) ?_
      rotate_left 1
      · (intro w0 hSw; (try dsimp only at hSw); go_simp; try (with_reducible rfl))
      try simp only [Act.put, List.setIfInBounds_toArray, List.set_cons_succ, List.set_cons_zero]
      refine takeOp (i := 10) (v := ?_) (some 134) rfl rfl (by kernel_rfl) (by kernel_rfl) (by kernel_rfl) (fun _ _ _ h => h) (Or.inl ⟨by rfl, ?_⟩) (by assumption) ?_
      rotate_left 1
      · (intro w0 hSw; (try dsimp only at hSw); go_simp; try (with_reducible rfl))
      try simp only [Act.put, List.setIfInBounds_toArray, List.set_cons_succ, List.set_cons_zero]
      refine takeOp (i := 12) (v := ?_) (some 136) rfl rfl (by kernel_rfl) (by kernel_rfl) (by kernel_rfl) (fun _ _ _ h => h) (Or.inl ⟨by rfl, ?_⟩) (by assumption) ?_
      rotate_left 1
      · (intro w0 hSw; (try dsimp only at hSw); go_simp; try (with_reducible rfl))
      try simp only [Act.put, List.setIfInBounds_toArray, List.set_cons_succ, List.set_cons_zero]
      refine wpAnyH_ready (rs := [4]) (by kernel_rfl) (by simp) ?_
      refine AllReadyH.cons rfl (fun K hK => ?_) AllReadyH.nil
      go_simp
      refine (l36Of_any _ b V7.drew (HV1q.out.up (Below.refl _ _).drew) HGK.out).mono ?_
      rintro e V8 ⟨v1, rfl, hv, hb⟩
      have HV8 : Hid (Below V7.heap.size V7 V8) := Below.undrew hb
      have HPA := Lib.hid (HPQ1.out V8 v1 hv)
      clear hb hv
      go_wp2_with fail
      refine hK.out _ _ (HKR.out V8 HV8.out) (fun hHeld => ?_)
      clear hK K
      try simp only [Act.put, List.setIfInBounds_toArray, List.set_cons_succ, List.set_cons_zero]
      refine wpAnyH_ready (rs := [6]) (by kernel_rfl) (by simp) ?_
      refine AllReadyH.cons rfl (fun K hK => ?_) AllReadyH.nil
      go_simp
      refine HPA.out.mono ?_
      rintro e V9 ⟨v2, rfl, hv, hb⟩
      have HV9 : Hid (Below V7.heap.size V7 V9) := Below.then HV8.out hb HV8.out.size
      have HRV2 := Lib.hid hv.v
      clear hb hv HPA
      go_wp2_with fail
      refine hK.out _ _ (HKR.out V9 HV9.out) (fun hHeld => ?_)
      clear hK K
      try simp only [Act.put, List.setIfInBounds_toArray, List.set_cons_succ, List.set_cons_zero]
      refine wpAnyH_ready (rs := [11]) (by kernel_rfl) (by simp) ?_
      refine AllReadyH.cons rfl (fun K hK => ?_) AllReadyH.nil
      go_simp
      refine (l36Of_any _ b2 V9 (HV3q.out.up HV9.out) HG2.out).mono ?_
      rintro e V10 ⟨v3, rfl, hv, hb⟩
      have HV10 : Hid (Below V7.heap.size V7 V10) := Below.then HV9.out hb HV9.out.size
      have HPA := Lib.hid (HPQ2.out V10 v3 hv)
      have HRV3 := Lib.hid (HRV2.out.up hb)
      clear hb hv HRV2
      go_wp2_with fail
      refine hK.out _ _ (HKR.out V10 HV10.out) (fun hHeld => ?_)
      clear hK K
      try simp only [Act.put, List.setIfInBounds_toArray, List.set_cons_succ, List.set_cons_zero]
      refine wpAnyH_ready (rs := [13]) (by kernel_rfl) (by simp) ?_
      refine AllReadyH.cons rfl (fun K hK => ?_) AllReadyH.nil
      go_simp
      refine HPA.out.mono ?_
      rintro e V11 ⟨v4, rfl, hv, hb⟩
      have HV11 : Hid (Below V7.heap.size V7 V11) := Below.then HV10.out hb HV10.out.size
      have HSM := Lib.hid (same36 HGP.out (HRV3.out.up hb) (by rw [HPR.out]; exact hv.v))
      clear hb hv HPA HRV3
      go_wp2_with fail
      refine hK.out _ _ (HKR.out V11 HV11.out) (fun hHeld => ?_)
      clear hK K
      try simp only [Act.put, List.setIfInBounds_toArray, List.set_cons_succ, List.set_cons_zero]
      refine wpAnyH_ready (rs := [14]) (by kernel_rfl) (by simp) ?_
      refine AllReadyH.cons rfl (fun K hK => ?_) AllReadyH.nil
      go_simp
      refine HSM.out.mono ?_
      rintro e V12 ⟨rfl, hb⟩
      have HV12 : Hid (Below V7.heap.size V7 V12) := Below.then HV11.out hb HV11.out.size
      clear hb HSM
      go_wp2_with fail
      refine hK.out _ _ (HKR.out V12 HV12.out) (fun hHeld => ?_)
      clear hK K
      try simp only [Act.put, List.setIfInBounds_toArray, List.set_cons_succ, List.set_cons_zero]
      refine takeOp (i := 15) (v := ?_) (some 139) rfl rfl (by kernel_rfl) (by kernel_rfl) (by kernel_rfl) (fun _ _ _ h => h) (Or.inl ⟨by rfl, ?_⟩) (by assumption) ?_
      rotate_left 1
      · (intro w0 hSw; (try dsimp only at hSw); go_simp; try (with_reducible rfl))
      try simp only [Act.put, List.setIfInBounds_toArray, List.set_cons_succ, List.set_cons_zero]
      refine wpAnyH_done (by kernel_rfl) ?_ _
      clear hHeld
      have HB22 : Hid (Below V5.heap.size V5 V12) := Below.then HB21.out HV12.out HB21.out.size
      go_wp2_with fail
      go_roundw
      case rel => exact ⟨j + 1, hjl, by go_num, HB22.out⟩
      case measure => simp [intOf]; omega

end Go.Proofs.YthgaflmldbgbnaaGreatDoor

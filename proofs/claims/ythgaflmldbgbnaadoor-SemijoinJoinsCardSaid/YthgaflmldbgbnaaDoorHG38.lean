/- Walk of chapter 36: SemijoinJoins (regions 4 to 8 printed by tools/g38.py). -/
import Derived.Test.YthgaflmldbgbnaaDoorHG37
namespace Go.Proofs.YthgaflmldbgbnaaDoor
open Go.RowKit Go.Sort

theorem BoxA.res {w : World} {g : Nat} {c : At} (h : BoxA w g (resA 0 c)) : BoxA w g c := by rw [show resA 0 c = c from if_pos rfl] at h; exact h

set_option maxHeartbeats 64000000 in
set_option maxRecDepth 100000 in
theorem l36Joins_any (x y : LA) (R1 R2 : Option Addr) (D1 D2 : Nat) (w : World) (hA : SlA 4 w.heap.size w R1 x.R) (hB : SlA 4 w.heap.size w R2 y.R) (hx : x.v < 256 ∧ x.b < 256 ∧ Bytes x.R) (hy : y.v < 256 ∧ y.b < 256 ∧ Bytes y.R) :
    Calls Tryd.prog 3 #[.agg #[.int .u8 (x.v : Nat), .slice R1 x.R.length D1, .int .u8 (x.b : Nat)], .agg #[.int .u8 (y.v : Nat), .slice R2 y.R.length D2, .int .u8 (y.b : Nat)]] w fun e w' => e = .returned (.bool true) ∧ Below w.heap.size w w' := by
  obtain ⟨W0, hW0⟩ : ∃ W0, W0 = (w.alloc (.cells #[.int .u8 (x.v : Nat), .slice R1 x.R.length D1, .int .u8 (x.b : Nat)] 24)).alloc (.cells #[.int .u8 (y.v : Nat), .slice R2 y.R.length D2, .int .u8 (y.b : Nat)] 24) := ⟨_, rfl⟩
  have hr0 : Row W0 w.heap.size 24 [.int .u8 (x.v : Nat), .slice R1 x.R.length D1, .int .u8 (x.b : Nat)] := by rw [hW0]; exact (Row.new w 24 _).alloc _
  have hr1 : Row W0 (w.heap.size + 1) 24 [.int .u8 (y.v : Nat), .slice R2 y.R.length D2, .int .u8 (y.b : Nat)] := by
    have h := Row.new (w.alloc (.cells #[.int .u8 (x.v : Nat), .slice R1 x.R.length D1, .int .u8 (x.b : Nat)] 24)) 24 [.int .u8 (y.v : Nat), .slice R2 y.R.length D2, .int .u8 (y.b : Nat)]
    rw [World.size_alloc] at h
    rw [hW0]; exact h
  obtain ⟨W1, hW1⟩ : ∃ W1, W1 = W0.alloc (.cells #[.int .u8 (x.v : Nat), .slice R1 x.R.length D1, .int .u8 (x.b : Nat), .int .u8 (y.v : Nat), .slice R2 y.R.length D2, .int .u8 (y.b : Nat)] 24) := ⟨_, rfl⟩
  have HMK := Lib.hid (made37_any x y R1 R2 D1 D2 w W1 hA hB hx hy (by rw [hW1, hW0]))
  have HW0E := Lib.hid hW0
  have HW1E := Lib.hid hW1
  have HZ0 : Hid (W0.heap.size = w.heap.size + 1 + 1) := by show _ = _; rw [hW0]; simp
  have f0 : W0.cell? ⟨w.heap.size, 0, none⟩ = some (.int .u8 (x.v : Nat)) := hr0.cell 0
  have f1 : W0.cell? ⟨w.heap.size, 1, none⟩ = some (.slice R1 x.R.length D1) := hr0.cell 1
  have f2 : W0.cell? ⟨w.heap.size, 2, none⟩ = some (.int .u8 (x.b : Nat)) := hr0.cell 2
  have f3 : W0.cell? ⟨w.heap.size + 1, 0, none⟩ = some (.int .u8 (y.v : Nat)) := hr1.cell 0
  have f4 : W0.cell? ⟨w.heap.size + 1, 1, none⟩ = some (.slice R2 y.R.length D2) := hr1.cell 1
  have f5 : W0.cell? ⟨w.heap.size + 1, 2, none⟩ = some (.int .u8 (y.b : Nat)) := hr1.cell 2
  have f6 := hr0.lt
  have f7 := hr1.lt
  clear hA hB hx hy hW0 hW1 hr0 hr1
  go_enter Tryd.func3, Tryd.ntmps3
  go_upto_region 1 with (fail)
  rw [← HW0E.out]
  clear HW0E
  go_wp2_with fail
  rw [← HW1E.out, HZ0.out]
  clear HW1E HZ0 f0 f1 f2 f3 f4 f5 f6 f7
  refine HMK.out.mono ?_
  rintro e w1 ⟨hb1, rfl | ⟨A1, A2, A3, C1, C2, C3, rfl, hok, ha, hr, hz⟩⟩
  · clear HMK
    go_wp2_with fail
    refine (l36awake_any _).mono ?_
    rintro e w2 ⟨rfl, hb2⟩
    have hbw := Below.then hb1 hb2 hb1.size
    clear hb1 hb2
    go_wp2
    go_ret
    exact ⟨rfl, hbw⟩
  have HB1 := Lib.hid hb1
  have HWR := Lib.hid (r36Wrong_any A2 A3 C2 C3 [x.ra, y.ra] w1 hr hz (by simp) (fun a ha => Nat.le_trans (LA.smalls (l := [x, y]) (fun c hc => by
    rcases List.mem_cons.1 hc with rfl | hc
    · exact hok.1
    · rw [List.mem_singleton.1 hc]; exact hok.2) a ha).vl (by omega)))
  change Hid (Calls Tryd.prog 6 #[.slice A2 2 C2, .slice A3 2 C3] w1 _) at HWR
  have HOK := Lib.hid hok
  have HA := Lib.hid ha
  clear HMK hb1 hok ha hr hz
  go_wp2_with fail
  refine HWR.out.mono ?_
  rintro e w2 ⟨rfl, hb2⟩
  have HB2 := Lib.hid (Below.then HB1.out hb2 HB1.out.size)
  have HA2 := Lib.hid (HA.out.upB hb2)
  clear hb2 HWR HA
  by_cases he : errC [x.ra, y.ra] = 0
  rotate_left
  · have hne : (errC [x.ra, y.ra] != 0) = true := by simpa using he
    clear he
    generalize errC [x.ra, y.ra] = code at *
    go_wp2_with fail
    refine (l36awake_any _).mono ?_
    rintro e w3 ⟨rfl, hb3⟩
    have HB3 := Lib.hid (Below.then HB2.out hb3 HB2.out.size)
    clear hb3
    go_wp2
    go_ret
    exact ⟨rfl, HB3.out⟩
  obtain ⟨xa, ya, hxy, ga, gb, hm, -⟩ := good_pair HOK.out.1 HOK.out.2 he
  rw [he]
  rw [hxy] at HA2
  obtain ⟨b, o, VA, VC, PA, PC, UA, UC, QA, QC, rfl, hbl, hcs, hv0, hv1⟩ := two_at HA2.out
  obtain ⟨J, hJ⟩ : ∃ J, J = joinR [xa, ya] := ⟨_, rfl⟩
  obtain ⟨ss, hss⟩ : ∃ ss, ss = (⟨xa.vs, semiF xa ya⟩ : At) := ⟨_, rfl⟩
  have HGJ : Hid (Gd J) := by rw [hJ]; exact joinR_gd2 ga gb hm
  have HS : Hid (∀ W, Below w2.heap.size w2 W → (W.cell? ⟨b, o, none⟩ = some (.slice VA xa.vs.length VC) ∧ W.cell? ⟨b, o + 1, none⟩ = some (.int .i64 (xa.vs.length : Nat)) ∧ W.cell? ⟨b, o + 2, none⟩ = some (.slice PA xa.P.length PC)) ∧ W.cell? ⟨b, o + 3, none⟩ = some (.slice UA ya.vs.length UC) ∧ W.cell? ⟨b, o + 3 + 1, none⟩ = some (.int .i64 (ya.vs.length : Nat)) ∧ W.cell? ⟨b, o + 3 + 2, none⟩ = some (.slice QA ya.P.length QC)) := fun W h => by
    have hc : ∀ i, W.cell? ⟨b, i, none⟩ = w2.cell? ⟨b, i, none⟩ := fun i => h.cell (p := ⟨b, i, none⟩) hbl
    rw [hc, hc, hc, hc, hc, hc]
    exact hcs
  have HJ1 : Hid (∀ W, Below w2.heap.size w2 W → Calls Tryd.prog 8 #[(.agg #[.slice VA xa.vs.length VC, .int .i64 (xa.vs.length : Nat), .slice PA xa.P.length PC]), (.agg #[.slice UA ya.vs.length UC, .int .i64 (ya.vs.length : Nat), .slice QA ya.P.length QC])] W (XPost W 0 J)) := fun W h => by rw [hJ]; exact joinX_any ga gb hm (hv0.up h) (hv1.up h)
  have HJ2 : Hid (∀ W, Below w2.heap.size w2 W → Calls Tryd.prog 8 #[(.agg #[.slice UA ya.vs.length UC, .int .i64 (ya.vs.length : Nat), .slice QA ya.P.length QC]), (.agg #[.slice VA xa.vs.length VC, .int .i64 (xa.vs.length : Nat), .slice PA xa.P.length PC])] W (XPost W 0 J)) := fun W h => by rw [hJ, ← join_comm ga gb]; exact joinX_any gb ga (by rw [join_comm ga gb]; exact hm) (hv1.up h) (hv0.up h)
  have HJ3 : Hid (∀ W, Below w2.heap.size w2 W → Calls Tryd.prog 9 #[(.agg #[.slice VA xa.vs.length VC, .int .i64 (xa.vs.length : Nat), .slice PA xa.P.length PC]), (.agg #[.slice UA ya.vs.length UC, .int .i64 (ya.vs.length : Nat), .slice QA ya.P.length QC])] W (XPost W 0 ss)) := fun W h => by rw [hss]; exact semiX_any ga gb (hv0.up h) (hv1.up h)
  have HJ4 : Hid (∀ W vc, Below w2.heap.size w2 W → AtV W vc ss → Calls Tryd.prog 8 #[vc, (.agg #[.slice UA ya.vs.length UC, .int .i64 (ya.vs.length : Nat), .slice QA ya.P.length QC])] W (XPost W 0 J)) := fun W vc h hc => by
    rw [hss] at hc
    rw [hJ, ← join_semi ga gb]
    exact joinX_any (ga.semi (b := ya)) gb (by rw [join_semi ga gb]; exact hm) hc (hv1.up h)
  have HBL := Lib.hid hbl
  clear hcs hv0 hv1 ga gb hm hxy he HA2 HOK hJ hss
  go_wp2_with fail
  go_upto_region 4 with (fail)
  go_cut [9, 10] from 35 to 44 (fun r e wx => ∃ g : Nat, r = .pointer (some ⟨g, 0, none⟩) ∧ e = .int .i64 (0) ∧ BoxA wx g (resA 0 J) ∧ Below w2.heap.size w2 wx)
  case first =>
    refine wp_region_held_drew (S := (fun w' => (w'.cell? ⟨b, o, none⟩ = some (.slice VA xa.vs.length VC) ∧ w'.cell? ⟨b, o + 1, none⟩ = some (.int .i64 (xa.vs.length : Nat)) ∧ w'.cell? ⟨b, o + 2, none⟩ = some (.slice PA xa.P.length PC)) ∧ w'.cell? ⟨b, o + 3, none⟩ = some (.slice UA ya.vs.length UC) ∧ w'.cell? ⟨b, o + 3 + 1, none⟩ = some (.int .i64 (ya.vs.length : Nat)) ∧ w'.cell? ⟨b, o + 3 + 2, none⟩ = some (.slice QA ya.P.length QC))) (by kernel_rfl) (HS.out w2.drew (Below.refl _ _).drew) (fun hHeld => ?_)
    obtain ⟨V0, hV0⟩ : ∃ V, V = w2.drew := ⟨_, rfl⟩
    have HV : Hid (Below w2.heap.size w2 V0) := by show Below _ _ _; rw [hV0]; exact (Below.refl _ _).drew
    rw [← hV0] at hHeld ⊢
    clear hV0
    refine takeOp (i := 0) (v := ?_) (some 36) rfl rfl (by kernel_rfl) (by kernel_rfl) (by kernel_rfl) (fun _ _ _ h => h) (Or.inl ⟨by rfl, ?_⟩) (by assumption) ?_
    rotate_left 1
    · (intro w0 hSw; (try dsimp only at hSw); go_simp; try (with_reducible rfl))
    try simp only [Act.put]
    try simp only [List.setIfInBounds_toArray]
    try simp only [List.set_cons_succ]
    try simp only [List.set_cons_zero]
    refine takeOp (i := 1) (v := ?_) (some 37) rfl rfl (by kernel_rfl) (by kernel_rfl) (by kernel_rfl) (fun _ _ _ h => h) (Or.inl ⟨by rfl, ?_⟩) (by assumption) ?_
    rotate_left 1
    · (intro w0 hSw; (try dsimp only at hSw); go_simp; try (with_reducible rfl))
    try simp only [Act.put]
    try simp only [List.setIfInBounds_toArray]
    try simp only [List.set_cons_succ]
    try simp only [List.set_cons_zero]
    refine takeOp (i := 2) (v := ?_) (some 38) rfl rfl (by kernel_rfl) (by kernel_rfl) (by kernel_rfl) (fun _ _ _ h => h) (Or.inl ⟨by rfl, ?_⟩) (by assumption) ?_
    rotate_left 1
    · (intro w0 hSw; (try dsimp only at hSw); go_simp; try (with_reducible rfl))
    try simp only [Act.put]
    try simp only [List.setIfInBounds_toArray]
    try simp only [List.set_cons_succ]
    try simp only [List.set_cons_zero]
    refine takeOp (i := 3) (v := ?_) (some 39) rfl rfl (by kernel_rfl) (by kernel_rfl) (by kernel_rfl) (fun _ _ _ h => h) (Or.inl ⟨by rfl, ?_⟩) (by assumption) ?_
    rotate_left 1
    · (intro w0 hSw; (try dsimp only at hSw); go_simp; try (with_reducible rfl))
    try simp only [Act.put]
    try simp only [List.setIfInBounds_toArray]
    try simp only [List.set_cons_succ]
    try simp only [List.set_cons_zero]
    refine takeOp (i := 4) (v := ?_) (some 40) rfl rfl (by kernel_rfl) (by kernel_rfl) (by kernel_rfl) (fun _ _ _ h => h) (Or.inl ⟨by rfl, ?_⟩) (by assumption) ?_
    rotate_left 1
    · (intro w0 hSw; (try dsimp only at hSw); go_simp; try (with_reducible rfl))
    try simp only [Act.put]
    try simp only [List.setIfInBounds_toArray]
    try simp only [List.set_cons_succ]
    try simp only [List.set_cons_zero]
    refine takeOp (i := 5) (v := ?_) (some 41) rfl rfl (by kernel_rfl) (by kernel_rfl) (by kernel_rfl) (fun _ _ _ h => h) (Or.inl ⟨by rfl, ?_⟩) (by assumption) ?_
    rotate_left 1
    · (intro w0 hSw; (try dsimp only at hSw); go_simp; try (with_reducible rfl))
    try simp only [Act.put]
    try simp only [List.setIfInBounds_toArray]
    try simp only [List.set_cons_succ]
    try simp only [List.set_cons_zero]
    refine wpAnyH_ready (rs := [6, 10]) (by kernel_rfl) (by simp) ?_
    refine (AllReadyH.cons rfl (fun K hK => ?_) (AllReadyH.cons rfl (fun K hK => ?_) AllReadyH.nil))
    · go_simp
      refine (HJ1.out V0 HV.out).mono ?_
      rintro e V1 hp
      obtain ⟨SA, SC, TA, TC, rfl, hat, hb⟩ := hp.one
      have HAT := Lib.hid hat
      have HVS : Hid (w2.heap.size ≤ V0.heap.size) := HV.out.size
      have HV := Lib.hid (Below.then HV.out hb HV.out.size)
      clear hat hb hp
      go_wp2_with fail
      refine hK.out _ _ (HS.out V1 HV.out) (fun hHeld => ?_)
      clear hK K
      try simp only [Act.put]
      try simp only [List.setIfInBounds_toArray]
      try simp only [List.set_cons_succ]
      try simp only [List.set_cons_zero]
      refine takeOp (i := 7) (v := ?_) (some 35) rfl rfl (by kernel_rfl) (by kernel_rfl) (by kernel_rfl) (fun _ _ _ h => h) (Or.inl ⟨by rfl, ?_⟩) (by assumption) ?_
      rotate_left 1
      · (intro w0 hSw; (try dsimp only at hSw); go_simp; try (with_reducible rfl))
      try simp only [Act.put]
      try simp only [List.setIfInBounds_toArray]
      try simp only [List.set_cons_succ]
      try simp only [List.set_cons_zero]
      refine takeOp (i := 8) (v := ?_) (some 43) rfl rfl (by kernel_rfl) (by kernel_rfl) (by kernel_rfl) (fun _ _ _ h => h) (Or.inl ⟨by rfl, ?_⟩) (by assumption) ?_
      rotate_left 1
      · (intro w0 hSw; (try dsimp only at hSw); go_simp; try (with_reducible rfl))
      try simp only [Act.put]
      try simp only [List.setIfInBounds_toArray]
      try simp only [List.set_cons_succ]
      try simp only [List.set_cons_zero]
      refine takeOp (i := 9) (v := ?_) (some 44) rfl rfl (by kernel_rfl) (by kernel_rfl) (by kernel_rfl) (fun _ _ _ h => h) (Or.inl ⟨by rfl, ?_⟩) (by assumption) ?_
      rotate_left 1
      · (intro w0 hSw; (try dsimp only at hSw); go_simp; try (with_reducible rfl))
      try simp only [Act.put]
      try simp only [List.setIfInBounds_toArray]
      try simp only [List.set_cons_succ]
      try simp only [List.set_cons_zero]
      refine wpAnyH_ready (rs := [10]) (by kernel_rfl) (by simp) ?_
      refine (AllReadyH.cons rfl (fun K hK => ?_) AllReadyH.nil)
      go_simp
      obtain ⟨V2, hV⟩ : ∃ V', V' = V1.alloc (.cells #[.slice none 0 0, .int .i64 0, .slice none 0 0] 37) := ⟨_, rfl⟩
      rw [← hV]
      have hx : Ext V1 V2 := by rw [hV]; exact (Ext.refl V1).alloc _
      obtain ⟨gb, hgb⟩ : ∃ gb, gb = V1.heap.size := ⟨_, rfl⟩
      have HG : Hid (Row V2 gb 37 [.slice none 0 0, .int .i64 0, .slice none 0 0]) := by show Row _ _ _ _; rw [hV, hgb]; exact Row.new V1 _ _
      have HGZ : Hid (w2.heap.size ≤ gb ∧ gb + 1 = V2.heap.size ∧ gb = V1.heap.size) := ⟨by rw [hgb]; exact HV.out.size, by rw [hV, hgb]; simp, hgb⟩
      have HAT := Lib.hid (HAT.out.keep (P' := fun c => c < gb) (fun p hp _ => hx.below.cell hp) hx.size fun b hb _ => by rw [hgb]; exact hb)
      have HV := Lib.hid (Below.then HV.out hx.below HV.out.size)
      rw [← hgb]
      clear hx hV hgb
      refine hK.out _ _ (HS.out V2 HV.out) (fun hHeld => ?_)
      clear hK K
      try simp only [Act.put]
      try simp only [List.setIfInBounds_toArray]
      try simp only [List.set_cons_succ]
      try simp only [List.set_cons_zero]
      refine wpAnyH_ready (rs := [11]) (by kernel_rfl) (by simp) ?_
      refine (AllReadyH.cons rfl (fun K hK => ?_) AllReadyH.nil)
      have m0 := HG.out.frozen 0
      have m1 := HG.out.frozen 1
      have m2 := HG.out.frozen 2
      have m3 := HG.out.lt
      have n0 : V2.cell? ⟨gb, 0, none⟩ = some (.slice none 0 0) := HG.out.cell 0
      have n1 : V2.cell? ⟨gb, 1, none⟩ = some (.int .i64 0) := HG.out.cell 1
      have n2 : V2.cell? ⟨gb, 2, none⟩ = some (.slice none 0 0) := HG.out.cell 2
      go_simp
      go_wp2_with fail
      obtain ⟨V3, hV⟩ : ∃ V', V' = ((V2.setCell ⟨gb, 0, none⟩ (.slice SA (resA 0 J).vs.length SC)).setCell ⟨gb, 1, none⟩ (.int .i64 ((resA 0 J).vs.length : Nat))).setCell ⟨gb, 2, none⟩ (.slice TA (resA 0 J).P.length TC) := ⟨_, rfl⟩
      rw [← hV]
      have HBX := Lib.hid (BoxA.put HG.out HAT.out (by show ¬ gb < gb; omega) hV)
      have hz := HGZ.out.1
      have HV : Hid (Below w2.heap.size w2 V3) := by show Below _ _ _; rw [hV]; exact ((HV.out.setCell (by show w2.heap.size ≤ gb; omega) _).setCell (by show w2.heap.size ≤ gb; omega) _).setCell (by show w2.heap.size ≤ gb; omega) _
      clear hV m0 m1 m2 m3 n0 n1 n2 hz
      refine hK.out _ _ (HS.out V3 HV.out) (fun hHeld => ?_)
      clear hK K
      try simp only [Act.put]
      try simp only [List.setIfInBounds_toArray]
      try simp only [List.set_cons_succ]
      try simp only [List.set_cons_zero]
      refine takeOp (i := 12) (v := ?_) (some 10) rfl rfl (by kernel_rfl) (by kernel_rfl) (by kernel_rfl) (fun _ _ _ h => h) (Or.inl ⟨by rfl, ?_⟩) (by assumption) ?_
      rotate_left 1
      · (intro w0 hSw; (try dsimp only at hSw); go_simp; try (with_reducible rfl))
      try simp only [Act.put]
      try simp only [List.setIfInBounds_toArray]
      try simp only [List.set_cons_succ]
      try simp only [List.set_cons_zero]
      refine wpAnyH_done (by kernel_rfl) ?_ _
      go_wp2_with fail
      go_meet
      case rel => exact ⟨gb, rfl, rfl, HBX.out, HV.out⟩
    · go_simp
      obtain ⟨V1, hV⟩ : ∃ V', V' = V0.alloc (.cells #[.slice none 0 0, .int .i64 0, .slice none 0 0] 37) := ⟨_, rfl⟩
      rw [← hV]
      have hx : Ext V0 V1 := by rw [hV]; exact (Ext.refl V0).alloc _
      obtain ⟨gb, hgb⟩ : ∃ gb, gb = V0.heap.size := ⟨_, rfl⟩
      have HG : Hid (Row V1 gb 37 [.slice none 0 0, .int .i64 0, .slice none 0 0]) := by show Row _ _ _ _; rw [hV, hgb]; exact Row.new V0 _ _
      have HGZ : Hid (w2.heap.size ≤ gb ∧ gb + 1 = V1.heap.size ∧ gb = V0.heap.size) := ⟨by rw [hgb]; exact HV.out.size, by rw [hV, hgb]; simp, hgb⟩
      have HV := Lib.hid (Below.then HV.out hx.below HV.out.size)
      rw [← hgb]
      clear hx hV hgb
      refine hK.out _ _ (HS.out V1 HV.out) (fun hHeld => ?_)
      clear hK K
      try simp only [Act.put]
      try simp only [List.setIfInBounds_toArray]
      try simp only [List.set_cons_succ]
      try simp only [List.set_cons_zero]
      refine wpAnyH_ready (rs := [6]) (by kernel_rfl) (by simp) ?_
      refine (AllReadyH.cons rfl (fun K hK => ?_) AllReadyH.nil)
      go_simp
      refine (HJ1.out V1 HV.out).mono ?_
      rintro e V2 hp
      obtain ⟨SA, SC, TA, TC, rfl, hat, hb⟩ := hp.one
      have HAT := Lib.hid hat
      have HVS : Hid (w2.heap.size ≤ V1.heap.size) := HV.out.size
      have HG := Lib.hid (HG.out.up hb)
      have HV := Lib.hid (Below.then HV.out hb HV.out.size)
      clear hat hb hp
      go_wp2_with fail
      refine hK.out _ _ (HS.out V2 HV.out) (fun hHeld => ?_)
      clear hK K
      try simp only [Act.put]
      try simp only [List.setIfInBounds_toArray]
      try simp only [List.set_cons_succ]
      try simp only [List.set_cons_zero]
      refine takeOp (i := 7) (v := ?_) (some 35) rfl rfl (by kernel_rfl) (by kernel_rfl) (by kernel_rfl) (fun _ _ _ h => h) (Or.inl ⟨by rfl, ?_⟩) (by assumption) ?_
      rotate_left 1
      · (intro w0 hSw; (try dsimp only at hSw); go_simp; try (with_reducible rfl))
      try simp only [Act.put]
      try simp only [List.setIfInBounds_toArray]
      try simp only [List.set_cons_succ]
      try simp only [List.set_cons_zero]
      refine takeOp (i := 8) (v := ?_) (some 43) rfl rfl (by kernel_rfl) (by kernel_rfl) (by kernel_rfl) (fun _ _ _ h => h) (Or.inl ⟨by rfl, ?_⟩) (by assumption) ?_
      rotate_left 1
      · (intro w0 hSw; (try dsimp only at hSw); go_simp; try (with_reducible rfl))
      try simp only [Act.put]
      try simp only [List.setIfInBounds_toArray]
      try simp only [List.set_cons_succ]
      try simp only [List.set_cons_zero]
      refine takeOp (i := 9) (v := ?_) (some 44) rfl rfl (by kernel_rfl) (by kernel_rfl) (by kernel_rfl) (fun _ _ _ h => h) (Or.inl ⟨by rfl, ?_⟩) (by assumption) ?_
      rotate_left 1
      · (intro w0 hSw; (try dsimp only at hSw); go_simp; try (with_reducible rfl))
      try simp only [Act.put]
      try simp only [List.setIfInBounds_toArray]
      try simp only [List.set_cons_succ]
      try simp only [List.set_cons_zero]
      refine wpAnyH_ready (rs := [11]) (by kernel_rfl) (by simp) ?_
      refine (AllReadyH.cons rfl (fun K hK => ?_) AllReadyH.nil)
      have m0 := HG.out.frozen 0
      have m1 := HG.out.frozen 1
      have m2 := HG.out.frozen 2
      have m3 := HG.out.lt
      have n0 : V2.cell? ⟨gb, 0, none⟩ = some (.slice none 0 0) := HG.out.cell 0
      have n1 : V2.cell? ⟨gb, 1, none⟩ = some (.int .i64 0) := HG.out.cell 1
      have n2 : V2.cell? ⟨gb, 2, none⟩ = some (.slice none 0 0) := HG.out.cell 2
      go_simp
      go_wp2_with fail
      obtain ⟨V3, hV⟩ : ∃ V', V' = ((V2.setCell ⟨gb, 0, none⟩ (.slice SA (resA 0 J).vs.length SC)).setCell ⟨gb, 1, none⟩ (.int .i64 ((resA 0 J).vs.length : Nat))).setCell ⟨gb, 2, none⟩ (.slice TA (resA 0 J).P.length TC) := ⟨_, rfl⟩
      rw [← hV]
      have HBX := Lib.hid (BoxA.put HG.out HAT.out (by have := HGZ.out; show ¬ _ + 3 ≤ gb; omega) hV)
      have hz := HGZ.out.1
      have HV : Hid (Below w2.heap.size w2 V3) := by show Below _ _ _; rw [hV]; exact ((HV.out.setCell (by show w2.heap.size ≤ gb; omega) _).setCell (by show w2.heap.size ≤ gb; omega) _).setCell (by show w2.heap.size ≤ gb; omega) _
      clear hV m0 m1 m2 m3 n0 n1 n2 hz
      refine hK.out _ _ (HS.out V3 HV.out) (fun hHeld => ?_)
      clear hK K
      try simp only [Act.put]
      try simp only [List.setIfInBounds_toArray]
      try simp only [List.set_cons_succ]
      try simp only [List.set_cons_zero]
      refine takeOp (i := 12) (v := ?_) (some 10) rfl rfl (by kernel_rfl) (by kernel_rfl) (by kernel_rfl) (fun _ _ _ h => h) (Or.inl ⟨by rfl, ?_⟩) (by assumption) ?_
      rotate_left 1
      · (intro w0 hSw; (try dsimp only at hSw); go_simp; try (with_reducible rfl))
      try simp only [Act.put]
      try simp only [List.setIfInBounds_toArray]
      try simp only [List.set_cons_succ]
      try simp only [List.set_cons_zero]
      refine wpAnyH_done (by kernel_rfl) ?_ _
      go_wp2_with fail
      go_meet
      case rel => exact ⟨gb, rfl, rfl, HBX.out, HV.out⟩
  case rest =>
    obtain ⟨g9, rfl, rfl, hbx, hbw⟩ := hcut
    generalize wc = wA at *
    have HBX9 := Lib.hid hbx.res
    have HBA := Lib.hid hbw
    have HSA : Hid (∀ W, Below wA.heap.size wA W → (W.cell? ⟨b, o, none⟩ = some (.slice VA xa.vs.length VC) ∧ W.cell? ⟨b, o + 1, none⟩ = some (.int .i64 (xa.vs.length : Nat)) ∧ W.cell? ⟨b, o + 2, none⟩ = some (.slice PA xa.P.length PC)) ∧ W.cell? ⟨b, o + 3, none⟩ = some (.slice UA ya.vs.length UC) ∧ W.cell? ⟨b, o + 3 + 1, none⟩ = some (.int .i64 (ya.vs.length : Nat)) ∧ W.cell? ⟨b, o + 3 + 2, none⟩ = some (.slice QA ya.P.length QC)) := fun W h => HS.out W (Below.then HBA.out h HBA.out.size)
    have HJA := Lib.hid (fun W (h : Below wA.heap.size wA W) => HJ2.out W (Below.then HBA.out h HBA.out.size))
    have hbl : b < wA.heap.size := Nat.lt_of_lt_of_le HBL.out HBA.out.size
    clear hbx hbw
    go_wp2_with fail
    go_upto_region 5 with (fail)
    go_cut [11, 12] from 45 to 54 (fun r e wx => ∃ g : Nat, r = .pointer (some ⟨g, 0, none⟩) ∧ e = .int .i64 (0) ∧ BoxA wx g (resA 0 J) ∧ Below wA.heap.size wA wx)
    case first =>
      refine wp_region_held_drew (S := (fun w' => (w'.cell? ⟨b, o, none⟩ = some (.slice VA xa.vs.length VC) ∧ w'.cell? ⟨b, o + 1, none⟩ = some (.int .i64 (xa.vs.length : Nat)) ∧ w'.cell? ⟨b, o + 2, none⟩ = some (.slice PA xa.P.length PC)) ∧ w'.cell? ⟨b, o + 3, none⟩ = some (.slice UA ya.vs.length UC) ∧ w'.cell? ⟨b, o + 3 + 1, none⟩ = some (.int .i64 (ya.vs.length : Nat)) ∧ w'.cell? ⟨b, o + 3 + 2, none⟩ = some (.slice QA ya.P.length QC))) (by kernel_rfl) (HSA.out wA.drew (Below.refl _ _).drew) (fun hHeld => ?_)
      obtain ⟨V0, hV0⟩ : ∃ V, V = wA.drew := ⟨_, rfl⟩
      have HV : Hid (Below wA.heap.size wA V0) := by show Below _ _ _; rw [hV0]; exact (Below.refl _ _).drew
      rw [← hV0] at hHeld ⊢
      clear hV0
      refine takeOp (i := 0) (v := ?_) (some 46) rfl rfl (by kernel_rfl) (by kernel_rfl) (by kernel_rfl) (fun _ _ _ h => h) (Or.inl ⟨by rfl, ?_⟩) (by assumption) ?_
      rotate_left 1
      · (intro w0 hSw; (try dsimp only at hSw); go_simp; try (with_reducible rfl))
      try simp only [Act.put]
      try simp only [List.setIfInBounds_toArray]
      try simp only [List.set_cons_succ]
      try simp only [List.set_cons_zero]
      refine takeOp (i := 1) (v := ?_) (some 47) rfl rfl (by kernel_rfl) (by kernel_rfl) (by kernel_rfl) (fun _ _ _ h => h) (Or.inl ⟨by rfl, ?_⟩) (by assumption) ?_
      rotate_left 1
      · (intro w0 hSw; (try dsimp only at hSw); go_simp; try (with_reducible rfl))
      try simp only [Act.put]
      try simp only [List.setIfInBounds_toArray]
      try simp only [List.set_cons_succ]
      try simp only [List.set_cons_zero]
      refine takeOp (i := 2) (v := ?_) (some 48) rfl rfl (by kernel_rfl) (by kernel_rfl) (by kernel_rfl) (fun _ _ _ h => h) (Or.inl ⟨by rfl, ?_⟩) (by assumption) ?_
      rotate_left 1
      · (intro w0 hSw; (try dsimp only at hSw); go_simp; try (with_reducible rfl))
      try simp only [Act.put]
      try simp only [List.setIfInBounds_toArray]
      try simp only [List.set_cons_succ]
      try simp only [List.set_cons_zero]
      refine takeOp (i := 3) (v := ?_) (some 49) rfl rfl (by kernel_rfl) (by kernel_rfl) (by kernel_rfl) (fun _ _ _ h => h) (Or.inl ⟨by rfl, ?_⟩) (by assumption) ?_
      rotate_left 1
      · (intro w0 hSw; (try dsimp only at hSw); go_simp; try (with_reducible rfl))
      try simp only [Act.put]
      try simp only [List.setIfInBounds_toArray]
      try simp only [List.set_cons_succ]
      try simp only [List.set_cons_zero]
      refine takeOp (i := 4) (v := ?_) (some 50) rfl rfl (by kernel_rfl) (by kernel_rfl) (by kernel_rfl) (fun _ _ _ h => h) (Or.inl ⟨by rfl, ?_⟩) (by assumption) ?_
      rotate_left 1
      · (intro w0 hSw; (try dsimp only at hSw); go_simp; try (with_reducible rfl))
      try simp only [Act.put]
      try simp only [List.setIfInBounds_toArray]
      try simp only [List.set_cons_succ]
      try simp only [List.set_cons_zero]
      refine takeOp (i := 5) (v := ?_) (some 51) rfl rfl (by kernel_rfl) (by kernel_rfl) (by kernel_rfl) (fun _ _ _ h => h) (Or.inl ⟨by rfl, ?_⟩) (by assumption) ?_
      rotate_left 1
      · (intro w0 hSw; (try dsimp only at hSw); go_simp; try (with_reducible rfl))
      try simp only [Act.put]
      try simp only [List.setIfInBounds_toArray]
      try simp only [List.set_cons_succ]
      try simp only [List.set_cons_zero]
      refine wpAnyH_ready (rs := [6, 10]) (by kernel_rfl) (by simp) ?_
      refine (AllReadyH.cons rfl (fun K hK => ?_) (AllReadyH.cons rfl (fun K hK => ?_) AllReadyH.nil))
      · go_simp
        refine (HJA.out V0 HV.out).mono ?_
        rintro e V1 hp
        obtain ⟨SA, SC, TA, TC, rfl, hat, hb⟩ := hp.one
        have HAT := Lib.hid hat
        have HVS : Hid (wA.heap.size ≤ V0.heap.size) := HV.out.size
        have HV := Lib.hid (Below.then HV.out hb HV.out.size)
        clear hat hb hp
        go_wp2_with fail
        refine hK.out _ _ (HSA.out V1 HV.out) (fun hHeld => ?_)
        clear hK K
        try simp only [Act.put]
        try simp only [List.setIfInBounds_toArray]
        try simp only [List.set_cons_succ]
        try simp only [List.set_cons_zero]
        refine takeOp (i := 7) (v := ?_) (some 45) rfl rfl (by kernel_rfl) (by kernel_rfl) (by kernel_rfl) (fun _ _ _ h => h) (Or.inl ⟨by rfl, ?_⟩) (by assumption) ?_
        rotate_left 1
        · (intro w0 hSw; (try dsimp only at hSw); go_simp; try (with_reducible rfl))
        try simp only [Act.put]
        try simp only [List.setIfInBounds_toArray]
        try simp only [List.set_cons_succ]
        try simp only [List.set_cons_zero]
        refine takeOp (i := 8) (v := ?_) (some 53) rfl rfl (by kernel_rfl) (by kernel_rfl) (by kernel_rfl) (fun _ _ _ h => h) (Or.inl ⟨by rfl, ?_⟩) (by assumption) ?_
        rotate_left 1
        · (intro w0 hSw; (try dsimp only at hSw); go_simp; try (with_reducible rfl))
        try simp only [Act.put]
        try simp only [List.setIfInBounds_toArray]
        try simp only [List.set_cons_succ]
        try simp only [List.set_cons_zero]
        refine takeOp (i := 9) (v := ?_) (some 54) rfl rfl (by kernel_rfl) (by kernel_rfl) (by kernel_rfl) (fun _ _ _ h => h) (Or.inl ⟨by rfl, ?_⟩) (by assumption) ?_
        rotate_left 1
        · (intro w0 hSw; (try dsimp only at hSw); go_simp; try (with_reducible rfl))
        try simp only [Act.put]
        try simp only [List.setIfInBounds_toArray]
        try simp only [List.set_cons_succ]
        try simp only [List.set_cons_zero]
        refine wpAnyH_ready (rs := [10]) (by kernel_rfl) (by simp) ?_
        refine (AllReadyH.cons rfl (fun K hK => ?_) AllReadyH.nil)
        go_simp
        obtain ⟨V2, hV⟩ : ∃ V', V' = V1.alloc (.cells #[.slice none 0 0, .int .i64 0, .slice none 0 0] 37) := ⟨_, rfl⟩
        rw [← hV]
        have hx : Ext V1 V2 := by rw [hV]; exact (Ext.refl V1).alloc _
        obtain ⟨gb, hgb⟩ : ∃ gb, gb = V1.heap.size := ⟨_, rfl⟩
        have HG : Hid (Row V2 gb 37 [.slice none 0 0, .int .i64 0, .slice none 0 0]) := by show Row _ _ _ _; rw [hV, hgb]; exact Row.new V1 _ _
        have HGZ : Hid (wA.heap.size ≤ gb ∧ gb + 1 = V2.heap.size ∧ gb = V1.heap.size) := ⟨by rw [hgb]; exact HV.out.size, by rw [hV, hgb]; simp, hgb⟩
        have HAT := Lib.hid (HAT.out.keep (P' := fun c => c < gb) (fun p hp _ => hx.below.cell hp) hx.size fun b hb _ => by rw [hgb]; exact hb)
        have HV := Lib.hid (Below.then HV.out hx.below HV.out.size)
        rw [← hgb]
        clear hx hV hgb
        refine hK.out _ _ (HSA.out V2 HV.out) (fun hHeld => ?_)
        clear hK K
        try simp only [Act.put]
        try simp only [List.setIfInBounds_toArray]
        try simp only [List.set_cons_succ]
        try simp only [List.set_cons_zero]
        refine wpAnyH_ready (rs := [11]) (by kernel_rfl) (by simp) ?_
        refine (AllReadyH.cons rfl (fun K hK => ?_) AllReadyH.nil)
        have m0 := HG.out.frozen 0
        have m1 := HG.out.frozen 1
        have m2 := HG.out.frozen 2
        have m3 := HG.out.lt
        have n0 : V2.cell? ⟨gb, 0, none⟩ = some (.slice none 0 0) := HG.out.cell 0
        have n1 : V2.cell? ⟨gb, 1, none⟩ = some (.int .i64 0) := HG.out.cell 1
        have n2 : V2.cell? ⟨gb, 2, none⟩ = some (.slice none 0 0) := HG.out.cell 2
        go_simp
        go_wp2_with fail
        obtain ⟨V3, hV⟩ : ∃ V', V' = ((V2.setCell ⟨gb, 0, none⟩ (.slice SA (resA 0 J).vs.length SC)).setCell ⟨gb, 1, none⟩ (.int .i64 ((resA 0 J).vs.length : Nat))).setCell ⟨gb, 2, none⟩ (.slice TA (resA 0 J).P.length TC) := ⟨_, rfl⟩
        rw [← hV]
        have HBX := Lib.hid (BoxA.put HG.out HAT.out (by show ¬ gb < gb; omega) hV)
        have hz := HGZ.out.1
        have HV : Hid (Below wA.heap.size wA V3) := by show Below _ _ _; rw [hV]; exact ((HV.out.setCell (by show wA.heap.size ≤ gb; omega) _).setCell (by show wA.heap.size ≤ gb; omega) _).setCell (by show wA.heap.size ≤ gb; omega) _
        clear hV m0 m1 m2 m3 n0 n1 n2 hz
        refine hK.out _ _ (HSA.out V3 HV.out) (fun hHeld => ?_)
        clear hK K
        try simp only [Act.put]
        try simp only [List.setIfInBounds_toArray]
        try simp only [List.set_cons_succ]
        try simp only [List.set_cons_zero]
        refine takeOp (i := 12) (v := ?_) (some 12) rfl rfl (by kernel_rfl) (by kernel_rfl) (by kernel_rfl) (fun _ _ _ h => h) (Or.inl ⟨by rfl, ?_⟩) (by assumption) ?_
        rotate_left 1
        · (intro w0 hSw; (try dsimp only at hSw); go_simp; try (with_reducible rfl))
        try simp only [Act.put]
        try simp only [List.setIfInBounds_toArray]
        try simp only [List.set_cons_succ]
        try simp only [List.set_cons_zero]
        refine wpAnyH_done (by kernel_rfl) ?_ _
        go_wp2_with fail
        go_meet
        case rel => exact ⟨gb, rfl, rfl, HBX.out, HV.out⟩
      · go_simp
        obtain ⟨V1, hV⟩ : ∃ V', V' = V0.alloc (.cells #[.slice none 0 0, .int .i64 0, .slice none 0 0] 37) := ⟨_, rfl⟩
        rw [← hV]
        have hx : Ext V0 V1 := by rw [hV]; exact (Ext.refl V0).alloc _
        obtain ⟨gb, hgb⟩ : ∃ gb, gb = V0.heap.size := ⟨_, rfl⟩
        have HG : Hid (Row V1 gb 37 [.slice none 0 0, .int .i64 0, .slice none 0 0]) := by show Row _ _ _ _; rw [hV, hgb]; exact Row.new V0 _ _
        have HGZ : Hid (wA.heap.size ≤ gb ∧ gb + 1 = V1.heap.size ∧ gb = V0.heap.size) := ⟨by rw [hgb]; exact HV.out.size, by rw [hV, hgb]; simp, hgb⟩
        have HV := Lib.hid (Below.then HV.out hx.below HV.out.size)
        rw [← hgb]
        clear hx hV hgb
        refine hK.out _ _ (HSA.out V1 HV.out) (fun hHeld => ?_)
        clear hK K
        try simp only [Act.put]
        try simp only [List.setIfInBounds_toArray]
        try simp only [List.set_cons_succ]
        try simp only [List.set_cons_zero]
        refine wpAnyH_ready (rs := [6]) (by kernel_rfl) (by simp) ?_
        refine (AllReadyH.cons rfl (fun K hK => ?_) AllReadyH.nil)
        go_simp
        refine (HJA.out V1 HV.out).mono ?_
        rintro e V2 hp
        obtain ⟨SA, SC, TA, TC, rfl, hat, hb⟩ := hp.one
        have HAT := Lib.hid hat
        have HVS : Hid (wA.heap.size ≤ V1.heap.size) := HV.out.size
        have HG := Lib.hid (HG.out.up hb)
        have HV := Lib.hid (Below.then HV.out hb HV.out.size)
        clear hat hb hp
        go_wp2_with fail
        refine hK.out _ _ (HSA.out V2 HV.out) (fun hHeld => ?_)
        clear hK K
        try simp only [Act.put]
        try simp only [List.setIfInBounds_toArray]
        try simp only [List.set_cons_succ]
        try simp only [List.set_cons_zero]
        refine takeOp (i := 7) (v := ?_) (some 45) rfl rfl (by kernel_rfl) (by kernel_rfl) (by kernel_rfl) (fun _ _ _ h => h) (Or.inl ⟨by rfl, ?_⟩) (by assumption) ?_
        rotate_left 1
        · (intro w0 hSw; (try dsimp only at hSw); go_simp; try (with_reducible rfl))
        try simp only [Act.put]
        try simp only [List.setIfInBounds_toArray]
        try simp only [List.set_cons_succ]
        try simp only [List.set_cons_zero]
        refine takeOp (i := 8) (v := ?_) (some 53) rfl rfl (by kernel_rfl) (by kernel_rfl) (by kernel_rfl) (fun _ _ _ h => h) (Or.inl ⟨by rfl, ?_⟩) (by assumption) ?_
        rotate_left 1
        · (intro w0 hSw; (try dsimp only at hSw); go_simp; try (with_reducible rfl))
        try simp only [Act.put]
        try simp only [List.setIfInBounds_toArray]
        try simp only [List.set_cons_succ]
        try simp only [List.set_cons_zero]
        refine takeOp (i := 9) (v := ?_) (some 54) rfl rfl (by kernel_rfl) (by kernel_rfl) (by kernel_rfl) (fun _ _ _ h => h) (Or.inl ⟨by rfl, ?_⟩) (by assumption) ?_
        rotate_left 1
        · (intro w0 hSw; (try dsimp only at hSw); go_simp; try (with_reducible rfl))
        try simp only [Act.put]
        try simp only [List.setIfInBounds_toArray]
        try simp only [List.set_cons_succ]
        try simp only [List.set_cons_zero]
        refine wpAnyH_ready (rs := [11]) (by kernel_rfl) (by simp) ?_
        refine (AllReadyH.cons rfl (fun K hK => ?_) AllReadyH.nil)
        have m0 := HG.out.frozen 0
        have m1 := HG.out.frozen 1
        have m2 := HG.out.frozen 2
        have m3 := HG.out.lt
        have n0 : V2.cell? ⟨gb, 0, none⟩ = some (.slice none 0 0) := HG.out.cell 0
        have n1 : V2.cell? ⟨gb, 1, none⟩ = some (.int .i64 0) := HG.out.cell 1
        have n2 : V2.cell? ⟨gb, 2, none⟩ = some (.slice none 0 0) := HG.out.cell 2
        go_simp
        go_wp2_with fail
        obtain ⟨V3, hV⟩ : ∃ V', V' = ((V2.setCell ⟨gb, 0, none⟩ (.slice SA (resA 0 J).vs.length SC)).setCell ⟨gb, 1, none⟩ (.int .i64 ((resA 0 J).vs.length : Nat))).setCell ⟨gb, 2, none⟩ (.slice TA (resA 0 J).P.length TC) := ⟨_, rfl⟩
        rw [← hV]
        have HBX := Lib.hid (BoxA.put HG.out HAT.out (by have := HGZ.out; show ¬ _ + 3 ≤ gb; omega) hV)
        have hz := HGZ.out.1
        have HV : Hid (Below wA.heap.size wA V3) := by show Below _ _ _; rw [hV]; exact ((HV.out.setCell (by show wA.heap.size ≤ gb; omega) _).setCell (by show wA.heap.size ≤ gb; omega) _).setCell (by show wA.heap.size ≤ gb; omega) _
        clear hV m0 m1 m2 m3 n0 n1 n2 hz
        refine hK.out _ _ (HSA.out V3 HV.out) (fun hHeld => ?_)
        clear hK K
        try simp only [Act.put]
        try simp only [List.setIfInBounds_toArray]
        try simp only [List.set_cons_succ]
        try simp only [List.set_cons_zero]
        refine takeOp (i := 12) (v := ?_) (some 12) rfl rfl (by kernel_rfl) (by kernel_rfl) (by kernel_rfl) (fun _ _ _ h => h) (Or.inl ⟨by rfl, ?_⟩) (by assumption) ?_
        rotate_left 1
        · (intro w0 hSw; (try dsimp only at hSw); go_simp; try (with_reducible rfl))
        try simp only [Act.put]
        try simp only [List.setIfInBounds_toArray]
        try simp only [List.set_cons_succ]
        try simp only [List.set_cons_zero]
        refine wpAnyH_done (by kernel_rfl) ?_ _
        go_wp2_with fail
        go_meet
        case rel => exact ⟨gb, rfl, rfl, HBX.out, HV.out⟩
    case rest =>
      obtain ⟨g11, rfl, rfl, hbx, hbw⟩ := hcut
      generalize wc = wB at *
      have HBX11 := Lib.hid hbx.res
      have HBX92 := Lib.hid (HBX9.out.up hbw)
      have HBB : Hid (Below w2.heap.size w2 wB) := Below.then HBA.out hbw HBA.out.size
      have HSB : Hid (∀ W, Below wB.heap.size wB W → (W.cell? ⟨b, o, none⟩ = some (.slice VA xa.vs.length VC) ∧ W.cell? ⟨b, o + 1, none⟩ = some (.int .i64 (xa.vs.length : Nat)) ∧ W.cell? ⟨b, o + 2, none⟩ = some (.slice PA xa.P.length PC)) ∧ W.cell? ⟨b, o + 3, none⟩ = some (.slice UA ya.vs.length UC) ∧ W.cell? ⟨b, o + 3 + 1, none⟩ = some (.int .i64 (ya.vs.length : Nat)) ∧ W.cell? ⟨b, o + 3 + 2, none⟩ = some (.slice QA ya.P.length QC)) := fun W h => HS.out W (Below.then HBB.out h HBB.out.size)
      have HJB := Lib.hid (fun W (h : Below wB.heap.size wB W) => HJ3.out W (Below.then HBB.out h HBB.out.size))
      have hbl : b < wB.heap.size := Nat.lt_of_lt_of_le HBL.out HBB.out.size
      clear hbx hbw HSA HJA HBX9
      go_wp2_with fail
      go_upto_region 6 with (fail)
      go_cut [13, 14] from 55 to 64 (fun r e wx => ∃ g : Nat, r = .pointer (some ⟨g, 0, none⟩) ∧ e = .int .i64 (0) ∧ BoxA wx g (resA 0 ss) ∧ Below wB.heap.size wB wx)
      case first =>
        refine wp_region_held_drew (S := (fun w' => (w'.cell? ⟨b, o, none⟩ = some (.slice VA xa.vs.length VC) ∧ w'.cell? ⟨b, o + 1, none⟩ = some (.int .i64 (xa.vs.length : Nat)) ∧ w'.cell? ⟨b, o + 2, none⟩ = some (.slice PA xa.P.length PC)) ∧ w'.cell? ⟨b, o + 3, none⟩ = some (.slice UA ya.vs.length UC) ∧ w'.cell? ⟨b, o + 3 + 1, none⟩ = some (.int .i64 (ya.vs.length : Nat)) ∧ w'.cell? ⟨b, o + 3 + 2, none⟩ = some (.slice QA ya.P.length QC))) (by kernel_rfl) (HSB.out wB.drew (Below.refl _ _).drew) (fun hHeld => ?_)
        obtain ⟨V0, hV0⟩ : ∃ V, V = wB.drew := ⟨_, rfl⟩
        have HV : Hid (Below wB.heap.size wB V0) := by show Below _ _ _; rw [hV0]; exact (Below.refl _ _).drew
        rw [← hV0] at hHeld ⊢
        clear hV0
        refine takeOp (i := 0) (v := ?_) (some 56) rfl rfl (by kernel_rfl) (by kernel_rfl) (by kernel_rfl) (fun _ _ _ h => h) (Or.inl ⟨by rfl, ?_⟩) (by assumption) ?_
        rotate_left 1
        · (intro w0 hSw; (try dsimp only at hSw); go_simp; try (with_reducible rfl))
        try simp only [Act.put]
        try simp only [List.setIfInBounds_toArray]
        try simp only [List.set_cons_succ]
        try simp only [List.set_cons_zero]
        refine takeOp (i := 1) (v := ?_) (some 57) rfl rfl (by kernel_rfl) (by kernel_rfl) (by kernel_rfl) (fun _ _ _ h => h) (Or.inl ⟨by rfl, ?_⟩) (by assumption) ?_
        rotate_left 1
        · (intro w0 hSw; (try dsimp only at hSw); go_simp; try (with_reducible rfl))
        try simp only [Act.put]
        try simp only [List.setIfInBounds_toArray]
        try simp only [List.set_cons_succ]
        try simp only [List.set_cons_zero]
        refine takeOp (i := 2) (v := ?_) (some 58) rfl rfl (by kernel_rfl) (by kernel_rfl) (by kernel_rfl) (fun _ _ _ h => h) (Or.inl ⟨by rfl, ?_⟩) (by assumption) ?_
        rotate_left 1
        · (intro w0 hSw; (try dsimp only at hSw); go_simp; try (with_reducible rfl))
        try simp only [Act.put]
        try simp only [List.setIfInBounds_toArray]
        try simp only [List.set_cons_succ]
        try simp only [List.set_cons_zero]
        refine takeOp (i := 3) (v := ?_) (some 59) rfl rfl (by kernel_rfl) (by kernel_rfl) (by kernel_rfl) (fun _ _ _ h => h) (Or.inl ⟨by rfl, ?_⟩) (by assumption) ?_
        rotate_left 1
        · (intro w0 hSw; (try dsimp only at hSw); go_simp; try (with_reducible rfl))
        try simp only [Act.put]
        try simp only [List.setIfInBounds_toArray]
        try simp only [List.set_cons_succ]
        try simp only [List.set_cons_zero]
        refine takeOp (i := 4) (v := ?_) (some 60) rfl rfl (by kernel_rfl) (by kernel_rfl) (by kernel_rfl) (fun _ _ _ h => h) (Or.inl ⟨by rfl, ?_⟩) (by assumption) ?_
        rotate_left 1
        · (intro w0 hSw; (try dsimp only at hSw); go_simp; try (with_reducible rfl))
        try simp only [Act.put]
        try simp only [List.setIfInBounds_toArray]
        try simp only [List.set_cons_succ]
        try simp only [List.set_cons_zero]
        refine takeOp (i := 5) (v := ?_) (some 61) rfl rfl (by kernel_rfl) (by kernel_rfl) (by kernel_rfl) (fun _ _ _ h => h) (Or.inl ⟨by rfl, ?_⟩) (by assumption) ?_
        rotate_left 1
        · (intro w0 hSw; (try dsimp only at hSw); go_simp; try (with_reducible rfl))
        try simp only [Act.put]
        try simp only [List.setIfInBounds_toArray]
        try simp only [List.set_cons_succ]
        try simp only [List.set_cons_zero]
        refine wpAnyH_ready (rs := [6, 10]) (by kernel_rfl) (by simp) ?_
        refine (AllReadyH.cons rfl (fun K hK => ?_) (AllReadyH.cons rfl (fun K hK => ?_) AllReadyH.nil))
        · go_simp
          refine (HJB.out V0 HV.out).mono ?_
          rintro e V1 hp
          obtain ⟨SA, SC, TA, TC, rfl, hat, hb⟩ := hp.one
          have HAT := Lib.hid hat
          have HVS : Hid (wB.heap.size ≤ V0.heap.size) := HV.out.size
          have HV := Lib.hid (Below.then HV.out hb HV.out.size)
          clear hat hb hp
          go_wp2_with fail
          refine hK.out _ _ (HSB.out V1 HV.out) (fun hHeld => ?_)
          clear hK K
          try simp only [Act.put]
          try simp only [List.setIfInBounds_toArray]
          try simp only [List.set_cons_succ]
          try simp only [List.set_cons_zero]
          refine takeOp (i := 7) (v := ?_) (some 55) rfl rfl (by kernel_rfl) (by kernel_rfl) (by kernel_rfl) (fun _ _ _ h => h) (Or.inl ⟨by rfl, ?_⟩) (by assumption) ?_
          rotate_left 1
          · (intro w0 hSw; (try dsimp only at hSw); go_simp; try (with_reducible rfl))
          try simp only [Act.put]
          try simp only [List.setIfInBounds_toArray]
          try simp only [List.set_cons_succ]
          try simp only [List.set_cons_zero]
          refine takeOp (i := 8) (v := ?_) (some 63) rfl rfl (by kernel_rfl) (by kernel_rfl) (by kernel_rfl) (fun _ _ _ h => h) (Or.inl ⟨by rfl, ?_⟩) (by assumption) ?_
          rotate_left 1
          · (intro w0 hSw; (try dsimp only at hSw); go_simp; try (with_reducible rfl))
          try simp only [Act.put]
          try simp only [List.setIfInBounds_toArray]
          try simp only [List.set_cons_succ]
          try simp only [List.set_cons_zero]
          refine takeOp (i := 9) (v := ?_) (some 64) rfl rfl (by kernel_rfl) (by kernel_rfl) (by kernel_rfl) (fun _ _ _ h => h) (Or.inl ⟨by rfl, ?_⟩) (by assumption) ?_
          rotate_left 1
          · (intro w0 hSw; (try dsimp only at hSw); go_simp; try (with_reducible rfl))
          try simp only [Act.put]
          try simp only [List.setIfInBounds_toArray]
          try simp only [List.set_cons_succ]
          try simp only [List.set_cons_zero]
          refine wpAnyH_ready (rs := [10]) (by kernel_rfl) (by simp) ?_
          refine (AllReadyH.cons rfl (fun K hK => ?_) AllReadyH.nil)
          go_simp
          obtain ⟨V2, hV⟩ : ∃ V', V' = V1.alloc (.cells #[.slice none 0 0, .int .i64 0, .slice none 0 0] 37) := ⟨_, rfl⟩
          rw [← hV]
          have hx : Ext V1 V2 := by rw [hV]; exact (Ext.refl V1).alloc _
          obtain ⟨gb, hgb⟩ : ∃ gb, gb = V1.heap.size := ⟨_, rfl⟩
          have HG : Hid (Row V2 gb 37 [.slice none 0 0, .int .i64 0, .slice none 0 0]) := by show Row _ _ _ _; rw [hV, hgb]; exact Row.new V1 _ _
          have HGZ : Hid (wB.heap.size ≤ gb ∧ gb + 1 = V2.heap.size ∧ gb = V1.heap.size) := ⟨by rw [hgb]; exact HV.out.size, by rw [hV, hgb]; simp, hgb⟩
          have HAT := Lib.hid (HAT.out.keep (P' := fun c => c < gb) (fun p hp _ => hx.below.cell hp) hx.size fun b hb _ => by rw [hgb]; exact hb)
          have HV := Lib.hid (Below.then HV.out hx.below HV.out.size)
          rw [← hgb]
          clear hx hV hgb
          refine hK.out _ _ (HSB.out V2 HV.out) (fun hHeld => ?_)
          clear hK K
          try simp only [Act.put]
          try simp only [List.setIfInBounds_toArray]
          try simp only [List.set_cons_succ]
          try simp only [List.set_cons_zero]
          refine wpAnyH_ready (rs := [11]) (by kernel_rfl) (by simp) ?_
          refine (AllReadyH.cons rfl (fun K hK => ?_) AllReadyH.nil)
          have m0 := HG.out.frozen 0
          have m1 := HG.out.frozen 1
          have m2 := HG.out.frozen 2
          have m3 := HG.out.lt
          have n0 : V2.cell? ⟨gb, 0, none⟩ = some (.slice none 0 0) := HG.out.cell 0
          have n1 : V2.cell? ⟨gb, 1, none⟩ = some (.int .i64 0) := HG.out.cell 1
          have n2 : V2.cell? ⟨gb, 2, none⟩ = some (.slice none 0 0) := HG.out.cell 2
          go_simp
          go_wp2_with fail
          obtain ⟨V3, hV⟩ : ∃ V', V' = ((V2.setCell ⟨gb, 0, none⟩ (.slice SA (resA 0 ss).vs.length SC)).setCell ⟨gb, 1, none⟩ (.int .i64 ((resA 0 ss).vs.length : Nat))).setCell ⟨gb, 2, none⟩ (.slice TA (resA 0 ss).P.length TC) := ⟨_, rfl⟩
          rw [← hV]
          have HBX := Lib.hid (BoxA.put HG.out HAT.out (by show ¬ gb < gb; omega) hV)
          have hz := HGZ.out.1
          have HV : Hid (Below wB.heap.size wB V3) := by show Below _ _ _; rw [hV]; exact ((HV.out.setCell (by show wB.heap.size ≤ gb; omega) _).setCell (by show wB.heap.size ≤ gb; omega) _).setCell (by show wB.heap.size ≤ gb; omega) _
          clear hV m0 m1 m2 m3 n0 n1 n2 hz
          refine hK.out _ _ (HSB.out V3 HV.out) (fun hHeld => ?_)
          clear hK K
          try simp only [Act.put]
          try simp only [List.setIfInBounds_toArray]
          try simp only [List.set_cons_succ]
          try simp only [List.set_cons_zero]
          refine takeOp (i := 12) (v := ?_) (some 14) rfl rfl (by kernel_rfl) (by kernel_rfl) (by kernel_rfl) (fun _ _ _ h => h) (Or.inl ⟨by rfl, ?_⟩) (by assumption) ?_
          rotate_left 1
          · (intro w0 hSw; (try dsimp only at hSw); go_simp; try (with_reducible rfl))
          try simp only [Act.put]
          try simp only [List.setIfInBounds_toArray]
          try simp only [List.set_cons_succ]
          try simp only [List.set_cons_zero]
          refine wpAnyH_done (by kernel_rfl) ?_ _
          go_wp2_with fail
          go_meet
          case rel => exact ⟨gb, rfl, rfl, HBX.out, HV.out⟩
        · go_simp
          obtain ⟨V1, hV⟩ : ∃ V', V' = V0.alloc (.cells #[.slice none 0 0, .int .i64 0, .slice none 0 0] 37) := ⟨_, rfl⟩
          rw [← hV]
          have hx : Ext V0 V1 := by rw [hV]; exact (Ext.refl V0).alloc _
          obtain ⟨gb, hgb⟩ : ∃ gb, gb = V0.heap.size := ⟨_, rfl⟩
          have HG : Hid (Row V1 gb 37 [.slice none 0 0, .int .i64 0, .slice none 0 0]) := by show Row _ _ _ _; rw [hV, hgb]; exact Row.new V0 _ _
          have HGZ : Hid (wB.heap.size ≤ gb ∧ gb + 1 = V1.heap.size ∧ gb = V0.heap.size) := ⟨by rw [hgb]; exact HV.out.size, by rw [hV, hgb]; simp, hgb⟩
          have HV := Lib.hid (Below.then HV.out hx.below HV.out.size)
          rw [← hgb]
          clear hx hV hgb
          refine hK.out _ _ (HSB.out V1 HV.out) (fun hHeld => ?_)
          clear hK K
          try simp only [Act.put]
          try simp only [List.setIfInBounds_toArray]
          try simp only [List.set_cons_succ]
          try simp only [List.set_cons_zero]
          refine wpAnyH_ready (rs := [6]) (by kernel_rfl) (by simp) ?_
          refine (AllReadyH.cons rfl (fun K hK => ?_) AllReadyH.nil)
          go_simp
          refine (HJB.out V1 HV.out).mono ?_
          rintro e V2 hp
          obtain ⟨SA, SC, TA, TC, rfl, hat, hb⟩ := hp.one
          have HAT := Lib.hid hat
          have HVS : Hid (wB.heap.size ≤ V1.heap.size) := HV.out.size
          have HG := Lib.hid (HG.out.up hb)
          have HV := Lib.hid (Below.then HV.out hb HV.out.size)
          clear hat hb hp
          go_wp2_with fail
          refine hK.out _ _ (HSB.out V2 HV.out) (fun hHeld => ?_)
          clear hK K
          try simp only [Act.put]
          try simp only [List.setIfInBounds_toArray]
          try simp only [List.set_cons_succ]
          try simp only [List.set_cons_zero]
          refine takeOp (i := 7) (v := ?_) (some 55) rfl rfl (by kernel_rfl) (by kernel_rfl) (by kernel_rfl) (fun _ _ _ h => h) (Or.inl ⟨by rfl, ?_⟩) (by assumption) ?_
          rotate_left 1
          · (intro w0 hSw; (try dsimp only at hSw); go_simp; try (with_reducible rfl))
          try simp only [Act.put]
          try simp only [List.setIfInBounds_toArray]
          try simp only [List.set_cons_succ]
          try simp only [List.set_cons_zero]
          refine takeOp (i := 8) (v := ?_) (some 63) rfl rfl (by kernel_rfl) (by kernel_rfl) (by kernel_rfl) (fun _ _ _ h => h) (Or.inl ⟨by rfl, ?_⟩) (by assumption) ?_
          rotate_left 1
          · (intro w0 hSw; (try dsimp only at hSw); go_simp; try (with_reducible rfl))
          try simp only [Act.put]
          try simp only [List.setIfInBounds_toArray]
          try simp only [List.set_cons_succ]
          try simp only [List.set_cons_zero]
          refine takeOp (i := 9) (v := ?_) (some 64) rfl rfl (by kernel_rfl) (by kernel_rfl) (by kernel_rfl) (fun _ _ _ h => h) (Or.inl ⟨by rfl, ?_⟩) (by assumption) ?_
          rotate_left 1
          · (intro w0 hSw; (try dsimp only at hSw); go_simp; try (with_reducible rfl))
          try simp only [Act.put]
          try simp only [List.setIfInBounds_toArray]
          try simp only [List.set_cons_succ]
          try simp only [List.set_cons_zero]
          refine wpAnyH_ready (rs := [11]) (by kernel_rfl) (by simp) ?_
          refine (AllReadyH.cons rfl (fun K hK => ?_) AllReadyH.nil)
          have m0 := HG.out.frozen 0
          have m1 := HG.out.frozen 1
          have m2 := HG.out.frozen 2
          have m3 := HG.out.lt
          have n0 : V2.cell? ⟨gb, 0, none⟩ = some (.slice none 0 0) := HG.out.cell 0
          have n1 : V2.cell? ⟨gb, 1, none⟩ = some (.int .i64 0) := HG.out.cell 1
          have n2 : V2.cell? ⟨gb, 2, none⟩ = some (.slice none 0 0) := HG.out.cell 2
          go_simp
          go_wp2_with fail
          obtain ⟨V3, hV⟩ : ∃ V', V' = ((V2.setCell ⟨gb, 0, none⟩ (.slice SA (resA 0 ss).vs.length SC)).setCell ⟨gb, 1, none⟩ (.int .i64 ((resA 0 ss).vs.length : Nat))).setCell ⟨gb, 2, none⟩ (.slice TA (resA 0 ss).P.length TC) := ⟨_, rfl⟩
          rw [← hV]
          have HBX := Lib.hid (BoxA.put HG.out HAT.out (by have := HGZ.out; show ¬ _ + 3 ≤ gb; omega) hV)
          have hz := HGZ.out.1
          have HV : Hid (Below wB.heap.size wB V3) := by show Below _ _ _; rw [hV]; exact ((HV.out.setCell (by show wB.heap.size ≤ gb; omega) _).setCell (by show wB.heap.size ≤ gb; omega) _).setCell (by show wB.heap.size ≤ gb; omega) _
          clear hV m0 m1 m2 m3 n0 n1 n2 hz
          refine hK.out _ _ (HSB.out V3 HV.out) (fun hHeld => ?_)
          clear hK K
          try simp only [Act.put]
          try simp only [List.setIfInBounds_toArray]
          try simp only [List.set_cons_succ]
          try simp only [List.set_cons_zero]
          refine takeOp (i := 12) (v := ?_) (some 14) rfl rfl (by kernel_rfl) (by kernel_rfl) (by kernel_rfl) (fun _ _ _ h => h) (Or.inl ⟨by rfl, ?_⟩) (by assumption) ?_
          rotate_left 1
          · (intro w0 hSw; (try dsimp only at hSw); go_simp; try (with_reducible rfl))
          try simp only [Act.put]
          try simp only [List.setIfInBounds_toArray]
          try simp only [List.set_cons_succ]
          try simp only [List.set_cons_zero]
          refine wpAnyH_done (by kernel_rfl) ?_ _
          go_wp2_with fail
          go_meet
          case rel => exact ⟨gb, rfl, rfl, HBX.out, HV.out⟩
      case rest =>
        obtain ⟨g13, rfl, rfl, hbx, hbw⟩ := hcut
        generalize wc = wC at *
        have HBX13 := Lib.hid hbx.res
        have HBX112 := Lib.hid (HBX11.out.up hbw)
        have HBX93 := Lib.hid (HBX92.out.up hbw)
        have HBC : Hid (Below w2.heap.size w2 wC) := Below.then HBB.out hbw HBB.out.size
        obtain ⟨As, Cs, Ps, Ds, rs, vs⟩ := HBX13.out
        have HSC : Hid (∀ W, Below wC.heap.size wC W → (W.cell? ⟨g13, 0, none⟩ = some (.slice As ss.vs.length Cs) ∧ W.cell? ⟨g13, 1, none⟩ = some (.int .i64 (ss.vs.length : Nat)) ∧ W.cell? ⟨g13, 2, none⟩ = some (.slice Ps ss.P.length Ds)) ∧ (W.cell? ⟨b, o, none⟩ = some (.slice VA xa.vs.length VC) ∧ W.cell? ⟨b, o + 1, none⟩ = some (.int .i64 (xa.vs.length : Nat)) ∧ W.cell? ⟨b, o + 2, none⟩ = some (.slice PA xa.P.length PC)) ∧ W.cell? ⟨b, o + 3, none⟩ = some (.slice UA ya.vs.length UC) ∧ W.cell? ⟨b, o + 3 + 1, none⟩ = some (.int .i64 (ya.vs.length : Nat)) ∧ W.cell? ⟨b, o + 3 + 2, none⟩ = some (.slice QA ya.P.length QC)) := fun W h => ⟨⟨(rs.up h).cell 0, (rs.up h).cell 1, (rs.up h).cell 2⟩, HS.out W (Below.then HBC.out h HBC.out.size)⟩
        have HJC : Hid (∀ W, Below wC.heap.size wC W → Calls Tryd.prog 8 #[(.agg #[.slice As ss.vs.length Cs, .int .i64 (ss.vs.length : Nat), .slice Ps ss.P.length Ds]), (.agg #[.slice UA ya.vs.length UC, .int .i64 (ya.vs.length : Nat), .slice QA ya.P.length QC])] W (XPost W 0 J)) := fun W h => HJ4.out W _ (Below.then HBC.out h HBC.out.size) (vs.up h)
        have hbl : b < wC.heap.size := Nat.lt_of_lt_of_le HBL.out HBC.out.size
        have hgl : g13 < wC.heap.size := rs.lt
        clear hbx hbw HSB HJB HBX92 HBX11 rs vs
        go_wp2_with fail
        go_upto_region 7 with (fail)
        go_cut [15, 16] from 65 to 72 (fun r e wx => ∃ g : Nat, r = .pointer (some ⟨g, 0, none⟩) ∧ e = .int .i64 (0) ∧ BoxA wx g (resA 0 J) ∧ Below wC.heap.size wC wx)
        case first =>
          refine wp_region_held_drew (S := (fun w' => (w'.cell? ⟨g13, 0, none⟩ = some (.slice As ss.vs.length Cs) ∧ w'.cell? ⟨g13, 1, none⟩ = some (.int .i64 (ss.vs.length : Nat)) ∧ w'.cell? ⟨g13, 2, none⟩ = some (.slice Ps ss.P.length Ds)) ∧ (w'.cell? ⟨b, o, none⟩ = some (.slice VA xa.vs.length VC) ∧ w'.cell? ⟨b, o + 1, none⟩ = some (.int .i64 (xa.vs.length : Nat)) ∧ w'.cell? ⟨b, o + 2, none⟩ = some (.slice PA xa.P.length PC)) ∧ w'.cell? ⟨b, o + 3, none⟩ = some (.slice UA ya.vs.length UC) ∧ w'.cell? ⟨b, o + 3 + 1, none⟩ = some (.int .i64 (ya.vs.length : Nat)) ∧ w'.cell? ⟨b, o + 3 + 2, none⟩ = some (.slice QA ya.P.length QC))) (by kernel_rfl) (HSC.out wC.drew (Below.refl _ _).drew) (fun hHeld => ?_)
          obtain ⟨V0, hV0⟩ : ∃ V, V = wC.drew := ⟨_, rfl⟩
          have HV : Hid (Below wC.heap.size wC V0) := by show Below _ _ _; rw [hV0]; exact (Below.refl _ _).drew
          rw [← hV0] at hHeld ⊢
          clear hV0
          refine takeOp (i := 0) (v := ?_) (some 66) rfl rfl (by kernel_rfl) (by kernel_rfl) (by kernel_rfl) (fun _ _ _ h => h) (Or.inl ⟨by rfl, ?_⟩) (by assumption) ?_
          rotate_left 1
          · (intro w0 hSw; (try dsimp only at hSw); go_simp; try (with_reducible rfl))
          try simp only [Act.put]
          try simp only [List.setIfInBounds_toArray]
          try simp only [List.set_cons_succ]
          try simp only [List.set_cons_zero]
          refine takeOp (i := 1) (v := ?_) (some 67) rfl rfl (by kernel_rfl) (by kernel_rfl) (by kernel_rfl) (fun _ _ _ h => h) (Or.inl ⟨by rfl, ?_⟩) (by assumption) ?_
          rotate_left 1
          · (intro w0 hSw; (try dsimp only at hSw); go_simp; try (with_reducible rfl))
          try simp only [Act.put]
          try simp only [List.setIfInBounds_toArray]
          try simp only [List.set_cons_succ]
          try simp only [List.set_cons_zero]
          refine takeOp (i := 2) (v := ?_) (some 68) rfl rfl (by kernel_rfl) (by kernel_rfl) (by kernel_rfl) (fun _ _ _ h => h) (Or.inl ⟨by rfl, ?_⟩) (by assumption) ?_
          rotate_left 1
          · (intro w0 hSw; (try dsimp only at hSw); go_simp; try (with_reducible rfl))
          try simp only [Act.put]
          try simp only [List.setIfInBounds_toArray]
          try simp only [List.set_cons_succ]
          try simp only [List.set_cons_zero]
          refine takeOp (i := 3) (v := ?_) (some 69) rfl rfl (by kernel_rfl) (by kernel_rfl) (by kernel_rfl) (fun _ _ _ h => h) (Or.inl ⟨by rfl, ?_⟩) (by assumption) ?_
          rotate_left 1
          · (intro w0 hSw; (try dsimp only at hSw); go_simp; try (with_reducible rfl))
          try simp only [Act.put]
          try simp only [List.setIfInBounds_toArray]
          try simp only [List.set_cons_succ]
          try simp only [List.set_cons_zero]
          refine wpAnyH_ready (rs := [4, 8]) (by kernel_rfl) (by simp) ?_
          refine (AllReadyH.cons rfl (fun K hK => ?_) (AllReadyH.cons rfl (fun K hK => ?_) AllReadyH.nil))
          · go_simp
            refine (HJC.out V0 HV.out).mono ?_
            rintro e V1 hp
            obtain ⟨SA, SC, TA, TC, rfl, hat, hb⟩ := hp.one
            have HAT := Lib.hid hat
            have HVS : Hid (wC.heap.size ≤ V0.heap.size) := HV.out.size
            have HV := Lib.hid (Below.then HV.out hb HV.out.size)
            clear hat hb hp
            go_wp2_with fail
            refine hK.out _ _ (HSC.out V1 HV.out) (fun hHeld => ?_)
            clear hK K
            try simp only [Act.put]
            try simp only [List.setIfInBounds_toArray]
            try simp only [List.set_cons_succ]
            try simp only [List.set_cons_zero]
            refine takeOp (i := 5) (v := ?_) (some 65) rfl rfl (by kernel_rfl) (by kernel_rfl) (by kernel_rfl) (fun _ _ _ h => h) (Or.inl ⟨by rfl, ?_⟩) (by assumption) ?_
            rotate_left 1
            · (intro w0 hSw; (try dsimp only at hSw); go_simp; try (with_reducible rfl))
            try simp only [Act.put]
            try simp only [List.setIfInBounds_toArray]
            try simp only [List.set_cons_succ]
            try simp only [List.set_cons_zero]
            refine takeOp (i := 6) (v := ?_) (some 71) rfl rfl (by kernel_rfl) (by kernel_rfl) (by kernel_rfl) (fun _ _ _ h => h) (Or.inl ⟨by rfl, ?_⟩) (by assumption) ?_
            rotate_left 1
            · (intro w0 hSw; (try dsimp only at hSw); go_simp; try (with_reducible rfl))
            try simp only [Act.put]
            try simp only [List.setIfInBounds_toArray]
            try simp only [List.set_cons_succ]
            try simp only [List.set_cons_zero]
            refine takeOp (i := 7) (v := ?_) (some 72) rfl rfl (by kernel_rfl) (by kernel_rfl) (by kernel_rfl) (fun _ _ _ h => h) (Or.inl ⟨by rfl, ?_⟩) (by assumption) ?_
            rotate_left 1
            · (intro w0 hSw; (try dsimp only at hSw); go_simp; try (with_reducible rfl))
            try simp only [Act.put]
            try simp only [List.setIfInBounds_toArray]
            try simp only [List.set_cons_succ]
            try simp only [List.set_cons_zero]
            refine wpAnyH_ready (rs := [8]) (by kernel_rfl) (by simp) ?_
            refine (AllReadyH.cons rfl (fun K hK => ?_) AllReadyH.nil)
            go_simp
            obtain ⟨V2, hV⟩ : ∃ V', V' = V1.alloc (.cells #[.slice none 0 0, .int .i64 0, .slice none 0 0] 37) := ⟨_, rfl⟩
            rw [← hV]
            have hx : Ext V1 V2 := by rw [hV]; exact (Ext.refl V1).alloc _
            obtain ⟨gb, hgb⟩ : ∃ gb, gb = V1.heap.size := ⟨_, rfl⟩
            have HG : Hid (Row V2 gb 37 [.slice none 0 0, .int .i64 0, .slice none 0 0]) := by show Row _ _ _ _; rw [hV, hgb]; exact Row.new V1 _ _
            have HGZ : Hid (wC.heap.size ≤ gb ∧ gb + 1 = V2.heap.size ∧ gb = V1.heap.size) := ⟨by rw [hgb]; exact HV.out.size, by rw [hV, hgb]; simp, hgb⟩
            have HAT := Lib.hid (HAT.out.keep (P' := fun c => c < gb) (fun p hp _ => hx.below.cell hp) hx.size fun b hb _ => by rw [hgb]; exact hb)
            have HV := Lib.hid (Below.then HV.out hx.below HV.out.size)
            rw [← hgb]
            clear hx hV hgb
            refine hK.out _ _ (HSC.out V2 HV.out) (fun hHeld => ?_)
            clear hK K
            try simp only [Act.put]
            try simp only [List.setIfInBounds_toArray]
            try simp only [List.set_cons_succ]
            try simp only [List.set_cons_zero]
            refine wpAnyH_ready (rs := [9]) (by kernel_rfl) (by simp) ?_
            refine (AllReadyH.cons rfl (fun K hK => ?_) AllReadyH.nil)
            have m0 := HG.out.frozen 0
            have m1 := HG.out.frozen 1
            have m2 := HG.out.frozen 2
            have m3 := HG.out.lt
            have n0 : V2.cell? ⟨gb, 0, none⟩ = some (.slice none 0 0) := HG.out.cell 0
            have n1 : V2.cell? ⟨gb, 1, none⟩ = some (.int .i64 0) := HG.out.cell 1
            have n2 : V2.cell? ⟨gb, 2, none⟩ = some (.slice none 0 0) := HG.out.cell 2
            go_simp
            go_wp2_with fail
            obtain ⟨V3, hV⟩ : ∃ V', V' = ((V2.setCell ⟨gb, 0, none⟩ (.slice SA (resA 0 J).vs.length SC)).setCell ⟨gb, 1, none⟩ (.int .i64 ((resA 0 J).vs.length : Nat))).setCell ⟨gb, 2, none⟩ (.slice TA (resA 0 J).P.length TC) := ⟨_, rfl⟩
            rw [← hV]
            have HBX := Lib.hid (BoxA.put HG.out HAT.out (by show ¬ gb < gb; omega) hV)
            have hz := HGZ.out.1
            have HV : Hid (Below wC.heap.size wC V3) := by show Below _ _ _; rw [hV]; exact ((HV.out.setCell (by show wC.heap.size ≤ gb; omega) _).setCell (by show wC.heap.size ≤ gb; omega) _).setCell (by show wC.heap.size ≤ gb; omega) _
            clear hV m0 m1 m2 m3 n0 n1 n2 hz
            refine hK.out _ _ (HSC.out V3 HV.out) (fun hHeld => ?_)
            clear hK K
            try simp only [Act.put]
            try simp only [List.setIfInBounds_toArray]
            try simp only [List.set_cons_succ]
            try simp only [List.set_cons_zero]
            refine takeOp (i := 10) (v := ?_) (some 16) rfl rfl (by kernel_rfl) (by kernel_rfl) (by kernel_rfl) (fun _ _ _ h => h) (Or.inl ⟨by rfl, ?_⟩) (by assumption) ?_
            rotate_left 1
            · (intro w0 hSw; (try dsimp only at hSw); go_simp; try (with_reducible rfl))
            try simp only [Act.put]
            try simp only [List.setIfInBounds_toArray]
            try simp only [List.set_cons_succ]
            try simp only [List.set_cons_zero]
            refine wpAnyH_done (by kernel_rfl) ?_ _
            go_wp2_with fail
            go_meet
            case rel => exact ⟨gb, rfl, rfl, HBX.out, HV.out⟩
          · go_simp
            obtain ⟨V1, hV⟩ : ∃ V', V' = V0.alloc (.cells #[.slice none 0 0, .int .i64 0, .slice none 0 0] 37) := ⟨_, rfl⟩
            rw [← hV]
            have hx : Ext V0 V1 := by rw [hV]; exact (Ext.refl V0).alloc _
            obtain ⟨gb, hgb⟩ : ∃ gb, gb = V0.heap.size := ⟨_, rfl⟩
            have HG : Hid (Row V1 gb 37 [.slice none 0 0, .int .i64 0, .slice none 0 0]) := by show Row _ _ _ _; rw [hV, hgb]; exact Row.new V0 _ _
            have HGZ : Hid (wC.heap.size ≤ gb ∧ gb + 1 = V1.heap.size ∧ gb = V0.heap.size) := ⟨by rw [hgb]; exact HV.out.size, by rw [hV, hgb]; simp, hgb⟩
            have HV := Lib.hid (Below.then HV.out hx.below HV.out.size)
            rw [← hgb]
            clear hx hV hgb
            refine hK.out _ _ (HSC.out V1 HV.out) (fun hHeld => ?_)
            clear hK K
            try simp only [Act.put]
            try simp only [List.setIfInBounds_toArray]
            try simp only [List.set_cons_succ]
            try simp only [List.set_cons_zero]
            refine wpAnyH_ready (rs := [4]) (by kernel_rfl) (by simp) ?_
            refine (AllReadyH.cons rfl (fun K hK => ?_) AllReadyH.nil)
            go_simp
            refine (HJC.out V1 HV.out).mono ?_
            rintro e V2 hp
            obtain ⟨SA, SC, TA, TC, rfl, hat, hb⟩ := hp.one
            have HAT := Lib.hid hat
            have HVS : Hid (wC.heap.size ≤ V1.heap.size) := HV.out.size
            have HG := Lib.hid (HG.out.up hb)
            have HV := Lib.hid (Below.then HV.out hb HV.out.size)
            clear hat hb hp
            go_wp2_with fail
            refine hK.out _ _ (HSC.out V2 HV.out) (fun hHeld => ?_)
            clear hK K
            try simp only [Act.put]
            try simp only [List.setIfInBounds_toArray]
            try simp only [List.set_cons_succ]
            try simp only [List.set_cons_zero]
            refine takeOp (i := 5) (v := ?_) (some 65) rfl rfl (by kernel_rfl) (by kernel_rfl) (by kernel_rfl) (fun _ _ _ h => h) (Or.inl ⟨by rfl, ?_⟩) (by assumption) ?_
            rotate_left 1
            · (intro w0 hSw; (try dsimp only at hSw); go_simp; try (with_reducible rfl))
            try simp only [Act.put]
            try simp only [List.setIfInBounds_toArray]
            try simp only [List.set_cons_succ]
            try simp only [List.set_cons_zero]
            refine takeOp (i := 6) (v := ?_) (some 71) rfl rfl (by kernel_rfl) (by kernel_rfl) (by kernel_rfl) (fun _ _ _ h => h) (Or.inl ⟨by rfl, ?_⟩) (by assumption) ?_
            rotate_left 1
            · (intro w0 hSw; (try dsimp only at hSw); go_simp; try (with_reducible rfl))
            try simp only [Act.put]
            try simp only [List.setIfInBounds_toArray]
            try simp only [List.set_cons_succ]
            try simp only [List.set_cons_zero]
            refine takeOp (i := 7) (v := ?_) (some 72) rfl rfl (by kernel_rfl) (by kernel_rfl) (by kernel_rfl) (fun _ _ _ h => h) (Or.inl ⟨by rfl, ?_⟩) (by assumption) ?_
            rotate_left 1
            · (intro w0 hSw; (try dsimp only at hSw); go_simp; try (with_reducible rfl))
            try simp only [Act.put]
            try simp only [List.setIfInBounds_toArray]
            try simp only [List.set_cons_succ]
            try simp only [List.set_cons_zero]
            refine wpAnyH_ready (rs := [9]) (by kernel_rfl) (by simp) ?_
            refine (AllReadyH.cons rfl (fun K hK => ?_) AllReadyH.nil)
            have m0 := HG.out.frozen 0
            have m1 := HG.out.frozen 1
            have m2 := HG.out.frozen 2
            have m3 := HG.out.lt
            have n0 : V2.cell? ⟨gb, 0, none⟩ = some (.slice none 0 0) := HG.out.cell 0
            have n1 : V2.cell? ⟨gb, 1, none⟩ = some (.int .i64 0) := HG.out.cell 1
            have n2 : V2.cell? ⟨gb, 2, none⟩ = some (.slice none 0 0) := HG.out.cell 2
            go_simp
            go_wp2_with fail
            obtain ⟨V3, hV⟩ : ∃ V', V' = ((V2.setCell ⟨gb, 0, none⟩ (.slice SA (resA 0 J).vs.length SC)).setCell ⟨gb, 1, none⟩ (.int .i64 ((resA 0 J).vs.length : Nat))).setCell ⟨gb, 2, none⟩ (.slice TA (resA 0 J).P.length TC) := ⟨_, rfl⟩
            rw [← hV]
            have HBX := Lib.hid (BoxA.put HG.out HAT.out (by have := HGZ.out; show ¬ _ + 3 ≤ gb; omega) hV)
            have hz := HGZ.out.1
            have HV : Hid (Below wC.heap.size wC V3) := by show Below _ _ _; rw [hV]; exact ((HV.out.setCell (by show wC.heap.size ≤ gb; omega) _).setCell (by show wC.heap.size ≤ gb; omega) _).setCell (by show wC.heap.size ≤ gb; omega) _
            clear hV m0 m1 m2 m3 n0 n1 n2 hz
            refine hK.out _ _ (HSC.out V3 HV.out) (fun hHeld => ?_)
            clear hK K
            try simp only [Act.put]
            try simp only [List.setIfInBounds_toArray]
            try simp only [List.set_cons_succ]
            try simp only [List.set_cons_zero]
            refine takeOp (i := 10) (v := ?_) (some 16) rfl rfl (by kernel_rfl) (by kernel_rfl) (by kernel_rfl) (fun _ _ _ h => h) (Or.inl ⟨by rfl, ?_⟩) (by assumption) ?_
            rotate_left 1
            · (intro w0 hSw; (try dsimp only at hSw); go_simp; try (with_reducible rfl))
            try simp only [Act.put]
            try simp only [List.setIfInBounds_toArray]
            try simp only [List.set_cons_succ]
            try simp only [List.set_cons_zero]
            refine wpAnyH_done (by kernel_rfl) ?_ _
            go_wp2_with fail
            go_meet
            case rel => exact ⟨gb, rfl, rfl, HBX.out, HV.out⟩
        case rest =>
          obtain ⟨g15, rfl, rfl, hbx, hbw⟩ := hcut
          generalize wc = wD at *
          have HBX15 := Lib.hid hbx.res
          have HBX113 := Lib.hid (HBX112.out.up hbw)
          have HBX94 := Lib.hid (HBX93.out.up hbw)
          have HBD : Hid (Below w.heap.size w wD) := Below.then HB2.out (Below.then HBC.out hbw HBC.out.size) HB2.out.size
          obtain ⟨Aj, Cj, Pj, Dj, rj, vj⟩ := HBX94.out
          obtain ⟨Ak, Ck, Pk, Dk, rk, vk⟩ := HBX113.out
          obtain ⟨Am, Cm, Pm, Dm, rm, vm⟩ := HBX15.out
          have HS8 : Hid (∀ W, Below wD.heap.size wD W → ((W.cell? ⟨g9, 0, none⟩ = some (.slice Aj J.vs.length Cj) ∧ W.cell? ⟨g9, 1, none⟩ = some (.int .i64 (J.vs.length : Nat)) ∧ W.cell? ⟨g9, 2, none⟩ = some (.slice Pj J.P.length Dj)) ∧ W.cell? ⟨g11, 0, none⟩ = some (.slice Ak J.vs.length Ck) ∧ W.cell? ⟨g11, 1, none⟩ = some (.int .i64 (J.vs.length : Nat)) ∧ W.cell? ⟨g11, 2, none⟩ = some (.slice Pk J.P.length Dk)) ∧ W.cell? ⟨g15, 0, none⟩ = some (.slice Am J.vs.length Cm) ∧ W.cell? ⟨g15, 1, none⟩ = some (.int .i64 (J.vs.length : Nat)) ∧ W.cell? ⟨g15, 2, none⟩ = some (.slice Pm J.P.length Dm)) := fun W h => ⟨⟨⟨(rj.up h).cell 0, (rj.up h).cell 1, (rj.up h).cell 2⟩, (rk.up h).cell 0, (rk.up h).cell 1, (rk.up h).cell 2⟩, (rm.up h).cell 0, (rm.up h).cell 1, (rm.up h).cell 2⟩
          have HO1 : Hid (∀ W, Below wD.heap.size wD W → Calls Tryd.prog 11 #[(.agg #[.slice Aj J.vs.length Cj, .int .i64 (J.vs.length : Nat), .slice Pj J.P.length Dj])] W (Of36 J W)) := fun W h => l36Of_any _ J W (vj.up h) HGJ.out
          have HO2 : Hid (∀ W, Below wD.heap.size wD W → Calls Tryd.prog 11 #[(.agg #[.slice Ak J.vs.length Ck, .int .i64 (J.vs.length : Nat), .slice Pk J.P.length Dk])] W (Of36 J W)) := fun W h => l36Of_any _ J W (vk.up h) HGJ.out
          have HO3 : Hid (∀ W, Below wD.heap.size wD W → Calls Tryd.prog 11 #[(.agg #[.slice Am J.vs.length Cm, .int .i64 (J.vs.length : Nat), .slice Pm J.P.length Dm])] W (Of36 J W)) := fun W h => l36Of_any _ J W (vm.up h) HGJ.out
          clear hbx hbw HSC HJC HBX93 HBX112 HBX94 HBX113 HBX15 HBX13 rj vj rk vk rm vm hbl hgl HS HJ1 HJ2 HJ3 HJ4 HBA HBB HBC HB1 HB2
          go_upto_region 8 with (fail)
          refine wp_region_held_drew (S := (fun w' => ((w'.cell? ⟨g9, 0, none⟩ = some (.slice Aj J.vs.length Cj) ∧ w'.cell? ⟨g9, 1, none⟩ = some (.int .i64 (J.vs.length : Nat)) ∧ w'.cell? ⟨g9, 2, none⟩ = some (.slice Pj J.P.length Dj)) ∧ w'.cell? ⟨g11, 0, none⟩ = some (.slice Ak J.vs.length Ck) ∧ w'.cell? ⟨g11, 1, none⟩ = some (.int .i64 (J.vs.length : Nat)) ∧ w'.cell? ⟨g11, 2, none⟩ = some (.slice Pk J.P.length Dk)) ∧ w'.cell? ⟨g15, 0, none⟩ = some (.slice Am J.vs.length Cm) ∧ w'.cell? ⟨g15, 1, none⟩ = some (.int .i64 (J.vs.length : Nat)) ∧ w'.cell? ⟨g15, 2, none⟩ = some (.slice Pm J.P.length Dm))) (by kernel_rfl) (HS8.out wD.drew (Below.refl _ _).drew) (fun hHeld => ?_)
          refine wpAnyH_ready (rs := [0]) (by kernel_rfl) (by simp) ?_
          refine AllReadyH.cons rfl (fun K hK => ?_) AllReadyH.nil
          go_simp
          refine (l36awake_any wD.drew).mono ?_
          rintro e V1 ⟨rfl, hb⟩
          have HV1 : Hid (Below wD.heap.size wD V1) := Below.undrew hb
          clear hb
          go_wp2_with fail
          refine hK.out _ _ (HS8.out V1 HV1.out) (fun hHeld => ?_)
          clear hK K
          try simp only [Act.put]
          try simp only [List.setIfInBounds_toArray]
          try simp only [List.set_cons_succ]
          try simp only [List.set_cons_zero]
          refine takeOp (i := 1) (v := ?_) (some 74) rfl rfl (by kernel_rfl) (by kernel_rfl) (by kernel_rfl) (fun _ _ _ h => h) (Or.inl ⟨by rfl, ?_⟩) (by assumption) ?_
          rotate_left 1
          · (intro w0 hSw; (try dsimp only at hSw); go_simp; try (with_reducible rfl))
          try simp only [Act.put]
          try simp only [List.setIfInBounds_toArray]
          try simp only [List.set_cons_succ]
          try simp only [List.set_cons_zero]
          refine takeOp (i := 2) (v := ?_) (some 75) rfl rfl (by kernel_rfl) (by kernel_rfl) (by kernel_rfl) (fun _ _ _ h => h) (Or.inl ⟨by rfl, ?_⟩) (by assumption) ?_
          rotate_left 1
          · (intro w0 hSw; (try dsimp only at hSw); go_simp; try (with_reducible rfl))
          try simp only [Act.put]
          try simp only [List.setIfInBounds_toArray]
          try simp only [List.set_cons_succ]
          try simp only [List.set_cons_zero]
          refine takeOp (i := 3) (v := ?_) (some 76) rfl rfl (by kernel_rfl) (by kernel_rfl) (by kernel_rfl) (fun _ _ _ h => h) (Or.inl ⟨by rfl, ?_⟩) (by assumption) ?_
          rotate_left 1
          · (intro w0 hSw; (try dsimp only at hSw); go_simp; try (with_reducible rfl))
          try simp only [Act.put]
          try simp only [List.setIfInBounds_toArray]
          try simp only [List.set_cons_succ]
          try simp only [List.set_cons_zero]
          refine takeOp (i := 4) (v := ?_) (some 77) rfl rfl (by kernel_rfl) (by kernel_rfl) (by kernel_rfl) (fun _ _ _ h => h) (Or.inl ⟨by rfl, ?_⟩) (by assumption) ?_
          rotate_left 1
          · (intro w0 hSw; (try dsimp only at hSw); go_simp; try (with_reducible rfl))
          try simp only [Act.put]
          try simp only [List.setIfInBounds_toArray]
          try simp only [List.set_cons_succ]
          try simp only [List.set_cons_zero]
          refine takeOp (i := 5) (v := ?_) (some 78) rfl rfl (by kernel_rfl) (by kernel_rfl) (by kernel_rfl) (fun _ _ _ h => h) (Or.inl ⟨by rfl, ?_⟩) (by assumption) ?_
          rotate_left 1
          · (intro w0 hSw; (try dsimp only at hSw); go_simp; try (with_reducible rfl))
          try simp only [Act.put]
          try simp only [List.setIfInBounds_toArray]
          try simp only [List.set_cons_succ]
          try simp only [List.set_cons_zero]
          refine takeOp (i := 6) (v := ?_) (some 79) rfl rfl (by kernel_rfl) (by kernel_rfl) (by kernel_rfl) (fun _ _ _ h => h) (Or.inl ⟨by rfl, ?_⟩) (by assumption) ?_
          rotate_left 1
          · (intro w0 hSw; (try dsimp only at hSw); go_simp; try (with_reducible rfl))
          try simp only [Act.put]
          try simp only [List.setIfInBounds_toArray]
          try simp only [List.set_cons_succ]
          try simp only [List.set_cons_zero]
          refine takeOp (i := 7) (v := ?_) (some 80) rfl rfl (by kernel_rfl) (by kernel_rfl) (by kernel_rfl) (fun _ _ _ h => h) (Or.inl ⟨by rfl, ?_⟩) (by assumption) ?_
          rotate_left 1
          · (intro w0 hSw; (try dsimp only at hSw); go_simp; try (with_reducible rfl))
          try simp only [Act.put]
          try simp only [List.setIfInBounds_toArray]
          try simp only [List.set_cons_succ]
          try simp only [List.set_cons_zero]
          refine takeOp (i := 8) (v := ?_) (some 81) rfl rfl (by kernel_rfl) (by kernel_rfl) (by kernel_rfl) (fun _ _ _ h => h) (Or.inl ⟨by rfl, ?_⟩) (by assumption) ?_
          rotate_left 1
          · (intro w0 hSw; (try dsimp only at hSw); go_simp; try (with_reducible rfl))
          try simp only [Act.put]
          try simp only [List.setIfInBounds_toArray]
          try simp only [List.set_cons_succ]
          try simp only [List.set_cons_zero]
          refine takeOp (i := 9) (v := ?_) (some 82) rfl rfl (by kernel_rfl) (by kernel_rfl) (by kernel_rfl) (fun _ _ _ h => h) (Or.inl ⟨by rfl, ?_⟩) (by assumption) ?_
          rotate_left 1
          · (intro w0 hSw; (try dsimp only at hSw); go_simp; try (with_reducible rfl))
          try simp only [Act.put]
          try simp only [List.setIfInBounds_toArray]
          try simp only [List.set_cons_succ]
          try simp only [List.set_cons_zero]
          refine takeOp (i := 10) (v := ?_) (some 83) rfl rfl (by kernel_rfl) (by kernel_rfl) (by kernel_rfl) (fun _ _ _ h => h) (Or.inl ⟨by rfl, ?_⟩) (by assumption) ?_
          rotate_left 1
          · (intro w0 hSw; (try dsimp only at hSw); go_simp; try (with_reducible rfl))
          try simp only [Act.put]
          try simp only [List.setIfInBounds_toArray]
          try simp only [List.set_cons_succ]
          try simp only [List.set_cons_zero]
          refine takeOp (i := 11) (v := ?_) (some 84) rfl rfl (by kernel_rfl) (by kernel_rfl) (by kernel_rfl) (fun _ _ _ h => h) (Or.inl ⟨by rfl, ?_⟩) (by assumption) ?_
          rotate_left 1
          · (intro w0 hSw; (try dsimp only at hSw); go_simp; try (with_reducible rfl))
          try simp only [Act.put]
          try simp only [List.setIfInBounds_toArray]
          try simp only [List.set_cons_succ]
          try simp only [List.set_cons_zero]
          refine takeOp (i := 12) (v := ?_) (some 85) rfl rfl (by kernel_rfl) (by kernel_rfl) (by kernel_rfl) (fun _ _ _ h => h) (Or.inl ⟨by rfl, ?_⟩) (by assumption) ?_
          rotate_left 1
          · (intro w0 hSw; (try dsimp only at hSw); go_simp; try (with_reducible rfl))
          try simp only [Act.put]
          try simp only [List.setIfInBounds_toArray]
          try simp only [List.set_cons_succ]
          try simp only [List.set_cons_zero]
          refine takeOp (i := 13) (v := ?_) (some 86) rfl rfl (by kernel_rfl) (by kernel_rfl) (by kernel_rfl) (fun _ _ _ h => h) (Or.inl ⟨by rfl, ?_⟩) (by assumption) ?_
          rotate_left 1
          · (intro w0 hSw; (try dsimp only at hSw); go_simp; try (with_reducible rfl))
          try simp only [Act.put]
          try simp only [List.setIfInBounds_toArray]
          try simp only [List.set_cons_succ]
          try simp only [List.set_cons_zero]
          refine takeOp (i := 14) (v := ?_) (some 87) rfl rfl (by kernel_rfl) (by kernel_rfl) (by kernel_rfl) (fun _ _ _ h => h) (Or.inl ⟨by rfl, ?_⟩) (by assumption) ?_
          rotate_left 1
          · (intro w0 hSw; (try dsimp only at hSw); go_simp; try (with_reducible rfl))
          try simp only [Act.put]
          try simp only [List.setIfInBounds_toArray]
          try simp only [List.set_cons_succ]
          try simp only [List.set_cons_zero]
          refine takeOp (i := 15) (v := ?_) (some 88) rfl rfl (by kernel_rfl) (by kernel_rfl) (by kernel_rfl) (fun _ _ _ h => h) (Or.inl ⟨by rfl, ?_⟩) (by assumption) ?_
          rotate_left 1
          · (intro w0 hSw; (try dsimp only at hSw); go_simp; try (with_reducible rfl))
          try simp only [Act.put]
          try simp only [List.setIfInBounds_toArray]
          try simp only [List.set_cons_succ]
          try simp only [List.set_cons_zero]
          refine takeOp (i := 16) (v := ?_) (some 89) rfl rfl (by kernel_rfl) (by kernel_rfl) (by kernel_rfl) (fun _ _ _ h => h) (Or.inl ⟨by rfl, ?_⟩) (by assumption) ?_
          rotate_left 1
          · (intro w0 hSw; (try dsimp only at hSw); go_simp; try (with_reducible rfl))
          try simp only [Act.put]
          try simp only [List.setIfInBounds_toArray]
          try simp only [List.set_cons_succ]
          try simp only [List.set_cons_zero]
          refine takeOp (i := 17) (v := ?_) (some 90) rfl rfl (by kernel_rfl) (by kernel_rfl) (by kernel_rfl) (fun _ _ _ h => h) (Or.inl ⟨by rfl, ?_⟩) (by assumption) ?_
          rotate_left 1
          · (intro w0 hSw; (try dsimp only at hSw); go_simp; try (with_reducible rfl))
          try simp only [Act.put]
          try simp only [List.setIfInBounds_toArray]
          try simp only [List.set_cons_succ]
          try simp only [List.set_cons_zero]
          refine takeOp (i := 18) (v := ?_) (some 91) rfl rfl (by kernel_rfl) (by kernel_rfl) (by kernel_rfl) (fun _ _ _ h => h) (Or.inl ⟨by rfl, ?_⟩) (by assumption) ?_
          rotate_left 1
          · (intro w0 hSw; (try dsimp only at hSw); go_simp; try (with_reducible rfl))
          try simp only [Act.put]
          try simp only [List.setIfInBounds_toArray]
          try simp only [List.set_cons_succ]
          try simp only [List.set_cons_zero]
          refine takeOp (i := 20) (v := ?_) (some 93) rfl rfl (by kernel_rfl) (by kernel_rfl) (by kernel_rfl) (fun _ _ _ h => h) (Or.inl ⟨by rfl, ?_⟩) (by assumption) ?_
          rotate_left 1
          · (intro w0 hSw; (try dsimp only at hSw); go_simp; try (with_reducible rfl))
          try simp only [Act.put]
          try simp only [List.setIfInBounds_toArray]
          try simp only [List.set_cons_succ]
          try simp only [List.set_cons_zero]
          refine wpAnyH_ready (rs := [19]) (by kernel_rfl) (by simp) ?_
          refine AllReadyH.cons rfl (fun K hK => ?_) AllReadyH.nil
          go_simp
          refine (HO1.out V1 HV1.out).mono ?_
          rintro e V2 ⟨v1, rfl, hv, hb⟩
          have HV2 : Hid (Below wD.heap.size wD V2) := Below.then HV1.out hb HV1.out.size
          have HRV1 := Lib.hid hv
          clear hb hv
          go_wp2_with fail
          refine hK.out _ _ (HS8.out V2 HV2.out) (fun hHeld => ?_)
          clear hK K
          try simp only [Act.put]
          try simp only [List.setIfInBounds_toArray]
          try simp only [List.set_cons_succ]
          try simp only [List.set_cons_zero]
          refine wpAnyH_ready (rs := [21]) (by kernel_rfl) (by simp) ?_
          refine AllReadyH.cons rfl (fun K hK => ?_) AllReadyH.nil
          go_simp
          refine (HO2.out V2 HV2.out).mono ?_
          rintro e V3 ⟨v2, rfl, hv, hb⟩
          have HV3 : Hid (Below wD.heap.size wD V3) := Below.then HV2.out hb HV2.out.size
          have HSM1 := Lib.hid (same36 HGJ.out (HRV1.out.up hb) hv)
          clear hb hv HRV1
          go_wp2_with fail
          refine hK.out _ _ (HS8.out V3 HV3.out) (fun hHeld => ?_)
          clear hK K
          try simp only [Act.put]
          try simp only [List.setIfInBounds_toArray]
          try simp only [List.set_cons_succ]
          try simp only [List.set_cons_zero]
          refine wpAnyH_ready (rs := [22]) (by kernel_rfl) (by simp) ?_
          refine AllReadyH.cons rfl (fun K hK => ?_) AllReadyH.nil
          go_simp
          refine HSM1.out.mono ?_
          rintro e V4 ⟨rfl, hb⟩
          have HV4 : Hid (Below wD.heap.size wD V4) := Below.then HV3.out hb HV3.out.size
          clear hb HSM1
          go_wp2_with fail
          refine hK.out _ _ (HS8.out V4 HV4.out) (fun hHeld => ?_)
          clear hK K
          try simp only [Act.put]
          try simp only [List.setIfInBounds_toArray]
          try simp only [List.set_cons_succ]
          try simp only [List.set_cons_zero]
          refine takeOp (i := 23) (v := ?_) (some 96) rfl rfl (by kernel_rfl) (by kernel_rfl) (by kernel_rfl) (fun _ _ _ h => h) (Or.inl ⟨by rfl, ?_⟩) (by assumption) ?_
          rotate_left 1
          · (intro w0 hSw; (try dsimp only at hSw); go_simp; try (with_reducible rfl))
          try simp only [Act.put]
          try simp only [List.setIfInBounds_toArray]
          try simp only [List.set_cons_succ]
          try simp only [List.set_cons_zero]
          refine takeOp (i := 24) (v := ?_) (some 97) rfl rfl (by kernel_rfl) (by kernel_rfl) (by kernel_rfl) (fun _ _ _ h => h) (Or.inl ⟨by rfl, ?_⟩) (by assumption) ?_
          rotate_left 1
          · (intro w0 hSw; (try dsimp only at hSw); go_simp; try (with_reducible rfl))
          try simp only [Act.put]
          try simp only [List.setIfInBounds_toArray]
          try simp only [List.set_cons_succ]
          try simp only [List.set_cons_zero]
          refine takeOp (i := 25) (v := ?_) (some 98) rfl rfl (by kernel_rfl) (by kernel_rfl) (by kernel_rfl) (fun _ _ _ h => h) (Or.inl ⟨by rfl, ?_⟩) (by assumption) ?_
          rotate_left 1
          · (intro w0 hSw; (try dsimp only at hSw); go_simp; try (with_reducible rfl))
          try simp only [Act.put]
          try simp only [List.setIfInBounds_toArray]
          try simp only [List.set_cons_succ]
          try simp only [List.set_cons_zero]
          refine takeOp (i := 27) (v := ?_) (some 100) rfl rfl (by kernel_rfl) (by kernel_rfl) (by kernel_rfl) (fun _ _ _ h => h) (Or.inl ⟨by rfl, ?_⟩) (by assumption) ?_
          rotate_left 1
          · (intro w0 hSw; (try dsimp only at hSw); go_simp; try (with_reducible rfl))
          try simp only [Act.put]
          try simp only [List.setIfInBounds_toArray]
          try simp only [List.set_cons_succ]
          try simp only [List.set_cons_zero]
          refine wpAnyH_ready (rs := [26]) (by kernel_rfl) (by simp) ?_
          refine AllReadyH.cons rfl (fun K hK => ?_) AllReadyH.nil
          go_simp
          refine (HO1.out V4 HV4.out).mono ?_
          rintro e V5 ⟨v3, rfl, hv, hb⟩
          have HV5 : Hid (Below wD.heap.size wD V5) := Below.then HV4.out hb HV4.out.size
          have HRV3 := Lib.hid hv
          clear hb hv
          go_wp2_with fail
          refine hK.out _ _ (HS8.out V5 HV5.out) (fun hHeld => ?_)
          clear hK K
          try simp only [Act.put]
          try simp only [List.setIfInBounds_toArray]
          try simp only [List.set_cons_succ]
          try simp only [List.set_cons_zero]
          refine wpAnyH_ready (rs := [28]) (by kernel_rfl) (by simp) ?_
          refine AllReadyH.cons rfl (fun K hK => ?_) AllReadyH.nil
          go_simp
          refine (HO3.out V5 HV5.out).mono ?_
          rintro e V6 ⟨v4, rfl, hv, hb⟩
          have HV6 : Hid (Below wD.heap.size wD V6) := Below.then HV5.out hb HV5.out.size
          have HSM2 := Lib.hid (same36 HGJ.out (HRV3.out.up hb) hv)
          clear hb hv HRV3
          go_wp2_with fail
          refine hK.out _ _ (HS8.out V6 HV6.out) (fun hHeld => ?_)
          clear hK K
          try simp only [Act.put]
          try simp only [List.setIfInBounds_toArray]
          try simp only [List.set_cons_succ]
          try simp only [List.set_cons_zero]
          refine wpAnyH_ready (rs := [29]) (by kernel_rfl) (by simp) ?_
          refine AllReadyH.cons rfl (fun K hK => ?_) AllReadyH.nil
          go_simp
          refine HSM2.out.mono ?_
          rintro e V7 ⟨rfl, hb⟩
          have HV7 : Hid (Below wD.heap.size wD V7) := Below.then HV6.out hb HV6.out.size
          clear hb HSM2
          go_wp2_with fail
          refine hK.out _ _ (HS8.out V7 HV7.out) (fun hHeld => ?_)
          clear hK K
          try simp only [Act.put]
          try simp only [List.setIfInBounds_toArray]
          try simp only [List.set_cons_succ]
          try simp only [List.set_cons_zero]
          refine takeOp (i := 30) (v := ?_) (some 103) rfl rfl (by kernel_rfl) (by kernel_rfl) (by kernel_rfl) (fun _ _ _ h => h) (Or.inl ⟨by rfl, ?_⟩) (by assumption) ?_
          rotate_left 1
          · (intro w0 hSw; (try dsimp only at hSw); go_simp; try (with_reducible rfl))
          try simp only [Act.put]
          try simp only [List.setIfInBounds_toArray]
          try simp only [List.set_cons_succ]
          try simp only [List.set_cons_zero]
          refine takeOp (i := 31) (v := ?_) (some 4) rfl rfl (by kernel_rfl) (by kernel_rfl) (by kernel_rfl) (fun _ _ _ h => h) (Or.inl ⟨by rfl, ?_⟩) (by assumption) ?_
          rotate_left 1
          · (intro w0 hSw; (try dsimp only at hSw); go_simp; try (with_reducible rfl))
          try simp only [Act.put]
          try simp only [List.setIfInBounds_toArray]
          try simp only [List.set_cons_succ]
          try simp only [List.set_cons_zero]
          refine wpAnyH_done (by kernel_rfl) ?_ _
          have HEND : Hid (Below w.heap.size w V7) := Below.then HBD.out HV7.out HBD.out.size
          clear hHeld
          go_wp2_with fail
          go_ret
          exact ⟨rfl, HEND.out⟩

end Go.Proofs.YthgaflmldbgbnaaDoor

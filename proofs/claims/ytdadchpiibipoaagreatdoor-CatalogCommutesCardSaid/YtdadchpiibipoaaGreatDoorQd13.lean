/- Parts of the proof, merged: C48. -/
import Derived.Test.YtdadchpiibipoaaGreatDoorQd11
import Derived.Test.YtdadchpiibipoaaGreatDoorQd12

set_option maxRecDepth 100000
namespace Go.Proofs.YtdadchpiibipoaaGreatDoor
section
open Go.RowKit Go.Sort Go.ChangeMaps Go.WideShapes

set_option maxHeartbeats 16000000 in
theorem l08Commutes_any (SA : Option Addr) (SC : Nat) (S : Sch) (A : Option Addr) (C : Nat) (us : List Upd) (z : Nat) (w : World) (hS : SchsM w.heap.size w SA S) (hSo : SchsOk S) (hSl : S.length ≤ 9223372036854775807)
    (hU : UpdsM w.heap.size w A us) (hUo : ∀ u ∈ us, u.rel.size ≤ 9223372036854775807 ∧ u.row.length ≤ 9223372036854775807 ∧ ∀ v ∈ u.row, v.str.size ≤ 9223372036854775807) (hUl : us.length ≤ C) (hUc : C ≤ 9223372036854775807) (hz : z < 256) (hT : Tabs w) :
    Calls Tryz.prog 5 #[.slice SA S.length SC, .slice A us.length C, .int .u8 (z : Nat)] w fun e w' => e = .returned (.bool true) ∧ Below w.heap.size w w' := by
  have HAW := Lib.hid (l08awake_any w hT)
  have HFW := Lib.hid (fun (w1 : World) (hb : Below w.heap.size w w1) => l08Few_any SA SC S.length A C us w1 (hU.up hb) (by omega) fun u hu => ⟨(hUo u hu).1, (hUo u hu).2.1⟩)
  have HS := Lib.hid hS
  have HSO := Lib.hid hSo
  have HU := Lib.hid hU
  have HUO := Lib.hid hUo
  have HSL := Lib.hid hSl
  clear hS hSo hU hUo hT hSl
  go_enter Tryz.func5, Tryz.ntmps5
  go_wp2_with fail
  refine HAW.out.mono ?_
  rintro e w1 ⟨rfl, hb1⟩
  have HB1 := Lib.hid hb1
  clear hb1 HAW
  go_wp2_with fail
  refine (HFW.out w1 HB1.out).mono ?_
  rintro e w2 ⟨rfl, hx2⟩
  have HB2 := Lib.hid (HB1.out.trans (hx2.below.mono HB1.out.size))
  clear hx2
  cases hfew : (decide (S.length ≤ 20) && fewB us) with
  | false =>
    clear hfew
    go_wp2_with fail
    go_ret
    exact ⟨rfl, HB2.out⟩
  | true =>
  rw [Bool.and_eq_true, decide_eq_true_eq, fewB_iff] at hfew
  obtain ⟨hs20, hu60, hfit⟩ := hfew
  have HFIT := Lib.hid hfit
  have HL : Hid (S.length ≤ 20 ∧ us.length ≤ 60) := ⟨hs20, hu60⟩
  clear hfit hs20 HB1 HFW
  by_cases h2 : us.length < 2
  · have hd2 : decide ((us.length : Int) < 2) = true := decide_eq_true (by omega)
    clear h2
    go_wp2_with fail
    go_ret
    exact ⟨rfl, HB2.out⟩
  have hd2 : decide ((us.length : Int) < 2) = false := decide_eq_false (by omega)
  have HUO2 : Hid (∀ u ∈ us, UpdOk u) := fun u hu => ⟨(HUO.out u hu).1, by have := (HFIT.out u hu).1; omega, (HUO.out u hu).2.2⟩
  obtain ⟨k, hk⟩ : ∃ k, k = z % (us.length - 1) := ⟨_, rfl⟩
  have hku : k < us.length - 1 := by rw [hk]; exact Nat.mod_lt z (show 0 < us.length - 1 by omega)
  have hw1 : IntKind.i64.wrap ((us.length : Int) - 1) = ((us.length - 1 : Nat) : Int) := by rw [IntWalk.i64_in _ (by omega)]; omega
  have hw2 : IntKind.i64.wrap (z : Int) = (z : Int) := IntWalk.i64_in _ (by omega)
  have hm2 : Int.tmod (z : Int) ((us.length - 1 : Nat) : Int) = (k : Int) := by rw [hk, Int.ofNat_tmod]
  have hm1 : Int.tmod (z : Int) ((us.length : Int) - 1) = (k : Int) := by rw [show ((us.length : Int) - 1) = ((us.length - 1 : Nat) : Int) by omega]; exact hm2
  have hw3 : IntKind.i64.wrap (k : Int) = (k : Int) := IntWalk.i64_in _ (by omega)
  have hnz : ¬ ((us.length : Int) - 1 = 0) := by omega
  have hnz2 : ¬ (((us.length - 1 : Nat) : Int) = 0) := by omega
  have HK : Hid (k + 1 < us.length) := by show _ < _; omega
  have hsl := slHeadU A us.length C k (by omega)
  have hkl : (us.take k).length = k := by rw [List.length_take]; omega
  have HMD := Lib.hid (l08made_any SA SC S A C (us.take k) w2 (HS.out.up HB2.out) HSO.out (by have := HL.out; omega) ((HU.out.up HB2.out).head k) (fun u hu => HUO2.out u (List.mem_of_mem_take hu)) (by omega) (by omega))
  rw [hkl] at HMD
  clear hk hkl h2 hku
  go_wp2_with fail
  refine HMD.out.mono ?_
  rintro e w3 ⟨hbad, hok, hb3⟩
  have HB3 := Lib.hid (HB2.out.trans (hb3.mono HB2.out.size))
  by_cases he : errS S = 0
  rotate_left
  · obtain rfl := hbad he
    have HBA : Hid (∀ V, Ext w3 V → Below w.heap.size w V) := fun V hv => HB3.out.trans (hv.below.mono HB3.out.size)
    clear hbad hok hb3 he HMD hm1 hm2 hw1 hw2 hw3 hnz hnz2 hsl
    go_upto_region 7 with (fail)
    have HX4 : Hid (Ext w3 ((w3.alloc (.cells #[.map none] 28)).alloc (.cells #[.slice SA S.length SC, .slice none 0 0] 31))) := ((Ext.refl w3).alloc _).alloc _
    refine wp_region_held_drew (S := (fun _ => True)) (by kernel_rfl) trivial (fun hHeld => ?_)
    refine takeOp (i := 0) (v := ?_) (some 51) rfl rfl (by kernel_rfl) (by kernel_rfl) (by kernel_rfl) (fun _ _ _ h => h) (Or.inl ⟨by rfl, ?_⟩) (by assumption) ?_
    rotate_left 1
    · (intro w0 hSw; (try dsimp only at hSw); go_simp; try (with_reducible rfl))
    try simp only [Act.put, List.setIfInBounds_toArray, List.set_cons_succ, List.set_cons_zero]
    refine takeOp (i := 1) (v := ?_) (some 52) rfl rfl (by kernel_rfl) (by kernel_rfl) (by kernel_rfl) (fun _ _ _ h => h) (Or.inl ⟨by rfl, ?_⟩) (by assumption) ?_
    rotate_left 1
    · (intro w0 hSw; (try dsimp only at hSw); go_simp; try (with_reducible rfl))
    try simp only [Act.put, List.setIfInBounds_toArray, List.set_cons_succ, List.set_cons_zero]
    refine takeOp (i := 2) (v := ?_) (some 53) rfl rfl (by kernel_rfl) (by kernel_rfl) (by kernel_rfl) (fun _ _ _ h => h) (Or.inl ⟨by rfl, ?_⟩) (by assumption) ?_
    rotate_left 1
    · (intro w0 hSw; (try dsimp only at hSw); go_simp; try (with_reducible rfl))
    try simp only [Act.put, List.setIfInBounds_toArray, List.set_cons_succ, List.set_cons_zero]
    refine takeOp (i := 3) (v := undef) (some 54) rfl rfl (by kernel_rfl) (by kernel_rfl) (by kernel_rfl) (fun _ _ _ h => h) (Or.inr ⟨by rfl, rfl⟩) (by assumption) ?_
    try simp only [Act.put, List.setIfInBounds_toArray, List.set_cons_succ, List.set_cons_zero]
    refine takeOp (i := 4) (v := undef) (some 55) rfl rfl (by kernel_rfl) (by kernel_rfl) (by kernel_rfl) (fun _ _ _ h => h) (Or.inr ⟨by rfl, rfl⟩) (by assumption) ?_
    try simp only [Act.put, List.setIfInBounds_toArray, List.set_cons_succ, List.set_cons_zero]
    refine takeOp (i := 5) (v := undef) (some 56) rfl rfl (by kernel_rfl) (by kernel_rfl) (by kernel_rfl) (fun _ _ _ h => h) (Or.inr ⟨by rfl, rfl⟩) (by assumption) ?_
    try simp only [Act.put, List.setIfInBounds_toArray, List.set_cons_succ, List.set_cons_zero]
    refine takeOp (i := 6) (v := undef) (some 57) rfl rfl (by kernel_rfl) (by kernel_rfl) (by kernel_rfl) (fun _ _ _ h => h) (Or.inr ⟨by rfl, rfl⟩) (by assumption) ?_
    try simp only [Act.put, List.setIfInBounds_toArray, List.set_cons_succ, List.set_cons_zero]
    refine takeOp (i := 7) (v := undef) (some 58) rfl rfl (by kernel_rfl) (by kernel_rfl) (by kernel_rfl) (fun _ _ _ h => h) (Or.inr ⟨by rfl, rfl⟩) (by assumption) ?_
    try simp only [Act.put, List.setIfInBounds_toArray, List.set_cons_succ, List.set_cons_zero]
    refine takeOp (i := 8) (v := undef) (some 59) rfl rfl (by kernel_rfl) (by kernel_rfl) (by kernel_rfl) (fun _ _ _ h => h) (Or.inr ⟨by rfl, rfl⟩) (by assumption) ?_
    try simp only [Act.put, List.setIfInBounds_toArray, List.set_cons_succ, List.set_cons_zero]
    refine takeOp (i := 9) (v := undef) (some 60) rfl rfl (by kernel_rfl) (by kernel_rfl) (by kernel_rfl) (fun _ _ _ h => h) (Or.inr ⟨by rfl, rfl⟩) (by assumption) ?_
    try simp only [Act.put, List.setIfInBounds_toArray, List.set_cons_succ, List.set_cons_zero]
    refine takeOp (i := 10) (v := ?_) (some 61) rfl rfl (by kernel_rfl) (by kernel_rfl) (by kernel_rfl) (fun _ _ _ h => h) (Or.inl ⟨by rfl, ?_⟩) (by assumption) ?_
    rotate_left 1
    · (intro w0 hSw; (try dsimp only at hSw); go_simp; try (with_reducible rfl))
    try simp only [Act.put, List.setIfInBounds_toArray, List.set_cons_succ, List.set_cons_zero]
    refine takeOp (i := 11) (v := ?_) (some 62) rfl rfl (by kernel_rfl) (by kernel_rfl) (by kernel_rfl) (fun _ _ _ h => h) (Or.inl ⟨by rfl, ?_⟩) (by assumption) ?_
    rotate_left 1
    · (intro w0 hSw; (try dsimp only at hSw); go_simp; try (with_reducible rfl))
    try simp only [Act.put, List.setIfInBounds_toArray, List.set_cons_succ, List.set_cons_zero]
    refine takeOp (i := 12) (v := undef) (some 63) rfl rfl (by kernel_rfl) (by kernel_rfl) (by kernel_rfl) (fun _ _ _ h => h) (Or.inr ⟨by rfl, rfl⟩) (by assumption) ?_
    try simp only [Act.put, List.setIfInBounds_toArray, List.set_cons_succ, List.set_cons_zero]
    refine takeOp (i := 13) (v := undef) (some 64) rfl rfl (by kernel_rfl) (by kernel_rfl) (by kernel_rfl) (fun _ _ _ h => h) (Or.inr ⟨by rfl, rfl⟩) (by assumption) ?_
    try simp only [Act.put, List.setIfInBounds_toArray, List.set_cons_succ, List.set_cons_zero]
    refine takeOp (i := 14) (v := undef) (some 65) rfl rfl (by kernel_rfl) (by kernel_rfl) (by kernel_rfl) (fun _ _ _ h => h) (Or.inr ⟨by rfl, rfl⟩) (by assumption) ?_
    try simp only [Act.put, List.setIfInBounds_toArray, List.set_cons_succ, List.set_cons_zero]
    refine takeOp (i := 15) (v := undef) (some 66) rfl rfl (by kernel_rfl) (by kernel_rfl) (by kernel_rfl) (fun _ _ _ h => h) (Or.inr ⟨by rfl, rfl⟩) (by assumption) ?_
    try simp only [Act.put, List.setIfInBounds_toArray, List.set_cons_succ, List.set_cons_zero]
    refine takeOp (i := 16) (v := undef) (some 67) rfl rfl (by kernel_rfl) (by kernel_rfl) (by kernel_rfl) (fun _ _ _ h => h) (Or.inr ⟨by rfl, rfl⟩) (by assumption) ?_
    try simp only [Act.put, List.setIfInBounds_toArray, List.set_cons_succ, List.set_cons_zero]
    refine takeOp (i := 17) (v := undef) (some 68) rfl rfl (by kernel_rfl) (by kernel_rfl) (by kernel_rfl) (fun _ _ _ h => h) (Or.inr ⟨by rfl, rfl⟩) (by assumption) ?_
    try simp only [Act.put, List.setIfInBounds_toArray, List.set_cons_succ, List.set_cons_zero]
    refine takeOp (i := 18) (v := undef) (some 69) rfl rfl (by kernel_rfl) (by kernel_rfl) (by kernel_rfl) (fun _ _ _ h => h) (Or.inr ⟨by rfl, rfl⟩) (by assumption) ?_
    try simp only [Act.put, List.setIfInBounds_toArray, List.set_cons_succ, List.set_cons_zero]
    refine takeOp (i := 19) (v := undef) (some 70) rfl rfl (by kernel_rfl) (by kernel_rfl) (by kernel_rfl) (fun _ _ _ h => h) (Or.inr ⟨by rfl, rfl⟩) (by assumption) ?_
    try simp only [Act.put, List.setIfInBounds_toArray, List.set_cons_succ, List.set_cons_zero]
    refine takeOp (i := 20) (v := ?_) (some 71) rfl rfl (by kernel_rfl) (by kernel_rfl) (by kernel_rfl) (fun _ _ _ h => h) (Or.inl ⟨by rfl, ?_⟩) (by assumption) ?_
    rotate_left 1
    · (intro w0 hSw; (try dsimp only at hSw); go_simp; try (with_reducible rfl))
    try simp only [Act.put, List.setIfInBounds_toArray, List.set_cons_succ, List.set_cons_zero]
    refine wpAnyH_done (by kernel_rfl) ?_ _
    go_wp2_with fail
    go_ret
    exact ⟨rfl, HBA.out _ (HX4.out.drew)⟩
  obtain ⟨bd, FA, FC, cs, rfl, hdb, hfc, hof⟩ := hok he
  have HND : Hid (S.map Prod.fst).Nodup := (errS_mem he).2.1
  have HSNM : Hid (∀ p ∈ S, nameF p.1 = true) := fun p hp => ((errS_mem he).2.2 p hp).1
  have hrel := (made_rel S (us.take k) (by rw [List.length_take]; omega))
  obtain ⟨F, hF⟩ : ∃ F, F = (madeF S (us.take k)).1 := ⟨_, rfl⟩
  obtain ⟨Fs, hFs⟩ : ∃ F, F = (madeF S (us.take k)).2 := ⟨_, rfl⟩
  rw [← hF, ← hFs] at hrel
  rw [← hF] at hdb
  have HREL : Hid (RelF F Fs) := hrel.1
  have HFL : Hid (Fs.length < 4000) := by
    show _ < _
    have h := hrel.2
    rw [List.length_take] at h
    omega
  clear hbad hok HMD hrel hfc hof
  rw [← hFs]
  obtain ⟨fl, hfl⟩ : ∃ n, n = Fs.length := ⟨_, rfl⟩
  rw [← hfl]
  clear hFs hF hfl he
  obtain ⟨ub, uo, rfl, hub, huc⟩ := HU.out (by intro h0; have h := HK.out; rw [h0] at h; simp at h)
  have hk0 : k < us.length := by have := HK.out; omega
  have hk1 : k + 1 < us.length := HK.out
  obtain ⟨A1, C1, p0, p1, p2, hr1⟩ := huc k hk0
  obtain ⟨A2, C2, q0, q1, q2, hr2⟩ := huc (k + 1) hk1
  have HU1 := Lib.hid (HUO2.out _ (List.getElem_mem hk0))
  have HU2 := Lib.hid (HUO2.out _ (List.getElem_mem hk1))
  generalize us[k] = u1 at *
  generalize us[k + 1] = u2 at *
  obtain ⟨d1, n1, x1⟩ := u1
  obtain ⟨d2, n2, x2⟩ := u2
  have p0 : w.cell? ⟨ub, uo + k * 3, none⟩ = some (.bool d1) := p0
  have p1 : w.cell? ⟨ub, uo + k * 3 + 1, none⟩ = some (.string n1) := p1
  have p2 : w.cell? ⟨ub, uo + k * 3 + 2, none⟩ = some (.slice A1 x1.length C1) := p2
  have q0 : w.cell? ⟨ub, uo + (k + 1) * 3, none⟩ = some (.bool d2) := q0
  have q1 : w.cell? ⟨ub, uo + (k + 1) * 3 + 1, none⟩ = some (.string n2) := q1
  have q2 : w.cell? ⟨ub, uo + (k + 1) * 3 + 2, none⟩ = some (.slice A2 x2.length C2) := q2
  have HR1 : Hid (SlR w.heap.size w A1 x1) := hr1
  have HR2 : Hid (SlR w.heap.size w A2 x2) := hr2
  have HU1 : Hid (n1.size ≤ 9223372036854775807 ∧ x1.length ≤ 1000000 ∧ ∀ v ∈ x1, v.str.size ≤ 9223372036854775807) := HU1.out
  have HU2 : Hid (n2.size ≤ 9223372036854775807 ∧ x2.length ≤ 1000000 ∧ ∀ v ∈ x2, v.str.size ≤ 9223372036854775807) := HU2.out
  have HKP : Hid (∀ V, Below w.heap.size w V → V.cell? ⟨ub, uo + k * 3, none⟩ = some (.bool d1) ∧ V.cell? ⟨ub, uo + k * 3 + 1, none⟩ = some (.string n1) ∧ V.cell? ⟨ub, uo + k * 3 + 2, none⟩ = some (.slice A1 x1.length C1) ∧ V.cell? ⟨ub, uo + (k + 1) * 3, none⟩ = some (.bool d2) ∧ V.cell? ⟨ub, uo + (k + 1) * 3 + 1, none⟩ = some (.string n2) ∧ V.cell? ⟨ub, uo + (k + 1) * 3 + 2, none⟩ = some (.slice A2 x2.length C2)) := fun V hb =>
    ⟨cell_below hb p0, cell_below hb p1, cell_below hb p2, cell_below hb q0, cell_below hb q1, cell_below hb q2⟩
  have HDB := Lib.hid hdb
  clear huc hk0 hk1 p0 p1 p2 q0 q1 q2 hr1 hr2 hb3 hdb hm1 hm2 hw1 hw2 hw3 hnz hnz2 hsl
  go_upto_region 7 with (fail)
  obtain ⟨g8, hg8⟩ : ∃ g, g = w3.heap.size := ⟨_, rfl⟩
  obtain ⟨W4, hW4⟩ : ∃ W, W = (w3.alloc (.cells #[.map (some bd)] 28)).alloc (.cells #[.slice SA S.length SC, .slice FA fl FC] 31) := ⟨_, rfl⟩
  have hb4 : Below w3.heap.size w3 W4 := by rw [hW4]; exact (((Ext.refl w3).alloc _).alloc _).below
  have HR8 : Hid (Row W4 g8 28 [.map (some bd)]) := by show Row _ _ _ _; rw [hW4, hg8]; exact (Row.new w3 28 _).alloc _
  have HD4 := Lib.hid (HDB.out.up hb4)
  have HB4 := Lib.hid (HB3.out.trans (hb4.mono HB3.out.size))
  rw [← hW4, ← hg8]
  clear hW4 hg8 hb4 HDB
  have HS4 : Hid (∀ V, Below W4.heap.size W4 V → V.cell? ⟨g8, 0, none⟩ = some (.map (some bd)) ∧ V.cell? ⟨ub, uo + k * 3, none⟩ = some (.bool d1) ∧ V.cell? ⟨ub, uo + k * 3 + 1, none⟩ = some (.string n1) ∧ V.cell? ⟨ub, uo + k * 3 + 2, none⟩ = some (.slice A1 x1.length C1) ∧ V.cell? ⟨ub, uo + (k + 1) * 3, none⟩ = some (.bool d2) ∧ V.cell? ⟨ub, uo + (k + 1) * 3 + 1, none⟩ = some (.string n2) ∧ V.cell? ⟨ub, uo + (k + 1) * 3 + 2, none⟩ = some (.slice A2 x2.length C2)) := fun V hb => ⟨cell_below hb (HR8.out.cell 0), HKP.out V (HB4.out.trans (hb.mono HB4.out.size))⟩
  have HCK1 : Hid (∀ V, Below W4.heap.size W4 V → Calls Tryz.prog 21 #[.agg #[.map (some bd)], .agg #[.bool d1, .string n1, .slice A1 x1.length C1]] V fun e V' => e = .returned (.int .i64 (checkF S n1 x1)) ∧ Ext V V') := fun V hb => by
    have hbw := HB4.out.trans (hb.mono HB4.out.size)
    exact ctCheck_any d1 n1 A1 C1 x1 V (HD4.out.up hb) HU1.out.1 (Sl.more (Sl.below HR1.out hbw (Nat.le_refl _)) hbw.size) HU1.out.2.1 HU1.out.2.2
  have HCK2 : Hid (∀ V, Below W4.heap.size W4 V → Calls Tryz.prog 21 #[.agg #[.map (some bd)], .agg #[.bool d2, .string n2, .slice A2 x2.length C2]] V fun e V' => e = .returned (.int .i64 (checkF S n2 x2)) ∧ Ext V V') := fun V hb => by
    have hbw := HB4.out.trans (hb.mono HB4.out.size)
    exact ctCheck_any d2 n2 A2 C2 x2 V (HD4.out.up hb) HU2.out.1 (Sl.more (Sl.below HR2.out hbw (Nat.le_refl _)) hbw.size) HU2.out.2.1 HU2.out.2.2
  obtain ⟨cc, hcc⟩ : ∃ c, c = !(decide (checkF S n1 x1 = 0) && decide (checkF S n2 x2 = 0)) := ⟨_, rfl⟩
  have HCC := Lib.hid hcc
  clear hcc
  have HK3 : Hid (k + 1 < 9223372036854775807) := by show _ < _; have := HK.out; have := HL.out; omega
  have g1 : (0 : Int) ≤ (k : Int) := by omega
  have g2 : (k : Int) < (us.length : Int) := by have := HK.out; omega
  have g3 : (k : Int) + 1 < (us.length : Int) := by have := HK.out; omega
  have g4 : (0 : Int) ≤ (k : Int) + 1 := by omega
  have g5 : ((k + 1 : Nat) : Int) < (us.length : Int) := by have := HK.out; omega
  have hw1 : IntKind.i64.wrap ((k : Int) + 1) = ((k + 1 : Nat) : Int) := by rw [IntWalk.i64_in _ (by have := HK3.out; omega)]; omega
  have z8 := HR8.out.lt
  have zu : ub < W4.heap.size := Nat.lt_of_lt_of_le hub HB4.out.size
  go_cut [71] from 51 to 71 (fun q wx => q = .bool cc ∧ Ext W4 wx)
  case first =>
    by_cases hc1 : checkF S n1 x1 = 0
    · have e1 : (checkF S n1 x1 != 0) = false := by simpa using hc1
      by_cases hc2 : checkF S n2 x2 = 0
      · have e2 : (checkF S n2 x2 != 0) = false := by simpa using hc2
        have HV : Hid (cc = false) := by show _ = _; rw [HCC.out, hc1, hc2]; rfl
        clear hc1 hc2
        generalize checkF S n1 x1 = c1 at *
        generalize checkF S n2 x2 = c2 at *
        refine wp_region_held_drew (S := (fun w' => w'.cell? ⟨g8, 0, none⟩ = some (.map (some bd)) ∧ w'.cell? ⟨ub, uo + k * 3, none⟩ = some (.bool d1) ∧ w'.cell? ⟨ub, uo + k * 3 + 1, none⟩ = some (.string n1) ∧ w'.cell? ⟨ub, uo + k * 3 + 2, none⟩ = some (.slice A1 x1.length C1) ∧ w'.cell? ⟨ub, uo + (k + 1) * 3, none⟩ = some (.bool d2) ∧ w'.cell? ⟨ub, uo + (k + 1) * 3 + 1, none⟩ = some (.string n2) ∧ w'.cell? ⟨ub, uo + (k + 1) * 3 + 2, none⟩ = some (.slice A2 x2.length C2))) (by kernel_rfl) (HS4.out W4.drew (Below.refl _ _).drew) (fun hHeld => ?_)
        refine takeOp (i := 0) (v := ?_) (some 51) rfl rfl (by kernel_rfl) (by kernel_rfl) (by kernel_rfl) (fun _ _ _ h => h) (Or.inl ⟨by rfl, ?_⟩) (by assumption) ?_
        rotate_left 1
        · (intro w0 hSw; (try dsimp only at hSw); go_simp; try (with_reducible rfl))
        try simp only [Act.put, List.setIfInBounds_toArray, List.set_cons_succ, List.set_cons_zero]
        refine takeOp (i := 1) (v := ?_) (some 52) rfl rfl (by kernel_rfl) (by kernel_rfl) (by kernel_rfl) (fun _ _ _ h => h) (Or.inl ⟨by rfl, ?_⟩) (by assumption) ?_
        rotate_left 1
        · (intro w0 hSw; (try dsimp only at hSw); go_simp; try (with_reducible rfl))
        try simp only [Act.put, List.setIfInBounds_toArray, List.set_cons_succ, List.set_cons_zero]
        refine takeOp (i := 2) (v := ?_) (some 53) rfl rfl (by kernel_rfl) (by kernel_rfl) (by kernel_rfl) (fun _ _ _ h => h) (Or.inl ⟨by rfl, ?_⟩) (by assumption) ?_
        rotate_left 1
        · (intro w0 hSw; (try dsimp only at hSw); go_simp; try (with_reducible rfl))
        try simp only [Act.put, List.setIfInBounds_toArray, List.set_cons_succ, List.set_cons_zero]
        refine takeOp (i := 3) (v := ?_) (some 54) rfl rfl (by kernel_rfl) (by kernel_rfl) (by kernel_rfl) (fun _ _ _ h => h) (Or.inl ⟨by rfl, ?_⟩) (by assumption) ?_
        rotate_left 1
        · (intro w0 hSw; (try dsimp only at hSw); go_simp; try (with_reducible rfl))
        try simp only [Act.put, List.setIfInBounds_toArray, List.set_cons_succ, List.set_cons_zero]
        refine takeOp (i := 4) (v := ?_) (some 55) rfl rfl (by kernel_rfl) (by kernel_rfl) (by kernel_rfl) (fun _ _ _ h => h) (Or.inl ⟨by rfl, ?_⟩) (by assumption) ?_
        rotate_left 1
        · (intro w0 hSw; (try dsimp only at hSw); go_simp; try (with_reducible rfl))
        try simp only [Act.put, List.setIfInBounds_toArray, List.set_cons_succ, List.set_cons_zero]
        refine takeOp (i := 5) (v := ?_) (some 56) rfl rfl (by kernel_rfl) (by kernel_rfl) (by kernel_rfl) (fun _ _ _ h => h) (Or.inl ⟨by rfl, ?_⟩) (by assumption) ?_
        rotate_left 1
        · (intro w0 hSw; (try dsimp only at hSw); go_simp; try (with_reducible rfl))
        try simp only [Act.put, List.setIfInBounds_toArray, List.set_cons_succ, List.set_cons_zero]
        refine takeOp (i := 6) (v := ?_) (some 57) rfl rfl (by kernel_rfl) (by kernel_rfl) (by kernel_rfl) (fun _ _ _ h => h) (Or.inl ⟨by rfl, ?_⟩) (by assumption) ?_
        rotate_left 1
        · (intro w0 hSw; (try dsimp only at hSw); go_simp; try (with_reducible rfl))
        try simp only [Act.put, List.setIfInBounds_toArray, List.set_cons_succ, List.set_cons_zero]
        refine takeOp (i := 7) (v := ?_) (some 58) rfl rfl (by kernel_rfl) (by kernel_rfl) (by kernel_rfl) (fun _ _ _ h => h) (Or.inl ⟨by rfl, ?_⟩) (by assumption) ?_
        rotate_left 1
        · (intro w0 hSw; (try dsimp only at hSw); go_simp; try (with_reducible rfl))
        try simp only [Act.put, List.setIfInBounds_toArray, List.set_cons_succ, List.set_cons_zero]
        refine wpAnyH_ready (rs := [8]) (by kernel_rfl) (by simp) ?_
        refine AllReadyH.cons rfl (fun K hK => ?_) AllReadyH.nil
        go_simp
        refine (HCK1.out W4.drew (Below.refl _ _).drew).mono ?_
        rintro e V1 ⟨rfl, hx1⟩
        have HX1 : Hid (Ext W4 V1) := (Ext.refl W4).drew.trans hx1
        clear hx1
        go_wp2_with fail
        refine hK.out _ _ (HS4.out V1 HX1.out.below) (fun hHeld => ?_)
        clear hK K
        try simp only [Act.put, List.setIfInBounds_toArray, List.set_cons_succ, List.set_cons_zero]
        refine takeOp (i := 9) (v := ?_) (some 60) rfl rfl (by kernel_rfl) (by kernel_rfl) (by kernel_rfl) (fun _ _ _ h => h) (Or.inl ⟨by rfl, ?_⟩) (by assumption) ?_
        rotate_left 1
        · (intro w0 hSw; (try dsimp only at hSw); go_simp; try (with_reducible rfl))
        try simp only [Act.put, List.setIfInBounds_toArray, List.set_cons_succ, List.set_cons_zero]
        refine takeOp (i := 10) (v := ?_) (some 61) rfl rfl (by kernel_rfl) (by kernel_rfl) (by kernel_rfl) (fun _ _ _ h => h) (Or.inl ⟨by rfl, ?_⟩) (by assumption) ?_
        rotate_left 1
        · (intro w0 hSw; (try dsimp only at hSw); go_simp; try (with_reducible rfl))
        try simp only [Act.put, List.setIfInBounds_toArray, List.set_cons_succ, List.set_cons_zero]
        refine takeOp (i := 11) (v := ?_) (some 62) rfl rfl (by kernel_rfl) (by kernel_rfl) (by kernel_rfl) (fun _ _ _ h => h) (Or.inl ⟨by rfl, ?_⟩) (by assumption) ?_
        rotate_left 1
        · (intro w0 hSw; (try dsimp only at hSw); go_simp; try (with_reducible rfl))
        try simp only [Act.put, List.setIfInBounds_toArray, List.set_cons_succ, List.set_cons_zero]
        refine takeOp (i := 12) (v := ?_) (some 63) rfl rfl (by kernel_rfl) (by kernel_rfl) (by kernel_rfl) (fun _ _ _ h => h) (Or.inl ⟨by rfl, ?_⟩) (by assumption) ?_
        rotate_left 1
        · (intro w0 hSw; (try dsimp only at hSw); go_simp; try (with_reducible rfl))
        try simp only [Act.put, List.setIfInBounds_toArray, List.set_cons_succ, List.set_cons_zero]
        refine takeOp (i := 13) (v := ?_) (some 64) rfl rfl (by kernel_rfl) (by kernel_rfl) (by kernel_rfl) (fun _ _ _ h => h) (Or.inl ⟨by rfl, ?_⟩) (by assumption) ?_
        rotate_left 1
        · (intro w0 hSw; (try dsimp only at hSw); go_simp; try (with_reducible rfl))
        try simp only [Act.put, List.setIfInBounds_toArray, List.set_cons_succ, List.set_cons_zero]
        refine takeOp (i := 14) (v := ?_) (some 65) rfl rfl (by kernel_rfl) (by kernel_rfl) (by kernel_rfl) (fun _ _ _ h => h) (Or.inl ⟨by rfl, ?_⟩) (by assumption) ?_
        rotate_left 1
        · (intro w0 hSw; (try dsimp only at hSw); go_simp; try (with_reducible rfl))
        try simp only [Act.put, List.setIfInBounds_toArray, List.set_cons_succ, List.set_cons_zero]
        refine takeOp (i := 15) (v := ?_) (some 66) rfl rfl (by kernel_rfl) (by kernel_rfl) (by kernel_rfl) (fun _ _ _ h => h) (Or.inl ⟨by rfl, ?_⟩) (by assumption) ?_
        rotate_left 1
        · (intro w0 hSw; (try dsimp only at hSw); go_simp; try (with_reducible rfl))
        try simp only [Act.put, List.setIfInBounds_toArray, List.set_cons_succ, List.set_cons_zero]
        refine takeOp (i := 16) (v := ?_) (some 67) rfl rfl (by kernel_rfl) (by kernel_rfl) (by kernel_rfl) (fun _ _ _ h => h) (Or.inl ⟨by rfl, ?_⟩) (by assumption) ?_
        rotate_left 1
        · (intro w0 hSw; (try dsimp only at hSw); go_simp; try (with_reducible rfl))
        try simp only [Act.put, List.setIfInBounds_toArray, List.set_cons_succ, List.set_cons_zero]
        refine takeOp (i := 17) (v := ?_) (some 68) rfl rfl (by kernel_rfl) (by kernel_rfl) (by kernel_rfl) (fun _ _ _ h => h) (Or.inl ⟨by rfl, ?_⟩) (by assumption) ?_
        rotate_left 1
        · (intro w0 hSw; (try dsimp only at hSw); go_simp; try (with_reducible rfl))
        try simp only [Act.put, List.setIfInBounds_toArray, List.set_cons_succ, List.set_cons_zero]
        refine wpAnyH_ready (rs := [18]) (by kernel_rfl) (by simp) ?_
        refine AllReadyH.cons rfl (fun K hK => ?_) AllReadyH.nil
        go_simp
        refine (HCK2.out V1 HX1.out.below).mono ?_
        rintro e V2 ⟨rfl, hx2⟩
        have HX2 : Hid (Ext W4 V2) := HX1.out.trans hx2
        clear hx2
        go_wp2_with fail
        refine hK.out _ _ (HS4.out V2 HX2.out.below) (fun hHeld => ?_)
        clear hK K
        try simp only [Act.put, List.setIfInBounds_toArray, List.set_cons_succ, List.set_cons_zero]
        refine takeOp (i := 19) (v := ?_) (some 70) rfl rfl (by kernel_rfl) (by kernel_rfl) (by kernel_rfl) (fun _ _ _ h => h) (Or.inl ⟨by rfl, ?_⟩) (by assumption) ?_
        rotate_left 1
        · (intro w0 hSw; (try dsimp only at hSw); go_simp; try (with_reducible rfl))
        try simp only [Act.put, List.setIfInBounds_toArray, List.set_cons_succ, List.set_cons_zero]
        refine takeOp (i := 20) (v := ?_) (some 71) rfl rfl (by kernel_rfl) (by kernel_rfl) (by kernel_rfl) (fun _ _ _ h => h) (Or.inl ⟨by rfl, ?_⟩) (by assumption) ?_
        rotate_left 1
        · (intro w0 hSw; (try dsimp only at hSw); go_simp; try (with_reducible rfl))
        try simp only [Act.put, List.setIfInBounds_toArray, List.set_cons_succ, List.set_cons_zero]
        refine wpAnyH_done (by kernel_rfl) ?_ _
        go_wp2_with fail
        go_meet
        case rel => exact ⟨by rw [HV.out], HX2.out⟩
      · have e2 : (checkF S n2 x2 != 0) = true := by simpa using hc2
        have HV : Hid (cc = true) := by show _ = _; rw [HCC.out, hc1, decide_eq_false hc2]; rfl
        clear hc1 hc2
        generalize checkF S n1 x1 = c1 at *
        generalize checkF S n2 x2 = c2 at *
        refine wp_region_held_drew (S := (fun w' => w'.cell? ⟨g8, 0, none⟩ = some (.map (some bd)) ∧ w'.cell? ⟨ub, uo + k * 3, none⟩ = some (.bool d1) ∧ w'.cell? ⟨ub, uo + k * 3 + 1, none⟩ = some (.string n1) ∧ w'.cell? ⟨ub, uo + k * 3 + 2, none⟩ = some (.slice A1 x1.length C1) ∧ w'.cell? ⟨ub, uo + (k + 1) * 3, none⟩ = some (.bool d2) ∧ w'.cell? ⟨ub, uo + (k + 1) * 3 + 1, none⟩ = some (.string n2) ∧ w'.cell? ⟨ub, uo + (k + 1) * 3 + 2, none⟩ = some (.slice A2 x2.length C2))) (by kernel_rfl) (HS4.out W4.drew (Below.refl _ _).drew) (fun hHeld => ?_)
        refine takeOp (i := 0) (v := ?_) (some 51) rfl rfl (by kernel_rfl) (by kernel_rfl) (by kernel_rfl) (fun _ _ _ h => h) (Or.inl ⟨by rfl, ?_⟩) (by assumption) ?_
        rotate_left 1
        · (intro w0 hSw; (try dsimp only at hSw); go_simp; try (with_reducible rfl))
        try simp only [Act.put, List.setIfInBounds_toArray, List.set_cons_succ, List.set_cons_zero]
        refine takeOp (i := 1) (v := ?_) (some 52) rfl rfl (by kernel_rfl) (by kernel_rfl) (by kernel_rfl) (fun _ _ _ h => h) (Or.inl ⟨by rfl, ?_⟩) (by assumption) ?_
        rotate_left 1
        · (intro w0 hSw; (try dsimp only at hSw); go_simp; try (with_reducible rfl))
        try simp only [Act.put, List.setIfInBounds_toArray, List.set_cons_succ, List.set_cons_zero]
        refine takeOp (i := 2) (v := ?_) (some 53) rfl rfl (by kernel_rfl) (by kernel_rfl) (by kernel_rfl) (fun _ _ _ h => h) (Or.inl ⟨by rfl, ?_⟩) (by assumption) ?_
        rotate_left 1
        · (intro w0 hSw; (try dsimp only at hSw); go_simp; try (with_reducible rfl))
        try simp only [Act.put, List.setIfInBounds_toArray, List.set_cons_succ, List.set_cons_zero]
        refine takeOp (i := 3) (v := ?_) (some 54) rfl rfl (by kernel_rfl) (by kernel_rfl) (by kernel_rfl) (fun _ _ _ h => h) (Or.inl ⟨by rfl, ?_⟩) (by assumption) ?_
        rotate_left 1
        · (intro w0 hSw; (try dsimp only at hSw); go_simp; try (with_reducible rfl))
        try simp only [Act.put, List.setIfInBounds_toArray, List.set_cons_succ, List.set_cons_zero]
        refine takeOp (i := 4) (v := ?_) (some 55) rfl rfl (by kernel_rfl) (by kernel_rfl) (by kernel_rfl) (fun _ _ _ h => h) (Or.inl ⟨by rfl, ?_⟩) (by assumption) ?_
        rotate_left 1
        · (intro w0 hSw; (try dsimp only at hSw); go_simp; try (with_reducible rfl))
        try simp only [Act.put, List.setIfInBounds_toArray, List.set_cons_succ, List.set_cons_zero]
        refine takeOp (i := 5) (v := ?_) (some 56) rfl rfl (by kernel_rfl) (by kernel_rfl) (by kernel_rfl) (fun _ _ _ h => h) (Or.inl ⟨by rfl, ?_⟩) (by assumption) ?_
        rotate_left 1
        · (intro w0 hSw; (try dsimp only at hSw); go_simp; try (with_reducible rfl))
        try simp only [Act.put, List.setIfInBounds_toArray, List.set_cons_succ, List.set_cons_zero]
        refine takeOp (i := 6) (v := ?_) (some 57) rfl rfl (by kernel_rfl) (by kernel_rfl) (by kernel_rfl) (fun _ _ _ h => h) (Or.inl ⟨by rfl, ?_⟩) (by assumption) ?_
        rotate_left 1
        · (intro w0 hSw; (try dsimp only at hSw); go_simp; try (with_reducible rfl))
        try simp only [Act.put, List.setIfInBounds_toArray, List.set_cons_succ, List.set_cons_zero]
        refine takeOp (i := 7) (v := ?_) (some 58) rfl rfl (by kernel_rfl) (by kernel_rfl) (by kernel_rfl) (fun _ _ _ h => h) (Or.inl ⟨by rfl, ?_⟩) (by assumption) ?_
        rotate_left 1
        · (intro w0 hSw; (try dsimp only at hSw); go_simp; try (with_reducible rfl))
        try simp only [Act.put, List.setIfInBounds_toArray, List.set_cons_succ, List.set_cons_zero]
        refine wpAnyH_ready (rs := [8]) (by kernel_rfl) (by simp) ?_
        refine AllReadyH.cons rfl (fun K hK => ?_) AllReadyH.nil
        go_simp
        refine (HCK1.out W4.drew (Below.refl _ _).drew).mono ?_
        rintro e V1 ⟨rfl, hx1⟩
        have HX1 : Hid (Ext W4 V1) := (Ext.refl W4).drew.trans hx1
        clear hx1
        go_wp2_with fail
        refine hK.out _ _ (HS4.out V1 HX1.out.below) (fun hHeld => ?_)
        clear hK K
        try simp only [Act.put, List.setIfInBounds_toArray, List.set_cons_succ, List.set_cons_zero]
        refine takeOp (i := 9) (v := ?_) (some 60) rfl rfl (by kernel_rfl) (by kernel_rfl) (by kernel_rfl) (fun _ _ _ h => h) (Or.inl ⟨by rfl, ?_⟩) (by assumption) ?_
        rotate_left 1
        · (intro w0 hSw; (try dsimp only at hSw); go_simp; try (with_reducible rfl))
        try simp only [Act.put, List.setIfInBounds_toArray, List.set_cons_succ, List.set_cons_zero]
        refine takeOp (i := 10) (v := ?_) (some 61) rfl rfl (by kernel_rfl) (by kernel_rfl) (by kernel_rfl) (fun _ _ _ h => h) (Or.inl ⟨by rfl, ?_⟩) (by assumption) ?_
        rotate_left 1
        · (intro w0 hSw; (try dsimp only at hSw); go_simp; try (with_reducible rfl))
        try simp only [Act.put, List.setIfInBounds_toArray, List.set_cons_succ, List.set_cons_zero]
        refine takeOp (i := 11) (v := ?_) (some 62) rfl rfl (by kernel_rfl) (by kernel_rfl) (by kernel_rfl) (fun _ _ _ h => h) (Or.inl ⟨by rfl, ?_⟩) (by assumption) ?_
        rotate_left 1
        · (intro w0 hSw; (try dsimp only at hSw); go_simp; try (with_reducible rfl))
        try simp only [Act.put, List.setIfInBounds_toArray, List.set_cons_succ, List.set_cons_zero]
        refine takeOp (i := 12) (v := ?_) (some 63) rfl rfl (by kernel_rfl) (by kernel_rfl) (by kernel_rfl) (fun _ _ _ h => h) (Or.inl ⟨by rfl, ?_⟩) (by assumption) ?_
        rotate_left 1
        · (intro w0 hSw; (try dsimp only at hSw); go_simp; try (with_reducible rfl))
        try simp only [Act.put, List.setIfInBounds_toArray, List.set_cons_succ, List.set_cons_zero]
        refine takeOp (i := 13) (v := ?_) (some 64) rfl rfl (by kernel_rfl) (by kernel_rfl) (by kernel_rfl) (fun _ _ _ h => h) (Or.inl ⟨by rfl, ?_⟩) (by assumption) ?_
        rotate_left 1
        · (intro w0 hSw; (try dsimp only at hSw); go_simp; try (with_reducible rfl))
        try simp only [Act.put, List.setIfInBounds_toArray, List.set_cons_succ, List.set_cons_zero]
        refine takeOp (i := 14) (v := ?_) (some 65) rfl rfl (by kernel_rfl) (by kernel_rfl) (by kernel_rfl) (fun _ _ _ h => h) (Or.inl ⟨by rfl, ?_⟩) (by assumption) ?_
        rotate_left 1
        · (intro w0 hSw; (try dsimp only at hSw); go_simp; try (with_reducible rfl))
        try simp only [Act.put, List.setIfInBounds_toArray, List.set_cons_succ, List.set_cons_zero]
        refine takeOp (i := 15) (v := ?_) (some 66) rfl rfl (by kernel_rfl) (by kernel_rfl) (by kernel_rfl) (fun _ _ _ h => h) (Or.inl ⟨by rfl, ?_⟩) (by assumption) ?_
        rotate_left 1
        · (intro w0 hSw; (try dsimp only at hSw); go_simp; try (with_reducible rfl))
        try simp only [Act.put, List.setIfInBounds_toArray, List.set_cons_succ, List.set_cons_zero]
        refine takeOp (i := 16) (v := ?_) (some 67) rfl rfl (by kernel_rfl) (by kernel_rfl) (by kernel_rfl) (fun _ _ _ h => h) (Or.inl ⟨by rfl, ?_⟩) (by assumption) ?_
        rotate_left 1
        · (intro w0 hSw; (try dsimp only at hSw); go_simp; try (with_reducible rfl))
        try simp only [Act.put, List.setIfInBounds_toArray, List.set_cons_succ, List.set_cons_zero]
        refine takeOp (i := 17) (v := ?_) (some 68) rfl rfl (by kernel_rfl) (by kernel_rfl) (by kernel_rfl) (fun _ _ _ h => h) (Or.inl ⟨by rfl, ?_⟩) (by assumption) ?_
        rotate_left 1
        · (intro w0 hSw; (try dsimp only at hSw); go_simp; try (with_reducible rfl))
        try simp only [Act.put, List.setIfInBounds_toArray, List.set_cons_succ, List.set_cons_zero]
        refine wpAnyH_ready (rs := [18]) (by kernel_rfl) (by simp) ?_
        refine AllReadyH.cons rfl (fun K hK => ?_) AllReadyH.nil
        go_simp
        refine (HCK2.out V1 HX1.out.below).mono ?_
        rintro e V2 ⟨rfl, hx2⟩
        have HX2 : Hid (Ext W4 V2) := HX1.out.trans hx2
        clear hx2
        go_wp2_with fail
        refine hK.out _ _ (HS4.out V2 HX2.out.below) (fun hHeld => ?_)
        clear hK K
        try simp only [Act.put, List.setIfInBounds_toArray, List.set_cons_succ, List.set_cons_zero]
        refine takeOp (i := 19) (v := ?_) (some 70) rfl rfl (by kernel_rfl) (by kernel_rfl) (by kernel_rfl) (fun _ _ _ h => h) (Or.inl ⟨by rfl, ?_⟩) (by assumption) ?_
        rotate_left 1
        · (intro w0 hSw; (try dsimp only at hSw); go_simp; try (with_reducible rfl))
        try simp only [Act.put, List.setIfInBounds_toArray, List.set_cons_succ, List.set_cons_zero]
        refine takeOp (i := 20) (v := ?_) (some 71) rfl rfl (by kernel_rfl) (by kernel_rfl) (by kernel_rfl) (fun _ _ _ h => h) (Or.inl ⟨by rfl, ?_⟩) (by assumption) ?_
        rotate_left 1
        · (intro w0 hSw; (try dsimp only at hSw); go_simp; try (with_reducible rfl))
        try simp only [Act.put, List.setIfInBounds_toArray, List.set_cons_succ, List.set_cons_zero]
        refine wpAnyH_done (by kernel_rfl) ?_ _
        go_wp2_with fail
        go_meet
        case rel => exact ⟨by rw [HV.out], HX2.out⟩
    · have e1 : (checkF S n1 x1 != 0) = true := by simpa using hc1
      have HV : Hid (cc = true) := by show _ = _; rw [HCC.out, decide_eq_false hc1]; rfl
      clear hc1
      generalize checkF S n1 x1 = c1 at *
      refine wp_region_held_drew (S := (fun w' => w'.cell? ⟨g8, 0, none⟩ = some (.map (some bd)) ∧ w'.cell? ⟨ub, uo + k * 3, none⟩ = some (.bool d1) ∧ w'.cell? ⟨ub, uo + k * 3 + 1, none⟩ = some (.string n1) ∧ w'.cell? ⟨ub, uo + k * 3 + 2, none⟩ = some (.slice A1 x1.length C1) ∧ w'.cell? ⟨ub, uo + (k + 1) * 3, none⟩ = some (.bool d2) ∧ w'.cell? ⟨ub, uo + (k + 1) * 3 + 1, none⟩ = some (.string n2) ∧ w'.cell? ⟨ub, uo + (k + 1) * 3 + 2, none⟩ = some (.slice A2 x2.length C2))) (by kernel_rfl) (HS4.out W4.drew (Below.refl _ _).drew) (fun hHeld => ?_)
      refine takeOp (i := 0) (v := ?_) (some 51) rfl rfl (by kernel_rfl) (by kernel_rfl) (by kernel_rfl) (fun _ _ _ h => h) (Or.inl ⟨by rfl, ?_⟩) (by assumption) ?_
      rotate_left 1
      · (intro w0 hSw; (try dsimp only at hSw); go_simp; try (with_reducible rfl))
      try simp only [Act.put, List.setIfInBounds_toArray, List.set_cons_succ, List.set_cons_zero]
      refine takeOp (i := 1) (v := ?_) (some 52) rfl rfl (by kernel_rfl) (by kernel_rfl) (by kernel_rfl) (fun _ _ _ h => h) (Or.inl ⟨by rfl, ?_⟩) (by assumption) ?_
      rotate_left 1
      · (intro w0 hSw; (try dsimp only at hSw); go_simp; try (with_reducible rfl))
      try simp only [Act.put, List.setIfInBounds_toArray, List.set_cons_succ, List.set_cons_zero]
      refine takeOp (i := 2) (v := ?_) (some 53) rfl rfl (by kernel_rfl) (by kernel_rfl) (by kernel_rfl) (fun _ _ _ h => h) (Or.inl ⟨by rfl, ?_⟩) (by assumption) ?_
      rotate_left 1
      · (intro w0 hSw; (try dsimp only at hSw); go_simp; try (with_reducible rfl))
      try simp only [Act.put, List.setIfInBounds_toArray, List.set_cons_succ, List.set_cons_zero]
      refine takeOp (i := 3) (v := ?_) (some 54) rfl rfl (by kernel_rfl) (by kernel_rfl) (by kernel_rfl) (fun _ _ _ h => h) (Or.inl ⟨by rfl, ?_⟩) (by assumption) ?_
      rotate_left 1
      · (intro w0 hSw; (try dsimp only at hSw); go_simp; try (with_reducible rfl))
      try simp only [Act.put, List.setIfInBounds_toArray, List.set_cons_succ, List.set_cons_zero]
      refine takeOp (i := 4) (v := ?_) (some 55) rfl rfl (by kernel_rfl) (by kernel_rfl) (by kernel_rfl) (fun _ _ _ h => h) (Or.inl ⟨by rfl, ?_⟩) (by assumption) ?_
      rotate_left 1
      · (intro w0 hSw; (try dsimp only at hSw); go_simp; try (with_reducible rfl))
      try simp only [Act.put, List.setIfInBounds_toArray, List.set_cons_succ, List.set_cons_zero]
      refine takeOp (i := 5) (v := ?_) (some 56) rfl rfl (by kernel_rfl) (by kernel_rfl) (by kernel_rfl) (fun _ _ _ h => h) (Or.inl ⟨by rfl, ?_⟩) (by assumption) ?_
      rotate_left 1
      · (intro w0 hSw; (try dsimp only at hSw); go_simp; try (with_reducible rfl))
      try simp only [Act.put, List.setIfInBounds_toArray, List.set_cons_succ, List.set_cons_zero]
      refine takeOp (i := 6) (v := ?_) (some 57) rfl rfl (by kernel_rfl) (by kernel_rfl) (by kernel_rfl) (fun _ _ _ h => h) (Or.inl ⟨by rfl, ?_⟩) (by assumption) ?_
      rotate_left 1
      · (intro w0 hSw; (try dsimp only at hSw); go_simp; try (with_reducible rfl))
      try simp only [Act.put, List.setIfInBounds_toArray, List.set_cons_succ, List.set_cons_zero]
      refine takeOp (i := 7) (v := ?_) (some 58) rfl rfl (by kernel_rfl) (by kernel_rfl) (by kernel_rfl) (fun _ _ _ h => h) (Or.inl ⟨by rfl, ?_⟩) (by assumption) ?_
      rotate_left 1
      · (intro w0 hSw; (try dsimp only at hSw); go_simp; try (with_reducible rfl))
      try simp only [Act.put, List.setIfInBounds_toArray, List.set_cons_succ, List.set_cons_zero]
      refine wpAnyH_ready (rs := [8]) (by kernel_rfl) (by simp) ?_
      refine AllReadyH.cons rfl (fun K hK => ?_) AllReadyH.nil
      go_simp
      refine (HCK1.out W4.drew (Below.refl _ _).drew).mono ?_
      rintro e V1 ⟨rfl, hx1⟩
      have HX1 : Hid (Ext W4 V1) := (Ext.refl W4).drew.trans hx1
      clear hx1
      go_wp2_with fail
      refine hK.out _ _ (HS4.out V1 HX1.out.below) (fun hHeld => ?_)
      clear hK K
      try simp only [Act.put, List.setIfInBounds_toArray, List.set_cons_succ, List.set_cons_zero]
      refine takeOp (i := 9) (v := ?_) (some 60) rfl rfl (by kernel_rfl) (by kernel_rfl) (by kernel_rfl) (fun _ _ _ h => h) (Or.inl ⟨by rfl, ?_⟩) (by assumption) ?_
      rotate_left 1
      · (intro w0 hSw; (try dsimp only at hSw); go_simp; try (with_reducible rfl))
      try simp only [Act.put, List.setIfInBounds_toArray, List.set_cons_succ, List.set_cons_zero]
      refine takeOp (i := 10) (v := ?_) (some 61) rfl rfl (by kernel_rfl) (by kernel_rfl) (by kernel_rfl) (fun _ _ _ h => h) (Or.inl ⟨by rfl, ?_⟩) (by assumption) ?_
      rotate_left 1
      · (intro w0 hSw; (try dsimp only at hSw); go_simp; try (with_reducible rfl))
      try simp only [Act.put, List.setIfInBounds_toArray, List.set_cons_succ, List.set_cons_zero]
      refine takeOp (i := 11) (v := ?_) (some 62) rfl rfl (by kernel_rfl) (by kernel_rfl) (by kernel_rfl) (fun _ _ _ h => h) (Or.inl ⟨by rfl, ?_⟩) (by assumption) ?_
      rotate_left 1
      · (intro w0 hSw; (try dsimp only at hSw); go_simp; try (with_reducible rfl))
      try simp only [Act.put, List.setIfInBounds_toArray, List.set_cons_succ, List.set_cons_zero]
      refine takeOp (i := 12) (v := undef) (some 63) rfl rfl (by kernel_rfl) (by kernel_rfl) (by kernel_rfl) (fun _ _ _ h => h) (Or.inr ⟨by rfl, rfl⟩) (by assumption) ?_
      try simp only [Act.put, List.setIfInBounds_toArray, List.set_cons_succ, List.set_cons_zero]
      refine takeOp (i := 13) (v := undef) (some 64) rfl rfl (by kernel_rfl) (by kernel_rfl) (by kernel_rfl) (fun _ _ _ h => h) (Or.inr ⟨by rfl, rfl⟩) (by assumption) ?_
      try simp only [Act.put, List.setIfInBounds_toArray, List.set_cons_succ, List.set_cons_zero]
      refine takeOp (i := 14) (v := undef) (some 65) rfl rfl (by kernel_rfl) (by kernel_rfl) (by kernel_rfl) (fun _ _ _ h => h) (Or.inr ⟨by rfl, rfl⟩) (by assumption) ?_
      try simp only [Act.put, List.setIfInBounds_toArray, List.set_cons_succ, List.set_cons_zero]
      refine takeOp (i := 15) (v := undef) (some 66) rfl rfl (by kernel_rfl) (by kernel_rfl) (by kernel_rfl) (fun _ _ _ h => h) (Or.inr ⟨by rfl, rfl⟩) (by assumption) ?_
      try simp only [Act.put, List.setIfInBounds_toArray, List.set_cons_succ, List.set_cons_zero]
      refine takeOp (i := 16) (v := undef) (some 67) rfl rfl (by kernel_rfl) (by kernel_rfl) (by kernel_rfl) (fun _ _ _ h => h) (Or.inr ⟨by rfl, rfl⟩) (by assumption) ?_
      try simp only [Act.put, List.setIfInBounds_toArray, List.set_cons_succ, List.set_cons_zero]
      refine takeOp (i := 17) (v := undef) (some 68) rfl rfl (by kernel_rfl) (by kernel_rfl) (by kernel_rfl) (fun _ _ _ h => h) (Or.inr ⟨by rfl, rfl⟩) (by assumption) ?_
      try simp only [Act.put, List.setIfInBounds_toArray, List.set_cons_succ, List.set_cons_zero]
      refine takeOp (i := 18) (v := undef) (some 69) rfl rfl (by kernel_rfl) (by kernel_rfl) (by kernel_rfl) (fun _ _ _ h => h) (Or.inr ⟨by rfl, rfl⟩) (by assumption) ?_
      try simp only [Act.put, List.setIfInBounds_toArray, List.set_cons_succ, List.set_cons_zero]
      refine takeOp (i := 19) (v := undef) (some 70) rfl rfl (by kernel_rfl) (by kernel_rfl) (by kernel_rfl) (fun _ _ _ h => h) (Or.inr ⟨by rfl, rfl⟩) (by assumption) ?_
      try simp only [Act.put, List.setIfInBounds_toArray, List.set_cons_succ, List.set_cons_zero]
      refine takeOp (i := 20) (v := ?_) (some 71) rfl rfl (by kernel_rfl) (by kernel_rfl) (by kernel_rfl) (fun _ _ _ h => h) (Or.inl ⟨by rfl, ?_⟩) (by assumption) ?_
      rotate_left 1
      · (intro w0 hSw; (try dsimp only at hSw); go_simp; try (with_reducible rfl))
      try simp only [Act.put, List.setIfInBounds_toArray, List.set_cons_succ, List.set_cons_zero]
      refine wpAnyH_done (by kernel_rfl) ?_ _
      go_wp2_with fail
      go_meet
      case rel => exact ⟨by rw [HV.out], HX1.out⟩
  case rest =>
  obtain ⟨rfl, hx5⟩ := hcut
  generalize wc = W5 at *
  have HX5 := Lib.hid hx5
  have HB5 := Lib.hid (HB4.out.trans (hx5.below.mono HB4.out.size))
  clear hx5 HCK1 HCK2
  cases cc with
  | true =>
    go_wp2_with fail
    go_ret
    exact ⟨rfl, HB5.out⟩
  | false =>
  have hck := HCC.out
  simp only [Bool.false_eq, Bool.not_eq_false', Bool.and_eq_true, decide_eq_true_eq] at hck
  obtain ⟨hc1, hc2⟩ := hck
  have HC1 := Lib.hid hc1
  have HC2 := Lib.hid hc2
  clear hc1 hc2 HCC
  have HD5 := Lib.hid (HD4.out.up HX5.out.below)
  have HR85 := Lib.hid (HR8.out.up HX5.out.below)
  have HCU : Hid (∀ V, Below w.heap.size w V → SlR V.heap.size V A1 x1 ∧ SlR V.heap.size V A2 x2) := fun V hb => ⟨Sl.more (Sl.below HR1.out hb (Nat.le_refl _)) hb.size, Sl.more (Sl.below HR2.out hb (Nat.le_refl _)) hb.size⟩
  obtain ⟨r2, hr2⟩ : ∃ r, r = applyF S F 0 [⟨d1, n1, x1⟩, ⟨d2, n2, x2⟩] := ⟨_, rfl⟩
  obtain ⟨r3, hr3⟩ : ∃ r, r = applyF S F 0 [⟨d2, n2, x2⟩, ⟨d1, n1, x1⟩] := ⟨_, rfl⟩
  obtain ⟨r4, hr4⟩ : ∃ r, r = applyF S F 0 [⟨false, n1, x1⟩, ⟨true, n1, x1⟩] := ⟨_, rfl⟩
  have hA2 := apply2 (S := S) HREL.out HFL.out (u := ⟨d1, n1, x1⟩) (v := ⟨d2, n2, x2⟩) HC1.out HC2.out
  have hA3 := apply2 (S := S) HREL.out HFL.out (u := ⟨d2, n2, x2⟩) (v := ⟨d1, n1, x1⟩) HC2.out HC1.out
  have HZ2 : Hid (r2.1 = 0) := by show _ = _; rw [hr2, hA2]
  have HZ3 : Hid (r3.1 = 0) := by show _ = _; rw [hr3, hA3]
  have HC23 : Hid (r2.2.2 ≤ 2 ∧ r3.2.2 ≤ 2) := by
    rw [hr2, hr3]
    exact ⟨by have := applyF_count S [⟨d1, n1, x1⟩, ⟨d2, n2, x2⟩] F 0; simpa using this, by have := applyF_count S [⟨d2, n2, x2⟩, ⟨d1, n1, x1⟩] F 0; simpa using this⟩
  have HSW : Hid (¬ (n1 = n2 ∧ x1 = x2) → r2.2.2 = r3.2.2 ∧ r2.2.1 = r3.2.1) := fun hne => by
    have hne' : ¬ (n2 = n1 ∧ x2 = x1) := fun h => hne ⟨h.1.symm, h.2.symm⟩
    rw [hr2, hr3, hA2, hA3]
    rw [chgU_swap (u := ⟨d1, n1, x1⟩) (v := ⟨d2, n2, x2⟩) hne, chgU_swap (u := ⟨d2, n2, x2⟩) (v := ⟨d1, n1, x1⟩) hne']
    exact ⟨Nat.add_comm _ _, putU_swap HREL.out.2.1 hne⟩
  have HBK : Hid (x1 ∉ F n1 → r4 = (0, F, 2)) := fun hx => by rw [hr4]; exact apply_back HREL.out HFL.out HC1.out hx
  have HRE2 : Hid (r2 = applyF S F 0 [⟨d1, n1, x1⟩, ⟨d2, n2, x2⟩]) := hr2
  have HRE3 : Hid (r3 = applyF S F 0 [⟨d2, n2, x2⟩, ⟨d1, n1, x1⟩]) := hr3
  have HRE4 : Hid (r4 = applyF S F 0 [⟨false, n1, x1⟩, ⟨true, n1, x1⟩]) := hr4
  have HAPG : Hid (∀ (W : World), Below W5.heap.size W5 W → ∀ (us2 : List Upd) (cs : List Value), (∀ V, Below w.heap.size w V → UpdCs V.heap.size V us2 cs) → (∀ u ∈ us2, UpdOk u) → us2.length = 2 → ∀ V, Below W.heap.size W V → ∀ eb, Row V eb 53 cs → ∀ (P : Nat → Prop), (∀ b, b < W.heap.size → P b) → (∀ b, V.heap.size ≤ b → P b) →
      Calls Tryz.prog 19 #[.agg #[.map (some bd)], .slice (some ⟨eb, 0, none⟩) 2 2] V fun e w' => ∃ (mx : Option Nat) (c : Nat), e = .returned (.tuple #[.agg #[.map mx], .int .i64 (c : Nat), .int .i64 (applyF S F 0 us2).1]) ∧ ((applyF S F 0 us2).1 = 0 → c = (applyF S F 0 us2).2.2 ∧ DbM P S w' (.map mx) (applyF S F 0 us2).2.1) ∧ ((applyF S F 0 us2).1 ≠ 0 → c = 0 ∧ mx = none) ∧ Below V.heap.size V w') := fun W hW us2 cs hcs hok hl V hb eb hrow P h1 h2 => by
    have hbw := HB5.out.trans (hW.mono HB5.out.size)
    have hbv := hbw.trans (hb.mono hbw.size)
    have h := ctApply_any P S (.map (some bd)) F (some ⟨eb, 0, none⟩) 2 us2 V (((HD5.out.up hW).weak fun b hb _ => h1 b hb).up hb) h2 (UpdsM.of_cs (hcs V hbv) hrow.sl) hok (by omega) (by have := HL.out; omega)
    rw [hl] at h
    exact h.mono fun e w' h => h.shape
  have HUO1 : Hid (∀ d, UpdOk ⟨d, n1, x1⟩) := fun _ => HU1.out
  have HUO3 : Hid (∀ d, UpdOk ⟨d, n2, x2⟩) := fun _ => HU2.out
  have HS5 : Hid (∀ V, Below W5.heap.size W5 V → V.cell? ⟨g8, 0, none⟩ = some (.map (some bd)) ∧ V.cell? ⟨ub, uo + k * 3, none⟩ = some (.bool d1) ∧ V.cell? ⟨ub, uo + k * 3 + 1, none⟩ = some (.string n1) ∧ V.cell? ⟨ub, uo + k * 3 + 2, none⟩ = some (.slice A1 x1.length C1) ∧ V.cell? ⟨ub, uo + (k + 1) * 3, none⟩ = some (.bool d2) ∧ V.cell? ⟨ub, uo + (k + 1) * 3 + 1, none⟩ = some (.string n2) ∧ V.cell? ⟨ub, uo + (k + 1) * 3 + 2, none⟩ = some (.slice A2 x2.length C2)) := fun V hb => ⟨cell_below hb (HR85.out.cell 0), HKP.out V (HB5.out.trans (hb.mono HB5.out.size))⟩
  have HAP2 : Hid (∀ V, Below W5.heap.size W5 V → ∀ eb, Row V eb 53 [.bool d1, .string n1, .slice A1 x1.length C1, .bool d2, .string n2, .slice A2 x2.length C2] → ∀ (P : Nat → Prop), (∀ b, b < W5.heap.size → P b) → (∀ b, V.heap.size ≤ b → P b) → Calls Tryz.prog 19 #[.agg #[.map (some bd)], .slice (some ⟨eb, 0, none⟩) 2 2] V fun e w' => ∃ (mx : Option Nat) (c : Nat), e = .returned (.tuple #[.agg #[.map mx], .int .i64 (c : Nat), .int .i64 r2.1]) ∧ (r2.1 = 0 → c = r2.2.2 ∧ DbM P S w' (.map mx) r2.2.1) ∧ (r2.1 ≠ 0 → c = 0 ∧ mx = none) ∧ Below V.heap.size V w') := by
    rw [HRE2.out]
    exact HAPG.out W5 (Below.refl _ _) [⟨d1, n1, x1⟩, ⟨d2, n2, x2⟩] _ (fun V hb => (UpdCs.one1 ⟨d1, n1, x1⟩ A1 C1 (HCU.out V hb).1).append (UpdCs.one1 ⟨d2, n2, x2⟩ A2 C2 (HCU.out V hb).2)) (fun u hu => by
      rcases List.mem_cons.1 hu with rfl | hu
      · exact HUO1.out _
      · rw [List.mem_singleton.1 hu]; exact HUO3.out _) rfl
  have z85 : g8 < W5.heap.size := HR85.out.lt
  have zu5 : ub < W5.heap.size := Nat.lt_of_lt_of_le hub HB5.out.size
  have hub2 := Lib.hid hub
  clear hA2 hA3 hr2 hr3 hr4 z8 zu HD4 HR8 HS4 hub
  go_upto_region 9 with (fail)
  go_cut [11, 12, 13] from 72 to 88 (fun q1 q2 q3 wx => ∃ (g : Nat) (mx : Option Nat) (c : Nat), q1 = .pointer (some ⟨g, 0, none⟩) ∧ q2 = .int .i64 (c : Nat) ∧ q3 = .int .i64 r2.1 ∧ W5.heap.size ≤ g ∧ Row wx g 28 [.map mx] ∧ (r2.1 = 0 → c = r2.2.2 ∧ DbM (fun _ => True) S wx (.map mx) r2.2.1) ∧ (r2.1 ≠ 0 → c = 0 ∧ mx = none) ∧ Below W5.heap.size W5 wx)
  case first =>
    refine wp_region_held_drew (S := (fun V => V.cell? ⟨g8, 0, none⟩ = some (.map (some bd)) ∧ V.cell? ⟨ub, uo + k * 3, none⟩ = some (.bool d1) ∧ V.cell? ⟨ub, uo + k * 3 + 1, none⟩ = some (.string n1) ∧ V.cell? ⟨ub, uo + k * 3 + 2, none⟩ = some (.slice A1 x1.length C1) ∧ V.cell? ⟨ub, uo + (k + 1) * 3, none⟩ = some (.bool d2) ∧ V.cell? ⟨ub, uo + (k + 1) * 3 + 1, none⟩ = some (.string n2) ∧ V.cell? ⟨ub, uo + (k + 1) * 3 + 2, none⟩ = some (.slice A2 x2.length C2))) (by kernel_rfl) (HS5.out W5.drew (Below.refl _ _).drew) (fun hHeld => ?_)
    obtain ⟨V0, hV0⟩ : ∃ V, V = W5.drew := ⟨_, rfl⟩
    have HV : Hid (Below W5.heap.size W5 V0) := by show Below _ _ _; rw [hV0]; exact (Below.refl _ _).drew
    rw [← hV0] at hHeld ⊢
    clear hV0
    refine takeOp (i := 0) (v := ?_) (some 73) rfl rfl (by kernel_rfl) (by kernel_rfl) (by kernel_rfl) (fun _ _ _ h => h) (Or.inl ⟨by rfl, ?_⟩) (by assumption) ?_
    rotate_left 1
    · (intro w0 hSw; (try dsimp only at hSw); go_simp; try (with_reducible rfl))
    try simp only [Act.put, List.setIfInBounds_toArray, List.set_cons_succ, List.set_cons_zero]
    refine takeOp (i := 1) (v := ?_) (some 74) rfl rfl (by kernel_rfl) (by kernel_rfl) (by kernel_rfl) (fun _ _ _ h => h) (Or.inl ⟨by rfl, ?_⟩) (by assumption) ?_
    rotate_left 1
    · (intro w0 hSw; (try dsimp only at hSw); go_simp; try (with_reducible rfl))
    try simp only [Act.put, List.setIfInBounds_toArray, List.set_cons_succ, List.set_cons_zero]
    refine takeOp (i := 2) (v := ?_) (some 75) rfl rfl (by kernel_rfl) (by kernel_rfl) (by kernel_rfl) (fun _ _ _ h => h) (Or.inl ⟨by rfl, ?_⟩) (by assumption) ?_
    rotate_left 1
    · (intro w0 hSw; (try dsimp only at hSw); go_simp; try (with_reducible rfl))
    try simp only [Act.put, List.setIfInBounds_toArray, List.set_cons_succ, List.set_cons_zero]
    refine takeOp (i := 3) (v := ?_) (some 76) rfl rfl (by kernel_rfl) (by kernel_rfl) (by kernel_rfl) (fun _ _ _ h => h) (Or.inl ⟨by rfl, ?_⟩) (by assumption) ?_
    rotate_left 1
    · (intro w0 hSw; (try dsimp only at hSw); go_simp; try (with_reducible rfl))
    try simp only [Act.put, List.setIfInBounds_toArray, List.set_cons_succ, List.set_cons_zero]
    refine takeOp (i := 4) (v := ?_) (some 77) rfl rfl (by kernel_rfl) (by kernel_rfl) (by kernel_rfl) (fun _ _ _ h => h) (Or.inl ⟨by rfl, ?_⟩) (by assumption) ?_
    rotate_left 1
    · (intro w0 hSw; (try dsimp only at hSw); go_simp; try (with_reducible rfl))
    try simp only [Act.put, List.setIfInBounds_toArray, List.set_cons_succ, List.set_cons_zero]
    refine takeOp (i := 5) (v := ?_) (some 78) rfl rfl (by kernel_rfl) (by kernel_rfl) (by kernel_rfl) (fun _ _ _ h => h) (Or.inl ⟨by rfl, ?_⟩) (by assumption) ?_
    rotate_left 1
    · (intro w0 hSw; (try dsimp only at hSw); go_simp; try (with_reducible rfl))
    try simp only [Act.put, List.setIfInBounds_toArray, List.set_cons_succ, List.set_cons_zero]
    refine takeOp (i := 6) (v := ?_) (some 79) rfl rfl (by kernel_rfl) (by kernel_rfl) (by kernel_rfl) (fun _ _ _ h => h) (Or.inl ⟨by rfl, ?_⟩) (by assumption) ?_
    rotate_left 1
    · (intro w0 hSw; (try dsimp only at hSw); go_simp; try (with_reducible rfl))
    try simp only [Act.put, List.setIfInBounds_toArray, List.set_cons_succ, List.set_cons_zero]
    refine takeOp (i := 7) (v := ?_) (some 80) rfl rfl (by kernel_rfl) (by kernel_rfl) (by kernel_rfl) (fun _ _ _ h => h) (Or.inl ⟨by rfl, ?_⟩) (by assumption) ?_
    rotate_left 1
    · (intro w0 hSw; (try dsimp only at hSw); go_simp; try (with_reducible rfl))
    try simp only [Act.put, List.setIfInBounds_toArray, List.set_cons_succ, List.set_cons_zero]
    refine takeOp (i := 8) (v := ?_) (some 81) rfl rfl (by kernel_rfl) (by kernel_rfl) (by kernel_rfl) (fun _ _ _ h => h) (Or.inl ⟨by rfl, ?_⟩) (by assumption) ?_
    rotate_left 1
    · (intro w0 hSw; (try dsimp only at hSw); go_simp; try (with_reducible rfl))
    try simp only [Act.put, List.setIfInBounds_toArray, List.set_cons_succ, List.set_cons_zero]
    refine takeOp (i := 9) (v := ?_) (some 82) rfl rfl (by kernel_rfl) (by kernel_rfl) (by kernel_rfl) (fun _ _ _ h => h) (Or.inl ⟨by rfl, ?_⟩) (by assumption) ?_
    rotate_left 1
    · (intro w0 hSw; (try dsimp only at hSw); go_simp; try (with_reducible rfl))
    try simp only [Act.put, List.setIfInBounds_toArray, List.set_cons_succ, List.set_cons_zero]
    refine wpAnyH_ready (rs := [10, 16]) (by kernel_rfl) (by simp) ?_
    refine (AllReadyH.cons rfl (fun K hK => ?_) (AllReadyH.cons rfl (fun K hK => ?_) AllReadyH.nil))
    · go_simp
      obtain ⟨V1, hV⟩ : ∃ V', V' = V0.alloc (.cells #[.bool d1, .string n1, .slice A1 x1.length C1, .bool d2, .string n2, .slice A2 x2.length C2] 53) := ⟨_, rfl⟩
      rw [← hV]
      have hb : Below V0.heap.size V0 V1 := by rw [hV]; exact ((Ext.refl V0).alloc _).below
      obtain ⟨eb, heb⟩ : ∃ g, g = V0.heap.size := ⟨_, rfl⟩
      rw [← heb]
      have HEB : Hid (Row V1 eb 53 [.bool d1, .string n1, .slice A1 x1.length C1, .bool d2, .string n2, .slice A2 x2.length C2]) := by show Row _ _ _ _; rw [hV, heb]; exact Row.new V0 _ _
      have HV := Lib.hid (Below.then HV.out hb HV.out.size)
      clear hb hV heb
      refine hK.out _ _ (HS5.out V1 HV.out) (fun hHeld => ?_)
      clear hK K
      try simp only [Act.put, List.setIfInBounds_toArray, List.set_cons_succ, List.set_cons_zero]
      refine wpAnyH_ready (rs := [11, 16]) (by kernel_rfl) (by simp) ?_
      refine (AllReadyH.cons rfl (fun K hK => ?_) (AllReadyH.cons rfl (fun K hK => ?_) AllReadyH.nil))
      · go_simp
        go_simp
        refine (HAP2.out V1 HV.out eb HEB.out (fun _ => True) (fun _ _ => trivial) (fun _ _ => trivial)).mono ?_
        rintro e V2 ⟨mx, c, rfl, hok, hbad, hb⟩
        have HOKX := Lib.hid hok
        have HBADX := Lib.hid hbad
        clear hok hbad
        go_simp
        have HEB := Lib.hid (HEB.out.up hb)
        have HWIN : Hid (WinP V1.heap.size V2 V2) := WinP.refl _ _
        have HV := Lib.hid (Below.then HV.out hb HV.out.size)
        clear hb
        go_wp2_with fail
        refine hK.out _ _ (HS5.out V2 HV.out) (fun hHeld => ?_)
        clear hK K
        try simp only [Act.put, List.setIfInBounds_toArray, List.set_cons_succ, List.set_cons_zero]
        refine takeOp (i := 12) (v := ?_) (some 72) rfl rfl (by kernel_rfl) (by kernel_rfl) (by kernel_rfl) (fun _ _ _ h => h) (Or.inl ⟨by rfl, ?_⟩) (by assumption) ?_
        rotate_left 1
        · (intro w0 hSw; (try dsimp only at hSw); go_simp; try (with_reducible rfl))
        try simp only [Act.put, List.setIfInBounds_toArray, List.set_cons_succ, List.set_cons_zero]
        refine takeOp (i := 13) (v := ?_) (some 85) rfl rfl (by kernel_rfl) (by kernel_rfl) (by kernel_rfl) (fun _ _ _ h => h) (Or.inl ⟨by rfl, ?_⟩) (by assumption) ?_
        rotate_left 1
        · (intro w0 hSw; (try dsimp only at hSw); go_simp; try (with_reducible rfl))
        try simp only [Act.put, List.setIfInBounds_toArray, List.set_cons_succ, List.set_cons_zero]
        refine takeOp (i := 14) (v := ?_) (some 86) rfl rfl (by kernel_rfl) (by kernel_rfl) (by kernel_rfl) (fun _ _ _ h => h) (Or.inl ⟨by rfl, ?_⟩) (by assumption) ?_
        rotate_left 1
        · (intro w0 hSw; (try dsimp only at hSw); go_simp; try (with_reducible rfl))
        try simp only [Act.put, List.setIfInBounds_toArray, List.set_cons_succ, List.set_cons_zero]
        refine takeOp (i := 15) (v := ?_) (some 87) rfl rfl (by kernel_rfl) (by kernel_rfl) (by kernel_rfl) (fun _ _ _ h => h) (Or.inl ⟨by rfl, ?_⟩) (by assumption) ?_
        rotate_left 1
        · (intro w0 hSw; (try dsimp only at hSw); go_simp; try (with_reducible rfl))
        try simp only [Act.put, List.setIfInBounds_toArray, List.set_cons_succ, List.set_cons_zero]
        refine wpAnyH_ready (rs := [16]) (by kernel_rfl) (by simp) ?_
        refine (AllReadyH.cons rfl (fun K hK => ?_) AllReadyH.nil)
        go_simp
        obtain ⟨V3, hV⟩ : ∃ V', V' = V2.alloc (.cells #[.map none] 28) := ⟨_, rfl⟩
        rw [← hV]
        have hb : Below V2.heap.size V2 V3 := by rw [hV]; exact ((Ext.refl V2).alloc _).below
        obtain ⟨gb, hgb⟩ : ∃ gb, gb = V2.heap.size := ⟨_, rfl⟩
        have HG : Hid (Row V3 gb 28 [.map none]) := by show Row _ _ _ _; rw [hV, hgb]; exact Row.new V2 _ _
        have HGZ : Hid (W5.heap.size ≤ gb) := by show _ ≤ _; rw [hgb]; exact HV.out.size
        have HGW0 : Hid (gb < V3.heap.size) := HG.out.lt
        have HEB := Lib.hid (HEB.out.up hb)
        have HWIN : Hid (WinP V1.heap.size V2 V3) := HWIN.out.up hb
        have HOUT : Hid (V2.heap.size ≤ gb) := by show _ ≤ _; rw [hgb]; exact Nat.le_refl _
        have HOKX : Hid (r2.1 = 0 → c = r2.2.2 ∧ DbM (fun b => b ≠ gb) S V3 (.map mx) r2.2.1) := fun h => ⟨(HOKX.out h).1, ((HOKX.out h).2.weak fun b hq _ => by show b ≠ gb; omega).up hb⟩
        have HV := Lib.hid (Below.then HV.out hb HV.out.size)
        rw [← hgb]
        clear hb hV hgb
        refine hK.out _ _ (HS5.out V3 HV.out) (fun hHeld => ?_)
        clear hK K
        try simp only [Act.put, List.setIfInBounds_toArray, List.set_cons_succ, List.set_cons_zero]
        refine wpAnyH_ready (rs := [17]) (by kernel_rfl) (by simp) ?_
        refine (AllReadyH.cons rfl (fun K hK => ?_) AllReadyH.nil)
        have m0 := HG.out.frozen 0
        have n0 : V3.cell? ⟨gb, 0, none⟩ = some (.map none) := HG.out.cell 0
        have m9 := HG.out.lt
        go_simp
        go_wp2_with fail
        obtain ⟨V4, hV⟩ : ∃ V', V' = (V3.setCell ⟨gb, 0, none⟩ (.map mx)) := ⟨_, rfl⟩
        rw [← hV]
        have HG : Hid (Row V4 gb 28 [.map mx]) := by show Row _ _ _ _; rw [hV]; exact (HG.out.set 0 _)
        have HWIN : Hid (WinP V1.heap.size V2 V4) := by show WinP _ _ _; rw [hV]; exact (HWIN.out.set (Or.inr HOUT.out) 0 _)
        have HOKX : Hid (r2.1 = 0 → c = r2.2.2 ∧ DbM (fun b => b ≠ gb) S V4 (.map mx) r2.2.1) := fun h => ⟨(HOKX.out h).1, by rw [hV]; exact (HOKX.out h).2.keep (Stay.set (fun h => h rfl) 0 _)⟩
        have HV : Hid (Below W5.heap.size W5 V4) := by show Below _ _ _; rw [hV]; exact (HV.out.setCell (by show W5.heap.size ≤ gb; exact HGZ.out) _)
        clear hV m9 m0 n0
        refine hK.out _ _ (HS5.out V4 HV.out) (fun hHeld => ?_)
        clear hK K
        try simp only [Act.put, List.setIfInBounds_toArray, List.set_cons_succ, List.set_cons_zero]
        refine takeOp (i := 18) (v := ?_) (some 12) rfl rfl (by kernel_rfl) (by kernel_rfl) (by kernel_rfl) (fun _ _ _ h => h) (Or.inl ⟨by rfl, ?_⟩) (by assumption) ?_
        rotate_left 1
        · (intro w0 hSw; (try dsimp only at hSw); go_simp; try (with_reducible rfl))
        try simp only [Act.put, List.setIfInBounds_toArray, List.set_cons_succ, List.set_cons_zero]
        refine takeOp (i := 19) (v := ?_) (some 13) rfl rfl (by kernel_rfl) (by kernel_rfl) (by kernel_rfl) (fun _ _ _ h => h) (Or.inl ⟨by rfl, ?_⟩) (by assumption) ?_
        rotate_left 1
        · (intro w0 hSw; (try dsimp only at hSw); go_simp; try (with_reducible rfl))
        try simp only [Act.put, List.setIfInBounds_toArray, List.set_cons_succ, List.set_cons_zero]
        refine wpAnyH_done (by kernel_rfl) ?_ _
        go_wp2_with fail
        go_meet
        case rel => exact ⟨gb, mx, c, rfl, rfl, rfl, HGZ.out, HG.out, fun h => ⟨(HOKX.out h).1, (HOKX.out h).2.weak fun _ _ _ => trivial⟩, HBADX.out, HV.out⟩
      · go_simp
        obtain ⟨V2, hV⟩ : ∃ V', V' = V1.alloc (.cells #[.map none] 28) := ⟨_, rfl⟩
        rw [← hV]
        have hb : Below V1.heap.size V1 V2 := by rw [hV]; exact ((Ext.refl V1).alloc _).below
        obtain ⟨gb, hgb⟩ : ∃ gb, gb = V1.heap.size := ⟨_, rfl⟩
        have HG : Hid (Row V2 gb 28 [.map none]) := by show Row _ _ _ _; rw [hV, hgb]; exact Row.new V1 _ _
        have HGZ : Hid (W5.heap.size ≤ gb) := by show _ ≤ _; rw [hgb]; exact HV.out.size
        have HGW0 : Hid (gb < V2.heap.size) := HG.out.lt
        have HEB := Lib.hid (HEB.out.up hb)
        have HV := Lib.hid (Below.then HV.out hb HV.out.size)
        rw [← hgb]
        clear hb hV hgb
        refine hK.out _ _ (HS5.out V2 HV.out) (fun hHeld => ?_)
        clear hK K
        try simp only [Act.put, List.setIfInBounds_toArray, List.set_cons_succ, List.set_cons_zero]
        refine wpAnyH_ready (rs := [11]) (by kernel_rfl) (by simp) ?_
        refine (AllReadyH.cons rfl (fun K hK => ?_) AllReadyH.nil)
        go_simp
        go_simp
        refine (HAP2.out V2 HV.out eb HEB.out (fun b => b ≠ gb) (fun b hb => by have := HGZ.out; show b ≠ gb; omega) (fun b hb => by have := HGW0.out; show b ≠ gb; omega)).mono ?_
        rintro e V3 ⟨mx, c, rfl, hok, hbad, hb⟩
        have HOKX := Lib.hid hok
        have HBADX := Lib.hid hbad
        clear hok hbad
        go_simp
        have HEB := Lib.hid (HEB.out.up hb)
        have HG := Lib.hid (HG.out.up hb)
        have HGW : Hid (gb < V2.heap.size) := by show gb < _; have := HGW0.out; omega
        have HWIN : Hid (WinP V2.heap.size V3 V3) := WinP.refl _ _
        have HV := Lib.hid (Below.then HV.out hb HV.out.size)
        clear hb
        go_wp2_with fail
        refine hK.out _ _ (HS5.out V3 HV.out) (fun hHeld => ?_)
        clear hK K
        try simp only [Act.put, List.setIfInBounds_toArray, List.set_cons_succ, List.set_cons_zero]
        refine takeOp (i := 12) (v := ?_) (some 72) rfl rfl (by kernel_rfl) (by kernel_rfl) (by kernel_rfl) (fun _ _ _ h => h) (Or.inl ⟨by rfl, ?_⟩) (by assumption) ?_
        rotate_left 1
        · (intro w0 hSw; (try dsimp only at hSw); go_simp; try (with_reducible rfl))
        try simp only [Act.put, List.setIfInBounds_toArray, List.set_cons_succ, List.set_cons_zero]
        refine takeOp (i := 13) (v := ?_) (some 85) rfl rfl (by kernel_rfl) (by kernel_rfl) (by kernel_rfl) (fun _ _ _ h => h) (Or.inl ⟨by rfl, ?_⟩) (by assumption) ?_
        rotate_left 1
        · (intro w0 hSw; (try dsimp only at hSw); go_simp; try (with_reducible rfl))
        try simp only [Act.put, List.setIfInBounds_toArray, List.set_cons_succ, List.set_cons_zero]
        refine takeOp (i := 14) (v := ?_) (some 86) rfl rfl (by kernel_rfl) (by kernel_rfl) (by kernel_rfl) (fun _ _ _ h => h) (Or.inl ⟨by rfl, ?_⟩) (by assumption) ?_
        rotate_left 1
        · (intro w0 hSw; (try dsimp only at hSw); go_simp; try (with_reducible rfl))
        try simp only [Act.put, List.setIfInBounds_toArray, List.set_cons_succ, List.set_cons_zero]
        refine takeOp (i := 15) (v := ?_) (some 87) rfl rfl (by kernel_rfl) (by kernel_rfl) (by kernel_rfl) (fun _ _ _ h => h) (Or.inl ⟨by rfl, ?_⟩) (by assumption) ?_
        rotate_left 1
        · (intro w0 hSw; (try dsimp only at hSw); go_simp; try (with_reducible rfl))
        try simp only [Act.put, List.setIfInBounds_toArray, List.set_cons_succ, List.set_cons_zero]
        refine wpAnyH_ready (rs := [17]) (by kernel_rfl) (by simp) ?_
        refine (AllReadyH.cons rfl (fun K hK => ?_) AllReadyH.nil)
        have m0 := HG.out.frozen 0
        have n0 : V3.cell? ⟨gb, 0, none⟩ = some (.map none) := HG.out.cell 0
        have m9 := HG.out.lt
        go_simp
        go_wp2_with fail
        obtain ⟨V4, hV⟩ : ∃ V', V' = (V3.setCell ⟨gb, 0, none⟩ (.map mx)) := ⟨_, rfl⟩
        rw [← hV]
        have HG : Hid (Row V4 gb 28 [.map mx]) := by show Row _ _ _ _; rw [hV]; exact (HG.out.set 0 _)
        have HWIN : Hid (WinP V2.heap.size V3 V4) := by show WinP _ _ _; rw [hV]; exact (HWIN.out.set (Or.inl HGW.out) 0 _)
        have HOKX : Hid (r2.1 = 0 → c = r2.2.2 ∧ DbM (fun b => b ≠ gb) S V4 (.map mx) r2.2.1) := fun h => ⟨(HOKX.out h).1, by rw [hV]; exact (HOKX.out h).2.keep (Stay.set (fun h => h rfl) 0 _)⟩
        have HV : Hid (Below W5.heap.size W5 V4) := by show Below _ _ _; rw [hV]; exact (HV.out.setCell (by show W5.heap.size ≤ gb; exact HGZ.out) _)
        clear hV m9 m0 n0
        refine hK.out _ _ (HS5.out V4 HV.out) (fun hHeld => ?_)
        clear hK K
        try simp only [Act.put, List.setIfInBounds_toArray, List.set_cons_succ, List.set_cons_zero]
        refine takeOp (i := 18) (v := ?_) (some 12) rfl rfl (by kernel_rfl) (by kernel_rfl) (by kernel_rfl) (fun _ _ _ h => h) (Or.inl ⟨by rfl, ?_⟩) (by assumption) ?_
        rotate_left 1
        · (intro w0 hSw; (try dsimp only at hSw); go_simp; try (with_reducible rfl))
        try simp only [Act.put, List.setIfInBounds_toArray, List.set_cons_succ, List.set_cons_zero]
        refine takeOp (i := 19) (v := ?_) (some 13) rfl rfl (by kernel_rfl) (by kernel_rfl) (by kernel_rfl) (fun _ _ _ h => h) (Or.inl ⟨by rfl, ?_⟩) (by assumption) ?_
        rotate_left 1
        · (intro w0 hSw; (try dsimp only at hSw); go_simp; try (with_reducible rfl))
        try simp only [Act.put, List.setIfInBounds_toArray, List.set_cons_succ, List.set_cons_zero]
        refine wpAnyH_done (by kernel_rfl) ?_ _
        go_wp2_with fail
        go_meet
        case rel => exact ⟨gb, mx, c, rfl, rfl, rfl, HGZ.out, HG.out, fun h => ⟨(HOKX.out h).1, (HOKX.out h).2.weak fun _ _ _ => trivial⟩, HBADX.out, HV.out⟩
    · go_simp
      obtain ⟨V1, hV⟩ : ∃ V', V' = V0.alloc (.cells #[.map none] 28) := ⟨_, rfl⟩
      rw [← hV]
      have hb : Below V0.heap.size V0 V1 := by rw [hV]; exact ((Ext.refl V0).alloc _).below
      obtain ⟨gb, hgb⟩ : ∃ gb, gb = V0.heap.size := ⟨_, rfl⟩
      have HG : Hid (Row V1 gb 28 [.map none]) := by show Row _ _ _ _; rw [hV, hgb]; exact Row.new V0 _ _
      have HGZ : Hid (W5.heap.size ≤ gb) := by show _ ≤ _; rw [hgb]; exact HV.out.size
      have HGW0 : Hid (gb < V1.heap.size) := HG.out.lt
      have HV := Lib.hid (Below.then HV.out hb HV.out.size)
      rw [← hgb]
      clear hb hV hgb
      refine hK.out _ _ (HS5.out V1 HV.out) (fun hHeld => ?_)
      clear hK K
      try simp only [Act.put, List.setIfInBounds_toArray, List.set_cons_succ, List.set_cons_zero]
      refine wpAnyH_ready (rs := [10]) (by kernel_rfl) (by simp) ?_
      refine (AllReadyH.cons rfl (fun K hK => ?_) AllReadyH.nil)
      go_simp
      obtain ⟨V2, hV⟩ : ∃ V', V' = V1.alloc (.cells #[.bool d1, .string n1, .slice A1 x1.length C1, .bool d2, .string n2, .slice A2 x2.length C2] 53) := ⟨_, rfl⟩
      rw [← hV]
      have hb : Below V1.heap.size V1 V2 := by rw [hV]; exact ((Ext.refl V1).alloc _).below
      obtain ⟨eb, heb⟩ : ∃ g, g = V1.heap.size := ⟨_, rfl⟩
      rw [← heb]
      have HEB : Hid (Row V2 eb 53 [.bool d1, .string n1, .slice A1 x1.length C1, .bool d2, .string n2, .slice A2 x2.length C2]) := by show Row _ _ _ _; rw [hV, heb]; exact Row.new V1 _ _
      have HG := Lib.hid (HG.out.up hb)
      have HGW0 : Hid (gb < V2.heap.size) := HG.out.lt
      have HV := Lib.hid (Below.then HV.out hb HV.out.size)
      clear hb hV heb
      refine hK.out _ _ (HS5.out V2 HV.out) (fun hHeld => ?_)
      clear hK K
      try simp only [Act.put, List.setIfInBounds_toArray, List.set_cons_succ, List.set_cons_zero]
      refine wpAnyH_ready (rs := [11]) (by kernel_rfl) (by simp) ?_
      refine (AllReadyH.cons rfl (fun K hK => ?_) AllReadyH.nil)
      go_simp
      go_simp
      refine (HAP2.out V2 HV.out eb HEB.out (fun b => b ≠ gb) (fun b hb => by have := HGZ.out; show b ≠ gb; omega) (fun b hb => by have := HGW0.out; show b ≠ gb; omega)).mono ?_
      rintro e V3 ⟨mx, c, rfl, hok, hbad, hb⟩
      have HOKX := Lib.hid hok
      have HBADX := Lib.hid hbad
      clear hok hbad
      go_simp
      have HEB := Lib.hid (HEB.out.up hb)
      have HG := Lib.hid (HG.out.up hb)
      have HGW : Hid (gb < V2.heap.size) := by show gb < _; have := HGW0.out; omega
      have HWIN : Hid (WinP V2.heap.size V3 V3) := WinP.refl _ _
      have HV := Lib.hid (Below.then HV.out hb HV.out.size)
      clear hb
      go_wp2_with fail
      refine hK.out _ _ (HS5.out V3 HV.out) (fun hHeld => ?_)
      clear hK K
      try simp only [Act.put, List.setIfInBounds_toArray, List.set_cons_succ, List.set_cons_zero]
      refine takeOp (i := 12) (v := ?_) (some 72) rfl rfl (by kernel_rfl) (by kernel_rfl) (by kernel_rfl) (fun _ _ _ h => h) (Or.inl ⟨by rfl, ?_⟩) (by assumption) ?_
      rotate_left 1
      · (intro w0 hSw; (try dsimp only at hSw); go_simp; try (with_reducible rfl))
      try simp only [Act.put, List.setIfInBounds_toArray, List.set_cons_succ, List.set_cons_zero]
      refine takeOp (i := 13) (v := ?_) (some 85) rfl rfl (by kernel_rfl) (by kernel_rfl) (by kernel_rfl) (fun _ _ _ h => h) (Or.inl ⟨by rfl, ?_⟩) (by assumption) ?_
      rotate_left 1
      · (intro w0 hSw; (try dsimp only at hSw); go_simp; try (with_reducible rfl))
      try simp only [Act.put, List.setIfInBounds_toArray, List.set_cons_succ, List.set_cons_zero]
      refine takeOp (i := 14) (v := ?_) (some 86) rfl rfl (by kernel_rfl) (by kernel_rfl) (by kernel_rfl) (fun _ _ _ h => h) (Or.inl ⟨by rfl, ?_⟩) (by assumption) ?_
      rotate_left 1
      · (intro w0 hSw; (try dsimp only at hSw); go_simp; try (with_reducible rfl))
      try simp only [Act.put, List.setIfInBounds_toArray, List.set_cons_succ, List.set_cons_zero]
      refine takeOp (i := 15) (v := ?_) (some 87) rfl rfl (by kernel_rfl) (by kernel_rfl) (by kernel_rfl) (fun _ _ _ h => h) (Or.inl ⟨by rfl, ?_⟩) (by assumption) ?_
      rotate_left 1
      · (intro w0 hSw; (try dsimp only at hSw); go_simp; try (with_reducible rfl))
      try simp only [Act.put, List.setIfInBounds_toArray, List.set_cons_succ, List.set_cons_zero]
      refine wpAnyH_ready (rs := [17]) (by kernel_rfl) (by simp) ?_
      refine (AllReadyH.cons rfl (fun K hK => ?_) AllReadyH.nil)
      have m0 := HG.out.frozen 0
      have n0 : V3.cell? ⟨gb, 0, none⟩ = some (.map none) := HG.out.cell 0
      have m9 := HG.out.lt
      go_simp
      go_wp2_with fail
      obtain ⟨V4, hV⟩ : ∃ V', V' = (V3.setCell ⟨gb, 0, none⟩ (.map mx)) := ⟨_, rfl⟩
      rw [← hV]
      have HG : Hid (Row V4 gb 28 [.map mx]) := by show Row _ _ _ _; rw [hV]; exact (HG.out.set 0 _)
      have HWIN : Hid (WinP V2.heap.size V3 V4) := by show WinP _ _ _; rw [hV]; exact (HWIN.out.set (Or.inl HGW.out) 0 _)
      have HOKX : Hid (r2.1 = 0 → c = r2.2.2 ∧ DbM (fun b => b ≠ gb) S V4 (.map mx) r2.2.1) := fun h => ⟨(HOKX.out h).1, by rw [hV]; exact (HOKX.out h).2.keep (Stay.set (fun h => h rfl) 0 _)⟩
      have HV : Hid (Below W5.heap.size W5 V4) := by show Below _ _ _; rw [hV]; exact (HV.out.setCell (by show W5.heap.size ≤ gb; exact HGZ.out) _)
      clear hV m9 m0 n0
      refine hK.out _ _ (HS5.out V4 HV.out) (fun hHeld => ?_)
      clear hK K
      try simp only [Act.put, List.setIfInBounds_toArray, List.set_cons_succ, List.set_cons_zero]
      refine takeOp (i := 18) (v := ?_) (some 12) rfl rfl (by kernel_rfl) (by kernel_rfl) (by kernel_rfl) (fun _ _ _ h => h) (Or.inl ⟨by rfl, ?_⟩) (by assumption) ?_
      rotate_left 1
      · (intro w0 hSw; (try dsimp only at hSw); go_simp; try (with_reducible rfl))
      try simp only [Act.put, List.setIfInBounds_toArray, List.set_cons_succ, List.set_cons_zero]
      refine takeOp (i := 19) (v := ?_) (some 13) rfl rfl (by kernel_rfl) (by kernel_rfl) (by kernel_rfl) (fun _ _ _ h => h) (Or.inl ⟨by rfl, ?_⟩) (by assumption) ?_
      rotate_left 1
      · (intro w0 hSw; (try dsimp only at hSw); go_simp; try (with_reducible rfl))
      try simp only [Act.put, List.setIfInBounds_toArray, List.set_cons_succ, List.set_cons_zero]
      refine wpAnyH_done (by kernel_rfl) ?_ _
      go_wp2_with fail
      go_meet
      case rel => exact ⟨gb, mx, c, rfl, rfl, rfl, HGZ.out, HG.out, fun h => ⟨(HOKX.out h).1, (HOKX.out h).2.weak fun _ _ _ => trivial⟩, HBADX.out, HV.out⟩
  case rest =>
  obtain ⟨g11, ma, na, rfl, rfl, rfl, -, hr11, hokA, -, hb6⟩ := hcut
  generalize wc = W6 at *
  obtain ⟨hna, hda⟩ := hokA HZ2.out
  have HR11 := Lib.hid hr11
  have HDA := Lib.hid hda
  have HNA := Lib.hid hna
  have HB56 := Lib.hid hb6
  have HB6 := Lib.hid (HB5.out.trans (hb6.mono HB5.out.size))
  have HS6 : Hid (∀ V, Below W6.heap.size W6 V → V.cell? ⟨g8, 0, none⟩ = some (.map (some bd)) ∧ V.cell? ⟨ub, uo + k * 3, none⟩ = some (.bool d1) ∧ V.cell? ⟨ub, uo + k * 3 + 1, none⟩ = some (.string n1) ∧ V.cell? ⟨ub, uo + k * 3 + 2, none⟩ = some (.slice A1 x1.length C1) ∧ V.cell? ⟨ub, uo + (k + 1) * 3, none⟩ = some (.bool d2) ∧ V.cell? ⟨ub, uo + (k + 1) * 3 + 1, none⟩ = some (.string n2) ∧ V.cell? ⟨ub, uo + (k + 1) * 3 + 2, none⟩ = some (.slice A2 x2.length C2)) := fun V hb => HS5.out V (HB56.out.trans (hb.mono HB56.out.size))
  have HAP3 : Hid (∀ V, Below W6.heap.size W6 V → ∀ eb, Row V eb 53 [.bool d2, .string n2, .slice A2 x2.length C2, .bool d1, .string n1, .slice A1 x1.length C1] → ∀ (P : Nat → Prop), (∀ b, b < W6.heap.size → P b) → (∀ b, V.heap.size ≤ b → P b) → Calls Tryz.prog 19 #[.agg #[.map (some bd)], .slice (some ⟨eb, 0, none⟩) 2 2] V fun e w' => ∃ (mx : Option Nat) (c : Nat), e = .returned (.tuple #[.agg #[.map mx], .int .i64 (c : Nat), .int .i64 r3.1]) ∧ (r3.1 = 0 → c = r3.2.2 ∧ DbM P S w' (.map mx) r3.2.1) ∧ (r3.1 ≠ 0 → c = 0 ∧ mx = none) ∧ Below V.heap.size V w') := by
    rw [HRE3.out]
    exact HAPG.out W6 HB56.out [⟨d2, n2, x2⟩, ⟨d1, n1, x1⟩] _ (fun V hb => (UpdCs.one1 ⟨d2, n2, x2⟩ A2 C2 (HCU.out V hb).2).append (UpdCs.one1 ⟨d1, n1, x1⟩ A1 C1 (HCU.out V hb).1)) (fun u hu => by
      rcases List.mem_cons.1 hu with rfl | hu
      · exact HUO3.out _
      · rw [List.mem_singleton.1 hu]; exact HUO1.out _) rfl
  have z86 : g8 < W6.heap.size := Nat.lt_of_lt_of_le z85 HB56.out.size
  have zu6 : ub < W6.heap.size := Nat.lt_of_lt_of_le zu5 HB56.out.size
  rw [HZ2.out]
  clear hr11 hokA hna hda hb6 HAP2 HS5 z85 zu5
  go_upto_region 10 with (fail)
  go_cut [14, 15, 16] from 88 to 104 (fun q1 q2 q3 wx => ∃ (g : Nat) (mx : Option Nat) (c : Nat), q1 = .pointer (some ⟨g, 0, none⟩) ∧ q2 = .int .i64 (c : Nat) ∧ q3 = .int .i64 r3.1 ∧ W6.heap.size ≤ g ∧ Row wx g 28 [.map mx] ∧ (r3.1 = 0 → c = r3.2.2 ∧ DbM (fun _ => True) S wx (.map mx) r3.2.1) ∧ (r3.1 ≠ 0 → c = 0 ∧ mx = none) ∧ Below W6.heap.size W6 wx)
  case first =>
    refine wp_region_held_drew (S := (fun V => V.cell? ⟨g8, 0, none⟩ = some (.map (some bd)) ∧ V.cell? ⟨ub, uo + k * 3, none⟩ = some (.bool d1) ∧ V.cell? ⟨ub, uo + k * 3 + 1, none⟩ = some (.string n1) ∧ V.cell? ⟨ub, uo + k * 3 + 2, none⟩ = some (.slice A1 x1.length C1) ∧ V.cell? ⟨ub, uo + (k + 1) * 3, none⟩ = some (.bool d2) ∧ V.cell? ⟨ub, uo + (k + 1) * 3 + 1, none⟩ = some (.string n2) ∧ V.cell? ⟨ub, uo + (k + 1) * 3 + 2, none⟩ = some (.slice A2 x2.length C2))) (by kernel_rfl) (HS6.out W6.drew (Below.refl _ _).drew) (fun hHeld => ?_)
    obtain ⟨V0, hV0⟩ : ∃ V, V = W6.drew := ⟨_, rfl⟩
    have HV : Hid (Below W6.heap.size W6 V0) := by show Below _ _ _; rw [hV0]; exact (Below.refl _ _).drew
    rw [← hV0] at hHeld ⊢
    clear hV0
    refine takeOp (i := 0) (v := ?_) (some 89) rfl rfl (by kernel_rfl) (by kernel_rfl) (by kernel_rfl) (fun _ _ _ h => h) (Or.inl ⟨by rfl, ?_⟩) (by assumption) ?_
    rotate_left 1
    · (intro w0 hSw; (try dsimp only at hSw); go_simp; try (with_reducible rfl))
    try simp only [Act.put, List.setIfInBounds_toArray, List.set_cons_succ, List.set_cons_zero]
    refine takeOp (i := 1) (v := ?_) (some 90) rfl rfl (by kernel_rfl) (by kernel_rfl) (by kernel_rfl) (fun _ _ _ h => h) (Or.inl ⟨by rfl, ?_⟩) (by assumption) ?_
    rotate_left 1
    · (intro w0 hSw; (try dsimp only at hSw); go_simp; try (with_reducible rfl))
    try simp only [Act.put, List.setIfInBounds_toArray, List.set_cons_succ, List.set_cons_zero]
    refine takeOp (i := 2) (v := ?_) (some 91) rfl rfl (by kernel_rfl) (by kernel_rfl) (by kernel_rfl) (fun _ _ _ h => h) (Or.inl ⟨by rfl, ?_⟩) (by assumption) ?_
    rotate_left 1
    · (intro w0 hSw; (try dsimp only at hSw); go_simp; try (with_reducible rfl))
    try simp only [Act.put, List.setIfInBounds_toArray, List.set_cons_succ, List.set_cons_zero]
    refine takeOp (i := 3) (v := ?_) (some 92) rfl rfl (by kernel_rfl) (by kernel_rfl) (by kernel_rfl) (fun _ _ _ h => h) (Or.inl ⟨by rfl, ?_⟩) (by assumption) ?_
    rotate_left 1
    · (intro w0 hSw; (try dsimp only at hSw); go_simp; try (with_reducible rfl))
    try simp only [Act.put, List.setIfInBounds_toArray, List.set_cons_succ, List.set_cons_zero]
    refine takeOp (i := 4) (v := ?_) (some 93) rfl rfl (by kernel_rfl) (by kernel_rfl) (by kernel_rfl) (fun _ _ _ h => h) (Or.inl ⟨by rfl, ?_⟩) (by assumption) ?_
    rotate_left 1
    · (intro w0 hSw; (try dsimp only at hSw); go_simp; try (with_reducible rfl))
    try simp only [Act.put, List.setIfInBounds_toArray, List.set_cons_succ, List.set_cons_zero]
    refine takeOp (i := 5) (v := ?_) (some 94) rfl rfl (by kernel_rfl) (by kernel_rfl) (by kernel_rfl) (fun _ _ _ h => h) (Or.inl ⟨by rfl, ?_⟩) (by assumption) ?_
    rotate_left 1
    · (intro w0 hSw; (try dsimp only at hSw); go_simp; try (with_reducible rfl))
    try simp only [Act.put, List.setIfInBounds_toArray, List.set_cons_succ, List.set_cons_zero]
    refine takeOp (i := 6) (v := ?_) (some 95) rfl rfl (by kernel_rfl) (by kernel_rfl) (by kernel_rfl) (fun _ _ _ h => h) (Or.inl ⟨by rfl, ?_⟩) (by assumption) ?_
    rotate_left 1
    · (intro w0 hSw; (try dsimp only at hSw); go_simp; try (with_reducible rfl))
    try simp only [Act.put, List.setIfInBounds_toArray, List.set_cons_succ, List.set_cons_zero]
    refine takeOp (i := 7) (v := ?_) (some 96) rfl rfl (by kernel_rfl) (by kernel_rfl) (by kernel_rfl) (fun _ _ _ h => h) (Or.inl ⟨by rfl, ?_⟩) (by assumption) ?_
    rotate_left 1
    · (intro w0 hSw; (try dsimp only at hSw); go_simp; try (with_reducible rfl))
    try simp only [Act.put, List.setIfInBounds_toArray, List.set_cons_succ, List.set_cons_zero]
    refine takeOp (i := 8) (v := ?_) (some 97) rfl rfl (by kernel_rfl) (by kernel_rfl) (by kernel_rfl) (fun _ _ _ h => h) (Or.inl ⟨by rfl, ?_⟩) (by assumption) ?_
    rotate_left 1
    · (intro w0 hSw; (try dsimp only at hSw); go_simp; try (with_reducible rfl))
    try simp only [Act.put, List.setIfInBounds_toArray, List.set_cons_succ, List.set_cons_zero]
    refine takeOp (i := 9) (v := ?_) (some 98) rfl rfl (by kernel_rfl) (by kernel_rfl) (by kernel_rfl) (fun _ _ _ h => h) (Or.inl ⟨by rfl, ?_⟩) (by assumption) ?_
    rotate_left 1
    · (intro w0 hSw; (try dsimp only at hSw); go_simp; try (with_reducible rfl))
    try simp only [Act.put, List.setIfInBounds_toArray, List.set_cons_succ, List.set_cons_zero]
    refine wpAnyH_ready (rs := [10, 16]) (by kernel_rfl) (by simp) ?_
    refine (AllReadyH.cons rfl (fun K hK => ?_) (AllReadyH.cons rfl (fun K hK => ?_) AllReadyH.nil))
    · go_simp
      obtain ⟨V1, hV⟩ : ∃ V', V' = V0.alloc (.cells #[.bool d2, .string n2, .slice A2 x2.length C2, .bool d1, .string n1, .slice A1 x1.length C1] 53) := ⟨_, rfl⟩
      rw [← hV]
      have hb : Below V0.heap.size V0 V1 := by rw [hV]; exact ((Ext.refl V0).alloc _).below
      obtain ⟨eb, heb⟩ : ∃ g, g = V0.heap.size := ⟨_, rfl⟩
      rw [← heb]
      have HEB : Hid (Row V1 eb 53 [.bool d2, .string n2, .slice A2 x2.length C2, .bool d1, .string n1, .slice A1 x1.length C1]) := by show Row _ _ _ _; rw [hV, heb]; exact Row.new V0 _ _
      have HV := Lib.hid (Below.then HV.out hb HV.out.size)
      clear hb hV heb
      refine hK.out _ _ (HS6.out V1 HV.out) (fun hHeld => ?_)
      clear hK K
      try simp only [Act.put, List.setIfInBounds_toArray, List.set_cons_succ, List.set_cons_zero]
      refine wpAnyH_ready (rs := [11, 16]) (by kernel_rfl) (by simp) ?_
      refine (AllReadyH.cons rfl (fun K hK => ?_) (AllReadyH.cons rfl (fun K hK => ?_) AllReadyH.nil))
      · go_simp
        go_simp
        refine (HAP3.out V1 HV.out eb HEB.out (fun _ => True) (fun _ _ => trivial) (fun _ _ => trivial)).mono ?_
        rintro e V2 ⟨mx, c, rfl, hok, hbad, hb⟩
        have HOKX := Lib.hid hok
        have HBADX := Lib.hid hbad
        clear hok hbad
        go_simp
        have HEB := Lib.hid (HEB.out.up hb)
        have HWIN : Hid (WinP V1.heap.size V2 V2) := WinP.refl _ _
        have HV := Lib.hid (Below.then HV.out hb HV.out.size)
        clear hb
        go_wp2_with fail
        refine hK.out _ _ (HS6.out V2 HV.out) (fun hHeld => ?_)
        clear hK K
        try simp only [Act.put, List.setIfInBounds_toArray, List.set_cons_succ, List.set_cons_zero]
        refine takeOp (i := 12) (v := ?_) (some 88) rfl rfl (by kernel_rfl) (by kernel_rfl) (by kernel_rfl) (fun _ _ _ h => h) (Or.inl ⟨by rfl, ?_⟩) (by assumption) ?_
        rotate_left 1
        · (intro w0 hSw; (try dsimp only at hSw); go_simp; try (with_reducible rfl))
        try simp only [Act.put, List.setIfInBounds_toArray, List.set_cons_succ, List.set_cons_zero]
        refine takeOp (i := 13) (v := ?_) (some 101) rfl rfl (by kernel_rfl) (by kernel_rfl) (by kernel_rfl) (fun _ _ _ h => h) (Or.inl ⟨by rfl, ?_⟩) (by assumption) ?_
        rotate_left 1
        · (intro w0 hSw; (try dsimp only at hSw); go_simp; try (with_reducible rfl))
        try simp only [Act.put, List.setIfInBounds_toArray, List.set_cons_succ, List.set_cons_zero]
        refine takeOp (i := 14) (v := ?_) (some 102) rfl rfl (by kernel_rfl) (by kernel_rfl) (by kernel_rfl) (fun _ _ _ h => h) (Or.inl ⟨by rfl, ?_⟩) (by assumption) ?_
        rotate_left 1
        · (intro w0 hSw; (try dsimp only at hSw); go_simp; try (with_reducible rfl))
        try simp only [Act.put, List.setIfInBounds_toArray, List.set_cons_succ, List.set_cons_zero]
        refine takeOp (i := 15) (v := ?_) (some 103) rfl rfl (by kernel_rfl) (by kernel_rfl) (by kernel_rfl) (fun _ _ _ h => h) (Or.inl ⟨by rfl, ?_⟩) (by assumption) ?_
        rotate_left 1
        · (intro w0 hSw; (try dsimp only at hSw); go_simp; try (with_reducible rfl))
        try simp only [Act.put, List.setIfInBounds_toArray, List.set_cons_succ, List.set_cons_zero]
        refine wpAnyH_ready (rs := [16]) (by kernel_rfl) (by simp) ?_
        refine (AllReadyH.cons rfl (fun K hK => ?_) AllReadyH.nil)
        go_simp
        obtain ⟨V3, hV⟩ : ∃ V', V' = V2.alloc (.cells #[.map none] 28) := ⟨_, rfl⟩
        rw [← hV]
        have hb : Below V2.heap.size V2 V3 := by rw [hV]; exact ((Ext.refl V2).alloc _).below
        obtain ⟨gb, hgb⟩ : ∃ gb, gb = V2.heap.size := ⟨_, rfl⟩
        have HG : Hid (Row V3 gb 28 [.map none]) := by show Row _ _ _ _; rw [hV, hgb]; exact Row.new V2 _ _
        have HGZ : Hid (W6.heap.size ≤ gb) := by show _ ≤ _; rw [hgb]; exact HV.out.size
        have HGW0 : Hid (gb < V3.heap.size) := HG.out.lt
        have HEB := Lib.hid (HEB.out.up hb)
        have HWIN : Hid (WinP V1.heap.size V2 V3) := HWIN.out.up hb
        have HOUT : Hid (V2.heap.size ≤ gb) := by show _ ≤ _; rw [hgb]; exact Nat.le_refl _
        have HOKX : Hid (r3.1 = 0 → c = r3.2.2 ∧ DbM (fun b => b ≠ gb) S V3 (.map mx) r3.2.1) := fun h => ⟨(HOKX.out h).1, ((HOKX.out h).2.weak fun b hq _ => by show b ≠ gb; omega).up hb⟩
        have HV := Lib.hid (Below.then HV.out hb HV.out.size)
        rw [← hgb]
        clear hb hV hgb
        refine hK.out _ _ (HS6.out V3 HV.out) (fun hHeld => ?_)
        clear hK K
        try simp only [Act.put, List.setIfInBounds_toArray, List.set_cons_succ, List.set_cons_zero]
        refine wpAnyH_ready (rs := [17]) (by kernel_rfl) (by simp) ?_
        refine (AllReadyH.cons rfl (fun K hK => ?_) AllReadyH.nil)
        have m0 := HG.out.frozen 0
        have n0 : V3.cell? ⟨gb, 0, none⟩ = some (.map none) := HG.out.cell 0
        have m9 := HG.out.lt
        go_simp
        go_wp2_with fail
        obtain ⟨V4, hV⟩ : ∃ V', V' = (V3.setCell ⟨gb, 0, none⟩ (.map mx)) := ⟨_, rfl⟩
        rw [← hV]
        have HG : Hid (Row V4 gb 28 [.map mx]) := by show Row _ _ _ _; rw [hV]; exact (HG.out.set 0 _)
        have HWIN : Hid (WinP V1.heap.size V2 V4) := by show WinP _ _ _; rw [hV]; exact (HWIN.out.set (Or.inr HOUT.out) 0 _)
        have HOKX : Hid (r3.1 = 0 → c = r3.2.2 ∧ DbM (fun b => b ≠ gb) S V4 (.map mx) r3.2.1) := fun h => ⟨(HOKX.out h).1, by rw [hV]; exact (HOKX.out h).2.keep (Stay.set (fun h => h rfl) 0 _)⟩
        have HV : Hid (Below W6.heap.size W6 V4) := by show Below _ _ _; rw [hV]; exact (HV.out.setCell (by show W6.heap.size ≤ gb; exact HGZ.out) _)
        clear hV m9 m0 n0
        refine hK.out _ _ (HS6.out V4 HV.out) (fun hHeld => ?_)
        clear hK K
        try simp only [Act.put, List.setIfInBounds_toArray, List.set_cons_succ, List.set_cons_zero]
        refine takeOp (i := 18) (v := ?_) (some 15) rfl rfl (by kernel_rfl) (by kernel_rfl) (by kernel_rfl) (fun _ _ _ h => h) (Or.inl ⟨by rfl, ?_⟩) (by assumption) ?_
        rotate_left 1
        · (intro w0 hSw; (try dsimp only at hSw); go_simp; try (with_reducible rfl))
        try simp only [Act.put, List.setIfInBounds_toArray, List.set_cons_succ, List.set_cons_zero]
        refine takeOp (i := 19) (v := ?_) (some 16) rfl rfl (by kernel_rfl) (by kernel_rfl) (by kernel_rfl) (fun _ _ _ h => h) (Or.inl ⟨by rfl, ?_⟩) (by assumption) ?_
        rotate_left 1
        · (intro w0 hSw; (try dsimp only at hSw); go_simp; try (with_reducible rfl))
        try simp only [Act.put, List.setIfInBounds_toArray, List.set_cons_succ, List.set_cons_zero]
        refine wpAnyH_done (by kernel_rfl) ?_ _
        go_wp2_with fail
        go_meet
        case rel => exact ⟨gb, mx, c, rfl, rfl, rfl, HGZ.out, HG.out, fun h => ⟨(HOKX.out h).1, (HOKX.out h).2.weak fun _ _ _ => trivial⟩, HBADX.out, HV.out⟩
      · go_simp
        obtain ⟨V2, hV⟩ : ∃ V', V' = V1.alloc (.cells #[.map none] 28) := ⟨_, rfl⟩
        rw [← hV]
        have hb : Below V1.heap.size V1 V2 := by rw [hV]; exact ((Ext.refl V1).alloc _).below
        obtain ⟨gb, hgb⟩ : ∃ gb, gb = V1.heap.size := ⟨_, rfl⟩
        have HG : Hid (Row V2 gb 28 [.map none]) := by show Row _ _ _ _; rw [hV, hgb]; exact Row.new V1 _ _
        have HGZ : Hid (W6.heap.size ≤ gb) := by show _ ≤ _; rw [hgb]; exact HV.out.size
        have HGW0 : Hid (gb < V2.heap.size) := HG.out.lt
        have HEB := Lib.hid (HEB.out.up hb)
        have HV := Lib.hid (Below.then HV.out hb HV.out.size)
        rw [← hgb]
        clear hb hV hgb
        refine hK.out _ _ (HS6.out V2 HV.out) (fun hHeld => ?_)
        clear hK K
        try simp only [Act.put, List.setIfInBounds_toArray, List.set_cons_succ, List.set_cons_zero]
        refine wpAnyH_ready (rs := [11]) (by kernel_rfl) (by simp) ?_
        refine (AllReadyH.cons rfl (fun K hK => ?_) AllReadyH.nil)
        go_simp
        go_simp
        refine (HAP3.out V2 HV.out eb HEB.out (fun b => b ≠ gb) (fun b hb => by have := HGZ.out; show b ≠ gb; omega) (fun b hb => by have := HGW0.out; show b ≠ gb; omega)).mono ?_
        rintro e V3 ⟨mx, c, rfl, hok, hbad, hb⟩
        have HOKX := Lib.hid hok
        have HBADX := Lib.hid hbad
        clear hok hbad
        go_simp
        have HEB := Lib.hid (HEB.out.up hb)
        have HG := Lib.hid (HG.out.up hb)
        have HGW : Hid (gb < V2.heap.size) := by show gb < _; have := HGW0.out; omega
        have HWIN : Hid (WinP V2.heap.size V3 V3) := WinP.refl _ _
        have HV := Lib.hid (Below.then HV.out hb HV.out.size)
        clear hb
        go_wp2_with fail
        refine hK.out _ _ (HS6.out V3 HV.out) (fun hHeld => ?_)
        clear hK K
        try simp only [Act.put, List.setIfInBounds_toArray, List.set_cons_succ, List.set_cons_zero]
        refine takeOp (i := 12) (v := ?_) (some 88) rfl rfl (by kernel_rfl) (by kernel_rfl) (by kernel_rfl) (fun _ _ _ h => h) (Or.inl ⟨by rfl, ?_⟩) (by assumption) ?_
        rotate_left 1
        · (intro w0 hSw; (try dsimp only at hSw); go_simp; try (with_reducible rfl))
        try simp only [Act.put, List.setIfInBounds_toArray, List.set_cons_succ, List.set_cons_zero]
        refine takeOp (i := 13) (v := ?_) (some 101) rfl rfl (by kernel_rfl) (by kernel_rfl) (by kernel_rfl) (fun _ _ _ h => h) (Or.inl ⟨by rfl, ?_⟩) (by assumption) ?_
        rotate_left 1
        · (intro w0 hSw; (try dsimp only at hSw); go_simp; try (with_reducible rfl))
        try simp only [Act.put, List.setIfInBounds_toArray, List.set_cons_succ, List.set_cons_zero]
        refine takeOp (i := 14) (v := ?_) (some 102) rfl rfl (by kernel_rfl) (by kernel_rfl) (by kernel_rfl) (fun _ _ _ h => h) (Or.inl ⟨by rfl, ?_⟩) (by assumption) ?_
        rotate_left 1
        · (intro w0 hSw; (try dsimp only at hSw); go_simp; try (with_reducible rfl))
        try simp only [Act.put, List.setIfInBounds_toArray, List.set_cons_succ, List.set_cons_zero]
        refine takeOp (i := 15) (v := ?_) (some 103) rfl rfl (by kernel_rfl) (by kernel_rfl) (by kernel_rfl) (fun _ _ _ h => h) (Or.inl ⟨by rfl, ?_⟩) (by assumption) ?_
        rotate_left 1
        · (intro w0 hSw; (try dsimp only at hSw); go_simp; try (with_reducible rfl))
        try simp only [Act.put, List.setIfInBounds_toArray, List.set_cons_succ, List.set_cons_zero]
        refine wpAnyH_ready (rs := [17]) (by kernel_rfl) (by simp) ?_
        refine (AllReadyH.cons rfl (fun K hK => ?_) AllReadyH.nil)
        have m0 := HG.out.frozen 0
        have n0 : V3.cell? ⟨gb, 0, none⟩ = some (.map none) := HG.out.cell 0
        have m9 := HG.out.lt
        go_simp
        go_wp2_with fail
        obtain ⟨V4, hV⟩ : ∃ V', V' = (V3.setCell ⟨gb, 0, none⟩ (.map mx)) := ⟨_, rfl⟩
        rw [← hV]
        have HG : Hid (Row V4 gb 28 [.map mx]) := by show Row _ _ _ _; rw [hV]; exact (HG.out.set 0 _)
        have HWIN : Hid (WinP V2.heap.size V3 V4) := by show WinP _ _ _; rw [hV]; exact (HWIN.out.set (Or.inl HGW.out) 0 _)
        have HOKX : Hid (r3.1 = 0 → c = r3.2.2 ∧ DbM (fun b => b ≠ gb) S V4 (.map mx) r3.2.1) := fun h => ⟨(HOKX.out h).1, by rw [hV]; exact (HOKX.out h).2.keep (Stay.set (fun h => h rfl) 0 _)⟩
        have HV : Hid (Below W6.heap.size W6 V4) := by show Below _ _ _; rw [hV]; exact (HV.out.setCell (by show W6.heap.size ≤ gb; exact HGZ.out) _)
        clear hV m9 m0 n0
        refine hK.out _ _ (HS6.out V4 HV.out) (fun hHeld => ?_)
        clear hK K
        try simp only [Act.put, List.setIfInBounds_toArray, List.set_cons_succ, List.set_cons_zero]
        refine takeOp (i := 18) (v := ?_) (some 15) rfl rfl (by kernel_rfl) (by kernel_rfl) (by kernel_rfl) (fun _ _ _ h => h) (Or.inl ⟨by rfl, ?_⟩) (by assumption) ?_
        rotate_left 1
        · (intro w0 hSw; (try dsimp only at hSw); go_simp; try (with_reducible rfl))
        try simp only [Act.put, List.setIfInBounds_toArray, List.set_cons_succ, List.set_cons_zero]
        refine takeOp (i := 19) (v := ?_) (some 16) rfl rfl (by kernel_rfl) (by kernel_rfl) (by kernel_rfl) (fun _ _ _ h => h) (Or.inl ⟨by rfl, ?_⟩) (by assumption) ?_
        rotate_left 1
        · (intro w0 hSw; (try dsimp only at hSw); go_simp; try (with_reducible rfl))
        try simp only [Act.put, List.setIfInBounds_toArray, List.set_cons_succ, List.set_cons_zero]
        refine wpAnyH_done (by kernel_rfl) ?_ _
        go_wp2_with fail
        go_meet
        case rel => exact ⟨gb, mx, c, rfl, rfl, rfl, HGZ.out, HG.out, fun h => ⟨(HOKX.out h).1, (HOKX.out h).2.weak fun _ _ _ => trivial⟩, HBADX.out, HV.out⟩
    · go_simp
      obtain ⟨V1, hV⟩ : ∃ V', V' = V0.alloc (.cells #[.map none] 28) := ⟨_, rfl⟩
      rw [← hV]
      have hb : Below V0.heap.size V0 V1 := by rw [hV]; exact ((Ext.refl V0).alloc _).below
      obtain ⟨gb, hgb⟩ : ∃ gb, gb = V0.heap.size := ⟨_, rfl⟩
      have HG : Hid (Row V1 gb 28 [.map none]) := by show Row _ _ _ _; rw [hV, hgb]; exact Row.new V0 _ _
      have HGZ : Hid (W6.heap.size ≤ gb) := by show _ ≤ _; rw [hgb]; exact HV.out.size
      have HGW0 : Hid (gb < V1.heap.size) := HG.out.lt
      have HV := Lib.hid (Below.then HV.out hb HV.out.size)
      rw [← hgb]
      clear hb hV hgb
      refine hK.out _ _ (HS6.out V1 HV.out) (fun hHeld => ?_)
      clear hK K
      try simp only [Act.put, List.setIfInBounds_toArray, List.set_cons_succ, List.set_cons_zero]
      refine wpAnyH_ready (rs := [10]) (by kernel_rfl) (by simp) ?_
      refine (AllReadyH.cons rfl (fun K hK => ?_) AllReadyH.nil)
      go_simp
      obtain ⟨V2, hV⟩ : ∃ V', V' = V1.alloc (.cells #[.bool d2, .string n2, .slice A2 x2.length C2, .bool d1, .string n1, .slice A1 x1.length C1] 53) := ⟨_, rfl⟩
      rw [← hV]
      have hb : Below V1.heap.size V1 V2 := by rw [hV]; exact ((Ext.refl V1).alloc _).below
      obtain ⟨eb, heb⟩ : ∃ g, g = V1.heap.size := ⟨_, rfl⟩
      rw [← heb]
      have HEB : Hid (Row V2 eb 53 [.bool d2, .string n2, .slice A2 x2.length C2, .bool d1, .string n1, .slice A1 x1.length C1]) := by show Row _ _ _ _; rw [hV, heb]; exact Row.new V1 _ _
      have HG := Lib.hid (HG.out.up hb)
      have HGW0 : Hid (gb < V2.heap.size) := HG.out.lt
      have HV := Lib.hid (Below.then HV.out hb HV.out.size)
      clear hb hV heb
      refine hK.out _ _ (HS6.out V2 HV.out) (fun hHeld => ?_)
      clear hK K
      try simp only [Act.put, List.setIfInBounds_toArray, List.set_cons_succ, List.set_cons_zero]
      refine wpAnyH_ready (rs := [11]) (by kernel_rfl) (by simp) ?_
      refine (AllReadyH.cons rfl (fun K hK => ?_) AllReadyH.nil)
      go_simp
      go_simp
      refine (HAP3.out V2 HV.out eb HEB.out (fun b => b ≠ gb) (fun b hb => by have := HGZ.out; show b ≠ gb; omega) (fun b hb => by have := HGW0.out; show b ≠ gb; omega)).mono ?_
      rintro e V3 ⟨mx, c, rfl, hok, hbad, hb⟩
      have HOKX := Lib.hid hok
      have HBADX := Lib.hid hbad
      clear hok hbad
      go_simp
      have HEB := Lib.hid (HEB.out.up hb)
      have HG := Lib.hid (HG.out.up hb)
      have HGW : Hid (gb < V2.heap.size) := by show gb < _; have := HGW0.out; omega
      have HWIN : Hid (WinP V2.heap.size V3 V3) := WinP.refl _ _
      have HV := Lib.hid (Below.then HV.out hb HV.out.size)
      clear hb
      go_wp2_with fail
      refine hK.out _ _ (HS6.out V3 HV.out) (fun hHeld => ?_)
      clear hK K
      try simp only [Act.put, List.setIfInBounds_toArray, List.set_cons_succ, List.set_cons_zero]
      refine takeOp (i := 12) (v := ?_) (some 88) rfl rfl (by kernel_rfl) (by kernel_rfl) (by kernel_rfl) (fun _ _ _ h => h) (Or.inl ⟨by rfl, ?_⟩) (by assumption) ?_
      rotate_left 1
      · (intro w0 hSw; (try dsimp only at hSw); go_simp; try (with_reducible rfl))
      try simp only [Act.put, List.setIfInBounds_toArray, List.set_cons_succ, List.set_cons_zero]
      refine takeOp (i := 13) (v := ?_) (some 101) rfl rfl (by kernel_rfl) (by kernel_rfl) (by kernel_rfl) (fun _ _ _ h => h) (Or.inl ⟨by rfl, ?_⟩) (by assumption) ?_
      rotate_left 1
      · (intro w0 hSw; (try dsimp only at hSw); go_simp; try (with_reducible rfl))
      try simp only [Act.put, List.setIfInBounds_toArray, List.set_cons_succ, List.set_cons_zero]
      refine takeOp (i := 14) (v := ?_) (some 102) rfl rfl (by kernel_rfl) (by kernel_rfl) (by kernel_rfl) (fun _ _ _ h => h) (Or.inl ⟨by rfl, ?_⟩) (by assumption) ?_
      rotate_left 1
      · (intro w0 hSw; (try dsimp only at hSw); go_simp; try (with_reducible rfl))
      try simp only [Act.put, List.setIfInBounds_toArray, List.set_cons_succ, List.set_cons_zero]
      refine takeOp (i := 15) (v := ?_) (some 103) rfl rfl (by kernel_rfl) (by kernel_rfl) (by kernel_rfl) (fun _ _ _ h => h) (Or.inl ⟨by rfl, ?_⟩) (by assumption) ?_
      rotate_left 1
      · (intro w0 hSw; (try dsimp only at hSw); go_simp; try (with_reducible rfl))
      try simp only [Act.put, List.setIfInBounds_toArray, List.set_cons_succ, List.set_cons_zero]
      refine wpAnyH_ready (rs := [17]) (by kernel_rfl) (by simp) ?_
      refine (AllReadyH.cons rfl (fun K hK => ?_) AllReadyH.nil)
      have m0 := HG.out.frozen 0
      have n0 : V3.cell? ⟨gb, 0, none⟩ = some (.map none) := HG.out.cell 0
      have m9 := HG.out.lt
      go_simp
      go_wp2_with fail
      obtain ⟨V4, hV⟩ : ∃ V', V' = (V3.setCell ⟨gb, 0, none⟩ (.map mx)) := ⟨_, rfl⟩
      rw [← hV]
      have HG : Hid (Row V4 gb 28 [.map mx]) := by show Row _ _ _ _; rw [hV]; exact (HG.out.set 0 _)
      have HWIN : Hid (WinP V2.heap.size V3 V4) := by show WinP _ _ _; rw [hV]; exact (HWIN.out.set (Or.inl HGW.out) 0 _)
      have HOKX : Hid (r3.1 = 0 → c = r3.2.2 ∧ DbM (fun b => b ≠ gb) S V4 (.map mx) r3.2.1) := fun h => ⟨(HOKX.out h).1, by rw [hV]; exact (HOKX.out h).2.keep (Stay.set (fun h => h rfl) 0 _)⟩
      have HV : Hid (Below W6.heap.size W6 V4) := by show Below _ _ _; rw [hV]; exact (HV.out.setCell (by show W6.heap.size ≤ gb; exact HGZ.out) _)
      clear hV m9 m0 n0
      refine hK.out _ _ (HS6.out V4 HV.out) (fun hHeld => ?_)
      clear hK K
      try simp only [Act.put, List.setIfInBounds_toArray, List.set_cons_succ, List.set_cons_zero]
      refine takeOp (i := 18) (v := ?_) (some 15) rfl rfl (by kernel_rfl) (by kernel_rfl) (by kernel_rfl) (fun _ _ _ h => h) (Or.inl ⟨by rfl, ?_⟩) (by assumption) ?_
      rotate_left 1
      · (intro w0 hSw; (try dsimp only at hSw); go_simp; try (with_reducible rfl))
      try simp only [Act.put, List.setIfInBounds_toArray, List.set_cons_succ, List.set_cons_zero]
      refine takeOp (i := 19) (v := ?_) (some 16) rfl rfl (by kernel_rfl) (by kernel_rfl) (by kernel_rfl) (fun _ _ _ h => h) (Or.inl ⟨by rfl, ?_⟩) (by assumption) ?_
      rotate_left 1
      · (intro w0 hSw; (try dsimp only at hSw); go_simp; try (with_reducible rfl))
      try simp only [Act.put, List.setIfInBounds_toArray, List.set_cons_succ, List.set_cons_zero]
      refine wpAnyH_done (by kernel_rfl) ?_ _
      go_wp2_with fail
      go_meet
      case rel => exact ⟨gb, mx, c, rfl, rfl, rfl, HGZ.out, HG.out, fun h => ⟨(HOKX.out h).1, (HOKX.out h).2.weak fun _ _ _ => trivial⟩, HBADX.out, HV.out⟩
  case rest =>
  obtain ⟨g14, mb, nb, rfl, rfl, rfl, -, hr14, hokB, -, hb7⟩ := hcut
  generalize wc = W7 at *
  obtain ⟨hnb, hdb⟩ := hokB HZ3.out
  have HR14 := Lib.hid hr14
  have HDB := Lib.hid hdb
  have HNB := Lib.hid hnb
  have HB57 := Lib.hid (HB56.out.trans (hb7.mono HB56.out.size))
  have HB7 := Lib.hid (HB6.out.trans (hb7.mono HB6.out.size))
  have HR117 := Lib.hid (HR11.out.up hb7)
  have HDA7 := Lib.hid (HDA.out.up hb7)
  have HS7 : Hid (∀ V, Below W7.heap.size W7 V → V.cell? ⟨g8, 0, none⟩ = some (.map (some bd)) ∧ V.cell? ⟨ub, uo + k * 3, none⟩ = some (.bool d1) ∧ V.cell? ⟨ub, uo + k * 3 + 1, none⟩ = some (.string n1) ∧ V.cell? ⟨ub, uo + k * 3 + 2, none⟩ = some (.slice A1 x1.length C1) ∧ V.cell? ⟨ub, uo + (k + 1) * 3, none⟩ = some (.bool d2) ∧ V.cell? ⟨ub, uo + (k + 1) * 3 + 1, none⟩ = some (.string n2) ∧ V.cell? ⟨ub, uo + (k + 1) * 3 + 2, none⟩ = some (.slice A2 x2.length C2)) := fun V hb => HS6.out V (hb7.trans (hb.mono hb7.size))
  have z87 : g8 < W7.heap.size := Nat.lt_of_lt_of_le z86 hb7.size
  have zu7 : ub < W7.heap.size := Nat.lt_of_lt_of_le zu6 hb7.size
  rw [HZ3.out]
  clear hr14 hokB hnb hdb hb7 HAP3 HS6 z86 zu6 HR11 HDA
  obtain ⟨sb, hsb⟩ : ∃ b, b = decide (n1 = n2 ∧ x1 = x2) := ⟨_, rfl⟩
  have HSB := Lib.hid hsb
  clear hsb
  have HSAM : Hid (∀ V, Below W7.heap.size W7 V → Calls Tryz.prog 22 #[.slice A1 x1.length C1, .slice A2 x2.length C2] V fun e V' => e = .returned (.bool (decide (x1 = x2))) ∧ Ext V V') := fun V hb => by
    have hbw := HB7.out.trans (hb.mono HB7.out.size)
    exact r08Same_any A1 A2 C1 C2 x1 x2 V (HCU.out V hbw).1 (HCU.out V hbw).2 HU1.out.2.1 HU2.out.2.1
  have hse := strEq_str n1 n2
  go_upto_region 11 with (fail)
  go_cut [17] from 104 to 130 (fun q wx => q = .bool sb ∧ Ext W7 wx)
  case first =>
    by_cases hn : n1 = n2
    · rw [decide_eq_true hn] at hse
      have HV : Hid (decide (x1 = x2) = sb) := by show _ = _; rw [HSB.out]; exact decide_eq_decide.2 ⟨fun h => ⟨hn, h⟩, fun h => h.2⟩
      clear hn
      refine wp_region_held_drew (S := (fun V => V.cell? ⟨g8, 0, none⟩ = some (.map (some bd)) ∧ V.cell? ⟨ub, uo + k * 3, none⟩ = some (.bool d1) ∧ V.cell? ⟨ub, uo + k * 3 + 1, none⟩ = some (.string n1) ∧ V.cell? ⟨ub, uo + k * 3 + 2, none⟩ = some (.slice A1 x1.length C1) ∧ V.cell? ⟨ub, uo + (k + 1) * 3, none⟩ = some (.bool d2) ∧ V.cell? ⟨ub, uo + (k + 1) * 3 + 1, none⟩ = some (.string n2) ∧ V.cell? ⟨ub, uo + (k + 1) * 3 + 2, none⟩ = some (.slice A2 x2.length C2))) (by kernel_rfl) (HS7.out W7.drew (Below.refl _ _).drew) (fun hHeld => ?_)
      refine takeOp (i := 0) (v := ?_) (some 104) rfl rfl (by kernel_rfl) (by kernel_rfl) (by kernel_rfl) (fun _ _ _ h => h) (Or.inl ⟨by rfl, ?_⟩) (by assumption) ?_
      rotate_left 1
      · (intro w0 hSw; (try dsimp only at hSw); go_simp; try (with_reducible rfl))
      try simp only [Act.put, List.setIfInBounds_toArray, List.set_cons_succ, List.set_cons_zero]
      refine takeOp (i := 1) (v := ?_) (some 105) rfl rfl (by kernel_rfl) (by kernel_rfl) (by kernel_rfl) (fun _ _ _ h => h) (Or.inl ⟨by rfl, ?_⟩) (by assumption) ?_
      rotate_left 1
      · (intro w0 hSw; (try dsimp only at hSw); go_simp; try (with_reducible rfl))
      try simp only [Act.put, List.setIfInBounds_toArray, List.set_cons_succ, List.set_cons_zero]
      refine takeOp (i := 2) (v := ?_) (some 106) rfl rfl (by kernel_rfl) (by kernel_rfl) (by kernel_rfl) (fun _ _ _ h => h) (Or.inl ⟨by rfl, ?_⟩) (by assumption) ?_
      rotate_left 1
      · (intro w0 hSw; (try dsimp only at hSw); go_simp; try (with_reducible rfl))
      try simp only [Act.put, List.setIfInBounds_toArray, List.set_cons_succ, List.set_cons_zero]
      refine takeOp (i := 3) (v := ?_) (some 107) rfl rfl (by kernel_rfl) (by kernel_rfl) (by kernel_rfl) (fun _ _ _ h => h) (Or.inl ⟨by rfl, ?_⟩) (by assumption) ?_
      rotate_left 1
      · (intro w0 hSw; (try dsimp only at hSw); go_simp; try (with_reducible rfl))
      try simp only [Act.put, List.setIfInBounds_toArray, List.set_cons_succ, List.set_cons_zero]
      refine takeOp (i := 4) (v := ?_) (some 108) rfl rfl (by kernel_rfl) (by kernel_rfl) (by kernel_rfl) (fun _ _ _ h => h) (Or.inl ⟨by rfl, ?_⟩) (by assumption) ?_
      rotate_left 1
      · (intro w0 hSw; (try dsimp only at hSw); go_simp; try (with_reducible rfl))
      try simp only [Act.put, List.setIfInBounds_toArray, List.set_cons_succ, List.set_cons_zero]
      refine takeOp (i := 5) (v := ?_) (some 109) rfl rfl (by kernel_rfl) (by kernel_rfl) (by kernel_rfl) (fun _ _ _ h => h) (Or.inl ⟨by rfl, ?_⟩) (by assumption) ?_
      rotate_left 1
      · (intro w0 hSw; (try dsimp only at hSw); go_simp; try (with_reducible rfl))
      try simp only [Act.put, List.setIfInBounds_toArray, List.set_cons_succ, List.set_cons_zero]
      refine takeOp (i := 6) (v := ?_) (some 110) rfl rfl (by kernel_rfl) (by kernel_rfl) (by kernel_rfl) (fun _ _ _ h => h) (Or.inl ⟨by rfl, ?_⟩) (by assumption) ?_
      rotate_left 1
      · (intro w0 hSw; (try dsimp only at hSw); go_simp; try (with_reducible rfl))
      try simp only [Act.put, List.setIfInBounds_toArray, List.set_cons_succ, List.set_cons_zero]
      refine takeOp (i := 7) (v := ?_) (some 111) rfl rfl (by kernel_rfl) (by kernel_rfl) (by kernel_rfl) (fun _ _ _ h => h) (Or.inl ⟨by rfl, ?_⟩) (by assumption) ?_
      rotate_left 1
      · (intro w0 hSw; (try dsimp only at hSw); go_simp; try (with_reducible rfl))
      try simp only [Act.put, List.setIfInBounds_toArray, List.set_cons_succ, List.set_cons_zero]
      refine takeOp (i := 8) (v := ?_) (some 112) rfl rfl (by kernel_rfl) (by kernel_rfl) (by kernel_rfl) (fun _ _ _ h => h) (Or.inl ⟨by rfl, ?_⟩) (by assumption) ?_
      rotate_left 1
      · (intro w0 hSw; (try dsimp only at hSw); go_simp; try (with_reducible rfl))
      try simp only [Act.put, List.setIfInBounds_toArray, List.set_cons_succ, List.set_cons_zero]
      refine takeOp (i := 9) (v := ?_) (some 113) rfl rfl (by kernel_rfl) (by kernel_rfl) (by kernel_rfl) (fun _ _ _ h => h) (Or.inl ⟨by rfl, ?_⟩) (by assumption) ?_
      rotate_left 1
      · (intro w0 hSw; (try dsimp only at hSw); go_simp; try (with_reducible rfl))
      try simp only [Act.put, List.setIfInBounds_toArray, List.set_cons_succ, List.set_cons_zero]
      refine takeOp (i := 10) (v := ?_) (some 114) rfl rfl (by kernel_rfl) (by kernel_rfl) (by kernel_rfl) (fun _ _ _ h => h) (Or.inl ⟨by rfl, ?_⟩) (by assumption) ?_
      rotate_left 1
      · (intro w0 hSw; (try dsimp only at hSw); go_simp; try (with_reducible rfl))
      try simp only [Act.put, List.setIfInBounds_toArray, List.set_cons_succ, List.set_cons_zero]
      refine takeOp (i := 11) (v := ?_) (some 115) rfl rfl (by kernel_rfl) (by kernel_rfl) (by kernel_rfl) (fun _ _ _ h => h) (Or.inl ⟨by rfl, ?_⟩) (by assumption) ?_
      rotate_left 1
      · (intro w0 hSw; (try dsimp only at hSw); go_simp; try (with_reducible rfl))
      try simp only [Act.put, List.setIfInBounds_toArray, List.set_cons_succ, List.set_cons_zero]
      refine takeOp (i := 12) (v := ?_) (some 116) rfl rfl (by kernel_rfl) (by kernel_rfl) (by kernel_rfl) (fun _ _ _ h => h) (Or.inl ⟨by rfl, ?_⟩) (by assumption) ?_
      rotate_left 1
      · (intro w0 hSw; (try dsimp only at hSw); go_simp; try (with_reducible rfl))
      try simp only [Act.put, List.setIfInBounds_toArray, List.set_cons_succ, List.set_cons_zero]
      refine takeOp (i := 13) (v := ?_) (some 117) rfl rfl (by kernel_rfl) (by kernel_rfl) (by kernel_rfl) (fun _ _ _ h => h) (Or.inl ⟨by rfl, ?_⟩) (by assumption) ?_
      rotate_left 1
      · (intro w0 hSw; (try dsimp only at hSw); go_simp; try (with_reducible rfl))
      try simp only [Act.put, List.setIfInBounds_toArray, List.set_cons_succ, List.set_cons_zero]
      refine takeOp (i := 14) (v := ?_) (some 118) rfl rfl (by kernel_rfl) (by kernel_rfl) (by kernel_rfl) (fun _ _ _ h => h) (Or.inl ⟨by rfl, ?_⟩) (by assumption) ?_
      rotate_left 1
      · (intro w0 hSw; (try dsimp only at hSw); go_simp; try (with_reducible rfl))
      try simp only [Act.put, List.setIfInBounds_toArray, List.set_cons_succ, List.set_cons_zero]
      refine takeOp (i := 15) (v := ?_) (some 119) rfl rfl (by kernel_rfl) (by kernel_rfl) (by kernel_rfl) (fun _ _ _ h => h) (Or.inl ⟨by rfl, ?_⟩) (by assumption) ?_
      rotate_left 1
      · (intro w0 hSw; (try dsimp only at hSw); go_simp; try (with_reducible rfl))
      try simp only [Act.put, List.setIfInBounds_toArray, List.set_cons_succ, List.set_cons_zero]
      refine takeOp (i := 16) (v := ?_) (some 120) rfl rfl (by kernel_rfl) (by kernel_rfl) (by kernel_rfl) (fun _ _ _ h => h) (Or.inl ⟨by rfl, ?_⟩) (by assumption) ?_
      rotate_left 1
      · (intro w0 hSw; (try dsimp only at hSw); go_simp; try (with_reducible rfl))
      try simp only [Act.put, List.setIfInBounds_toArray, List.set_cons_succ, List.set_cons_zero]
      refine takeOp (i := 17) (v := ?_) (some 121) rfl rfl (by kernel_rfl) (by kernel_rfl) (by kernel_rfl) (fun _ _ _ h => h) (Or.inl ⟨by rfl, ?_⟩) (by assumption) ?_
      rotate_left 1
      · (intro w0 hSw; (try dsimp only at hSw); go_simp; try (with_reducible rfl))
      try simp only [Act.put, List.setIfInBounds_toArray, List.set_cons_succ, List.set_cons_zero]
      refine takeOp (i := 18) (v := ?_) (some 122) rfl rfl (by kernel_rfl) (by kernel_rfl) (by kernel_rfl) (fun _ _ _ h => h) (Or.inl ⟨by rfl, ?_⟩) (by assumption) ?_
      rotate_left 1
      · (intro w0 hSw; (try dsimp only at hSw); go_simp; try (with_reducible rfl))
      try simp only [Act.put, List.setIfInBounds_toArray, List.set_cons_succ, List.set_cons_zero]
      refine takeOp (i := 19) (v := ?_) (some 123) rfl rfl (by kernel_rfl) (by kernel_rfl) (by kernel_rfl) (fun _ _ _ h => h) (Or.inl ⟨by rfl, ?_⟩) (by assumption) ?_
      rotate_left 1
      · (intro w0 hSw; (try dsimp only at hSw); go_simp; try (with_reducible rfl))
      try simp only [Act.put, List.setIfInBounds_toArray, List.set_cons_succ, List.set_cons_zero]
      refine takeOp (i := 20) (v := ?_) (some 124) rfl rfl (by kernel_rfl) (by kernel_rfl) (by kernel_rfl) (fun _ _ _ h => h) (Or.inl ⟨by rfl, ?_⟩) (by assumption) ?_
      rotate_left 1
      · (intro w0 hSw; (try dsimp only at hSw); go_simp; try (with_reducible rfl))
      try simp only [Act.put, List.setIfInBounds_toArray, List.set_cons_succ, List.set_cons_zero]
      refine takeOp (i := 21) (v := ?_) (some 125) rfl rfl (by kernel_rfl) (by kernel_rfl) (by kernel_rfl) (fun _ _ _ h => h) (Or.inl ⟨by rfl, ?_⟩) (by assumption) ?_
      rotate_left 1
      · (intro w0 hSw; (try dsimp only at hSw); go_simp; try (with_reducible rfl))
      try simp only [Act.put, List.setIfInBounds_toArray, List.set_cons_succ, List.set_cons_zero]
      refine takeOp (i := 22) (v := ?_) (some 126) rfl rfl (by kernel_rfl) (by kernel_rfl) (by kernel_rfl) (fun _ _ _ h => h) (Or.inl ⟨by rfl, ?_⟩) (by assumption) ?_
      rotate_left 1
      · (intro w0 hSw; (try dsimp only at hSw); go_simp; try (with_reducible rfl))
      try simp only [Act.put, List.setIfInBounds_toArray, List.set_cons_succ, List.set_cons_zero]
      refine takeOp (i := 23) (v := ?_) (some 127) rfl rfl (by kernel_rfl) (by kernel_rfl) (by kernel_rfl) (fun _ _ _ h => h) (Or.inl ⟨by rfl, ?_⟩) (by assumption) ?_
      rotate_left 1
      · (intro w0 hSw; (try dsimp only at hSw); go_simp; try (with_reducible rfl))
      try simp only [Act.put, List.setIfInBounds_toArray, List.set_cons_succ, List.set_cons_zero]
      refine wpAnyH_ready (rs := [24]) (by kernel_rfl) (by simp) ?_
      refine AllReadyH.cons rfl (fun K hK => ?_) AllReadyH.nil
      go_simp
      refine (HSAM.out W7.drew (Below.refl _ _).drew).mono ?_
      rintro e V1 ⟨rfl, hx1⟩
      have HX1 : Hid (Ext W7 V1) := (Ext.refl W7).drew.trans hx1
      clear hx1
      go_wp2_with fail
      refine hK.out _ _ (HS7.out V1 HX1.out.below) (fun hHeld => ?_)
      clear hK K
      try simp only [Act.put, List.setIfInBounds_toArray, List.set_cons_succ, List.set_cons_zero]
      refine takeOp (i := 25) (v := ?_) (some 129) rfl rfl (by kernel_rfl) (by kernel_rfl) (by kernel_rfl) (fun _ _ _ h => h) (Or.inl ⟨by rfl, ?_⟩) (by assumption) ?_
      rotate_left 1
      · (intro w0 hSw; (try dsimp only at hSw); go_simp; try (with_reducible rfl))
      try simp only [Act.put, List.setIfInBounds_toArray, List.set_cons_succ, List.set_cons_zero]
      refine takeOp (i := 26) (v := ?_) (some 17) rfl rfl (by kernel_rfl) (by kernel_rfl) (by kernel_rfl) (fun _ _ _ h => h) (Or.inl ⟨by rfl, ?_⟩) (by assumption) ?_
      rotate_left 1
      · (intro w0 hSw; (try dsimp only at hSw); go_simp; try (with_reducible rfl))
      try simp only [Act.put, List.setIfInBounds_toArray, List.set_cons_succ, List.set_cons_zero]
      refine wpAnyH_done (by kernel_rfl) ?_ _
      go_wp2_with fail
      go_meet
      case rel => exact ⟨by rw [HV.out], HX1.out⟩
    · rw [decide_eq_false hn] at hse
      have HV : Hid (false = sb) := by show _ = _; rw [HSB.out]; exact (decide_eq_false fun h => hn h.1).symm
      clear hn
      refine wp_region_held_drew (S := (fun V => V.cell? ⟨g8, 0, none⟩ = some (.map (some bd)) ∧ V.cell? ⟨ub, uo + k * 3, none⟩ = some (.bool d1) ∧ V.cell? ⟨ub, uo + k * 3 + 1, none⟩ = some (.string n1) ∧ V.cell? ⟨ub, uo + k * 3 + 2, none⟩ = some (.slice A1 x1.length C1) ∧ V.cell? ⟨ub, uo + (k + 1) * 3, none⟩ = some (.bool d2) ∧ V.cell? ⟨ub, uo + (k + 1) * 3 + 1, none⟩ = some (.string n2) ∧ V.cell? ⟨ub, uo + (k + 1) * 3 + 2, none⟩ = some (.slice A2 x2.length C2))) (by kernel_rfl) (HS7.out W7.drew (Below.refl _ _).drew) (fun hHeld => ?_)
      refine takeOp (i := 0) (v := ?_) (some 104) rfl rfl (by kernel_rfl) (by kernel_rfl) (by kernel_rfl) (fun _ _ _ h => h) (Or.inl ⟨by rfl, ?_⟩) (by assumption) ?_
      rotate_left 1
      · (intro w0 hSw; (try dsimp only at hSw); go_simp; try (with_reducible rfl))
      try simp only [Act.put, List.setIfInBounds_toArray, List.set_cons_succ, List.set_cons_zero]
      refine takeOp (i := 1) (v := ?_) (some 105) rfl rfl (by kernel_rfl) (by kernel_rfl) (by kernel_rfl) (fun _ _ _ h => h) (Or.inl ⟨by rfl, ?_⟩) (by assumption) ?_
      rotate_left 1
      · (intro w0 hSw; (try dsimp only at hSw); go_simp; try (with_reducible rfl))
      try simp only [Act.put, List.setIfInBounds_toArray, List.set_cons_succ, List.set_cons_zero]
      refine takeOp (i := 2) (v := ?_) (some 106) rfl rfl (by kernel_rfl) (by kernel_rfl) (by kernel_rfl) (fun _ _ _ h => h) (Or.inl ⟨by rfl, ?_⟩) (by assumption) ?_
      rotate_left 1
      · (intro w0 hSw; (try dsimp only at hSw); go_simp; try (with_reducible rfl))
      try simp only [Act.put, List.setIfInBounds_toArray, List.set_cons_succ, List.set_cons_zero]
      refine takeOp (i := 3) (v := ?_) (some 107) rfl rfl (by kernel_rfl) (by kernel_rfl) (by kernel_rfl) (fun _ _ _ h => h) (Or.inl ⟨by rfl, ?_⟩) (by assumption) ?_
      rotate_left 1
      · (intro w0 hSw; (try dsimp only at hSw); go_simp; try (with_reducible rfl))
      try simp only [Act.put, List.setIfInBounds_toArray, List.set_cons_succ, List.set_cons_zero]
      refine takeOp (i := 4) (v := ?_) (some 108) rfl rfl (by kernel_rfl) (by kernel_rfl) (by kernel_rfl) (fun _ _ _ h => h) (Or.inl ⟨by rfl, ?_⟩) (by assumption) ?_
      rotate_left 1
      · (intro w0 hSw; (try dsimp only at hSw); go_simp; try (with_reducible rfl))
      try simp only [Act.put, List.setIfInBounds_toArray, List.set_cons_succ, List.set_cons_zero]
      refine takeOp (i := 5) (v := ?_) (some 109) rfl rfl (by kernel_rfl) (by kernel_rfl) (by kernel_rfl) (fun _ _ _ h => h) (Or.inl ⟨by rfl, ?_⟩) (by assumption) ?_
      rotate_left 1
      · (intro w0 hSw; (try dsimp only at hSw); go_simp; try (with_reducible rfl))
      try simp only [Act.put, List.setIfInBounds_toArray, List.set_cons_succ, List.set_cons_zero]
      refine takeOp (i := 6) (v := ?_) (some 110) rfl rfl (by kernel_rfl) (by kernel_rfl) (by kernel_rfl) (fun _ _ _ h => h) (Or.inl ⟨by rfl, ?_⟩) (by assumption) ?_
      rotate_left 1
      · (intro w0 hSw; (try dsimp only at hSw); go_simp; try (with_reducible rfl))
      try simp only [Act.put, List.setIfInBounds_toArray, List.set_cons_succ, List.set_cons_zero]
      refine takeOp (i := 7) (v := ?_) (some 111) rfl rfl (by kernel_rfl) (by kernel_rfl) (by kernel_rfl) (fun _ _ _ h => h) (Or.inl ⟨by rfl, ?_⟩) (by assumption) ?_
      rotate_left 1
      · (intro w0 hSw; (try dsimp only at hSw); go_simp; try (with_reducible rfl))
      try simp only [Act.put, List.setIfInBounds_toArray, List.set_cons_succ, List.set_cons_zero]
      refine takeOp (i := 8) (v := ?_) (some 112) rfl rfl (by kernel_rfl) (by kernel_rfl) (by kernel_rfl) (fun _ _ _ h => h) (Or.inl ⟨by rfl, ?_⟩) (by assumption) ?_
      rotate_left 1
      · (intro w0 hSw; (try dsimp only at hSw); go_simp; try (with_reducible rfl))
      try simp only [Act.put, List.setIfInBounds_toArray, List.set_cons_succ, List.set_cons_zero]
      refine takeOp (i := 9) (v := ?_) (some 113) rfl rfl (by kernel_rfl) (by kernel_rfl) (by kernel_rfl) (fun _ _ _ h => h) (Or.inl ⟨by rfl, ?_⟩) (by assumption) ?_
      rotate_left 1
      · (intro w0 hSw; (try dsimp only at hSw); go_simp; try (with_reducible rfl))
      try simp only [Act.put, List.setIfInBounds_toArray, List.set_cons_succ, List.set_cons_zero]
      refine takeOp (i := 10) (v := ?_) (some 114) rfl rfl (by kernel_rfl) (by kernel_rfl) (by kernel_rfl) (fun _ _ _ h => h) (Or.inl ⟨by rfl, ?_⟩) (by assumption) ?_
      rotate_left 1
      · (intro w0 hSw; (try dsimp only at hSw); go_simp; try (with_reducible rfl))
      try simp only [Act.put, List.setIfInBounds_toArray, List.set_cons_succ, List.set_cons_zero]
      refine takeOp (i := 11) (v := ?_) (some 115) rfl rfl (by kernel_rfl) (by kernel_rfl) (by kernel_rfl) (fun _ _ _ h => h) (Or.inl ⟨by rfl, ?_⟩) (by assumption) ?_
      rotate_left 1
      · (intro w0 hSw; (try dsimp only at hSw); go_simp; try (with_reducible rfl))
      try simp only [Act.put, List.setIfInBounds_toArray, List.set_cons_succ, List.set_cons_zero]
      refine takeOp (i := 12) (v := ?_) (some 116) rfl rfl (by kernel_rfl) (by kernel_rfl) (by kernel_rfl) (fun _ _ _ h => h) (Or.inl ⟨by rfl, ?_⟩) (by assumption) ?_
      rotate_left 1
      · (intro w0 hSw; (try dsimp only at hSw); go_simp; try (with_reducible rfl))
      try simp only [Act.put, List.setIfInBounds_toArray, List.set_cons_succ, List.set_cons_zero]
      refine takeOp (i := 13) (v := undef) (some 117) rfl rfl (by kernel_rfl) (by kernel_rfl) (by kernel_rfl) (fun _ _ _ h => h) (Or.inr ⟨by rfl, rfl⟩) (by assumption) ?_
      try simp only [Act.put, List.setIfInBounds_toArray, List.set_cons_succ, List.set_cons_zero]
      refine takeOp (i := 14) (v := undef) (some 118) rfl rfl (by kernel_rfl) (by kernel_rfl) (by kernel_rfl) (fun _ _ _ h => h) (Or.inr ⟨by rfl, rfl⟩) (by assumption) ?_
      try simp only [Act.put, List.setIfInBounds_toArray, List.set_cons_succ, List.set_cons_zero]
      refine takeOp (i := 15) (v := undef) (some 119) rfl rfl (by kernel_rfl) (by kernel_rfl) (by kernel_rfl) (fun _ _ _ h => h) (Or.inr ⟨by rfl, rfl⟩) (by assumption) ?_
      try simp only [Act.put, List.setIfInBounds_toArray, List.set_cons_succ, List.set_cons_zero]
      refine takeOp (i := 16) (v := undef) (some 120) rfl rfl (by kernel_rfl) (by kernel_rfl) (by kernel_rfl) (fun _ _ _ h => h) (Or.inr ⟨by rfl, rfl⟩) (by assumption) ?_
      try simp only [Act.put, List.setIfInBounds_toArray, List.set_cons_succ, List.set_cons_zero]
      refine takeOp (i := 17) (v := undef) (some 121) rfl rfl (by kernel_rfl) (by kernel_rfl) (by kernel_rfl) (fun _ _ _ h => h) (Or.inr ⟨by rfl, rfl⟩) (by assumption) ?_
      try simp only [Act.put, List.setIfInBounds_toArray, List.set_cons_succ, List.set_cons_zero]
      refine takeOp (i := 18) (v := undef) (some 122) rfl rfl (by kernel_rfl) (by kernel_rfl) (by kernel_rfl) (fun _ _ _ h => h) (Or.inr ⟨by rfl, rfl⟩) (by assumption) ?_
      try simp only [Act.put, List.setIfInBounds_toArray, List.set_cons_succ, List.set_cons_zero]
      refine takeOp (i := 19) (v := undef) (some 123) rfl rfl (by kernel_rfl) (by kernel_rfl) (by kernel_rfl) (fun _ _ _ h => h) (Or.inr ⟨by rfl, rfl⟩) (by assumption) ?_
      try simp only [Act.put, List.setIfInBounds_toArray, List.set_cons_succ, List.set_cons_zero]
      refine takeOp (i := 20) (v := undef) (some 124) rfl rfl (by kernel_rfl) (by kernel_rfl) (by kernel_rfl) (fun _ _ _ h => h) (Or.inr ⟨by rfl, rfl⟩) (by assumption) ?_
      try simp only [Act.put, List.setIfInBounds_toArray, List.set_cons_succ, List.set_cons_zero]
      refine takeOp (i := 21) (v := undef) (some 125) rfl rfl (by kernel_rfl) (by kernel_rfl) (by kernel_rfl) (fun _ _ _ h => h) (Or.inr ⟨by rfl, rfl⟩) (by assumption) ?_
      try simp only [Act.put, List.setIfInBounds_toArray, List.set_cons_succ, List.set_cons_zero]
      refine takeOp (i := 22) (v := undef) (some 126) rfl rfl (by kernel_rfl) (by kernel_rfl) (by kernel_rfl) (fun _ _ _ h => h) (Or.inr ⟨by rfl, rfl⟩) (by assumption) ?_
      try simp only [Act.put, List.setIfInBounds_toArray, List.set_cons_succ, List.set_cons_zero]
      refine takeOp (i := 23) (v := undef) (some 127) rfl rfl (by kernel_rfl) (by kernel_rfl) (by kernel_rfl) (fun _ _ _ h => h) (Or.inr ⟨by rfl, rfl⟩) (by assumption) ?_
      try simp only [Act.put, List.setIfInBounds_toArray, List.set_cons_succ, List.set_cons_zero]
      refine takeOp (i := 24) (v := undef) (some 128) rfl rfl (by kernel_rfl) (by kernel_rfl) (by kernel_rfl) (fun _ _ _ h => h) (Or.inr ⟨by rfl, rfl⟩) (by assumption) ?_
      try simp only [Act.put, List.setIfInBounds_toArray, List.set_cons_succ, List.set_cons_zero]
      refine takeOp (i := 25) (v := ?_) (some 129) rfl rfl (by kernel_rfl) (by kernel_rfl) (by kernel_rfl) (fun _ _ _ h => h) (Or.inl ⟨by rfl, ?_⟩) (by assumption) ?_
      rotate_left 1
      · (intro w0 hSw; (try dsimp only at hSw); go_simp; try (with_reducible rfl))
      try simp only [Act.put, List.setIfInBounds_toArray, List.set_cons_succ, List.set_cons_zero]
      refine takeOp (i := 26) (v := ?_) (some 17) rfl rfl (by kernel_rfl) (by kernel_rfl) (by kernel_rfl) (fun _ _ _ h => h) (Or.inl ⟨by rfl, ?_⟩) (by assumption) ?_
      rotate_left 1
      · (intro w0 hSw; (try dsimp only at hSw); go_simp; try (with_reducible rfl))
      try simp only [Act.put, List.setIfInBounds_toArray, List.set_cons_succ, List.set_cons_zero]
      refine wpAnyH_done (by kernel_rfl) ?_ _
      go_wp2_with fail
      go_meet
      case rel => exact ⟨by rw [HV.out], (Ext.refl W7).drew⟩
  case rest =>
  obtain ⟨rfl, hx8⟩ := hcut
  generalize wc = W8 at *
  have HX8 := Lib.hid hx8
  have HB8 := Lib.hid (HB7.out.trans (hx8.below.mono HB7.out.size))
  have HB58 := Lib.hid (HB57.out.trans (hx8.below.mono HB57.out.size))
  have HR118 := Lib.hid (HR117.out.up hx8.below)
  have HR148 := Lib.hid (HR14.out.up hx8.below)
  have HDA8 := Lib.hid (HDA7.out.up hx8.below)
  have HDB8 := Lib.hid (HDB.out.up hx8.below)
  obtain ⟨ba, hba⟩ := HDA8.out.form
  injection hba with hba
  obtain ⟨bb, hbb⟩ := HDB8.out.form
  injection hbb with hbb
  subst hba hbb
  have c0 : W8.cell? ⟨g11, 0, none⟩ = some (.map (some ba)) := HR118.out.cell 0
  have c1 := HR118.out.lt
  have c2 : W8.cell? ⟨g14, 0, none⟩ = some (.map (some bb)) := HR148.out.cell 0
  have c3 := HR148.out.lt
  have z88 : g8 < W8.heap.size := Nat.lt_of_lt_of_le z87 hx8.size
  have zu8 : ub < W8.heap.size := Nat.lt_of_lt_of_le zu7 hx8.size
  clear hx8 hse HSAM HS7 z87 zu7 HR117 HR14 HDA7 HDB
  go_upto_region 12 with (fail)
  go_cut [150] from 130 to 150 (fun q wx => q = .bool false ∧ Below W8.heap.size W8 wx)
  case first =>
    cases sb with
    | true =>
      go_wp2_with fail
      go_meet
      case rel => exact ⟨rfl, by first | exact Below.refl _ _ | exact (Below.refl _ _).drew⟩
    | false =>
      obtain ⟨h1, h2⟩ := HSW.out (of_decide_eq_false HSB.out.symm)
      have hnab : na = nb := by rw [HNA.out, HNB.out, h1]
      subst hnab
      have hda := HDA8.out
      rw [h2] at hda
      have HE := Lib.hid (ctEqual_any W8 hda HDB8.out HND.out)
      rw [sameC_self] at HE
      have hnn : ((na : Int) != (na : Int)) = false := by simp
      clear h1 h2 hda
      go_wp2_with fail
      refine HE.out.mono ?_
      rintro e V1 ⟨rfl, hb1⟩
      have HV1 := Lib.hid hb1
      clear hb1
      go_wp2_with fail
      go_meet
      case rel => exact ⟨rfl, HV1.out⟩
  case rest =>
  obtain ⟨rfl, hb9⟩ := hcut
  generalize wc = W9 at *
  have HB89 := Lib.hid hb9
  have HB9 := Lib.hid (HB8.out.trans (hb9.mono HB8.out.size))
  have HB59 := Lib.hid (HB58.out.trans (hb9.mono HB58.out.size))
  have HD9 : Hid (DbM (fun b => b < W9.heap.size) S W9 (.map (some bd)) F) := (HD5.out.up HB59.out).weak fun b hb _ => hb
  have HS9 : Hid (∀ V, Below W9.heap.size W9 V → V.cell? ⟨g8, 0, none⟩ = some (.map (some bd)) ∧ V.cell? ⟨ub, uo + k * 3, none⟩ = some (.bool d1) ∧ V.cell? ⟨ub, uo + k * 3 + 1, none⟩ = some (.string n1) ∧ V.cell? ⟨ub, uo + k * 3 + 2, none⟩ = some (.slice A1 x1.length C1) ∧ V.cell? ⟨ub, uo + (k + 1) * 3, none⟩ = some (.bool d2) ∧ V.cell? ⟨ub, uo + (k + 1) * 3 + 1, none⟩ = some (.string n2) ∧ V.cell? ⟨ub, uo + (k + 1) * 3 + 2, none⟩ = some (.slice A2 x2.length C2)) := fun V hb => ⟨cell_below (HB59.out.trans (hb.mono HB59.out.size)) (HR85.out.cell 0), HKP.out V (HB9.out.trans (hb.mono HB9.out.size))⟩
  obtain ⟨ks, hks, -⟩ := checkF_zero HC1.out
  have hks : (n1, ks) ∈ S := hks
  have HKS := Lib.hid hks
  have HROK : Hid (RowsOk ks.length (F n1)) := by
    obtain ⟨b, D, -, -, -, -, -, h5⟩ := HD9.out
    obtain ⟨val, -, KA, KC, A, C, -, -, -, -, -, -, h⟩ := h5 _ hks
    exact h
  have HK6 : Hid (ks.length ≤ 6) := by
    obtain ⟨b, D, -, -, -, -, -, h5⟩ := HD9.out
    obtain ⟨val, -, KA, KC, A, C, -, h, -⟩ := h5 _ hks
    exact h
  obtain ⟨X, hX⟩ : ∃ X, X = F n1 := ⟨_, rfl⟩
  obtain ⟨kl, hkl⟩ : ∃ n, n = ks.length := ⟨_, rfl⟩
  have HRL14 : Hid (∀ V, Below W9.heap.size W9 V → Calls Tryz.prog 23 #[.agg #[.map (some bd)], .string n1] V fun e V' => ∃ RA RC, e = .returned (.tuple #[.agg #[.int .i64 (kl : Nat), .slice RA X.length RC], .bool true]) ∧ SlRsP (fun b => b < W9.heap.size) W9.heap.size W9 RA X ∧ Below V.heap.size V V') := fun V hb => by
    refine (ctRelation_any n1 HU1.out.1 V (HD9.out.up hb) HND.out).mono ?_
    rintro e V' ⟨h1, -, h3⟩
    obtain ⟨RA, RC, he, -, -, hk, -⟩ := h1 ks HKS.out
    have hbv := hb.trans (h3.mono hb.size)
    rw [hX, hkl]
    exact ⟨RA, RC, he, (hk.shrink fun _ h => h).keep fun p hp _ => (hbv.cell hp).symm, h3⟩
  have HXF := Lib.hid hX
  rw [← hX] at HROK
  rw [← hkl] at HROK HK6
  have z89 : g8 < W9.heap.size := Nat.lt_of_lt_of_le z88 HB89.out.size
  have zu9 : ub < W9.heap.size := Nat.lt_of_lt_of_le zu8 HB89.out.size
  clear hks hX hkl hb9 c0 c1 c2 c3 z88 zu8 HR118 HR148 HDA8 HDB8
  go_upto_region 14 with (fail)
  go_cut [18, 19] from 151 to 162 (fun q1 q2 wx => ∃ (g : Nat) (RA : Option Addr) (RC : Nat), q1 = .pointer (some ⟨g, 0, none⟩) ∧ q2 = .bool true ∧ W9.heap.size ≤ g ∧ Row wx g 56 [.int .i64 (kl : Nat), .slice RA X.length RC] ∧ SlRsP (fun b => b < W9.heap.size) W9.heap.size W9 RA X ∧ Below W9.heap.size W9 wx)
  case first =>
    refine wp_region_held_drew (S := (fun V => V.cell? ⟨g8, 0, none⟩ = some (.map (some bd)) ∧ V.cell? ⟨ub, uo + k * 3, none⟩ = some (.bool d1) ∧ V.cell? ⟨ub, uo + k * 3 + 1, none⟩ = some (.string n1) ∧ V.cell? ⟨ub, uo + k * 3 + 2, none⟩ = some (.slice A1 x1.length C1) ∧ V.cell? ⟨ub, uo + (k + 1) * 3, none⟩ = some (.bool d2) ∧ V.cell? ⟨ub, uo + (k + 1) * 3 + 1, none⟩ = some (.string n2) ∧ V.cell? ⟨ub, uo + (k + 1) * 3 + 2, none⟩ = some (.slice A2 x2.length C2))) (by kernel_rfl) (HS9.out W9.drew (Below.refl _ _).drew) (fun hHeld => ?_)
    obtain ⟨V0, hV0⟩ : ∃ V, V = W9.drew := ⟨_, rfl⟩
    have HV : Hid (Below W9.heap.size W9 V0) := by show Below _ _ _; rw [hV0]; exact (Below.refl _ _).drew
    rw [← hV0] at hHeld ⊢
    clear hV0
    refine takeOp (i := 0) (v := ?_) (some 152) rfl rfl (by kernel_rfl) (by kernel_rfl) (by kernel_rfl) (fun _ _ _ h => h) (Or.inl ⟨by rfl, ?_⟩) (by assumption) ?_
    rotate_left 1
    · (intro w0 hSw; (try dsimp only at hSw); go_simp; try (with_reducible rfl))
    try simp only [Act.put, List.setIfInBounds_toArray, List.set_cons_succ, List.set_cons_zero]
    refine takeOp (i := 1) (v := ?_) (some 153) rfl rfl (by kernel_rfl) (by kernel_rfl) (by kernel_rfl) (fun _ _ _ h => h) (Or.inl ⟨by rfl, ?_⟩) (by assumption) ?_
    rotate_left 1
    · (intro w0 hSw; (try dsimp only at hSw); go_simp; try (with_reducible rfl))
    try simp only [Act.put, List.setIfInBounds_toArray, List.set_cons_succ, List.set_cons_zero]
    refine takeOp (i := 2) (v := ?_) (some 154) rfl rfl (by kernel_rfl) (by kernel_rfl) (by kernel_rfl) (fun _ _ _ h => h) (Or.inl ⟨by rfl, ?_⟩) (by assumption) ?_
    rotate_left 1
    · (intro w0 hSw; (try dsimp only at hSw); go_simp; try (with_reducible rfl))
    try simp only [Act.put, List.setIfInBounds_toArray, List.set_cons_succ, List.set_cons_zero]
    refine takeOp (i := 3) (v := ?_) (some 155) rfl rfl (by kernel_rfl) (by kernel_rfl) (by kernel_rfl) (fun _ _ _ h => h) (Or.inl ⟨by rfl, ?_⟩) (by assumption) ?_
    rotate_left 1
    · (intro w0 hSw; (try dsimp only at hSw); go_simp; try (with_reducible rfl))
    try simp only [Act.put, List.setIfInBounds_toArray, List.set_cons_succ, List.set_cons_zero]
    refine takeOp (i := 4) (v := ?_) (some 156) rfl rfl (by kernel_rfl) (by kernel_rfl) (by kernel_rfl) (fun _ _ _ h => h) (Or.inl ⟨by rfl, ?_⟩) (by assumption) ?_
    rotate_left 1
    · (intro w0 hSw; (try dsimp only at hSw); go_simp; try (with_reducible rfl))
    try simp only [Act.put, List.setIfInBounds_toArray, List.set_cons_succ, List.set_cons_zero]
    refine takeOp (i := 5) (v := ?_) (some 157) rfl rfl (by kernel_rfl) (by kernel_rfl) (by kernel_rfl) (fun _ _ _ h => h) (Or.inl ⟨by rfl, ?_⟩) (by assumption) ?_
    rotate_left 1
    · (intro w0 hSw; (try dsimp only at hSw); go_simp; try (with_reducible rfl))
    try simp only [Act.put, List.setIfInBounds_toArray, List.set_cons_succ, List.set_cons_zero]
    refine wpAnyH_ready (rs := [6, 10]) (by kernel_rfl) (by simp) ?_
    refine (AllReadyH.cons rfl (fun K hK => ?_) (AllReadyH.cons rfl (fun K hK => ?_) AllReadyH.nil))
    · go_simp
      refine (HRL14.out V0 HV.out).mono ?_
      rintro e V1 ⟨RA, RC, rfl, hra, hb⟩
      have HRA := Lib.hid hra
      clear hra
      have HWIN : Hid (WinP V0.heap.size V1 V1) := WinP.refl _ _
      have HV := Lib.hid (Below.then HV.out hb HV.out.size)
      clear hb
      go_wp2_with fail
      refine hK.out _ _ (HS9.out V1 HV.out) (fun hHeld => ?_)
      clear hK K
      try simp only [Act.put, List.setIfInBounds_toArray, List.set_cons_succ, List.set_cons_zero]
      refine takeOp (i := 7) (v := ?_) (some 151) rfl rfl (by kernel_rfl) (by kernel_rfl) (by kernel_rfl) (fun _ _ _ h => h) (Or.inl ⟨by rfl, ?_⟩) (by assumption) ?_
      rotate_left 1
      · (intro w0 hSw; (try dsimp only at hSw); go_simp; try (with_reducible rfl))
      try simp only [Act.put, List.setIfInBounds_toArray, List.set_cons_succ, List.set_cons_zero]
      refine takeOp (i := 8) (v := ?_) (some 159) rfl rfl (by kernel_rfl) (by kernel_rfl) (by kernel_rfl) (fun _ _ _ h => h) (Or.inl ⟨by rfl, ?_⟩) (by assumption) ?_
      rotate_left 1
      · (intro w0 hSw; (try dsimp only at hSw); go_simp; try (with_reducible rfl))
      try simp only [Act.put, List.setIfInBounds_toArray, List.set_cons_succ, List.set_cons_zero]
      refine takeOp (i := 9) (v := ?_) (some 160) rfl rfl (by kernel_rfl) (by kernel_rfl) (by kernel_rfl) (fun _ _ _ h => h) (Or.inl ⟨by rfl, ?_⟩) (by assumption) ?_
      rotate_left 1
      · (intro w0 hSw; (try dsimp only at hSw); go_simp; try (with_reducible rfl))
      try simp only [Act.put, List.setIfInBounds_toArray, List.set_cons_succ, List.set_cons_zero]
      refine wpAnyH_ready (rs := [10]) (by kernel_rfl) (by simp) ?_
      refine (AllReadyH.cons rfl (fun K hK => ?_) AllReadyH.nil)
      go_simp
      obtain ⟨V2, hV⟩ : ∃ V', V' = V1.alloc (.cells #[.int .i64 0, .slice none 0 0] 56) := ⟨_, rfl⟩
      rw [← hV]
      have hb : Below V1.heap.size V1 V2 := by rw [hV]; exact ((Ext.refl V1).alloc _).below
      obtain ⟨gb, hgb⟩ : ∃ gb, gb = V1.heap.size := ⟨_, rfl⟩
      have HG : Hid (Row V2 gb 56 [.int .i64 0, .slice none 0 0]) := by show Row _ _ _ _; rw [hV, hgb]; exact Row.new V1 _ _
      have HGZ : Hid (W9.heap.size ≤ gb) := by show _ ≤ _; rw [hgb]; exact HV.out.size
      have HGW0 : Hid (gb < V2.heap.size) := HG.out.lt
      have HWIN : Hid (WinP V0.heap.size V1 V2) := HWIN.out.up hb
      have HOUT : Hid (V1.heap.size ≤ gb) := by show _ ≤ _; rw [hgb]; exact Nat.le_refl _
      have HV := Lib.hid (Below.then HV.out hb HV.out.size)
      rw [← hgb]
      clear hb hV hgb
      refine hK.out _ _ (HS9.out V2 HV.out) (fun hHeld => ?_)
      clear hK K
      try simp only [Act.put, List.setIfInBounds_toArray, List.set_cons_succ, List.set_cons_zero]
      refine wpAnyH_ready (rs := [11]) (by kernel_rfl) (by simp) ?_
      refine (AllReadyH.cons rfl (fun K hK => ?_) AllReadyH.nil)
      have m0 := HG.out.frozen 0
      have n0 : V2.cell? ⟨gb, 0, none⟩ = some (.int .i64 0) := HG.out.cell 0
      have m1 := HG.out.frozen 1
      have n1 : V2.cell? ⟨gb, 1, none⟩ = some (.slice none 0 0) := HG.out.cell 1
      have m9 := HG.out.lt
      go_simp
      go_wp2_with fail
      obtain ⟨V3, hV⟩ : ∃ V', V' = ((V2.setCell ⟨gb, 0, none⟩ (.int .i64 (kl : Nat))).setCell ⟨gb, 1, none⟩ (.slice RA X.length RC)) := ⟨_, rfl⟩
      rw [← hV]
      have HG : Hid (Row V3 gb 56 [.int .i64 (kl : Nat), .slice RA X.length RC]) := by show Row _ _ _ _; rw [hV]; exact ((HG.out.set 0 _).set 1 _)
      have HWIN : Hid (WinP V0.heap.size V1 V3) := by show WinP _ _ _; rw [hV]; exact ((HWIN.out.set (Or.inr HOUT.out) 0 _).set (Or.inr HOUT.out) 1 _)
      have HV : Hid (Below W9.heap.size W9 V3) := by show Below _ _ _; rw [hV]; exact ((HV.out.setCell (by show W9.heap.size ≤ gb; exact HGZ.out) _).setCell (by show W9.heap.size ≤ gb; exact HGZ.out) _)
      clear hV m9 m0 n0 m1 n1
      refine hK.out _ _ (HS9.out V3 HV.out) (fun hHeld => ?_)
      clear hK K
      try simp only [Act.put, List.setIfInBounds_toArray, List.set_cons_succ, List.set_cons_zero]
      refine takeOp (i := 12) (v := ?_) (some 19) rfl rfl (by kernel_rfl) (by kernel_rfl) (by kernel_rfl) (fun _ _ _ h => h) (Or.inl ⟨by rfl, ?_⟩) (by assumption) ?_
      rotate_left 1
      · (intro w0 hSw; (try dsimp only at hSw); go_simp; try (with_reducible rfl))
      try simp only [Act.put, List.setIfInBounds_toArray, List.set_cons_succ, List.set_cons_zero]
      refine wpAnyH_done (by kernel_rfl) ?_ _
      go_wp2_with fail
      go_meet
      case rel => exact ⟨gb, RA, RC, rfl, rfl, HGZ.out, HG.out, HRA.out, HV.out⟩
    · go_simp
      obtain ⟨V1, hV⟩ : ∃ V', V' = V0.alloc (.cells #[.int .i64 0, .slice none 0 0] 56) := ⟨_, rfl⟩
      rw [← hV]
      have hb : Below V0.heap.size V0 V1 := by rw [hV]; exact ((Ext.refl V0).alloc _).below
      obtain ⟨gb, hgb⟩ : ∃ gb, gb = V0.heap.size := ⟨_, rfl⟩
      have HG : Hid (Row V1 gb 56 [.int .i64 0, .slice none 0 0]) := by show Row _ _ _ _; rw [hV, hgb]; exact Row.new V0 _ _
      have HGZ : Hid (W9.heap.size ≤ gb) := by show _ ≤ _; rw [hgb]; exact HV.out.size
      have HGW0 : Hid (gb < V1.heap.size) := HG.out.lt
      have HV := Lib.hid (Below.then HV.out hb HV.out.size)
      rw [← hgb]
      clear hb hV hgb
      refine hK.out _ _ (HS9.out V1 HV.out) (fun hHeld => ?_)
      clear hK K
      try simp only [Act.put, List.setIfInBounds_toArray, List.set_cons_succ, List.set_cons_zero]
      refine wpAnyH_ready (rs := [6]) (by kernel_rfl) (by simp) ?_
      refine (AllReadyH.cons rfl (fun K hK => ?_) AllReadyH.nil)
      go_simp
      refine (HRL14.out V1 HV.out).mono ?_
      rintro e V2 ⟨RA, RC, rfl, hra, hb⟩
      have HRA := Lib.hid hra
      clear hra
      have HG := Lib.hid (HG.out.up hb)
      have HGW : Hid (gb < V1.heap.size) := by show gb < _; have := HGW0.out; omega
      have HWIN : Hid (WinP V1.heap.size V2 V2) := WinP.refl _ _
      have HV := Lib.hid (Below.then HV.out hb HV.out.size)
      clear hb
      go_wp2_with fail
      refine hK.out _ _ (HS9.out V2 HV.out) (fun hHeld => ?_)
      clear hK K
      try simp only [Act.put, List.setIfInBounds_toArray, List.set_cons_succ, List.set_cons_zero]
      refine takeOp (i := 7) (v := ?_) (some 151) rfl rfl (by kernel_rfl) (by kernel_rfl) (by kernel_rfl) (fun _ _ _ h => h) (Or.inl ⟨by rfl, ?_⟩) (by assumption) ?_
      rotate_left 1
      · (intro w0 hSw; (try dsimp only at hSw); go_simp; try (with_reducible rfl))
      try simp only [Act.put, List.setIfInBounds_toArray, List.set_cons_succ, List.set_cons_zero]
      refine takeOp (i := 8) (v := ?_) (some 159) rfl rfl (by kernel_rfl) (by kernel_rfl) (by kernel_rfl) (fun _ _ _ h => h) (Or.inl ⟨by rfl, ?_⟩) (by assumption) ?_
      rotate_left 1
      · (intro w0 hSw; (try dsimp only at hSw); go_simp; try (with_reducible rfl))
      try simp only [Act.put, List.setIfInBounds_toArray, List.set_cons_succ, List.set_cons_zero]
      refine takeOp (i := 9) (v := ?_) (some 160) rfl rfl (by kernel_rfl) (by kernel_rfl) (by kernel_rfl) (fun _ _ _ h => h) (Or.inl ⟨by rfl, ?_⟩) (by assumption) ?_
      rotate_left 1
      · (intro w0 hSw; (try dsimp only at hSw); go_simp; try (with_reducible rfl))
      try simp only [Act.put, List.setIfInBounds_toArray, List.set_cons_succ, List.set_cons_zero]
      refine wpAnyH_ready (rs := [11]) (by kernel_rfl) (by simp) ?_
      refine (AllReadyH.cons rfl (fun K hK => ?_) AllReadyH.nil)
      have m0 := HG.out.frozen 0
      have n0 : V2.cell? ⟨gb, 0, none⟩ = some (.int .i64 0) := HG.out.cell 0
      have m1 := HG.out.frozen 1
      have n1 : V2.cell? ⟨gb, 1, none⟩ = some (.slice none 0 0) := HG.out.cell 1
      have m9 := HG.out.lt
      go_simp
      go_wp2_with fail
      obtain ⟨V3, hV⟩ : ∃ V', V' = ((V2.setCell ⟨gb, 0, none⟩ (.int .i64 (kl : Nat))).setCell ⟨gb, 1, none⟩ (.slice RA X.length RC)) := ⟨_, rfl⟩
      rw [← hV]
      have HG : Hid (Row V3 gb 56 [.int .i64 (kl : Nat), .slice RA X.length RC]) := by show Row _ _ _ _; rw [hV]; exact ((HG.out.set 0 _).set 1 _)
      have HWIN : Hid (WinP V1.heap.size V2 V3) := by show WinP _ _ _; rw [hV]; exact ((HWIN.out.set (Or.inl HGW.out) 0 _).set (Or.inl HGW.out) 1 _)
      have HV : Hid (Below W9.heap.size W9 V3) := by show Below _ _ _; rw [hV]; exact ((HV.out.setCell (by show W9.heap.size ≤ gb; exact HGZ.out) _).setCell (by show W9.heap.size ≤ gb; exact HGZ.out) _)
      clear hV m9 m0 n0 m1 n1
      refine hK.out _ _ (HS9.out V3 HV.out) (fun hHeld => ?_)
      clear hK K
      try simp only [Act.put, List.setIfInBounds_toArray, List.set_cons_succ, List.set_cons_zero]
      refine takeOp (i := 12) (v := ?_) (some 19) rfl rfl (by kernel_rfl) (by kernel_rfl) (by kernel_rfl) (fun _ _ _ h => h) (Or.inl ⟨by rfl, ?_⟩) (by assumption) ?_
      rotate_left 1
      · (intro w0 hSw; (try dsimp only at hSw); go_simp; try (with_reducible rfl))
      try simp only [Act.put, List.setIfInBounds_toArray, List.set_cons_succ, List.set_cons_zero]
      refine wpAnyH_done (by kernel_rfl) ?_ _
      go_wp2_with fail
      go_meet
      case rel => exact ⟨gb, RA, RC, rfl, rfl, HGZ.out, HG.out, HRA.out, HV.out⟩
  case rest =>
  obtain ⟨g18, RA, RC, rfl, rfl, -, hr18, hra, hb10⟩ := hcut
  generalize wc = W10 at *
  have HR18 := Lib.hid hr18
  have HRA := Lib.hid ((hra.keep (w' := W10) fun p hp _ => hb10.cell hp).more hb10.size)
  have HB910 := Lib.hid hb10
  have HB10 := Lib.hid (HB9.out.trans (hb10.mono HB9.out.size))
  have HS10 : Hid (∀ V, Below W10.heap.size W10 V → V.cell? ⟨g18, 0, none⟩ = some (.int .i64 (kl : Nat)) ∧ V.cell? ⟨g18, 1, none⟩ = some (.slice RA X.length RC) ∧ V.cell? ⟨ub, uo + k * 3 + 2, none⟩ = some (.slice A1 x1.length C1)) := fun V hb =>
    ⟨cell_below hb (HR18.out.cell 0), cell_below hb (HR18.out.cell 1), (HKP.out V (HB10.out.trans (hb.mono HB10.out.size))).2.2.1⟩
  have HSE := Lib.hid (rlSearch_any (kl : Nat) RA A1 RC C1 X x1 W10.drew HRA.out.sl (HCU.out W10 HB10.out).1 (by have := HROK.out.many; omega) (HROK.out.rs (by have := HK6.out; omega)) HU1.out.2.1 HROK.out.ss)
  have zuA : ub < W10.heap.size := Nat.lt_of_lt_of_le zu9 hb10.size
  have zgA := HR18.out.lt
  obtain ⟨hb, hhb⟩ : ∃ b, b = decide (x1 ∈ X) := ⟨_, rfl⟩
  have HHB := Lib.hid hhb
  rw [← hhb] at HSE
  generalize RL.rank X x1 = rk at HSE
  clear hr18 hra hb10 hhb HRL14
  go_upto_region 15 with (fail)
  refine wp_region_held_drew (S := (fun V => V.cell? ⟨g18, 0, none⟩ = some (.int .i64 (kl : Nat)) ∧ V.cell? ⟨g18, 1, none⟩ = some (.slice RA X.length RC) ∧ V.cell? ⟨ub, uo + k * 3 + 2, none⟩ = some (.slice A1 x1.length C1))) (by kernel_rfl) (HS10.out W10.drew (Below.refl _ _).drew) (fun hHeld => ?_)
  refine takeOp (i := 0) (v := ?_) (some 162) rfl rfl (by kernel_rfl) (by kernel_rfl) (by kernel_rfl) (fun _ _ _ h => h) (Or.inl ⟨by rfl, ?_⟩) (by assumption) ?_
  rotate_left 1
  · (intro w0 hSw; (try dsimp only at hSw); go_simp; try (with_reducible rfl))
  try simp only [Act.put, List.setIfInBounds_toArray, List.set_cons_succ, List.set_cons_zero]
  refine takeOp (i := 1) (v := ?_) (some 163) rfl rfl (by kernel_rfl) (by kernel_rfl) (by kernel_rfl) (fun _ _ _ h => h) (Or.inl ⟨by rfl, ?_⟩) (by assumption) ?_
  rotate_left 1
  · (intro w0 hSw; (try dsimp only at hSw); go_simp; try (with_reducible rfl))
  try simp only [Act.put, List.setIfInBounds_toArray, List.set_cons_succ, List.set_cons_zero]
  refine takeOp (i := 2) (v := ?_) (some 164) rfl rfl (by kernel_rfl) (by kernel_rfl) (by kernel_rfl) (fun _ _ _ h => h) (Or.inl ⟨by rfl, ?_⟩) (by assumption) ?_
  rotate_left 1
  · (intro w0 hSw; (try dsimp only at hSw); go_simp; try (with_reducible rfl))
  try simp only [Act.put, List.setIfInBounds_toArray, List.set_cons_succ, List.set_cons_zero]
  refine takeOp (i := 3) (v := ?_) (some 165) rfl rfl (by kernel_rfl) (by kernel_rfl) (by kernel_rfl) (fun _ _ _ h => h) (Or.inl ⟨by rfl, ?_⟩) (by assumption) ?_
  rotate_left 1
  · (intro w0 hSw; (try dsimp only at hSw); go_simp; try (with_reducible rfl))
  try simp only [Act.put, List.setIfInBounds_toArray, List.set_cons_succ, List.set_cons_zero]
  refine takeOp (i := 4) (v := ?_) (some 166) rfl rfl (by kernel_rfl) (by kernel_rfl) (by kernel_rfl) (fun _ _ _ h => h) (Or.inl ⟨by rfl, ?_⟩) (by assumption) ?_
  rotate_left 1
  · (intro w0 hSw; (try dsimp only at hSw); go_simp; try (with_reducible rfl))
  try simp only [Act.put, List.setIfInBounds_toArray, List.set_cons_succ, List.set_cons_zero]
  refine takeOp (i := 5) (v := ?_) (some 167) rfl rfl (by kernel_rfl) (by kernel_rfl) (by kernel_rfl) (fun _ _ _ h => h) (Or.inl ⟨by rfl, ?_⟩) (by assumption) ?_
  rotate_left 1
  · (intro w0 hSw; (try dsimp only at hSw); go_simp; try (with_reducible rfl))
  try simp only [Act.put, List.setIfInBounds_toArray, List.set_cons_succ, List.set_cons_zero]
  refine wpAnyH_ready (rs := [6]) (by kernel_rfl) (by simp) ?_
  refine AllReadyH.cons rfl (fun K hK => ?_) AllReadyH.nil
  go_simp
  refine HSE.out.mono ?_
  rintro e W11 ⟨rfl, hx11⟩
  have HX11 : Hid (Ext W10 W11) := (Ext.refl W10).drew.trans hx11
  clear hx11
  go_wp2_with fail
  refine hK.out _ _ (HS10.out W11 HX11.out.below) (fun hHeld => ?_)
  clear hK K
  try simp only [Act.put, List.setIfInBounds_toArray, List.set_cons_succ, List.set_cons_zero]
  refine takeOp (i := 7) (v := ?_) (some 161) rfl rfl (by kernel_rfl) (by kernel_rfl) (by kernel_rfl) (fun _ _ _ h => h) (Or.inl ⟨by rfl, ?_⟩) (by assumption) ?_
  rotate_left 1
  · (intro w0 hSw; (try dsimp only at hSw); go_simp; try (with_reducible rfl))
  try simp only [Act.put, List.setIfInBounds_toArray, List.set_cons_succ, List.set_cons_zero]
  refine takeOp (i := 8) (v := ?_) (some 169) rfl rfl (by kernel_rfl) (by kernel_rfl) (by kernel_rfl) (fun _ _ _ h => h) (Or.inl ⟨by rfl, ?_⟩) (by assumption) ?_
  rotate_left 1
  · (intro w0 hSw; (try dsimp only at hSw); go_simp; try (with_reducible rfl))
  try simp only [Act.put, List.setIfInBounds_toArray, List.set_cons_succ, List.set_cons_zero]
  refine takeOp (i := 9) (v := ?_) (some 170) rfl rfl (by kernel_rfl) (by kernel_rfl) (by kernel_rfl) (fun _ _ _ h => h) (Or.inl ⟨by rfl, ?_⟩) (by assumption) ?_
  rotate_left 1
  · (intro w0 hSw; (try dsimp only at hSw); go_simp; try (with_reducible rfl))
  try simp only [Act.put, List.setIfInBounds_toArray, List.set_cons_succ, List.set_cons_zero]
  refine takeOp (i := 10) (v := ?_) (some 20) rfl rfl (by kernel_rfl) (by kernel_rfl) (by kernel_rfl) (fun _ _ _ h => h) (Or.inl ⟨by rfl, ?_⟩) (by assumption) ?_
  rotate_left 1
  · (intro w0 hSw; (try dsimp only at hSw); go_simp; try (with_reducible rfl))
  try simp only [Act.put, List.setIfInBounds_toArray, List.set_cons_succ, List.set_cons_zero]
  refine takeOp (i := 11) (v := ?_) (some 21) rfl rfl (by kernel_rfl) (by kernel_rfl) (by kernel_rfl) (fun _ _ _ h => h) (Or.inl ⟨by rfl, ?_⟩) (by assumption) ?_
  rotate_left 1
  · (intro w0 hSw; (try dsimp only at hSw); go_simp; try (with_reducible rfl))
  try simp only [Act.put, List.setIfInBounds_toArray, List.set_cons_succ, List.set_cons_zero]
  refine wpAnyH_done (by kernel_rfl) ?_ _
  have HB11 := Lib.hid (HB10.out.trans (HX11.out.below.mono HB10.out.size))
  cases hb with
  | true =>
    go_wp2_with fail
    go_ret
    exact ⟨rfl, HB11.out⟩
  | false =>
  have HR4 := Lib.hid (HBK.out (by rw [← HXF.out]; exact of_decide_eq_false HHB.out.symm))
  have HB911 := Lib.hid (HB910.out.trans (HX11.out.below.mono HB910.out.size))
  have HB511 := Lib.hid (HB59.out.trans (HB911.out.mono HB59.out.size))
  have HS11 : Hid (∀ V, Below W11.heap.size W11 V → V.cell? ⟨g8, 0, none⟩ = some (.map (some bd)) ∧ V.cell? ⟨ub, uo + k * 3, none⟩ = some (.bool d1) ∧ V.cell? ⟨ub, uo + k * 3 + 1, none⟩ = some (.string n1) ∧ V.cell? ⟨ub, uo + k * 3 + 2, none⟩ = some (.slice A1 x1.length C1) ∧ V.cell? ⟨ub, uo + (k + 1) * 3, none⟩ = some (.bool d2) ∧ V.cell? ⟨ub, uo + (k + 1) * 3 + 1, none⟩ = some (.string n2) ∧ V.cell? ⟨ub, uo + (k + 1) * 3 + 2, none⟩ = some (.slice A2 x2.length C2)) := fun V hb => HS9.out V (HB911.out.trans (hb.mono HB911.out.size))
  have HAP4 : Hid (∀ V, Below W11.heap.size W11 V → ∀ eb, Row V eb 53 [.bool false, .string n1, .slice A1 x1.length C1, .bool true, .string n1, .slice A1 x1.length C1] → ∀ (P : Nat → Prop), (∀ b, b < W11.heap.size → P b) → (∀ b, V.heap.size ≤ b → P b) → Calls Tryz.prog 19 #[.agg #[.map (some bd)], .slice (some ⟨eb, 0, none⟩) 2 2] V fun e w' => ∃ (mx : Option Nat) (c : Nat), e = .returned (.tuple #[.agg #[.map mx], .int .i64 (c : Nat), .int .i64 r4.1]) ∧ (r4.1 = 0 → c = r4.2.2 ∧ DbM P S w' (.map mx) r4.2.1) ∧ (r4.1 ≠ 0 → c = 0 ∧ mx = none) ∧ Below V.heap.size V w') := by
    rw [HRE4.out]
    exact HAPG.out W11 HB511.out [⟨false, n1, x1⟩, ⟨true, n1, x1⟩] _ (fun V hb => (UpdCs.one1 ⟨false, n1, x1⟩ A1 C1 (HCU.out V hb).1).append (UpdCs.one1 ⟨true, n1, x1⟩ A1 C1 (HCU.out V hb).1)) (fun u hu => by
      rcases List.mem_cons.1 hu with rfl | hu
      · exact HUO1.out _
      · rw [List.mem_singleton.1 hu]; exact HUO1.out _) rfl
  have z8B : g8 < W11.heap.size := Nat.lt_of_lt_of_le z89 HB911.out.size
  have zuB : ub < W11.heap.size := Nat.lt_of_lt_of_le zu9 HB911.out.size
  clear z89 zu9 zuA zgA HS10 HSE
  go_upto_region 18 with (fail)
  go_cut [22, 23, 24] from 172 to 201 (fun q1 q2 q3 wx => ∃ (g : Nat) (mx : Option Nat) (c : Nat), q1 = .pointer (some ⟨g, 0, none⟩) ∧ q2 = .int .i64 (c : Nat) ∧ q3 = .int .i64 r4.1 ∧ W11.heap.size ≤ g ∧ Row wx g 28 [.map mx] ∧ (r4.1 = 0 → c = r4.2.2 ∧ DbM (fun _ => True) S wx (.map mx) r4.2.1) ∧ (r4.1 ≠ 0 → c = 0 ∧ mx = none) ∧ Below W11.heap.size W11 wx)
  case first =>
    refine wp_region_held_drew (S := (fun V => V.cell? ⟨g8, 0, none⟩ = some (.map (some bd)) ∧ V.cell? ⟨ub, uo + k * 3, none⟩ = some (.bool d1) ∧ V.cell? ⟨ub, uo + k * 3 + 1, none⟩ = some (.string n1) ∧ V.cell? ⟨ub, uo + k * 3 + 2, none⟩ = some (.slice A1 x1.length C1) ∧ V.cell? ⟨ub, uo + (k + 1) * 3, none⟩ = some (.bool d2) ∧ V.cell? ⟨ub, uo + (k + 1) * 3 + 1, none⟩ = some (.string n2) ∧ V.cell? ⟨ub, uo + (k + 1) * 3 + 2, none⟩ = some (.slice A2 x2.length C2))) (by kernel_rfl) (HS11.out W11.drew (Below.refl _ _).drew) (fun hHeld => ?_)
    obtain ⟨V0, hV0⟩ : ∃ V, V = W11.drew := ⟨_, rfl⟩
    have HV : Hid (Below W11.heap.size W11 V0) := by show Below _ _ _; rw [hV0]; exact (Below.refl _ _).drew
    rw [← hV0] at hHeld ⊢
    clear hV0
    refine takeOp (i := 0) (v := ?_) (some 173) rfl rfl (by kernel_rfl) (by kernel_rfl) (by kernel_rfl) (fun _ _ _ h => h) (Or.inl ⟨by rfl, ?_⟩) (by assumption) ?_
    rotate_left 1
    · (intro w0 hSw; (try dsimp only at hSw); go_simp; try (with_reducible rfl))
    try simp only [Act.put, List.setIfInBounds_toArray, List.set_cons_succ, List.set_cons_zero]
    refine takeOp (i := 1) (v := ?_) (some 174) rfl rfl (by kernel_rfl) (by kernel_rfl) (by kernel_rfl) (fun _ _ _ h => h) (Or.inl ⟨by rfl, ?_⟩) (by assumption) ?_
    rotate_left 1
    · (intro w0 hSw; (try dsimp only at hSw); go_simp; try (with_reducible rfl))
    try simp only [Act.put, List.setIfInBounds_toArray, List.set_cons_succ, List.set_cons_zero]
    refine takeOp (i := 2) (v := ?_) (some 175) rfl rfl (by kernel_rfl) (by kernel_rfl) (by kernel_rfl) (fun _ _ _ h => h) (Or.inl ⟨by rfl, ?_⟩) (by assumption) ?_
    rotate_left 1
    · (intro w0 hSw; (try dsimp only at hSw); go_simp; try (with_reducible rfl))
    try simp only [Act.put, List.setIfInBounds_toArray, List.set_cons_succ, List.set_cons_zero]
    refine takeOp (i := 3) (v := ?_) (some 176) rfl rfl (by kernel_rfl) (by kernel_rfl) (by kernel_rfl) (fun _ _ _ h => h) (Or.inl ⟨by rfl, ?_⟩) (by assumption) ?_
    rotate_left 1
    · (intro w0 hSw; (try dsimp only at hSw); go_simp; try (with_reducible rfl))
    try simp only [Act.put, List.setIfInBounds_toArray, List.set_cons_succ, List.set_cons_zero]
    refine takeOp (i := 4) (v := ?_) (some 177) rfl rfl (by kernel_rfl) (by kernel_rfl) (by kernel_rfl) (fun _ _ _ h => h) (Or.inl ⟨by rfl, ?_⟩) (by assumption) ?_
    rotate_left 1
    · (intro w0 hSw; (try dsimp only at hSw); go_simp; try (with_reducible rfl))
    try simp only [Act.put, List.setIfInBounds_toArray, List.set_cons_succ, List.set_cons_zero]
    refine takeOp (i := 5) (v := ?_) (some 178) rfl rfl (by kernel_rfl) (by kernel_rfl) (by kernel_rfl) (fun _ _ _ h => h) (Or.inl ⟨by rfl, ?_⟩) (by assumption) ?_
    rotate_left 1
    · (intro w0 hSw; (try dsimp only at hSw); go_simp; try (with_reducible rfl))
    try simp only [Act.put, List.setIfInBounds_toArray, List.set_cons_succ, List.set_cons_zero]
    refine takeOp (i := 6) (v := ?_) (some 179) rfl rfl (by kernel_rfl) (by kernel_rfl) (by kernel_rfl) (fun _ _ _ h => h) (Or.inl ⟨by rfl, ?_⟩) (by assumption) ?_
    rotate_left 1
    · (intro w0 hSw; (try dsimp only at hSw); go_simp; try (with_reducible rfl))
    try simp only [Act.put, List.setIfInBounds_toArray, List.set_cons_succ, List.set_cons_zero]
    refine takeOp (i := 7) (v := ?_) (some 180) rfl rfl (by kernel_rfl) (by kernel_rfl) (by kernel_rfl) (fun _ _ _ h => h) (Or.inl ⟨by rfl, ?_⟩) (by assumption) ?_
    rotate_left 1
    · (intro w0 hSw; (try dsimp only at hSw); go_simp; try (with_reducible rfl))
    try simp only [Act.put, List.setIfInBounds_toArray, List.set_cons_succ, List.set_cons_zero]
    refine takeOp (i := 8) (v := ?_) (some 181) rfl rfl (by kernel_rfl) (by kernel_rfl) (by kernel_rfl) (fun _ _ _ h => h) (Or.inl ⟨by rfl, ?_⟩) (by assumption) ?_
    rotate_left 1
    · (intro w0 hSw; (try dsimp only at hSw); go_simp; try (with_reducible rfl))
    try simp only [Act.put, List.setIfInBounds_toArray, List.set_cons_succ, List.set_cons_zero]
    refine takeOp (i := 9) (v := ?_) (some 182) rfl rfl (by kernel_rfl) (by kernel_rfl) (by kernel_rfl) (fun _ _ _ h => h) (Or.inl ⟨by rfl, ?_⟩) (by assumption) ?_
    rotate_left 1
    · (intro w0 hSw; (try dsimp only at hSw); go_simp; try (with_reducible rfl))
    try simp only [Act.put, List.setIfInBounds_toArray, List.set_cons_succ, List.set_cons_zero]
    refine takeOp (i := 10) (v := ?_) (some 183) rfl rfl (by kernel_rfl) (by kernel_rfl) (by kernel_rfl) (fun _ _ _ h => h) (Or.inl ⟨by rfl, ?_⟩) (by assumption) ?_
    rotate_left 1
    · (intro w0 hSw; (try dsimp only at hSw); go_simp; try (with_reducible rfl))
    try simp only [Act.put, List.setIfInBounds_toArray, List.set_cons_succ, List.set_cons_zero]
    refine takeOp (i := 11) (v := ?_) (some 184) rfl rfl (by kernel_rfl) (by kernel_rfl) (by kernel_rfl) (fun _ _ _ h => h) (Or.inl ⟨by rfl, ?_⟩) (by assumption) ?_
    rotate_left 1
    · (intro w0 hSw; (try dsimp only at hSw); go_simp; try (with_reducible rfl))
    try simp only [Act.put, List.setIfInBounds_toArray, List.set_cons_succ, List.set_cons_zero]
    refine takeOp (i := 12) (v := ?_) (some 185) rfl rfl (by kernel_rfl) (by kernel_rfl) (by kernel_rfl) (fun _ _ _ h => h) (Or.inl ⟨by rfl, ?_⟩) (by assumption) ?_
    rotate_left 1
    · (intro w0 hSw; (try dsimp only at hSw); go_simp; try (with_reducible rfl))
    try simp only [Act.put, List.setIfInBounds_toArray, List.set_cons_succ, List.set_cons_zero]
    refine takeOp (i := 13) (v := ?_) (some 186) rfl rfl (by kernel_rfl) (by kernel_rfl) (by kernel_rfl) (fun _ _ _ h => h) (Or.inl ⟨by rfl, ?_⟩) (by assumption) ?_
    rotate_left 1
    · (intro w0 hSw; (try dsimp only at hSw); go_simp; try (with_reducible rfl))
    try simp only [Act.put, List.setIfInBounds_toArray, List.set_cons_succ, List.set_cons_zero]
    refine takeOp (i := 14) (v := ?_) (some 187) rfl rfl (by kernel_rfl) (by kernel_rfl) (by kernel_rfl) (fun _ _ _ h => h) (Or.inl ⟨by rfl, ?_⟩) (by assumption) ?_
    rotate_left 1
    · (intro w0 hSw; (try dsimp only at hSw); go_simp; try (with_reducible rfl))
    try simp only [Act.put, List.setIfInBounds_toArray, List.set_cons_succ, List.set_cons_zero]
    refine takeOp (i := 15) (v := ?_) (some 188) rfl rfl (by kernel_rfl) (by kernel_rfl) (by kernel_rfl) (fun _ _ _ h => h) (Or.inl ⟨by rfl, ?_⟩) (by assumption) ?_
    rotate_left 1
    · (intro w0 hSw; (try dsimp only at hSw); go_simp; try (with_reducible rfl))
    try simp only [Act.put, List.setIfInBounds_toArray, List.set_cons_succ, List.set_cons_zero]
    refine takeOp (i := 16) (v := ?_) (some 189) rfl rfl (by kernel_rfl) (by kernel_rfl) (by kernel_rfl) (fun _ _ _ h => h) (Or.inl ⟨by rfl, ?_⟩) (by assumption) ?_
    rotate_left 1
    · (intro w0 hSw; (try dsimp only at hSw); go_simp; try (with_reducible rfl))
    try simp only [Act.put, List.setIfInBounds_toArray, List.set_cons_succ, List.set_cons_zero]
    refine takeOp (i := 17) (v := ?_) (some 190) rfl rfl (by kernel_rfl) (by kernel_rfl) (by kernel_rfl) (fun _ _ _ h => h) (Or.inl ⟨by rfl, ?_⟩) (by assumption) ?_
    rotate_left 1
    · (intro w0 hSw; (try dsimp only at hSw); go_simp; try (with_reducible rfl))
    try simp only [Act.put, List.setIfInBounds_toArray, List.set_cons_succ, List.set_cons_zero]
    refine takeOp (i := 18) (v := ?_) (some 191) rfl rfl (by kernel_rfl) (by kernel_rfl) (by kernel_rfl) (fun _ _ _ h => h) (Or.inl ⟨by rfl, ?_⟩) (by assumption) ?_
    rotate_left 1
    · (intro w0 hSw; (try dsimp only at hSw); go_simp; try (with_reducible rfl))
    try simp only [Act.put, List.setIfInBounds_toArray, List.set_cons_succ, List.set_cons_zero]
    refine takeOp (i := 19) (v := ?_) (some 192) rfl rfl (by kernel_rfl) (by kernel_rfl) (by kernel_rfl) (fun _ _ _ h => h) (Or.inl ⟨by rfl, ?_⟩) (by assumption) ?_
    rotate_left 1
    · (intro w0 hSw; (try dsimp only at hSw); go_simp; try (with_reducible rfl))
    try simp only [Act.put, List.setIfInBounds_toArray, List.set_cons_succ, List.set_cons_zero]
    refine takeOp (i := 20) (v := ?_) (some 193) rfl rfl (by kernel_rfl) (by kernel_rfl) (by kernel_rfl) (fun _ _ _ h => h) (Or.inl ⟨by rfl, ?_⟩) (by assumption) ?_
    rotate_left 1
    · (intro w0 hSw; (try dsimp only at hSw); go_simp; try (with_reducible rfl))
    try simp only [Act.put, List.setIfInBounds_toArray, List.set_cons_succ, List.set_cons_zero]
    refine takeOp (i := 21) (v := ?_) (some 194) rfl rfl (by kernel_rfl) (by kernel_rfl) (by kernel_rfl) (fun _ _ _ h => h) (Or.inl ⟨by rfl, ?_⟩) (by assumption) ?_
    rotate_left 1
    · (intro w0 hSw; (try dsimp only at hSw); go_simp; try (with_reducible rfl))
    try simp only [Act.put, List.setIfInBounds_toArray, List.set_cons_succ, List.set_cons_zero]
    refine takeOp (i := 22) (v := ?_) (some 195) rfl rfl (by kernel_rfl) (by kernel_rfl) (by kernel_rfl) (fun _ _ _ h => h) (Or.inl ⟨by rfl, ?_⟩) (by assumption) ?_
    rotate_left 1
    · (intro w0 hSw; (try dsimp only at hSw); go_simp; try (with_reducible rfl))
    try simp only [Act.put, List.setIfInBounds_toArray, List.set_cons_succ, List.set_cons_zero]
    refine wpAnyH_ready (rs := [23, 29]) (by kernel_rfl) (by simp) ?_
    refine (AllReadyH.cons rfl (fun K hK => ?_) (AllReadyH.cons rfl (fun K hK => ?_) AllReadyH.nil))
    · go_simp
      obtain ⟨V1, hV⟩ : ∃ V', V' = V0.alloc (.cells #[.bool false, .string n1, .slice A1 x1.length C1, .bool true, .string n1, .slice A1 x1.length C1] 53) := ⟨_, rfl⟩
      rw [← hV]
      have hb : Below V0.heap.size V0 V1 := by rw [hV]; exact ((Ext.refl V0).alloc _).below
      obtain ⟨eb, heb⟩ : ∃ g, g = V0.heap.size := ⟨_, rfl⟩
      rw [← heb]
      have HEB : Hid (Row V1 eb 53 [.bool false, .string n1, .slice A1 x1.length C1, .bool true, .string n1, .slice A1 x1.length C1]) := by show Row _ _ _ _; rw [hV, heb]; exact Row.new V0 _ _
      have HV := Lib.hid (Below.then HV.out hb HV.out.size)
      clear hb hV heb
      refine hK.out _ _ (HS11.out V1 HV.out) (fun hHeld => ?_)
      clear hK K
      try simp only [Act.put, List.setIfInBounds_toArray, List.set_cons_succ, List.set_cons_zero]
      refine wpAnyH_ready (rs := [24, 29]) (by kernel_rfl) (by simp) ?_
      refine (AllReadyH.cons rfl (fun K hK => ?_) (AllReadyH.cons rfl (fun K hK => ?_) AllReadyH.nil))
      · go_simp
        go_simp
        refine (HAP4.out V1 HV.out eb HEB.out (fun _ => True) (fun _ _ => trivial) (fun _ _ => trivial)).mono ?_
        rintro e V2 ⟨mx, c, rfl, hok, hbad, hb⟩
        have HOKX := Lib.hid hok
        have HBADX := Lib.hid hbad
        clear hok hbad
        go_simp
        have HEB := Lib.hid (HEB.out.up hb)
        have HWIN : Hid (WinP V1.heap.size V2 V2) := WinP.refl _ _
        have HV := Lib.hid (Below.then HV.out hb HV.out.size)
        clear hb
        go_wp2_with fail
        refine hK.out _ _ (HS11.out V2 HV.out) (fun hHeld => ?_)
        clear hK K
        try simp only [Act.put, List.setIfInBounds_toArray, List.set_cons_succ, List.set_cons_zero]
        refine takeOp (i := 25) (v := ?_) (some 172) rfl rfl (by kernel_rfl) (by kernel_rfl) (by kernel_rfl) (fun _ _ _ h => h) (Or.inl ⟨by rfl, ?_⟩) (by assumption) ?_
        rotate_left 1
        · (intro w0 hSw; (try dsimp only at hSw); go_simp; try (with_reducible rfl))
        try simp only [Act.put, List.setIfInBounds_toArray, List.set_cons_succ, List.set_cons_zero]
        refine takeOp (i := 26) (v := ?_) (some 198) rfl rfl (by kernel_rfl) (by kernel_rfl) (by kernel_rfl) (fun _ _ _ h => h) (Or.inl ⟨by rfl, ?_⟩) (by assumption) ?_
        rotate_left 1
        · (intro w0 hSw; (try dsimp only at hSw); go_simp; try (with_reducible rfl))
        try simp only [Act.put, List.setIfInBounds_toArray, List.set_cons_succ, List.set_cons_zero]
        refine takeOp (i := 27) (v := ?_) (some 199) rfl rfl (by kernel_rfl) (by kernel_rfl) (by kernel_rfl) (fun _ _ _ h => h) (Or.inl ⟨by rfl, ?_⟩) (by assumption) ?_
        rotate_left 1
        · (intro w0 hSw; (try dsimp only at hSw); go_simp; try (with_reducible rfl))
        try simp only [Act.put, List.setIfInBounds_toArray, List.set_cons_succ, List.set_cons_zero]
        refine takeOp (i := 28) (v := ?_) (some 200) rfl rfl (by kernel_rfl) (by kernel_rfl) (by kernel_rfl) (fun _ _ _ h => h) (Or.inl ⟨by rfl, ?_⟩) (by assumption) ?_
        rotate_left 1
        · (intro w0 hSw; (try dsimp only at hSw); go_simp; try (with_reducible rfl))
        try simp only [Act.put, List.setIfInBounds_toArray, List.set_cons_succ, List.set_cons_zero]
        refine wpAnyH_ready (rs := [29]) (by kernel_rfl) (by simp) ?_
        refine (AllReadyH.cons rfl (fun K hK => ?_) AllReadyH.nil)
        go_simp
        obtain ⟨V3, hV⟩ : ∃ V', V' = V2.alloc (.cells #[.map none] 28) := ⟨_, rfl⟩
        rw [← hV]
        have hb : Below V2.heap.size V2 V3 := by rw [hV]; exact ((Ext.refl V2).alloc _).below
        obtain ⟨gb, hgb⟩ : ∃ gb, gb = V2.heap.size := ⟨_, rfl⟩
        have HG : Hid (Row V3 gb 28 [.map none]) := by show Row _ _ _ _; rw [hV, hgb]; exact Row.new V2 _ _
        have HGZ : Hid (W11.heap.size ≤ gb) := by show _ ≤ _; rw [hgb]; exact HV.out.size
        have HGW0 : Hid (gb < V3.heap.size) := HG.out.lt
        have HEB := Lib.hid (HEB.out.up hb)
        have HWIN : Hid (WinP V1.heap.size V2 V3) := HWIN.out.up hb
        have HOUT : Hid (V2.heap.size ≤ gb) := by show _ ≤ _; rw [hgb]; exact Nat.le_refl _
        have HOKX : Hid (r4.1 = 0 → c = r4.2.2 ∧ DbM (fun b => b ≠ gb) S V3 (.map mx) r4.2.1) := fun h => ⟨(HOKX.out h).1, ((HOKX.out h).2.weak fun b hq _ => by show b ≠ gb; omega).up hb⟩
        have HV := Lib.hid (Below.then HV.out hb HV.out.size)
        rw [← hgb]
        clear hb hV hgb
        refine hK.out _ _ (HS11.out V3 HV.out) (fun hHeld => ?_)
        clear hK K
        try simp only [Act.put, List.setIfInBounds_toArray, List.set_cons_succ, List.set_cons_zero]
        refine wpAnyH_ready (rs := [30]) (by kernel_rfl) (by simp) ?_
        refine (AllReadyH.cons rfl (fun K hK => ?_) AllReadyH.nil)
        have m0 := HG.out.frozen 0
        have n0 : V3.cell? ⟨gb, 0, none⟩ = some (.map none) := HG.out.cell 0
        have m9 := HG.out.lt
        go_simp
        go_wp2_with fail
        obtain ⟨V4, hV⟩ : ∃ V', V' = (V3.setCell ⟨gb, 0, none⟩ (.map mx)) := ⟨_, rfl⟩
        rw [← hV]
        have HG : Hid (Row V4 gb 28 [.map mx]) := by show Row _ _ _ _; rw [hV]; exact (HG.out.set 0 _)
        have HWIN : Hid (WinP V1.heap.size V2 V4) := by show WinP _ _ _; rw [hV]; exact (HWIN.out.set (Or.inr HOUT.out) 0 _)
        have HOKX : Hid (r4.1 = 0 → c = r4.2.2 ∧ DbM (fun b => b ≠ gb) S V4 (.map mx) r4.2.1) := fun h => ⟨(HOKX.out h).1, by rw [hV]; exact (HOKX.out h).2.keep (Stay.set (fun h => h rfl) 0 _)⟩
        have HV : Hid (Below W11.heap.size W11 V4) := by show Below _ _ _; rw [hV]; exact (HV.out.setCell (by show W11.heap.size ≤ gb; exact HGZ.out) _)
        clear hV m9 m0 n0
        refine hK.out _ _ (HS11.out V4 HV.out) (fun hHeld => ?_)
        clear hK K
        try simp only [Act.put, List.setIfInBounds_toArray, List.set_cons_succ, List.set_cons_zero]
        refine takeOp (i := 31) (v := ?_) (some 23) rfl rfl (by kernel_rfl) (by kernel_rfl) (by kernel_rfl) (fun _ _ _ h => h) (Or.inl ⟨by rfl, ?_⟩) (by assumption) ?_
        rotate_left 1
        · (intro w0 hSw; (try dsimp only at hSw); go_simp; try (with_reducible rfl))
        try simp only [Act.put, List.setIfInBounds_toArray, List.set_cons_succ, List.set_cons_zero]
        refine takeOp (i := 32) (v := ?_) (some 24) rfl rfl (by kernel_rfl) (by kernel_rfl) (by kernel_rfl) (fun _ _ _ h => h) (Or.inl ⟨by rfl, ?_⟩) (by assumption) ?_
        rotate_left 1
        · (intro w0 hSw; (try dsimp only at hSw); go_simp; try (with_reducible rfl))
        try simp only [Act.put, List.setIfInBounds_toArray, List.set_cons_succ, List.set_cons_zero]
        refine wpAnyH_done (by kernel_rfl) ?_ _
        go_wp2_with fail
        go_meet
        case rel => exact ⟨gb, mx, c, rfl, rfl, rfl, HGZ.out, HG.out, fun h => ⟨(HOKX.out h).1, (HOKX.out h).2.weak fun _ _ _ => trivial⟩, HBADX.out, HV.out⟩
      · go_simp
        obtain ⟨V2, hV⟩ : ∃ V', V' = V1.alloc (.cells #[.map none] 28) := ⟨_, rfl⟩
        rw [← hV]
        have hb : Below V1.heap.size V1 V2 := by rw [hV]; exact ((Ext.refl V1).alloc _).below
        obtain ⟨gb, hgb⟩ : ∃ gb, gb = V1.heap.size := ⟨_, rfl⟩
        have HG : Hid (Row V2 gb 28 [.map none]) := by show Row _ _ _ _; rw [hV, hgb]; exact Row.new V1 _ _
        have HGZ : Hid (W11.heap.size ≤ gb) := by show _ ≤ _; rw [hgb]; exact HV.out.size
        have HGW0 : Hid (gb < V2.heap.size) := HG.out.lt
        have HEB := Lib.hid (HEB.out.up hb)
        have HV := Lib.hid (Below.then HV.out hb HV.out.size)
        rw [← hgb]
        clear hb hV hgb
        refine hK.out _ _ (HS11.out V2 HV.out) (fun hHeld => ?_)
        clear hK K
        try simp only [Act.put, List.setIfInBounds_toArray, List.set_cons_succ, List.set_cons_zero]
        refine wpAnyH_ready (rs := [24]) (by kernel_rfl) (by simp) ?_
        refine (AllReadyH.cons rfl (fun K hK => ?_) AllReadyH.nil)
        go_simp
        go_simp
        refine (HAP4.out V2 HV.out eb HEB.out (fun b => b ≠ gb) (fun b hb => by have := HGZ.out; show b ≠ gb; omega) (fun b hb => by have := HGW0.out; show b ≠ gb; omega)).mono ?_
        rintro e V3 ⟨mx, c, rfl, hok, hbad, hb⟩
        have HOKX := Lib.hid hok
        have HBADX := Lib.hid hbad
        clear hok hbad
        go_simp
        have HEB := Lib.hid (HEB.out.up hb)
        have HG := Lib.hid (HG.out.up hb)
        have HGW : Hid (gb < V2.heap.size) := by show gb < _; have := HGW0.out; omega
        have HWIN : Hid (WinP V2.heap.size V3 V3) := WinP.refl _ _
        have HV := Lib.hid (Below.then HV.out hb HV.out.size)
        clear hb
        go_wp2_with fail
        refine hK.out _ _ (HS11.out V3 HV.out) (fun hHeld => ?_)
        clear hK K
        try simp only [Act.put, List.setIfInBounds_toArray, List.set_cons_succ, List.set_cons_zero]
        refine takeOp (i := 25) (v := ?_) (some 172) rfl rfl (by kernel_rfl) (by kernel_rfl) (by kernel_rfl) (fun _ _ _ h => h) (Or.inl ⟨by rfl, ?_⟩) (by assumption) ?_
        rotate_left 1
        · (intro w0 hSw; (try dsimp only at hSw); go_simp; try (with_reducible rfl))
        try simp only [Act.put, List.setIfInBounds_toArray, List.set_cons_succ, List.set_cons_zero]
        refine takeOp (i := 26) (v := ?_) (some 198) rfl rfl (by kernel_rfl) (by kernel_rfl) (by kernel_rfl) (fun _ _ _ h => h) (Or.inl ⟨by rfl, ?_⟩) (by assumption) ?_
        rotate_left 1
        · (intro w0 hSw; (try dsimp only at hSw); go_simp; try (with_reducible rfl))
        try simp only [Act.put, List.setIfInBounds_toArray, List.set_cons_succ, List.set_cons_zero]
        refine takeOp (i := 27) (v := ?_) (some 199) rfl rfl (by kernel_rfl) (by kernel_rfl) (by kernel_rfl) (fun _ _ _ h => h) (Or.inl ⟨by rfl, ?_⟩) (by assumption) ?_
        rotate_left 1
        · (intro w0 hSw; (try dsimp only at hSw); go_simp; try (with_reducible rfl))
        try simp only [Act.put, List.setIfInBounds_toArray, List.set_cons_succ, List.set_cons_zero]
        refine takeOp (i := 28) (v := ?_) (some 200) rfl rfl (by kernel_rfl) (by kernel_rfl) (by kernel_rfl) (fun _ _ _ h => h) (Or.inl ⟨by rfl, ?_⟩) (by assumption) ?_
        rotate_left 1
        · (intro w0 hSw; (try dsimp only at hSw); go_simp; try (with_reducible rfl))
        try simp only [Act.put, List.setIfInBounds_toArray, List.set_cons_succ, List.set_cons_zero]
        refine wpAnyH_ready (rs := [30]) (by kernel_rfl) (by simp) ?_
        refine (AllReadyH.cons rfl (fun K hK => ?_) AllReadyH.nil)
        have m0 := HG.out.frozen 0
        have n0 : V3.cell? ⟨gb, 0, none⟩ = some (.map none) := HG.out.cell 0
        have m9 := HG.out.lt
        go_simp
        go_wp2_with fail
        obtain ⟨V4, hV⟩ : ∃ V', V' = (V3.setCell ⟨gb, 0, none⟩ (.map mx)) := ⟨_, rfl⟩
        rw [← hV]
        have HG : Hid (Row V4 gb 28 [.map mx]) := by show Row _ _ _ _; rw [hV]; exact (HG.out.set 0 _)
        have HWIN : Hid (WinP V2.heap.size V3 V4) := by show WinP _ _ _; rw [hV]; exact (HWIN.out.set (Or.inl HGW.out) 0 _)
        have HOKX : Hid (r4.1 = 0 → c = r4.2.2 ∧ DbM (fun b => b ≠ gb) S V4 (.map mx) r4.2.1) := fun h => ⟨(HOKX.out h).1, by rw [hV]; exact (HOKX.out h).2.keep (Stay.set (fun h => h rfl) 0 _)⟩
        have HV : Hid (Below W11.heap.size W11 V4) := by show Below _ _ _; rw [hV]; exact (HV.out.setCell (by show W11.heap.size ≤ gb; exact HGZ.out) _)
        clear hV m9 m0 n0
        refine hK.out _ _ (HS11.out V4 HV.out) (fun hHeld => ?_)
        clear hK K
        try simp only [Act.put, List.setIfInBounds_toArray, List.set_cons_succ, List.set_cons_zero]
        refine takeOp (i := 31) (v := ?_) (some 23) rfl rfl (by kernel_rfl) (by kernel_rfl) (by kernel_rfl) (fun _ _ _ h => h) (Or.inl ⟨by rfl, ?_⟩) (by assumption) ?_
        rotate_left 1
        · (intro w0 hSw; (try dsimp only at hSw); go_simp; try (with_reducible rfl))
        try simp only [Act.put, List.setIfInBounds_toArray, List.set_cons_succ, List.set_cons_zero]
        refine takeOp (i := 32) (v := ?_) (some 24) rfl rfl (by kernel_rfl) (by kernel_rfl) (by kernel_rfl) (fun _ _ _ h => h) (Or.inl ⟨by rfl, ?_⟩) (by assumption) ?_
        rotate_left 1
        · (intro w0 hSw; (try dsimp only at hSw); go_simp; try (with_reducible rfl))
        try simp only [Act.put, List.setIfInBounds_toArray, List.set_cons_succ, List.set_cons_zero]
        refine wpAnyH_done (by kernel_rfl) ?_ _
        go_wp2_with fail
        go_meet
        case rel => exact ⟨gb, mx, c, rfl, rfl, rfl, HGZ.out, HG.out, fun h => ⟨(HOKX.out h).1, (HOKX.out h).2.weak fun _ _ _ => trivial⟩, HBADX.out, HV.out⟩
    · go_simp
      obtain ⟨V1, hV⟩ : ∃ V', V' = V0.alloc (.cells #[.map none] 28) := ⟨_, rfl⟩
      rw [← hV]
      have hb : Below V0.heap.size V0 V1 := by rw [hV]; exact ((Ext.refl V0).alloc _).below
      obtain ⟨gb, hgb⟩ : ∃ gb, gb = V0.heap.size := ⟨_, rfl⟩
      have HG : Hid (Row V1 gb 28 [.map none]) := by show Row _ _ _ _; rw [hV, hgb]; exact Row.new V0 _ _
      have HGZ : Hid (W11.heap.size ≤ gb) := by show _ ≤ _; rw [hgb]; exact HV.out.size
      have HGW0 : Hid (gb < V1.heap.size) := HG.out.lt
      have HV := Lib.hid (Below.then HV.out hb HV.out.size)
      rw [← hgb]
      clear hb hV hgb
      refine hK.out _ _ (HS11.out V1 HV.out) (fun hHeld => ?_)
      clear hK K
      try simp only [Act.put, List.setIfInBounds_toArray, List.set_cons_succ, List.set_cons_zero]
      refine wpAnyH_ready (rs := [23]) (by kernel_rfl) (by simp) ?_
      refine (AllReadyH.cons rfl (fun K hK => ?_) AllReadyH.nil)
      go_simp
      obtain ⟨V2, hV⟩ : ∃ V', V' = V1.alloc (.cells #[.bool false, .string n1, .slice A1 x1.length C1, .bool true, .string n1, .slice A1 x1.length C1] 53) := ⟨_, rfl⟩
      rw [← hV]
      have hb : Below V1.heap.size V1 V2 := by rw [hV]; exact ((Ext.refl V1).alloc _).below
      obtain ⟨eb, heb⟩ : ∃ g, g = V1.heap.size := ⟨_, rfl⟩
      rw [← heb]
      have HEB : Hid (Row V2 eb 53 [.bool false, .string n1, .slice A1 x1.length C1, .bool true, .string n1, .slice A1 x1.length C1]) := by show Row _ _ _ _; rw [hV, heb]; exact Row.new V1 _ _
      have HG := Lib.hid (HG.out.up hb)
      have HGW0 : Hid (gb < V2.heap.size) := HG.out.lt
      have HV := Lib.hid (Below.then HV.out hb HV.out.size)
      clear hb hV heb
      refine hK.out _ _ (HS11.out V2 HV.out) (fun hHeld => ?_)
      clear hK K
      try simp only [Act.put, List.setIfInBounds_toArray, List.set_cons_succ, List.set_cons_zero]
      refine wpAnyH_ready (rs := [24]) (by kernel_rfl) (by simp) ?_
      refine (AllReadyH.cons rfl (fun K hK => ?_) AllReadyH.nil)
      go_simp
      go_simp
      refine (HAP4.out V2 HV.out eb HEB.out (fun b => b ≠ gb) (fun b hb => by have := HGZ.out; show b ≠ gb; omega) (fun b hb => by have := HGW0.out; show b ≠ gb; omega)).mono ?_
      rintro e V3 ⟨mx, c, rfl, hok, hbad, hb⟩
      have HOKX := Lib.hid hok
      have HBADX := Lib.hid hbad
      clear hok hbad
      go_simp
      have HEB := Lib.hid (HEB.out.up hb)
      have HG := Lib.hid (HG.out.up hb)
      have HGW : Hid (gb < V2.heap.size) := by show gb < _; have := HGW0.out; omega
      have HWIN : Hid (WinP V2.heap.size V3 V3) := WinP.refl _ _
      have HV := Lib.hid (Below.then HV.out hb HV.out.size)
      clear hb
      go_wp2_with fail
      refine hK.out _ _ (HS11.out V3 HV.out) (fun hHeld => ?_)
      clear hK K
      try simp only [Act.put, List.setIfInBounds_toArray, List.set_cons_succ, List.set_cons_zero]
      refine takeOp (i := 25) (v := ?_) (some 172) rfl rfl (by kernel_rfl) (by kernel_rfl) (by kernel_rfl) (fun _ _ _ h => h) (Or.inl ⟨by rfl, ?_⟩) (by assumption) ?_
      rotate_left 1
      · (intro w0 hSw; (try dsimp only at hSw); go_simp; try (with_reducible rfl))
      try simp only [Act.put, List.setIfInBounds_toArray, List.set_cons_succ, List.set_cons_zero]
      refine takeOp (i := 26) (v := ?_) (some 198) rfl rfl (by kernel_rfl) (by kernel_rfl) (by kernel_rfl) (fun _ _ _ h => h) (Or.inl ⟨by rfl, ?_⟩) (by assumption) ?_
      rotate_left 1
      · (intro w0 hSw; (try dsimp only at hSw); go_simp; try (with_reducible rfl))
      try simp only [Act.put, List.setIfInBounds_toArray, List.set_cons_succ, List.set_cons_zero]
      refine takeOp (i := 27) (v := ?_) (some 199) rfl rfl (by kernel_rfl) (by kernel_rfl) (by kernel_rfl) (fun _ _ _ h => h) (Or.inl ⟨by rfl, ?_⟩) (by assumption) ?_
      rotate_left 1
      · (intro w0 hSw; (try dsimp only at hSw); go_simp; try (with_reducible rfl))
      try simp only [Act.put, List.setIfInBounds_toArray, List.set_cons_succ, List.set_cons_zero]
      refine takeOp (i := 28) (v := ?_) (some 200) rfl rfl (by kernel_rfl) (by kernel_rfl) (by kernel_rfl) (fun _ _ _ h => h) (Or.inl ⟨by rfl, ?_⟩) (by assumption) ?_
      rotate_left 1
      · (intro w0 hSw; (try dsimp only at hSw); go_simp; try (with_reducible rfl))
      try simp only [Act.put, List.setIfInBounds_toArray, List.set_cons_succ, List.set_cons_zero]
      refine wpAnyH_ready (rs := [30]) (by kernel_rfl) (by simp) ?_
      refine (AllReadyH.cons rfl (fun K hK => ?_) AllReadyH.nil)
      have m0 := HG.out.frozen 0
      have n0 : V3.cell? ⟨gb, 0, none⟩ = some (.map none) := HG.out.cell 0
      have m9 := HG.out.lt
      go_simp
      go_wp2_with fail
      obtain ⟨V4, hV⟩ : ∃ V', V' = (V3.setCell ⟨gb, 0, none⟩ (.map mx)) := ⟨_, rfl⟩
      rw [← hV]
      have HG : Hid (Row V4 gb 28 [.map mx]) := by show Row _ _ _ _; rw [hV]; exact (HG.out.set 0 _)
      have HWIN : Hid (WinP V2.heap.size V3 V4) := by show WinP _ _ _; rw [hV]; exact (HWIN.out.set (Or.inl HGW.out) 0 _)
      have HOKX : Hid (r4.1 = 0 → c = r4.2.2 ∧ DbM (fun b => b ≠ gb) S V4 (.map mx) r4.2.1) := fun h => ⟨(HOKX.out h).1, by rw [hV]; exact (HOKX.out h).2.keep (Stay.set (fun h => h rfl) 0 _)⟩
      have HV : Hid (Below W11.heap.size W11 V4) := by show Below _ _ _; rw [hV]; exact (HV.out.setCell (by show W11.heap.size ≤ gb; exact HGZ.out) _)
      clear hV m9 m0 n0
      refine hK.out _ _ (HS11.out V4 HV.out) (fun hHeld => ?_)
      clear hK K
      try simp only [Act.put, List.setIfInBounds_toArray, List.set_cons_succ, List.set_cons_zero]
      refine takeOp (i := 31) (v := ?_) (some 23) rfl rfl (by kernel_rfl) (by kernel_rfl) (by kernel_rfl) (fun _ _ _ h => h) (Or.inl ⟨by rfl, ?_⟩) (by assumption) ?_
      rotate_left 1
      · (intro w0 hSw; (try dsimp only at hSw); go_simp; try (with_reducible rfl))
      try simp only [Act.put, List.setIfInBounds_toArray, List.set_cons_succ, List.set_cons_zero]
      refine takeOp (i := 32) (v := ?_) (some 24) rfl rfl (by kernel_rfl) (by kernel_rfl) (by kernel_rfl) (fun _ _ _ h => h) (Or.inl ⟨by rfl, ?_⟩) (by assumption) ?_
      rotate_left 1
      · (intro w0 hSw; (try dsimp only at hSw); go_simp; try (with_reducible rfl))
      try simp only [Act.put, List.setIfInBounds_toArray, List.set_cons_succ, List.set_cons_zero]
      refine wpAnyH_done (by kernel_rfl) ?_ _
      go_wp2_with fail
      go_meet
      case rel => exact ⟨gb, mx, c, rfl, rfl, rfl, HGZ.out, HG.out, fun h => ⟨(HOKX.out h).1, (HOKX.out h).2.weak fun _ _ _ => trivial⟩, HBADX.out, HV.out⟩
  case rest =>
  obtain ⟨g22, mc, nc, rfl, rfl, rfl, -, hr22, hokC, -, hb12⟩ := hcut
  generalize wc = W12 at *
  have h41 : r4.1 = 0 := by rw [HR4.out]
  obtain ⟨hnc, hdc⟩ := hokC h41
  have hnc : nc = 2 := by rw [hnc, HR4.out]
  have h421 : r4.2.1 = F := by rw [HR4.out]
  rw [h421] at hdc
  subst hnc
  rw [h41, show ((2 : Nat) : Int) = 2 from rfl]
  clear h41 h421
  obtain ⟨bc, hbc⟩ := hdc.form
  injection hbc with hbc
  subst hbc
  have HB12 := Lib.hid (HB11.out.trans (hb12.mono HB11.out.size))
  have HD12 := Lib.hid (HD9.out.up (HB911.out.trans (hb12.mono HB911.out.size)))
  have HE := Lib.hid (ctEqual_any W12 hdc HD12.out HND.out)
  rw [sameC_self] at HE
  have c0 : W12.cell? ⟨g22, 0, none⟩ = some (.map (some bc)) := hr22.cell 0
  have c1 := hr22.lt
  have c2 : W12.cell? ⟨g8, 0, none⟩ = some (.map (some bd)) := (HS11.out W12 hb12).1
  have c3 : g8 < W12.heap.size := Nat.lt_of_lt_of_le z8B hb12.size
  clear hr22 hokC hdc hb12 HAP4 HS11 z8B zuB
  go_wp2_with fail
  refine HE.out.mono ?_
  rintro e W13 ⟨rfl, hb13⟩
  have HB13 := Lib.hid (HB12.out.trans (hb13.mono HB12.out.size))
  clear hb13
  go_wp2_with fail
  go_ret
  exact ⟨rfl, HB13.out⟩
end
end Go.Proofs.YtdadchpiibipoaaGreatDoor

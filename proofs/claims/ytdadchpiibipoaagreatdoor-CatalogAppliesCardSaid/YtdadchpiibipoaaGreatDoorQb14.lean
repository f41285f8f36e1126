/- Parts of the proof, merged: C59. -/
import Derived.Test.YtdadchpiibipoaaGreatDoorQb13

set_option maxRecDepth 100000
namespace Go.Proofs.YtdadchpiibipoaaGreatDoor
section
open Go.RowKit Go.Sort Go.ChangeMaps Go.WideShapes

set_option maxHeartbeats 16000000 in
theorem l08Applies_any (SA : Option Addr) (SC : Nat) (S : Sch) (A : Option Addr) (C : Nat) (us : List Upd) (w : World) (hS : SchsM w.heap.size w SA S) (hSo : SchsOk S) (hSl : S.length ≤ 9223372036854775807)
    (hU : UpdsM w.heap.size w A us) (hUo : ∀ u ∈ us, u.rel.size ≤ 9223372036854775807 ∧ u.row.length ≤ 9223372036854775807 ∧ ∀ v ∈ u.row, v.str.size ≤ 9223372036854775807) (hUl : us.length ≤ C) (hUc : C ≤ 9223372036854775807) (hT : Tabs w) :
    Calls Tryz.prog 8 #[.slice SA S.length SC, .slice A us.length C] w fun e w' => e = .returned (.bool true) ∧ Below w.heap.size w w' := by
  have HAW := Lib.hid (l08awake_any w hT)
  have HFW := Lib.hid (fun (w1 : World) (hb : Below w.heap.size w w1) => l08Few_any SA SC S.length A C us w1 (hU.up hb) (by omega) fun u hu => ⟨(hUo u hu).1, (hUo u hu).2.1⟩)
  have HS := Lib.hid hS
  have HSO := Lib.hid hSo
  have HU := Lib.hid hU
  have HUO := Lib.hid hUo
  have HSL := Lib.hid hSl
  clear hS hSo hU hUo hT hSl
  go_enter Tryz.func8, Tryz.ntmps8
  go_wp2_with fail
  refine HAW.out.mono ?_
  rintro e w1 ⟨rfl, hb1⟩
  have HB1 := Lib.hid hb1
  clear hb1 HAW
  go_wp2_with fail
  refine (HFW.out w1 HB1.out).mono ?_
  rintro e w2 ⟨rfl, hx2⟩
  have HB2 := Lib.hid (HB1.out.trans (hx2.below.mono HB1.out.size))
  clear hx2
  cases hfew : (decide (S.length ≤ 20) && fewB us) with
  | false =>
    clear hfew
    go_wp2_with fail
    go_ret
    exact ⟨rfl, HB2.out⟩
  | true =>
  rw [Bool.and_eq_true, decide_eq_true_eq, fewB_iff] at hfew
  obtain ⟨hs20, hu60, hfit⟩ := hfew
  have HFIT := Lib.hid hfit
  have HL : Hid (S.length ≤ 20 ∧ us.length ≤ 60) := ⟨hs20, hu60⟩
  have HUO2 : Hid (∀ u ∈ us, UpdOk u) := fun u hu => ⟨(HUO.out u hu).1, by have := (HFIT.out u hu).1; omega, (HUO.out u hu).2.2⟩
  have HN := Lib.hid (ctNew_any (fun b => w.heap.size ≤ b) SA SC S w2 (fun b hb => Nat.le_trans HB2.out.size hb) (HS.out.up HB2.out) HSO.out (by omega))
  clear hfit hs20 hu60 HB1 HFW
  go_wp2_with fail
  refine HN.out.mono ?_
  rintro e w3 ⟨h1, h2, hb3⟩
  have HB3 := Lib.hid (HB2.out.trans (hb3.mono HB2.out.size))
  have HCK := Lib.hid (fun (V : World) (hb : Below w3.heap.size w3 V) => r08Check_any SA SC S V (SchsM.up HS.out (HB3.out.trans (hb.mono HB3.out.size))) HSO.out (by have := HL.out; omega))
  by_cases he : errS S = 0
  rotate_left
  · obtain rfl := h2 he
    have hne : (errS S != 0) = true := by simpa using he
    have hqq : (errS S != errS S) = false := by simp
    obtain ⟨W4, hW4⟩ : ∃ W, W = w3.alloc (.cells #[.map none] 28) := ⟨_, rfl⟩
    obtain ⟨g5, hg5⟩ : ∃ g, g = w3.heap.size := ⟨_, rfl⟩
    have hb4 : Below w3.heap.size w3 W4 := by rw [hW4]; exact ((Ext.refl w3).alloc _).below
    have HR5 : Hid (Row W4 g5 28 [.map none]) := by show Row _ _ _ _; rw [hW4, hg5]; exact Row.new w3 _ _
    have HB4 := Lib.hid (HB3.out.trans (hb4.mono HB3.out.size))
    have HCK4 := Lib.hid (HCK.out W4 hb4)
    have HW4 := Lib.hid hW4
    have HG5 := Lib.hid hg5
    clear h1 h2 hb3 he HN HCK hb4 hW4 hg5
    generalize errS S = ce at *
    go_upto_region 6 with (fail)
    rw [← HW4.out, ← HG5.out]
    clear HW4 HG5
    go_wp2_with fail
    refine HCK4.out.mono ?_
    rintro e w5 ⟨rfl, hx5⟩
    have HB5 := Lib.hid (HB4.out.trans (hx5.below.mono HB4.out.size))
    have c5 : w5.cell? ⟨g5, 0, none⟩ = some (.map none) := (HR5.out.up hx5.below).cell 0
    have z5 := (HR5.out.up hx5.below).lt
    clear hx5 HCK4
    go_wp2_with fail
    refine (ctSchemas_nil w5).mono ?_
    rintro e w6 ⟨⟨A6, C6, rfl⟩, hb6⟩
    have HB6 := Lib.hid (HB5.out.trans (hb6.mono HB5.out.size))
    clear hb6
    go_wp2_with fail
    go_ret
    exact ⟨rfl, HB6.out⟩
  obtain ⟨bm, rfl, hdb⟩ := h1 he
  obtain ⟨bd, rfl⟩ := hdb.form
  have HE : Hid (errS S = 0) := he
  rw [he] at HCK
  obtain ⟨W4, hW4⟩ : ∃ W, W = w3.alloc (.cells #[.map (some bd)] 28) := ⟨_, rfl⟩
  obtain ⟨g5, hg5⟩ : ∃ g, g = w3.heap.size := ⟨_, rfl⟩
  have hb4 : Below w3.heap.size w3 W4 := by rw [hW4]; exact ((Ext.refl w3).alloc _).below
  have HR5 : Hid (Row W4 g5 28 [.map (some bd)]) := by show Row _ _ _ _; rw [hW4, hg5]; exact Row.new w3 _ _
  have HB4 := Lib.hid (HB3.out.trans (hb4.mono HB3.out.size))
  have HCK4 := Lib.hid (HCK.out W4 hb4)
  have HD4 : Hid (DbM (fun b => w.heap.size ≤ b ∧ b < g5) S W4 (.map (some bd)) (fun _ => [])) := (hdb.weak (P' := fun b => w.heap.size ≤ b ∧ b < g5) fun b hb hp => ⟨hp, by rw [hg5]; exact hb⟩).up hb4
  have HG5Z : Hid (w.heap.size ≤ g5) := by show _ ≤ _; rw [hg5]; exact HB3.out.size
  have HW4 := Lib.hid hW4
  have HG5 := Lib.hid hg5
  clear h1 h2 hb3 he HN HCK hb4 hW4 hg5 hdb
  go_upto_region 6 with (fail)
  rw [← HW4.out, ← HG5.out]
  clear HW4 HG5
  go_wp2_with fail
  refine HCK4.out.mono ?_
  rintro e w5 ⟨rfl, hx5⟩
  have HR55 := Lib.hid (HR5.out.up hx5.below)
  have HD5 := Lib.hid (HD4.out.up hx5.below)
  have HB5 := Lib.hid (HB4.out.trans (hx5.below.mono HB4.out.size))
  clear hx5 HCK4 HR5 HD4 HB4
  go_upto_region 11 with (fail)
  obtain ⟨g7, hg7⟩ : ∃ g, g = w5.heap.size := ⟨_, rfl⟩
  obtain ⟨W6, hW6⟩ : ∃ W, W = w5.alloc (.cells #[.slice SA S.length SC, .slice none 0 0] 31) := ⟨_, rfl⟩
  have hb6 : Below w5.heap.size w5 W6 := by rw [hW6]; exact ((Ext.refl w5).alloc _).below
  have HR7 : Hid (Row W6 g7 31 [.slice SA S.length SC, .slice none 0 0]) := by show Row _ _ _ _; rw [hW6, hg7]; exact Row.new w5 _ _
  have HR5 := Lib.hid (HR55.out.up hb6)
  have HGZ : Hid (w.heap.size ≤ g5 ∧ g5 < g7) := ⟨HG5Z.out, by rw [hg7]; exact HR55.out.lt⟩
  have HD6 : Hid (DbM (fun b => w.heap.size ≤ b ∧ b ≠ g5 ∧ b ≠ g7) S W6 (.map (some bd)) (fun _ => [])) := (HD5.out.up hb6).weak fun b hb hp => ⟨hp.1, by omega, by have := HGZ.out; omega⟩
  have HB6 := Lib.hid (HB5.out.trans (hb6.mono HB5.out.size))
  rw [← hW6, ← hg7]
  clear hW6 hg7 hb6 HR55 HD5 HB5
  go_wp2_with fail
  go_loopw [8] (fun iv wx => ∃ (k md l : Nat) (FA : Option Addr) (FC : Nat) (cs : List Value), k ≤ us.length ∧ iv = .int .i64 k ∧ Row wx g5 28 [.map (some md)] ∧ Row wx g7 31 [.slice SA S.length SC, .slice FA l FC] ∧ l = (madeF S (us.take k)).2.length ∧ DbM (fun b => w.heap.size ≤ b ∧ b ≠ g5 ∧ b ≠ g7) S wx (.map (some md)) (madeF S (us.take k)).1 ∧ FctCs w.heap.size w (madeF S (us.take k)).2 cs ∧ wx.ownsRow w.heap.size 85 2 (.slice FA l FC) l cs ∧ Below w.heap.size w wx) (fun iv _ => us.length - (intOf iv).toNat)
  case atStart => exact ⟨0, bd, 0, none, 0, [], Nat.zero_le _, rfl, HR5.out, HR7.out, rfl, HD6.out, FctCs.nil, own_nil _ _ _ _, HB6.out⟩
  case round =>
    obtain ⟨k, md, l, FA, FC, cs, hk, rfl, hr5, hr7, hl, hdb, hcs, hown, hbr⟩ := hrel
    clear HR5 HR7 HD6
    have HR5 := Lib.hid hr5
    have HR7 := Lib.hid hr7
    have HDB := Lib.hid hdb
    have HCS := Lib.hid hcs
    have HOWN := Lib.hid hown
    have HBR := Lib.hid hbr
    have hmr := made_rel S (us.take k) (by have := HL.out; rw [List.length_take]; omega)
    have HNMS := Lib.hid (made_names S (us.take k))
    have HFRW := Lib.hid (made_rows S 20 (us.take k) fun u hu => (HFIT.out u (List.mem_of_mem_take hu)).1)
    have HM1 : Hid (∀ h : k < us.length, madeF S (us.take (k + 1)) = if checkF S us[k].rel us[k].row = 0 then ((applyF S (madeF S (us.take k)).1 0 [us[k]]).2.1, (refU (madeF S (us.take k)).2 us[k]).1) else madeF S (us.take k)) := fun h => made_one h (by have := HL.out; omega)
    obtain ⟨F, hF⟩ : ∃ F, F = (madeF S (us.take k)).1 := ⟨_, rfl⟩
    obtain ⟨Fs, hFs⟩ : ∃ F, F = (madeF S (us.take k)).2 := ⟨_, rfl⟩
    have HFF : Hid ((madeF S (us.take k)).1 = F ∧ (madeF S (us.take k)).2 = Fs) := ⟨hF.symm, hFs.symm⟩
    rw [← hF, ← hFs] at hmr HM1
    rw [← hFs] at hl HCS HNMS HFRW
    rw [← hF] at HDB
    have HL1 : Hid (l = Fs.length) := hl
    have HREL : Hid (RelF F Fs) := hmr.1
    have HFL : Hid (Fs.length ≤ 60) := by
      show _ ≤ _
      have h := hmr.2
      rw [List.length_take] at h
      have := HL.out
      omega
    have HSAM : Hid (∀ V, Below wr.heap.size wr V → Calls Tryz.prog 34 #[.agg #[.map (some md)], .agg #[.slice SA S.length SC, .slice FA l FC]] V fun e V' => e = .returned (.bool true) ∧ Below V.heap.size V V') := fun V hb => by
      have hbw := HBR.out.trans (hb.mono HBR.out.size)
      have hfm : FactsM V.heap.size V FA Fs := by
        obtain ⟨A', C', e', _, h3⟩ := Sl.of_own_n (own_keep HOWN.out hb)
        injection e' with e1 e2 e3
        subst e1
        exact FactsM.of_cs (HCS.out.up hbw) h3
      have h := l08Same_any S F Fs SA SC FA FC V (HDB.out.up hb) (HS.out.up hbw) HE.out hfm HREL.out HNMS.out (by have := HFL.out; omega) (fun f hf => by have := HFRW.out f hf; omega)
      rw [← HL1.out] at h
      exact h
    clear hr5 hr7 hl hdb hcs hown hbr hmr hF hFs
    by_cases hkl : k < us.length
    rotate_left
    · obtain rfl : k = us.length := by omega
      have hdl : decide ((us.length : Int) < (us.length : Int)) = false := decide_eq_false (by omega)
      have c5 : wr.cell? ⟨g5, 0, none⟩ = some (.map (some md)) := HR5.out.cell 0
      have z5 := HR5.out.lt
      have c70 : wr.cell? ⟨g7, 0, none⟩ = some (.slice SA S.length SC) := HR7.out.cell 0
      have c71 : wr.cell? ⟨g7, 1, none⟩ = some (.slice FA l FC) := HR7.out.cell 1
      have z7 := HR7.out.lt
      have HSE := Lib.hid (HSAM.out wr (Below.refl _ _))
      clear hkl
      go_wp2_with fail
      refine HSE.out.mono ?_
      rintro e w9 ⟨rfl, hb9⟩
      have HB9 := Lib.hid (HBR.out.trans (hb9.mono HBR.out.size))
      clear hb9
      go_wp2_with fail
      go_ret
      exact ⟨rfl, HB9.out⟩
    have HUM := Lib.hid (fun (V : World) (hb : Below w.heap.size w V) => (HU.out.up hb).tail hUl k)
    obtain ⟨ub, uo, rfl, hubw, huc⟩ := HU.out (by intro h0; rw [h0] at hkl; simp at hkl)
    have hst := slTailU (some ⟨ub, uo, none⟩) us.length C k (by omega)
    have hdlen : (us.drop k).length = us.length - k := List.length_drop
    have HUOD : Hid (∀ u ∈ us.drop k, UpdOk u) := fun u hu => HUO2.out u (List.mem_of_mem_drop hu)
    have HDR : Hid (∀ u ∈ us.drop k, u.row.length ≤ 20) := fun u hu => (HFIT.out u (List.mem_of_mem_drop hu)).1
    obtain ⟨r2, hr2⟩ : ∃ r, r = applyF S F 0 (us.drop k) := ⟨_, rfl⟩
    obtain ⟨r3, hr3⟩ : ∃ r, r = refA S Fs 0 (us.drop k) := ⟨_, rfl⟩
    have hrel := apply_rel (S := S) (us.drop k) F Fs 0 HREL.out (by rw [hdlen]; have := HFL.out; have := HL.out; omega)
    rw [← hr2, ← hr3] at hrel
    have HR23 : Hid (r3.1 = r2.1) := hrel.1.symm
    have HRZ : Hid (r2.1 = 0 → RelF r2.2.1 r3.2.1 ∧ r2.2.2 = r3.2.2 ∧ r3.2.1.length ≤ 200) := fun h => by
      obtain ⟨a, b, c⟩ := hrel.2 (hrel.1.symm.trans h)
      exact ⟨a, b, by rw [hdlen] at c; have := HFL.out; have := HL.out; omega⟩
    have HN3 : Hid (FNames S r3.2.1 ∧ (∀ f ∈ r3.2.1, f.2.length ≤ 20) ∧ r3.2.2 ≤ 60) := by
      rw [hr3]
      exact ⟨refA_names _ _ _ HNMS.out, refA_rows 20 _ _ _ HFRW.out HDR.out, by have h := refA_count (S := S) (us.drop k) Fs 0; rw [hdlen] at h; have := HL.out; omega⟩
    have HAP14 : Hid (∀ V, Below wr.heap.size wr V → ∀ (P : Nat → Prop), (∀ b, b < wr.heap.size → P b) → (∀ b, V.heap.size ≤ b → P b) → Calls Tryz.prog 19 #[.agg #[.map (some md)], .slice (tailU (some ⟨ub, uo, none⟩) k C) (us.length - k) (C - k)] V fun e w' => ∃ (mx : Option Nat) (c : Nat), e = .returned (.tuple #[.agg #[.map mx], .int .i64 (c : Nat), .int .i64 r2.1]) ∧ (r2.1 = 0 → c = r2.2.2 ∧ DbM P S w' (.map mx) r2.2.1) ∧ (r2.1 ≠ 0 → c = 0 ∧ mx = none) ∧ Below V.heap.size V w') := fun V hb P h1 h2 => by
      have hbw := HBR.out.trans (hb.mono HBR.out.size)
      have h := ctApply_any P S (.map (some md)) F (tailU (some ⟨ub, uo, none⟩) k C) (C - k) (us.drop k) V ((HDB.out.weak fun b hb _ => h1 b hb).up hb) h2 (HUM.out V hbw) HUOD.out (by rw [hdlen]; have := HL.out; omega) (by have := HL.out; omega)
      rw [hdlen, ← hr2] at h
      exact h.mono fun e w' h => h.shape
    have HRA15 : Hid (∀ V, Below wr.heap.size wr V → Calls Tryz.prog 33 #[.agg #[.slice SA S.length SC, .slice FA l FC], .slice (tailU (some ⟨ub, uo, none⟩) k C) (us.length - k) (C - k)] V fun e V' => ∃ (A8 : Option Addr) (l8 C8 n8 : Nat), e = .returned (.tuple #[.agg #[.slice SA S.length SC, .slice A8 l8 C8], .int .i64 (n8 : Nat), .int .i64 r3.1]) ∧ (r3.1 = 0 → l8 = r3.2.1.length ∧ n8 = r3.2.2 ∧ ∃ cs', FctCs w.heap.size w r3.2.1 cs' ∧ V'.ownsRow w.heap.size 85 2 (.slice A8 l8 C8) l8 cs') ∧ (r3.1 ≠ 0 → n8 = 0) ∧ Below V.heap.size V V') := fun V hb => by
      have hbw := HBR.out.trans (hb.mono HBR.out.size)
      have hsl : Sl V.heap.size V FA cs := by
        obtain ⟨A', C', e', _, h3⟩ := Sl.of_own_n (own_keep HOWN.out hb)
        injection e' with e1 e2 e3
        subst e1
        exact h3
      have hum : UpdsM w.heap.size V (tailU (some ⟨ub, uo, none⟩) k C) (us.drop k) := (HU.out.below hbw (Nat.le_refl _)).tail hUl k
      have h := r08Apply_any w.heap.size cs SA SC S FA FC Fs (tailU (some ⟨ub, uo, none⟩) k C) (C - k) (us.drop k) V (HS.out.up hbw) (by have := HL.out; omega) hbw.size (HCS.out.lift hbw (Nat.le_refl _)) hsl (by have := HFL.out; omega) (fun f hf => by have := HFRW.out f hf; omega) hum (by rw [hdlen]; have := HL.out; omega) (fun u hu => (HUOD.out u hu).2)
      rw [hdlen, ← HL1.out] at h
      refine h.mono ?_
      rintro e V' ⟨q1, q2, q3⟩
      rw [← hr3] at q1 q2
      by_cases h0 : r3.1 = 0
      · obtain ⟨A1, C1, cs1, he, hc, ho⟩ := q2 h0
        exact ⟨A1, _, C1, _, by rw [h0]; exact he, fun _ => ⟨rfl, rfl, cs1, hc.back hbw, own_weaken ho hbw.size⟩, fun h => absurd h0 h, q3⟩
      · exact ⟨FA, l, FC, 0, by have h4 := q1 h0; rw [← HL1.out] at h4; exact h4, fun h => absurd h h0, fun _ => rfl, q3⟩
    obtain ⟨RA, RC, u0, u1, u2, hrw0⟩ := huc k hkl
    have HUK := Lib.hid (HUO2.out _ (List.getElem_mem hkl))
    have HM2 := Lib.hid (HM1.out hkl)
    have HU20 : Hid (us[k].row.length ≤ 20) := (HFIT.out _ (List.getElem_mem hkl)).1
    generalize us[k] = u at u0 u1 u2 hrw0 HUK HM2 HU20
    obtain ⟨dl, nm, x⟩ := u
    have HUU : Hid (UpdsM w.heap.size w (some ⟨ub, uo + k * 3, none⟩) [⟨dl, nm, x⟩]) := by
      show UpdsM _ _ _ _
      intro _
      refine ⟨ub, uo + k * 3, rfl, hubw, fun i hi => ?_⟩
      obtain rfl : i = 0 := by simpa using hi
      exact ⟨RA, RC, u0, u1, u2, hrw0⟩
    have u0 : w.cell? ⟨ub, uo + k * 3, none⟩ = some (.bool dl) := u0
    have u1 : w.cell? ⟨ub, uo + k * 3 + 1, none⟩ = some (.string nm) := u1
    have u2 : w.cell? ⟨ub, uo + k * 3 + 2, none⟩ = some (.slice RA x.length RC) := u2
    have HKU : Hid (∀ V, Below w.heap.size w V → V.cell? ⟨ub, uo + k * 3, none⟩ = some (.bool dl) ∧ V.cell? ⟨ub, uo + k * 3 + 1, none⟩ = some (.string nm) ∧ V.cell? ⟨ub, uo + k * 3 + 2, none⟩ = some (.slice RA x.length RC)) := fun V hb => ⟨cell_below hb u0, cell_below hb u1, cell_below hb u2⟩
    have HUK : Hid (UpdOk ⟨dl, nm, x⟩) := HUK.out
    have HRX : Hid (∀ V, Below w.heap.size w V → SlR V.heap.size V RA x) := fun V hb => Sl.more (Sl.below hrw0 hb (Nat.le_refl _)) hb.size
    obtain ⟨ck, hck⟩ : ∃ c, c = checkF S nm x := ⟨_, rfl⟩
    obtain ⟨r1, hr1⟩ : ∃ r, r = applyF S F 0 [⟨dl, nm, x⟩] := ⟨_, rfl⟩
    have HR11 : Hid (r1.1 = ck) := by show _ = _; rw [hr1, hck]; exact apply_one HREL.out (by have := HFL.out; omega) ⟨dl, nm, x⟩
    have HMS : Hid (madeF S (us.take (k + 1)) = if ck = 0 then (r1.2.1, (refU Fs ⟨dl, nm, x⟩).1) else madeF S (us.take k)) := by show _ = _; rw [hck, hr1]; exact HM2.out
    have HCKX := Lib.hid hck
    have HR1E := Lib.hid hr1
    have HS14 : Hid (∀ V, Below wr.heap.size wr V → V.cell? ⟨g5, 0, none⟩ = some (.map (some md))) := fun V hb => cell_below hb (HR5.out.cell 0)
    have HZW : Hid (w.heap.size ≤ wr.heap.size ∧ g5 < wr.heap.size ∧ g7 < wr.heap.size) := ⟨HBR.out.size, HR5.out.lt, HR7.out.lt⟩
    have z5 := HR5.out.lt
    have g1 : (0 : Int) ≤ (k : Int) := by omega
    have g2 : (k : Int) < (us.length : Int) := by omega
    have HKL := Lib.hid hkl
    have HUBW := Lib.hid hubw
    clear hrel hr2 hr3 huc u0 u1 u2 hrw0 hck hr1 hubw HM1 HM2 hdlen hkl
    go_upto_region 14 with (fail)
    go_cut [9, 10, 11] from 47 to 56 (fun q1 q2 q3 wx => ∃ (g : Nat) (mx : Option Nat) (c : Nat), q1 = .pointer (some ⟨g, 0, none⟩) ∧ q2 = .int .i64 (c : Nat) ∧ q3 = .int .i64 r2.1 ∧ wr.heap.size ≤ g ∧ Row wx g 28 [.map mx] ∧ (r2.1 = 0 → c = r2.2.2 ∧ DbM (fun _ => True) S wx (.map mx) r2.2.1) ∧ (r2.1 ≠ 0 → c = 0 ∧ mx = none) ∧ Below wr.heap.size wr wx)
    case first =>
      refine wp_region_held_drew (S := (fun V => V.cell? ⟨g5, 0, none⟩ = some (.map (some md)))) (by kernel_rfl) (HS14.out wr.drew (Below.refl _ _).drew) (fun hHeld => ?_)
      obtain ⟨V0, hV0⟩ : ∃ V, V = wr.drew := ⟨_, rfl⟩
      have HV : Hid (Below wr.heap.size wr V0) := by show Below _ _ _; rw [hV0]; exact (Below.refl _ _).drew
      rw [← hV0] at hHeld ⊢
      clear hV0
      refine takeOp (i := 0) (v := ?_) (some 48) rfl rfl (by kernel_rfl) (by kernel_rfl) (by kernel_rfl) (fun _ _ _ h => h) (Or.inl ⟨by rfl, ?_⟩) (by assumption) ?_
      rotate_left 1
      · (intro w0 hSw; (try dsimp only at hSw); go_simp; try (with_reducible rfl))
      try simp only [Act.put, List.setIfInBounds_toArray, List.set_cons_succ, List.set_cons_zero]
      refine takeOp (i := 1) (v := ?_) (some 49) rfl rfl (by kernel_rfl) (by kernel_rfl) (by kernel_rfl) (fun _ _ _ h => h) (Or.inl ⟨by rfl, ?_⟩) (by assumption) ?_
      rotate_left 1
      · (intro w0 hSw; (try dsimp only at hSw); go_simp; try (with_reducible rfl))
      try simp only [Act.put, List.setIfInBounds_toArray, List.set_cons_succ, List.set_cons_zero]
      refine takeOp (i := 2) (v := ?_) (some 50) rfl rfl (by kernel_rfl) (by kernel_rfl) (by kernel_rfl) (fun _ _ _ h => h) (Or.inl ⟨by rfl, ?_⟩) (by assumption) ?_
      rotate_left 1
      · (intro w0 hSw; (try dsimp only at hSw); go_simp; try (with_reducible rfl))
      try simp only [Act.put, List.setIfInBounds_toArray, List.set_cons_succ, List.set_cons_zero]
      refine takeOp (i := 3) (v := ?_) (some 51) rfl rfl (by kernel_rfl) (by kernel_rfl) (by kernel_rfl) (fun _ _ _ h => h) (Or.inl ⟨by rfl, ?_⟩) (by assumption) ?_
      rotate_left 1
      · (intro w0 hSw; (try dsimp only at hSw); go_simp; try (with_reducible rfl))
      try simp only [Act.put, List.setIfInBounds_toArray, List.set_cons_succ, List.set_cons_zero]
      refine wpAnyH_ready (rs := [4, 9]) (by kernel_rfl) (by simp) ?_
      refine (AllReadyH.cons rfl (fun K hK => ?_) (AllReadyH.cons rfl (fun K hK => ?_) AllReadyH.nil))
      · go_simp
        go_simp
        refine (HAP14.out V0 HV.out (fun _ => True) (fun _ _ => trivial) (fun _ _ => trivial)).mono ?_
        rintro e V1 ⟨mx, c, rfl, hok, hbad, hb⟩
        have HOKX := Lib.hid hok
        have HBADX := Lib.hid hbad
        clear hok hbad
        go_simp
        have HWIN : Hid (WinP V0.heap.size V1 V1) := WinP.refl _ _
        have HV := Lib.hid (Below.then HV.out hb HV.out.size)
        clear hb
        go_wp2_with fail
        refine hK.out _ _ (HS14.out V1 HV.out) (fun hHeld => ?_)
        clear hK K
        try simp only [Act.put, List.setIfInBounds_toArray, List.set_cons_succ, List.set_cons_zero]
        refine takeOp (i := 5) (v := ?_) (some 47) rfl rfl (by kernel_rfl) (by kernel_rfl) (by kernel_rfl) (fun _ _ _ h => h) (Or.inl ⟨by rfl, ?_⟩) (by assumption) ?_
        rotate_left 1
        · (intro w0 hSw; (try dsimp only at hSw); go_simp; try (with_reducible rfl))
        try simp only [Act.put, List.setIfInBounds_toArray, List.set_cons_succ, List.set_cons_zero]
        refine takeOp (i := 6) (v := ?_) (some 53) rfl rfl (by kernel_rfl) (by kernel_rfl) (by kernel_rfl) (fun _ _ _ h => h) (Or.inl ⟨by rfl, ?_⟩) (by assumption) ?_
        rotate_left 1
        · (intro w0 hSw; (try dsimp only at hSw); go_simp; try (with_reducible rfl))
        try simp only [Act.put, List.setIfInBounds_toArray, List.set_cons_succ, List.set_cons_zero]
        refine takeOp (i := 7) (v := ?_) (some 54) rfl rfl (by kernel_rfl) (by kernel_rfl) (by kernel_rfl) (fun _ _ _ h => h) (Or.inl ⟨by rfl, ?_⟩) (by assumption) ?_
        rotate_left 1
        · (intro w0 hSw; (try dsimp only at hSw); go_simp; try (with_reducible rfl))
        try simp only [Act.put, List.setIfInBounds_toArray, List.set_cons_succ, List.set_cons_zero]
        refine takeOp (i := 8) (v := ?_) (some 55) rfl rfl (by kernel_rfl) (by kernel_rfl) (by kernel_rfl) (fun _ _ _ h => h) (Or.inl ⟨by rfl, ?_⟩) (by assumption) ?_
        rotate_left 1
        · (intro w0 hSw; (try dsimp only at hSw); go_simp; try (with_reducible rfl))
        try simp only [Act.put, List.setIfInBounds_toArray, List.set_cons_succ, List.set_cons_zero]
        refine wpAnyH_ready (rs := [9]) (by kernel_rfl) (by simp) ?_
        refine (AllReadyH.cons rfl (fun K hK => ?_) AllReadyH.nil)
        go_simp
        obtain ⟨V2, hV⟩ : ∃ V', V' = V1.alloc (.cells #[.map none] 28) := ⟨_, rfl⟩
        rw [← hV]
        have hb : Below V1.heap.size V1 V2 := by rw [hV]; exact ((Ext.refl V1).alloc _).below
        obtain ⟨gb, hgb⟩ : ∃ gb, gb = V1.heap.size := ⟨_, rfl⟩
        have HG : Hid (Row V2 gb 28 [.map none]) := by show Row _ _ _ _; rw [hV, hgb]; exact Row.new V1 _ _
        have HGZ : Hid (wr.heap.size ≤ gb) := by show _ ≤ _; rw [hgb]; exact HV.out.size
        have HGW0 : Hid (gb < V2.heap.size) := HG.out.lt
        have HWIN : Hid (WinP V0.heap.size V1 V2) := HWIN.out.up hb
        have HOUT : Hid (V1.heap.size ≤ gb) := by show _ ≤ _; rw [hgb]; exact Nat.le_refl _
        have HOKX : Hid (r2.1 = 0 → c = r2.2.2 ∧ DbM (fun b => b ≠ gb) S V2 (.map mx) r2.2.1) := fun h => ⟨(HOKX.out h).1, ((HOKX.out h).2.weak fun b hq _ => by show b ≠ gb; omega).up hb⟩
        have HV := Lib.hid (Below.then HV.out hb HV.out.size)
        rw [← hgb]
        clear hb hV hgb
        refine hK.out _ _ (HS14.out V2 HV.out) (fun hHeld => ?_)
        clear hK K
        try simp only [Act.put, List.setIfInBounds_toArray, List.set_cons_succ, List.set_cons_zero]
        refine wpAnyH_ready (rs := [10]) (by kernel_rfl) (by simp) ?_
        refine (AllReadyH.cons rfl (fun K hK => ?_) AllReadyH.nil)
        have m0 := HG.out.frozen 0
        have n0 : V2.cell? ⟨gb, 0, none⟩ = some (.map none) := HG.out.cell 0
        have m9 := HG.out.lt
        go_simp
        go_wp2_with fail
        have HGO := HG
        obtain ⟨V3, hV⟩ : ∃ V', V' = (V2.setCell ⟨gb, 0, none⟩ (.map mx)) := ⟨_, rfl⟩
        rw [← hV]
        have HG : Hid (Row V3 gb 28 [.map mx]) := by show Row _ _ _ _; rw [hV]; exact (HG.out.set 0 _)
        have HWIN : Hid (WinP V0.heap.size V1 V3) := by show WinP _ _ _; rw [hV]; exact (HWIN.out.set (Or.inr HOUT.out) 0 _)
        have HOKX : Hid (r2.1 = 0 → c = r2.2.2 ∧ DbM (fun b => b ≠ gb) S V3 (.map mx) r2.2.1) := fun h => ⟨(HOKX.out h).1, by rw [hV]; exact (HOKX.out h).2.keep (Stay.set (fun h => h rfl) 0 _)⟩
        have HV : Hid (Below wr.heap.size wr V3) := by show Below _ _ _; rw [hV]; exact (HV.out.setCell (by show wr.heap.size ≤ gb; exact HGZ.out) _)
        clear hV m9 HGO m0 n0
        refine hK.out _ _ (HS14.out V3 HV.out) (fun hHeld => ?_)
        clear hK K
        try simp only [Act.put, List.setIfInBounds_toArray, List.set_cons_succ, List.set_cons_zero]
        refine takeOp (i := 11) (v := ?_) (some 10) rfl rfl (by kernel_rfl) (by kernel_rfl) (by kernel_rfl) (fun _ _ _ h => h) (Or.inl ⟨by rfl, ?_⟩) (by assumption) ?_
        rotate_left 1
        · (intro w0 hSw; (try dsimp only at hSw); go_simp; try (with_reducible rfl))
        try simp only [Act.put, List.setIfInBounds_toArray, List.set_cons_succ, List.set_cons_zero]
        refine takeOp (i := 12) (v := ?_) (some 11) rfl rfl (by kernel_rfl) (by kernel_rfl) (by kernel_rfl) (fun _ _ _ h => h) (Or.inl ⟨by rfl, ?_⟩) (by assumption) ?_
        rotate_left 1
        · (intro w0 hSw; (try dsimp only at hSw); go_simp; try (with_reducible rfl))
        try simp only [Act.put, List.setIfInBounds_toArray, List.set_cons_succ, List.set_cons_zero]
        refine wpAnyH_done (by kernel_rfl) ?_ _
        go_wp2_with fail
        go_meet
        case rel => exact ⟨gb, mx, c, rfl, rfl, rfl, HGZ.out, HG.out, fun h => ⟨(HOKX.out h).1, (HOKX.out h).2.weak fun _ _ _ => trivial⟩, HBADX.out, HV.out⟩
      · go_simp
        obtain ⟨V1, hV⟩ : ∃ V', V' = V0.alloc (.cells #[.map none] 28) := ⟨_, rfl⟩
        rw [← hV]
        have hb : Below V0.heap.size V0 V1 := by rw [hV]; exact ((Ext.refl V0).alloc _).below
        obtain ⟨gb, hgb⟩ : ∃ gb, gb = V0.heap.size := ⟨_, rfl⟩
        have HG : Hid (Row V1 gb 28 [.map none]) := by show Row _ _ _ _; rw [hV, hgb]; exact Row.new V0 _ _
        have HGZ : Hid (wr.heap.size ≤ gb) := by show _ ≤ _; rw [hgb]; exact HV.out.size
        have HGW0 : Hid (gb < V1.heap.size) := HG.out.lt
        have HV := Lib.hid (Below.then HV.out hb HV.out.size)
        rw [← hgb]
        clear hb hV hgb
        refine hK.out _ _ (HS14.out V1 HV.out) (fun hHeld => ?_)
        clear hK K
        try simp only [Act.put, List.setIfInBounds_toArray, List.set_cons_succ, List.set_cons_zero]
        refine wpAnyH_ready (rs := [4]) (by kernel_rfl) (by simp) ?_
        refine (AllReadyH.cons rfl (fun K hK => ?_) AllReadyH.nil)
        go_simp
        go_simp
        refine (HAP14.out V1 HV.out (fun b => b ≠ gb) (fun b hb => by have := HGZ.out; show b ≠ gb; omega) (fun b hb => by have := HGW0.out; show b ≠ gb; omega)).mono ?_
        rintro e V2 ⟨mx, c, rfl, hok, hbad, hb⟩
        have HOKX := Lib.hid hok
        have HBADX := Lib.hid hbad
        clear hok hbad
        go_simp
        have HG := Lib.hid (HG.out.up hb)
        have HGW : Hid (gb < V1.heap.size) := by show gb < _; have := HGW0.out; omega
        have HWIN : Hid (WinP V1.heap.size V2 V2) := WinP.refl _ _
        have HV := Lib.hid (Below.then HV.out hb HV.out.size)
        clear hb
        go_wp2_with fail
        refine hK.out _ _ (HS14.out V2 HV.out) (fun hHeld => ?_)
        clear hK K
        try simp only [Act.put, List.setIfInBounds_toArray, List.set_cons_succ, List.set_cons_zero]
        refine takeOp (i := 5) (v := ?_) (some 47) rfl rfl (by kernel_rfl) (by kernel_rfl) (by kernel_rfl) (fun _ _ _ h => h) (Or.inl ⟨by rfl, ?_⟩) (by assumption) ?_
        rotate_left 1
        · (intro w0 hSw; (try dsimp only at hSw); go_simp; try (with_reducible rfl))
        try simp only [Act.put, List.setIfInBounds_toArray, List.set_cons_succ, List.set_cons_zero]
        refine takeOp (i := 6) (v := ?_) (some 53) rfl rfl (by kernel_rfl) (by kernel_rfl) (by kernel_rfl) (fun _ _ _ h => h) (Or.inl ⟨by rfl, ?_⟩) (by assumption) ?_
        rotate_left 1
        · (intro w0 hSw; (try dsimp only at hSw); go_simp; try (with_reducible rfl))
        try simp only [Act.put, List.setIfInBounds_toArray, List.set_cons_succ, List.set_cons_zero]
        refine takeOp (i := 7) (v := ?_) (some 54) rfl rfl (by kernel_rfl) (by kernel_rfl) (by kernel_rfl) (fun _ _ _ h => h) (Or.inl ⟨by rfl, ?_⟩) (by assumption) ?_
        rotate_left 1
        · (intro w0 hSw; (try dsimp only at hSw); go_simp; try (with_reducible rfl))
        try simp only [Act.put, List.setIfInBounds_toArray, List.set_cons_succ, List.set_cons_zero]
        refine takeOp (i := 8) (v := ?_) (some 55) rfl rfl (by kernel_rfl) (by kernel_rfl) (by kernel_rfl) (fun _ _ _ h => h) (Or.inl ⟨by rfl, ?_⟩) (by assumption) ?_
        rotate_left 1
        · (intro w0 hSw; (try dsimp only at hSw); go_simp; try (with_reducible rfl))
        try simp only [Act.put, List.setIfInBounds_toArray, List.set_cons_succ, List.set_cons_zero]
        refine wpAnyH_ready (rs := [10]) (by kernel_rfl) (by simp) ?_
        refine (AllReadyH.cons rfl (fun K hK => ?_) AllReadyH.nil)
        have m0 := HG.out.frozen 0
        have n0 : V2.cell? ⟨gb, 0, none⟩ = some (.map none) := HG.out.cell 0
        have m9 := HG.out.lt
        go_simp
        go_wp2_with fail
        have HGO := HG
        obtain ⟨V3, hV⟩ : ∃ V', V' = (V2.setCell ⟨gb, 0, none⟩ (.map mx)) := ⟨_, rfl⟩
        rw [← hV]
        have HG : Hid (Row V3 gb 28 [.map mx]) := by show Row _ _ _ _; rw [hV]; exact (HG.out.set 0 _)
        have HWIN : Hid (WinP V1.heap.size V2 V3) := by show WinP _ _ _; rw [hV]; exact (HWIN.out.set (Or.inl HGW.out) 0 _)
        have HOKX : Hid (r2.1 = 0 → c = r2.2.2 ∧ DbM (fun b => b ≠ gb) S V3 (.map mx) r2.2.1) := fun h => ⟨(HOKX.out h).1, by rw [hV]; exact (HOKX.out h).2.keep (Stay.set (fun h => h rfl) 0 _)⟩
        have HV : Hid (Below wr.heap.size wr V3) := by show Below _ _ _; rw [hV]; exact (HV.out.setCell (by show wr.heap.size ≤ gb; exact HGZ.out) _)
        clear hV m9 HGO m0 n0
        refine hK.out _ _ (HS14.out V3 HV.out) (fun hHeld => ?_)
        clear hK K
        try simp only [Act.put, List.setIfInBounds_toArray, List.set_cons_succ, List.set_cons_zero]
        refine takeOp (i := 11) (v := ?_) (some 10) rfl rfl (by kernel_rfl) (by kernel_rfl) (by kernel_rfl) (fun _ _ _ h => h) (Or.inl ⟨by rfl, ?_⟩) (by assumption) ?_
        rotate_left 1
        · (intro w0 hSw; (try dsimp only at hSw); go_simp; try (with_reducible rfl))
        try simp only [Act.put, List.setIfInBounds_toArray, List.set_cons_succ, List.set_cons_zero]
        refine takeOp (i := 12) (v := ?_) (some 11) rfl rfl (by kernel_rfl) (by kernel_rfl) (by kernel_rfl) (fun _ _ _ h => h) (Or.inl ⟨by rfl, ?_⟩) (by assumption) ?_
        rotate_left 1
        · (intro w0 hSw; (try dsimp only at hSw); go_simp; try (with_reducible rfl))
        try simp only [Act.put, List.setIfInBounds_toArray, List.set_cons_succ, List.set_cons_zero]
        refine wpAnyH_done (by kernel_rfl) ?_ _
        go_wp2_with fail
        go_meet
        case rel => exact ⟨gb, mx, c, rfl, rfl, rfl, HGZ.out, HG.out, fun h => ⟨(HOKX.out h).1, (HOKX.out h).2.weak fun _ _ _ => trivial⟩, HBADX.out, HV.out⟩
    case rest =>
    obtain ⟨g9, m9, c9, rfl, rfl, rfl, hg9, hr9, hok9, hbad9, hb4⟩ := hcut
    generalize wc = w4 at *
    have HR9 := Lib.hid hr9
    have HOK9 := Lib.hid hok9
    have HBAD9 := Lib.hid hbad9
    have HB4 := Lib.hid hb4
    have HS15 : Hid (∀ V, Below w4.heap.size w4 V → V.cell? ⟨g7, 0, none⟩ = some (.slice SA S.length SC) ∧ V.cell? ⟨g7, 1, none⟩ = some (.slice FA l FC)) := fun V hb => by
      have h := HB4.out.trans (hb.mono HB4.out.size)
      exact ⟨cell_below h (HR7.out.cell 0), cell_below h (HR7.out.cell 1)⟩
    have HRA4 : Hid (∀ V, Below w4.heap.size w4 V → Calls Tryz.prog 33 #[.agg #[.slice SA S.length SC, .slice FA l FC], .slice (tailU (some ⟨ub, uo, none⟩) k C) (us.length - k) (C - k)] V fun e V' => ∃ (A8 : Option Addr) (l8 C8 n8 : Nat), e = .returned (.tuple #[.agg #[.slice SA S.length SC, .slice A8 l8 C8], .int .i64 (n8 : Nat), .int .i64 r3.1]) ∧ (r3.1 = 0 → l8 = r3.2.1.length ∧ n8 = r3.2.2 ∧ ∃ cs', FctCs w.heap.size w r3.2.1 cs' ∧ V'.ownsRow w.heap.size 85 2 (.slice A8 l8 C8) l8 cs') ∧ (r3.1 ≠ 0 → n8 = 0) ∧ Below V.heap.size V V') := fun V hb => HRA15.out V (HB4.out.trans (hb.mono HB4.out.size))
    have z7 : g7 < w4.heap.size := Nat.lt_of_lt_of_le HZW.out.2.2 hb4.size
    clear hr9 hok9 hbad9 hb4 hg9 HAP14 HRA15 HS14 z5
    go_upto_region 15 with (fail)
    go_cut [12, 13, 14] from 56 to 65 (fun q1 q2 q3 wx => ∃ (g : Nat) (A8 : Option Addr) (l8 C8 n8 : Nat), q1 = .pointer (some ⟨g, 0, none⟩) ∧ q2 = .int .i64 (n8 : Nat) ∧ q3 = .int .i64 r3.1 ∧ w4.heap.size ≤ g ∧ Row wx g 31 [.slice SA S.length SC, .slice A8 l8 C8] ∧ (r3.1 = 0 → l8 = r3.2.1.length ∧ n8 = r3.2.2 ∧ ∃ cs', FctCs w.heap.size w r3.2.1 cs' ∧ wx.ownsRow w.heap.size 85 2 (.slice A8 l8 C8) l8 cs') ∧ (r3.1 ≠ 0 → n8 = 0) ∧ Below w4.heap.size w4 wx)
    case first =>
      refine wp_region_held_drew (S := (fun V => V.cell? ⟨g7, 0, none⟩ = some (.slice SA S.length SC) ∧ V.cell? ⟨g7, 1, none⟩ = some (.slice FA l FC))) (by kernel_rfl) (HS15.out w4.drew (Below.refl _ _).drew) (fun hHeld => ?_)
      obtain ⟨V0, hV0⟩ : ∃ V, V = w4.drew := ⟨_, rfl⟩
      have HV : Hid (Below w4.heap.size w4 V0) := by show Below _ _ _; rw [hV0]; exact (Below.refl _ _).drew
      rw [← hV0] at hHeld ⊢
      clear hV0
      refine takeOp (i := 0) (v := ?_) (some 57) rfl rfl (by kernel_rfl) (by kernel_rfl) (by kernel_rfl) (fun _ _ _ h => h) (Or.inl ⟨by rfl, ?_⟩) (by assumption) ?_
      rotate_left 1
      · (intro w0 hSw; (try dsimp only at hSw); go_simp; try (with_reducible rfl))
      try simp only [Act.put, List.setIfInBounds_toArray, List.set_cons_succ, List.set_cons_zero]
      refine takeOp (i := 1) (v := ?_) (some 58) rfl rfl (by kernel_rfl) (by kernel_rfl) (by kernel_rfl) (fun _ _ _ h => h) (Or.inl ⟨by rfl, ?_⟩) (by assumption) ?_
      rotate_left 1
      · (intro w0 hSw; (try dsimp only at hSw); go_simp; try (with_reducible rfl))
      try simp only [Act.put, List.setIfInBounds_toArray, List.set_cons_succ, List.set_cons_zero]
      refine takeOp (i := 2) (v := ?_) (some 59) rfl rfl (by kernel_rfl) (by kernel_rfl) (by kernel_rfl) (fun _ _ _ h => h) (Or.inl ⟨by rfl, ?_⟩) (by assumption) ?_
      rotate_left 1
      · (intro w0 hSw; (try dsimp only at hSw); go_simp; try (with_reducible rfl))
      try simp only [Act.put, List.setIfInBounds_toArray, List.set_cons_succ, List.set_cons_zero]
      refine takeOp (i := 3) (v := ?_) (some 60) rfl rfl (by kernel_rfl) (by kernel_rfl) (by kernel_rfl) (fun _ _ _ h => h) (Or.inl ⟨by rfl, ?_⟩) (by assumption) ?_
      rotate_left 1
      · (intro w0 hSw; (try dsimp only at hSw); go_simp; try (with_reducible rfl))
      try simp only [Act.put, List.setIfInBounds_toArray, List.set_cons_succ, List.set_cons_zero]
      refine wpAnyH_ready (rs := [4, 9]) (by kernel_rfl) (by simp) ?_
      refine (AllReadyH.cons rfl (fun K hK => ?_) (AllReadyH.cons rfl (fun K hK => ?_) AllReadyH.nil))
      · go_simp
        refine (HRA4.out V0 HV.out).mono ?_
        rintro e V1 ⟨A8, l8, C8, n8, rfl, hfx, hn8, hb⟩
        have HFX := Lib.hid hfx
        have HN8 := Lib.hid hn8
        clear hfx hn8
        have HWIN : Hid (WinP V0.heap.size V1 V1) := WinP.refl _ _
        have HV := Lib.hid (Below.then HV.out hb HV.out.size)
        clear hb
        go_wp2_with fail
        refine hK.out _ _ (HS15.out V1 HV.out) (fun hHeld => ?_)
        clear hK K
        try simp only [Act.put, List.setIfInBounds_toArray, List.set_cons_succ, List.set_cons_zero]
        refine takeOp (i := 5) (v := ?_) (some 56) rfl rfl (by kernel_rfl) (by kernel_rfl) (by kernel_rfl) (fun _ _ _ h => h) (Or.inl ⟨by rfl, ?_⟩) (by assumption) ?_
        rotate_left 1
        · (intro w0 hSw; (try dsimp only at hSw); go_simp; try (with_reducible rfl))
        try simp only [Act.put, List.setIfInBounds_toArray, List.set_cons_succ, List.set_cons_zero]
        refine takeOp (i := 6) (v := ?_) (some 62) rfl rfl (by kernel_rfl) (by kernel_rfl) (by kernel_rfl) (fun _ _ _ h => h) (Or.inl ⟨by rfl, ?_⟩) (by assumption) ?_
        rotate_left 1
        · (intro w0 hSw; (try dsimp only at hSw); go_simp; try (with_reducible rfl))
        try simp only [Act.put, List.setIfInBounds_toArray, List.set_cons_succ, List.set_cons_zero]
        refine takeOp (i := 7) (v := ?_) (some 63) rfl rfl (by kernel_rfl) (by kernel_rfl) (by kernel_rfl) (fun _ _ _ h => h) (Or.inl ⟨by rfl, ?_⟩) (by assumption) ?_
        rotate_left 1
        · (intro w0 hSw; (try dsimp only at hSw); go_simp; try (with_reducible rfl))
        try simp only [Act.put, List.setIfInBounds_toArray, List.set_cons_succ, List.set_cons_zero]
        refine takeOp (i := 8) (v := ?_) (some 64) rfl rfl (by kernel_rfl) (by kernel_rfl) (by kernel_rfl) (fun _ _ _ h => h) (Or.inl ⟨by rfl, ?_⟩) (by assumption) ?_
        rotate_left 1
        · (intro w0 hSw; (try dsimp only at hSw); go_simp; try (with_reducible rfl))
        try simp only [Act.put, List.setIfInBounds_toArray, List.set_cons_succ, List.set_cons_zero]
        refine wpAnyH_ready (rs := [9]) (by kernel_rfl) (by simp) ?_
        refine (AllReadyH.cons rfl (fun K hK => ?_) AllReadyH.nil)
        go_simp
        obtain ⟨V2, hV⟩ : ∃ V', V' = V1.alloc (.cells #[.slice none 0 0, .slice none 0 0] 31) := ⟨_, rfl⟩
        rw [← hV]
        have hb : Below V1.heap.size V1 V2 := by rw [hV]; exact ((Ext.refl V1).alloc _).below
        obtain ⟨gb, hgb⟩ : ∃ gb, gb = V1.heap.size := ⟨_, rfl⟩
        have HG : Hid (Row V2 gb 31 [.slice none 0 0, .slice none 0 0]) := by show Row _ _ _ _; rw [hV, hgb]; exact Row.new V1 _ _
        have HGZ : Hid (w4.heap.size ≤ gb) := by show _ ≤ _; rw [hgb]; exact HV.out.size
        have HGW0 : Hid (gb < V2.heap.size) := HG.out.lt
        have HWIN : Hid (WinP V0.heap.size V1 V2) := HWIN.out.up hb
        have HOUT : Hid (V1.heap.size ≤ gb) := by show _ ≤ _; rw [hgb]; exact Nat.le_refl _
        have HFX : Hid (r3.1 = 0 → l8 = r3.2.1.length ∧ n8 = r3.2.2 ∧ ∃ cs', FctCs w.heap.size w r3.2.1 cs' ∧ V2.ownsRow w.heap.size 85 2 (.slice A8 l8 C8) l8 cs') := fun h => by obtain ⟨a, b, cs', c, d⟩ := HFX.out h; exact ⟨a, b, cs', c, own_keep d hb⟩
        have HV := Lib.hid (Below.then HV.out hb HV.out.size)
        rw [← hgb]
        clear hb hV hgb
        refine hK.out _ _ (HS15.out V2 HV.out) (fun hHeld => ?_)
        clear hK K
        try simp only [Act.put, List.setIfInBounds_toArray, List.set_cons_succ, List.set_cons_zero]
        refine wpAnyH_ready (rs := [10]) (by kernel_rfl) (by simp) ?_
        refine (AllReadyH.cons rfl (fun K hK => ?_) AllReadyH.nil)
        have m0 := HG.out.frozen 0
        have n0 : V2.cell? ⟨gb, 0, none⟩ = some (.slice none 0 0) := HG.out.cell 0
        have m1 := HG.out.frozen 1
        have n1 : V2.cell? ⟨gb, 1, none⟩ = some (.slice none 0 0) := HG.out.cell 1
        have m9 := HG.out.lt
        go_simp
        go_wp2_with fail
        have HGO := HG
        obtain ⟨V3, hV⟩ : ∃ V', V' = ((V2.setCell ⟨gb, 0, none⟩ (.slice SA S.length SC)).setCell ⟨gb, 1, none⟩ (.slice A8 l8 C8)) := ⟨_, rfl⟩
        rw [← hV]
        have HG : Hid (Row V3 gb 31 [.slice SA S.length SC, .slice A8 l8 C8]) := by show Row _ _ _ _; rw [hV]; exact ((HG.out.set 0 _).set 1 _)
        have HWIN : Hid (WinP V0.heap.size V1 V3) := by show WinP _ _ _; rw [hV]; exact ((HWIN.out.set (Or.inr HOUT.out) 0 _).set (Or.inr HOUT.out) 1 _)
        have HFX : Hid (r3.1 = 0 → l8 = r3.2.1.length ∧ n8 = r3.2.2 ∧ ∃ cs', FctCs w.heap.size w r3.2.1 cs' ∧ V3.ownsRow w.heap.size 85 2 (.slice A8 l8 C8) l8 cs') := fun h => by obtain ⟨a, b, cs', c, d⟩ := HFX.out h; exact ⟨a, b, cs', c, by rw [hV]; exact own_far (own_far d (own_ne_rowF d HGO.out (by decide)) _) (own_ne_rowF d HGO.out (by decide)) _⟩
        have HV : Hid (Below w4.heap.size w4 V3) := by show Below _ _ _; rw [hV]; exact ((HV.out.setCell (by show w4.heap.size ≤ gb; exact HGZ.out) _).setCell (by show w4.heap.size ≤ gb; exact HGZ.out) _)
        clear hV m9 HGO m0 n0 m1 n1
        refine hK.out _ _ (HS15.out V3 HV.out) (fun hHeld => ?_)
        clear hK K
        try simp only [Act.put, List.setIfInBounds_toArray, List.set_cons_succ, List.set_cons_zero]
        refine takeOp (i := 11) (v := ?_) (some 13) rfl rfl (by kernel_rfl) (by kernel_rfl) (by kernel_rfl) (fun _ _ _ h => h) (Or.inl ⟨by rfl, ?_⟩) (by assumption) ?_
        rotate_left 1
        · (intro w0 hSw; (try dsimp only at hSw); go_simp; try (with_reducible rfl))
        try simp only [Act.put, List.setIfInBounds_toArray, List.set_cons_succ, List.set_cons_zero]
        refine takeOp (i := 12) (v := ?_) (some 14) rfl rfl (by kernel_rfl) (by kernel_rfl) (by kernel_rfl) (fun _ _ _ h => h) (Or.inl ⟨by rfl, ?_⟩) (by assumption) ?_
        rotate_left 1
        · (intro w0 hSw; (try dsimp only at hSw); go_simp; try (with_reducible rfl))
        try simp only [Act.put, List.setIfInBounds_toArray, List.set_cons_succ, List.set_cons_zero]
        refine wpAnyH_done (by kernel_rfl) ?_ _
        go_wp2_with fail
        go_meet
        case rel => exact ⟨gb, A8, l8, C8, n8, rfl, rfl, rfl, HGZ.out, HG.out, HFX.out, HN8.out, HV.out⟩
      · go_simp
        obtain ⟨V1, hV⟩ : ∃ V', V' = V0.alloc (.cells #[.slice none 0 0, .slice none 0 0] 31) := ⟨_, rfl⟩
        rw [← hV]
        have hb : Below V0.heap.size V0 V1 := by rw [hV]; exact ((Ext.refl V0).alloc _).below
        obtain ⟨gb, hgb⟩ : ∃ gb, gb = V0.heap.size := ⟨_, rfl⟩
        have HG : Hid (Row V1 gb 31 [.slice none 0 0, .slice none 0 0]) := by show Row _ _ _ _; rw [hV, hgb]; exact Row.new V0 _ _
        have HGZ : Hid (w4.heap.size ≤ gb) := by show _ ≤ _; rw [hgb]; exact HV.out.size
        have HGW0 : Hid (gb < V1.heap.size) := HG.out.lt
        have HV := Lib.hid (Below.then HV.out hb HV.out.size)
        rw [← hgb]
        clear hb hV hgb
        refine hK.out _ _ (HS15.out V1 HV.out) (fun hHeld => ?_)
        clear hK K
        try simp only [Act.put, List.setIfInBounds_toArray, List.set_cons_succ, List.set_cons_zero]
        refine wpAnyH_ready (rs := [4]) (by kernel_rfl) (by simp) ?_
        refine (AllReadyH.cons rfl (fun K hK => ?_) AllReadyH.nil)
        go_simp
        refine (HRA4.out V1 HV.out).mono ?_
        rintro e V2 ⟨A8, l8, C8, n8, rfl, hfx, hn8, hb⟩
        have HFX := Lib.hid hfx
        have HN8 := Lib.hid hn8
        clear hfx hn8
        have HG := Lib.hid (HG.out.up hb)
        have HGW : Hid (gb < V1.heap.size) := by show gb < _; have := HGW0.out; omega
        have HWIN : Hid (WinP V1.heap.size V2 V2) := WinP.refl _ _
        have HV := Lib.hid (Below.then HV.out hb HV.out.size)
        clear hb
        go_wp2_with fail
        refine hK.out _ _ (HS15.out V2 HV.out) (fun hHeld => ?_)
        clear hK K
        try simp only [Act.put, List.setIfInBounds_toArray, List.set_cons_succ, List.set_cons_zero]
        refine takeOp (i := 5) (v := ?_) (some 56) rfl rfl (by kernel_rfl) (by kernel_rfl) (by kernel_rfl) (fun _ _ _ h => h) (Or.inl ⟨by rfl, ?_⟩) (by assumption) ?_
        rotate_left 1
        · (intro w0 hSw; (try dsimp only at hSw); go_simp; try (with_reducible rfl))
        try simp only [Act.put, List.setIfInBounds_toArray, List.set_cons_succ, List.set_cons_zero]
        refine takeOp (i := 6) (v := ?_) (some 62) rfl rfl (by kernel_rfl) (by kernel_rfl) (by kernel_rfl) (fun _ _ _ h => h) (Or.inl ⟨by rfl, ?_⟩) (by assumption) ?_
        rotate_left 1
        · (intro w0 hSw; (try dsimp only at hSw); go_simp; try (with_reducible rfl))
        try simp only [Act.put, List.setIfInBounds_toArray, List.set_cons_succ, List.set_cons_zero]
        refine takeOp (i := 7) (v := ?_) (some 63) rfl rfl (by kernel_rfl) (by kernel_rfl) (by kernel_rfl) (fun _ _ _ h => h) (Or.inl ⟨by rfl, ?_⟩) (by assumption) ?_
        rotate_left 1
        · (intro w0 hSw; (try dsimp only at hSw); go_simp; try (with_reducible rfl))
        try simp only [Act.put, List.setIfInBounds_toArray, List.set_cons_succ, List.set_cons_zero]
        refine takeOp (i := 8) (v := ?_) (some 64) rfl rfl (by kernel_rfl) (by kernel_rfl) (by kernel_rfl) (fun _ _ _ h => h) (Or.inl ⟨by rfl, ?_⟩) (by assumption) ?_
        rotate_left 1
        · (intro w0 hSw; (try dsimp only at hSw); go_simp; try (with_reducible rfl))
        try simp only [Act.put, List.setIfInBounds_toArray, List.set_cons_succ, List.set_cons_zero]
        refine wpAnyH_ready (rs := [10]) (by kernel_rfl) (by simp) ?_
        refine (AllReadyH.cons rfl (fun K hK => ?_) AllReadyH.nil)
        have m0 := HG.out.frozen 0
        have n0 : V2.cell? ⟨gb, 0, none⟩ = some (.slice none 0 0) := HG.out.cell 0
        have m1 := HG.out.frozen 1
        have n1 : V2.cell? ⟨gb, 1, none⟩ = some (.slice none 0 0) := HG.out.cell 1
        have m9 := HG.out.lt
        go_simp
        go_wp2_with fail
        have HGO := HG
        obtain ⟨V3, hV⟩ : ∃ V', V' = ((V2.setCell ⟨gb, 0, none⟩ (.slice SA S.length SC)).setCell ⟨gb, 1, none⟩ (.slice A8 l8 C8)) := ⟨_, rfl⟩
        rw [← hV]
        have HG : Hid (Row V3 gb 31 [.slice SA S.length SC, .slice A8 l8 C8]) := by show Row _ _ _ _; rw [hV]; exact ((HG.out.set 0 _).set 1 _)
        have HWIN : Hid (WinP V1.heap.size V2 V3) := by show WinP _ _ _; rw [hV]; exact ((HWIN.out.set (Or.inl HGW.out) 0 _).set (Or.inl HGW.out) 1 _)
        have HFX : Hid (r3.1 = 0 → l8 = r3.2.1.length ∧ n8 = r3.2.2 ∧ ∃ cs', FctCs w.heap.size w r3.2.1 cs' ∧ V3.ownsRow w.heap.size 85 2 (.slice A8 l8 C8) l8 cs') := fun h => by obtain ⟨a, b, cs', c, d⟩ := HFX.out h; exact ⟨a, b, cs', c, by rw [hV]; exact own_far (own_far d (own_ne_rowF d HGO.out (by decide)) _) (own_ne_rowF d HGO.out (by decide)) _⟩
        have HV : Hid (Below w4.heap.size w4 V3) := by show Below _ _ _; rw [hV]; exact ((HV.out.setCell (by show w4.heap.size ≤ gb; exact HGZ.out) _).setCell (by show w4.heap.size ≤ gb; exact HGZ.out) _)
        clear hV m9 HGO m0 n0 m1 n1
        refine hK.out _ _ (HS15.out V3 HV.out) (fun hHeld => ?_)
        clear hK K
        try simp only [Act.put, List.setIfInBounds_toArray, List.set_cons_succ, List.set_cons_zero]
        refine takeOp (i := 11) (v := ?_) (some 13) rfl rfl (by kernel_rfl) (by kernel_rfl) (by kernel_rfl) (fun _ _ _ h => h) (Or.inl ⟨by rfl, ?_⟩) (by assumption) ?_
        rotate_left 1
        · (intro w0 hSw; (try dsimp only at hSw); go_simp; try (with_reducible rfl))
        try simp only [Act.put, List.setIfInBounds_toArray, List.set_cons_succ, List.set_cons_zero]
        refine takeOp (i := 12) (v := ?_) (some 14) rfl rfl (by kernel_rfl) (by kernel_rfl) (by kernel_rfl) (fun _ _ _ h => h) (Or.inl ⟨by rfl, ?_⟩) (by assumption) ?_
        rotate_left 1
        · (intro w0 hSw; (try dsimp only at hSw); go_simp; try (with_reducible rfl))
        try simp only [Act.put, List.setIfInBounds_toArray, List.set_cons_succ, List.set_cons_zero]
        refine wpAnyH_done (by kernel_rfl) ?_ _
        go_wp2_with fail
        go_meet
        case rel => exact ⟨gb, A8, l8, C8, n8, rfl, rfl, rfl, HGZ.out, HG.out, HFX.out, HN8.out, HV.out⟩
    case rest =>
    obtain ⟨g12, A8, l8, C8, n8, rfl, rfl, rfl, -, hr12, hfx, hn8, hb5⟩ := hcut
    generalize wc = w5 at *
    have HR12 := Lib.hid hr12
    have HFX := Lib.hid hfx
    have HN8 := Lib.hid hn8
    have HB45 := Lib.hid hb5
    have HB5 := Lib.hid (HB4.out.trans (hb5.mono HB4.out.size))
    have HBW5 := Lib.hid (HBR.out.trans (HB5.out.mono HBR.out.size))
    have HR95 := Lib.hid (HR9.out.up hb5)
    have HSAM5 : Hid (∀ V, Below w5.heap.size w5 V → Calls Tryz.prog 34 #[.agg #[.map (some md)], .agg #[.slice SA S.length SC, .slice FA l FC]] V fun e V' => e = .returned (.bool true) ∧ Below V.heap.size V V') := fun V hb => HSAM.out V (HB5.out.trans (hb.mono HB5.out.size))
    have hz5 := HB5.out.size
    have HRD : Hid (∀ V, Below w5.heap.size w5 V → V.cell? ⟨g5, 0, none⟩ = some (.map (some md)) ∧ V.cell? ⟨g7, 0, none⟩ = some (.slice SA S.length SC) ∧ V.cell? ⟨g7, 1, none⟩ = some (.slice FA l FC) ∧ g5 < V.heap.size ∧ g7 < V.heap.size) := fun V hb => by
      have h := HB5.out.trans (hb.mono HB5.out.size)
      exact ⟨cell_below h (HR5.out.cell 0), cell_below h (HR7.out.cell 0), cell_below h (HR7.out.cell 1), Nat.lt_of_lt_of_le HZW.out.2.1 h.size, Nat.lt_of_lt_of_le HZW.out.2.2 h.size⟩
    clear hr12 hfx hn8 hb5 HR9 HS15 HRA4 z7
    have hqq : (r2.1 != r2.1) = false := by simp
    have hcc : ∀ n : Nat, ((n : Int) != (n : Int)) = false := fun n => by simp
    rw [HR23.out]
    obtain ⟨c5, c70, c71, z5, z7⟩ := HRD.out w5 (Below.refl _ _)
    have c9c : w5.cell? ⟨g9, 0, none⟩ = some (.map m9) := HR95.out.cell 0
    have z9 := HR95.out.lt
    have c120 : w5.cell? ⟨g12, 0, none⟩ = some (.slice SA S.length SC) := HR12.out.cell 0
    have c121 : w5.cell? ⟨g12, 1, none⟩ = some (.slice A8 l8 C8) := HR12.out.cell 1
    have z12 := HR12.out.lt
    go_upto_region 16 with (fail)
    go_cut [102] from 65 to 102 (fun q wx => q = .bool false ∧ Below w5.heap.size w5 wx)
    case first =>
      by_cases h0 : r2.1 = 0
      · obtain ⟨y1, y2, y3⟩ := HRZ.out h0
        obtain ⟨x1, x2⟩ := HOK9.out h0
        obtain ⟨x3, x4, cs', x5, x6⟩ := HFX.out (HR23.out.trans h0)
        obtain ⟨mb, hmb⟩ := x2.form
        injection hmb with hmb
        subst hmb
        have hcn : c9 = n8 := by rw [x1, x4, y2]
        subst hcn
        have hfm : FactsM w5.heap.size w5 A8 r3.2.1 := by
          obtain ⟨A', C', e', _, h3⟩ := Sl.of_own_n x6
          injection e' with e1 e2 e3
          subst e1
          exact FactsM.of_cs (x5.up HBW5.out) h3
        have hsx := l08Same_any S r2.2.1 r3.2.1 SA SC A8 C8 w5 (x2.up HB45.out) (HS.out.up HBW5.out) HE.out hfm y1 HN3.out.1 (by omega) (fun f hf => by have := HN3.out.2.1 f hf; omega)
        rw [← x3] at hsx
        have HSX := Lib.hid hsx
        have e1 : (r2.1 == 0) = true := by simpa using h0
        have e2 : (r2.1 != 0) = false := by simpa using h0
        have e3 := hcc c9
        clear x1 x2 x3 x4 x5 x6 y1 y2 y3 hfm hsx h0 hcc
        generalize r2.1 = rr at *
        go_wp2_with fail
        refine HSX.out.mono ?_
        rintro e V1 ⟨rfl, hb1⟩
        have HV1 := Lib.hid hb1
        obtain ⟨c5, c70, c71, z5, z7⟩ := HRD.out V1 hb1
        clear hb1 HSX
        go_wp2_with fail
        refine (HSAM5.out V1 HV1.out).mono ?_
        rintro e V2 ⟨rfl, hb2⟩
        have HV2 := Lib.hid (HV1.out.trans (hb2.mono HV1.out.size))
        clear hb2
        go_wp2_with fail
        go_meet
        case rel => exact ⟨rfl, HV2.out⟩
      · obtain ⟨x1, x2⟩ := HBAD9.out h0
        subst x1 x2
        have e1 : (r2.1 == 0) = false := by simpa using h0
        have e2 : (r2.1 != 0) = true := by simpa using h0
        have e3 : (((0 : Nat) : Int) != 0) = false := by decide
        clear h0 hcc
        generalize r2.1 = rr at *
        go_wp2_with fail
        refine (ctSchemas_nil w5).mono ?_
        rintro e V1 ⟨⟨A9, C9, rfl⟩, hb1⟩
        have HV1 := Lib.hid hb1
        obtain ⟨c5, c70, c71, z5, z7⟩ := HRD.out V1 hb1
        clear hb1
        go_wp2_with fail
        refine (HSAM5.out V1 HV1.out).mono ?_
        rintro e V2 ⟨rfl, hb2⟩
        have HV2 := Lib.hid (HV1.out.trans (hb2.mono HV1.out.size))
        clear hb2
        go_wp2_with fail
        go_meet
        case rel => exact ⟨rfl, HV2.out⟩
    case rest =>
    obtain ⟨rfl, hb6⟩ := hcut
    generalize wc = w6 at *
    have HB6 := Lib.hid (HB5.out.trans (hb6.mono HB5.out.size))
    have HBW6 := Lib.hid (HBR.out.trans (HB6.out.mono HBR.out.size))
    have HS18 : Hid (∀ V, Below w6.heap.size w6 V → V.cell? ⟨g5, 0, none⟩ = some (.map (some md)) ∧ V.cell? ⟨ub, uo + k * 3, none⟩ = some (.bool dl) ∧ V.cell? ⟨ub, uo + k * 3 + 1, none⟩ = some (.string nm) ∧ V.cell? ⟨ub, uo + k * 3 + 2, none⟩ = some (.slice RA x.length RC)) := fun V hb => by
      have h := HB6.out.trans (hb.mono HB6.out.size)
      exact ⟨cell_below h (HR5.out.cell 0), HKU.out V (HBR.out.trans (h.mono HBR.out.size))⟩
    have HAP18 : Hid (∀ V, Below w6.heap.size w6 V → ∀ eb, Row V eb 53 [.bool dl, .string nm, .slice RA x.length RC] → ∀ (P : Nat → Prop), (∀ b, b < w6.heap.size → (w.heap.size ≤ b ∧ b ≠ g5 ∧ b ≠ g7) → P b) → (∀ b, V.heap.size ≤ b → P b) → Calls Tryz.prog 19 #[.agg #[.map (some md)], .slice (some ⟨eb, 0, none⟩) 1 1] V fun e w' => ∃ (mx : Option Nat) (c : Nat), e = .returned (.tuple #[.agg #[.map mx], .int .i64 (c : Nat), .int .i64 r1.1]) ∧ (r1.1 = 0 → c = r1.2.2 ∧ DbM P S w' (.map mx) r1.2.1) ∧ (r1.1 ≠ 0 → c = 0 ∧ mx = none) ∧ Below V.heap.size V w') := fun V hb eb hrow P h1 h2 => by
      have hbw := HBW6.out.trans (hb.mono HBW6.out.size)
      have h := ctApply_any P S (.map (some md)) F (some ⟨eb, 0, none⟩) 1 [⟨dl, nm, x⟩] V (((HDB.out.up HB6.out).weak fun b hb hp => h1 b hb hp).up hb) h2 (UpdsM.of_cs (UpdCs.one1 ⟨dl, nm, x⟩ RA RC (HRX.out V hbw)) hrow.sl) (fun u hu => by rw [List.mem_singleton.1 hu]; exact HUK.out) (by simp) (by have := HL.out; omega)
      rw [← HR1E.out] at h
      exact h.mono fun e w' h => h.shape
    have HZ6 : Hid (w.heap.size ≤ w6.heap.size ∧ g5 < w6.heap.size ∧ g7 < w6.heap.size) := ⟨HBW6.out.size, Nat.lt_of_lt_of_le HZW.out.2.1 HB6.out.size, Nat.lt_of_lt_of_le HZW.out.2.2 HB6.out.size⟩
    have z56 : g5 < w6.heap.size := HZ6.out.2.1
    have zu6 : ub < w6.heap.size := Nat.lt_of_lt_of_le HUBW.out HBW6.out.size
    clear hb6 hqq hcc hz5 c5 c70 c71 z5 z7 c9c z9 c120 c121 z12 HR95 HR12 HFX HN8 HSAM5 HRD HOK9 HBAD9
    go_upto_region 18 with (fail)
    go_cut [15, 16, 17] from 103 to 114 (fun q1 q2 q3 wx => ∃ (g : Nat) (mx : Option Nat) (c : Nat), q1 = .pointer (some ⟨g, 0, none⟩) ∧ q2 = .int .i64 (c : Nat) ∧ q3 = .int .i64 r1.1 ∧ w6.heap.size ≤ g ∧ Row wx g 28 [.map mx] ∧ (r1.1 = 0 → c = r1.2.2 ∧ DbM (fun b => w.heap.size ≤ b ∧ b ≠ g5 ∧ b ≠ g7) S wx (.map mx) r1.2.1) ∧ (r1.1 ≠ 0 → c = 0 ∧ mx = none) ∧ Below w6.heap.size w6 wx)
    case first =>
      refine wp_region_held_drew (S := (fun V => V.cell? ⟨g5, 0, none⟩ = some (.map (some md)) ∧ V.cell? ⟨ub, uo + k * 3, none⟩ = some (.bool dl) ∧ V.cell? ⟨ub, uo + k * 3 + 1, none⟩ = some (.string nm) ∧ V.cell? ⟨ub, uo + k * 3 + 2, none⟩ = some (.slice RA x.length RC))) (by kernel_rfl) (HS18.out w6.drew (Below.refl _ _).drew) (fun hHeld => ?_)
      obtain ⟨V0, hV0⟩ : ∃ V, V = w6.drew := ⟨_, rfl⟩
      have HV : Hid (Below w6.heap.size w6 V0) := by show Below _ _ _; rw [hV0]; exact (Below.refl _ _).drew
      rw [← hV0] at hHeld ⊢
      clear hV0
      refine takeOp (i := 0) (v := ?_) (some 104) rfl rfl (by kernel_rfl) (by kernel_rfl) (by kernel_rfl) (fun _ _ _ h => h) (Or.inl ⟨by rfl, ?_⟩) (by assumption) ?_
      rotate_left 1
      · (intro w0 hSw; (try dsimp only at hSw); go_simp; try (with_reducible rfl))
      try simp only [Act.put, List.setIfInBounds_toArray, List.set_cons_succ, List.set_cons_zero]
      refine takeOp (i := 1) (v := ?_) (some 105) rfl rfl (by kernel_rfl) (by kernel_rfl) (by kernel_rfl) (fun _ _ _ h => h) (Or.inl ⟨by rfl, ?_⟩) (by assumption) ?_
      rotate_left 1
      · (intro w0 hSw; (try dsimp only at hSw); go_simp; try (with_reducible rfl))
      try simp only [Act.put, List.setIfInBounds_toArray, List.set_cons_succ, List.set_cons_zero]
      refine takeOp (i := 2) (v := ?_) (some 106) rfl rfl (by kernel_rfl) (by kernel_rfl) (by kernel_rfl) (fun _ _ _ h => h) (Or.inl ⟨by rfl, ?_⟩) (by assumption) ?_
      rotate_left 1
      · (intro w0 hSw; (try dsimp only at hSw); go_simp; try (with_reducible rfl))
      try simp only [Act.put, List.setIfInBounds_toArray, List.set_cons_succ, List.set_cons_zero]
      refine takeOp (i := 3) (v := ?_) (some 107) rfl rfl (by kernel_rfl) (by kernel_rfl) (by kernel_rfl) (fun _ _ _ h => h) (Or.inl ⟨by rfl, ?_⟩) (by assumption) ?_
      rotate_left 1
      · (intro w0 hSw; (try dsimp only at hSw); go_simp; try (with_reducible rfl))
      try simp only [Act.put, List.setIfInBounds_toArray, List.set_cons_succ, List.set_cons_zero]
      refine takeOp (i := 4) (v := ?_) (some 108) rfl rfl (by kernel_rfl) (by kernel_rfl) (by kernel_rfl) (fun _ _ _ h => h) (Or.inl ⟨by rfl, ?_⟩) (by assumption) ?_
      rotate_left 1
      · (intro w0 hSw; (try dsimp only at hSw); go_simp; try (with_reducible rfl))
      try simp only [Act.put, List.setIfInBounds_toArray, List.set_cons_succ, List.set_cons_zero]
      refine wpAnyH_ready (rs := [5, 11]) (by kernel_rfl) (by simp) ?_
      refine (AllReadyH.cons rfl (fun K hK => ?_) (AllReadyH.cons rfl (fun K hK => ?_) AllReadyH.nil))
      · go_simp
        obtain ⟨V1, hV⟩ : ∃ V', V' = V0.alloc (.cells #[.bool dl, .string nm, .slice RA x.length RC] 53) := ⟨_, rfl⟩
        rw [← hV]
        have hb : Below V0.heap.size V0 V1 := by rw [hV]; exact ((Ext.refl V0).alloc _).below
        obtain ⟨eb, heb⟩ : ∃ g, g = V0.heap.size := ⟨_, rfl⟩
        rw [← heb]
        have HEB : Hid (Row V1 eb 53 [.bool dl, .string nm, .slice RA x.length RC]) := by show Row _ _ _ _; rw [hV, heb]; exact Row.new V0 _ _
        have HV := Lib.hid (Below.then HV.out hb HV.out.size)
        clear hb hV heb
        refine hK.out _ _ (HS18.out V1 HV.out) (fun hHeld => ?_)
        clear hK K
        try simp only [Act.put, List.setIfInBounds_toArray, List.set_cons_succ, List.set_cons_zero]
        refine wpAnyH_ready (rs := [6, 11]) (by kernel_rfl) (by simp) ?_
        refine (AllReadyH.cons rfl (fun K hK => ?_) (AllReadyH.cons rfl (fun K hK => ?_) AllReadyH.nil))
        · go_simp
          go_simp
          refine (HAP18.out V1 HV.out eb HEB.out (fun b => w.heap.size ≤ b ∧ b ≠ g5 ∧ b ≠ g7) (fun b hb hp => hp) (fun b hb => ⟨by have := HV.out.size; have := HZ6.out; omega, by have := HV.out.size; have := HZ6.out; omega, by have := HV.out.size; have := HZ6.out; omega⟩)).mono ?_
          rintro e V2 ⟨mx, c, rfl, hok, hbad, hb⟩
          have HOKX := Lib.hid hok
          have HBADX := Lib.hid hbad
          clear hok hbad
          go_simp
          have HEB := Lib.hid (HEB.out.up hb)
          have HWIN : Hid (WinP V1.heap.size V2 V2) := WinP.refl _ _
          have HV := Lib.hid (Below.then HV.out hb HV.out.size)
          clear hb
          go_wp2_with fail
          refine hK.out _ _ (HS18.out V2 HV.out) (fun hHeld => ?_)
          clear hK K
          try simp only [Act.put, List.setIfInBounds_toArray, List.set_cons_succ, List.set_cons_zero]
          refine takeOp (i := 7) (v := ?_) (some 103) rfl rfl (by kernel_rfl) (by kernel_rfl) (by kernel_rfl) (fun _ _ _ h => h) (Or.inl ⟨by rfl, ?_⟩) (by assumption) ?_
          rotate_left 1
          · (intro w0 hSw; (try dsimp only at hSw); go_simp; try (with_reducible rfl))
          try simp only [Act.put, List.setIfInBounds_toArray, List.set_cons_succ, List.set_cons_zero]
          refine takeOp (i := 8) (v := ?_) (some 111) rfl rfl (by kernel_rfl) (by kernel_rfl) (by kernel_rfl) (fun _ _ _ h => h) (Or.inl ⟨by rfl, ?_⟩) (by assumption) ?_
          rotate_left 1
          · (intro w0 hSw; (try dsimp only at hSw); go_simp; try (with_reducible rfl))
          try simp only [Act.put, List.setIfInBounds_toArray, List.set_cons_succ, List.set_cons_zero]
          refine takeOp (i := 9) (v := ?_) (some 112) rfl rfl (by kernel_rfl) (by kernel_rfl) (by kernel_rfl) (fun _ _ _ h => h) (Or.inl ⟨by rfl, ?_⟩) (by assumption) ?_
          rotate_left 1
          · (intro w0 hSw; (try dsimp only at hSw); go_simp; try (with_reducible rfl))
          try simp only [Act.put, List.setIfInBounds_toArray, List.set_cons_succ, List.set_cons_zero]
          refine takeOp (i := 10) (v := ?_) (some 113) rfl rfl (by kernel_rfl) (by kernel_rfl) (by kernel_rfl) (fun _ _ _ h => h) (Or.inl ⟨by rfl, ?_⟩) (by assumption) ?_
          rotate_left 1
          · (intro w0 hSw; (try dsimp only at hSw); go_simp; try (with_reducible rfl))
          try simp only [Act.put, List.setIfInBounds_toArray, List.set_cons_succ, List.set_cons_zero]
          refine wpAnyH_ready (rs := [11]) (by kernel_rfl) (by simp) ?_
          refine (AllReadyH.cons rfl (fun K hK => ?_) AllReadyH.nil)
          go_simp
          obtain ⟨V3, hV⟩ : ∃ V', V' = V2.alloc (.cells #[.map none] 28) := ⟨_, rfl⟩
          rw [← hV]
          have hb : Below V2.heap.size V2 V3 := by rw [hV]; exact ((Ext.refl V2).alloc _).below
          obtain ⟨gb, hgb⟩ : ∃ gb, gb = V2.heap.size := ⟨_, rfl⟩
          have HG : Hid (Row V3 gb 28 [.map none]) := by show Row _ _ _ _; rw [hV, hgb]; exact Row.new V2 _ _
          have HGZ : Hid (w6.heap.size ≤ gb) := by show _ ≤ _; rw [hgb]; exact HV.out.size
          have HGW0 : Hid (gb < V3.heap.size) := HG.out.lt
          have HEB := Lib.hid (HEB.out.up hb)
          have HWIN : Hid (WinP V1.heap.size V2 V3) := HWIN.out.up hb
          have HOUT : Hid (V2.heap.size ≤ gb) := by show _ ≤ _; rw [hgb]; exact Nat.le_refl _
          have HOKX : Hid (r1.1 = 0 → c = r1.2.2 ∧ DbM (fun b => (w.heap.size ≤ b ∧ b ≠ g5 ∧ b ≠ g7) ∧ b ≠ gb) S V3 (.map mx) r1.2.1) := fun h => ⟨(HOKX.out h).1, ((HOKX.out h).2.weak fun b hq hp => ⟨hp, by show b ≠ gb; omega⟩).up hb⟩
          have HV := Lib.hid (Below.then HV.out hb HV.out.size)
          rw [← hgb]
          clear hb hV hgb
          refine hK.out _ _ (HS18.out V3 HV.out) (fun hHeld => ?_)
          clear hK K
          try simp only [Act.put, List.setIfInBounds_toArray, List.set_cons_succ, List.set_cons_zero]
          refine wpAnyH_ready (rs := [12]) (by kernel_rfl) (by simp) ?_
          refine (AllReadyH.cons rfl (fun K hK => ?_) AllReadyH.nil)
          have m0 := HG.out.frozen 0
          have n0 : V3.cell? ⟨gb, 0, none⟩ = some (.map none) := HG.out.cell 0
          have m9 := HG.out.lt
          go_simp
          go_wp2_with fail
          have HGO := HG
          obtain ⟨V4, hV⟩ : ∃ V', V' = (V3.setCell ⟨gb, 0, none⟩ (.map mx)) := ⟨_, rfl⟩
          rw [← hV]
          have HG : Hid (Row V4 gb 28 [.map mx]) := by show Row _ _ _ _; rw [hV]; exact (HG.out.set 0 _)
          have HWIN : Hid (WinP V1.heap.size V2 V4) := by show WinP _ _ _; rw [hV]; exact (HWIN.out.set (Or.inr HOUT.out) 0 _)
          have HOKX : Hid (r1.1 = 0 → c = r1.2.2 ∧ DbM (fun b => (w.heap.size ≤ b ∧ b ≠ g5 ∧ b ≠ g7) ∧ b ≠ gb) S V4 (.map mx) r1.2.1) := fun h => ⟨(HOKX.out h).1, by rw [hV]; exact (HOKX.out h).2.keep (Stay.set (fun h => h.2 rfl) 0 _)⟩
          have HV : Hid (Below w6.heap.size w6 V4) := by show Below _ _ _; rw [hV]; exact (HV.out.setCell (by show w6.heap.size ≤ gb; exact HGZ.out) _)
          clear hV m9 HGO m0 n0
          refine hK.out _ _ (HS18.out V4 HV.out) (fun hHeld => ?_)
          clear hK K
          try simp only [Act.put, List.setIfInBounds_toArray, List.set_cons_succ, List.set_cons_zero]
          refine takeOp (i := 13) (v := ?_) (some 16) rfl rfl (by kernel_rfl) (by kernel_rfl) (by kernel_rfl) (fun _ _ _ h => h) (Or.inl ⟨by rfl, ?_⟩) (by assumption) ?_
          rotate_left 1
          · (intro w0 hSw; (try dsimp only at hSw); go_simp; try (with_reducible rfl))
          try simp only [Act.put, List.setIfInBounds_toArray, List.set_cons_succ, List.set_cons_zero]
          refine takeOp (i := 14) (v := ?_) (some 17) rfl rfl (by kernel_rfl) (by kernel_rfl) (by kernel_rfl) (fun _ _ _ h => h) (Or.inl ⟨by rfl, ?_⟩) (by assumption) ?_
          rotate_left 1
          · (intro w0 hSw; (try dsimp only at hSw); go_simp; try (with_reducible rfl))
          try simp only [Act.put, List.setIfInBounds_toArray, List.set_cons_succ, List.set_cons_zero]
          refine wpAnyH_done (by kernel_rfl) ?_ _
          go_wp2_with fail
          go_meet
          case rel => exact ⟨gb, mx, c, rfl, rfl, rfl, HGZ.out, HG.out, fun h => ⟨(HOKX.out h).1, (HOKX.out h).2.weak fun _ _ hp => hp.1⟩, HBADX.out, HV.out⟩
        · go_simp
          obtain ⟨V2, hV⟩ : ∃ V', V' = V1.alloc (.cells #[.map none] 28) := ⟨_, rfl⟩
          rw [← hV]
          have hb : Below V1.heap.size V1 V2 := by rw [hV]; exact ((Ext.refl V1).alloc _).below
          obtain ⟨gb, hgb⟩ : ∃ gb, gb = V1.heap.size := ⟨_, rfl⟩
          have HG : Hid (Row V2 gb 28 [.map none]) := by show Row _ _ _ _; rw [hV, hgb]; exact Row.new V1 _ _
          have HGZ : Hid (w6.heap.size ≤ gb) := by show _ ≤ _; rw [hgb]; exact HV.out.size
          have HGW0 : Hid (gb < V2.heap.size) := HG.out.lt
          have HEB := Lib.hid (HEB.out.up hb)
          have HV := Lib.hid (Below.then HV.out hb HV.out.size)
          rw [← hgb]
          clear hb hV hgb
          refine hK.out _ _ (HS18.out V2 HV.out) (fun hHeld => ?_)
          clear hK K
          try simp only [Act.put, List.setIfInBounds_toArray, List.set_cons_succ, List.set_cons_zero]
          refine wpAnyH_ready (rs := [6]) (by kernel_rfl) (by simp) ?_
          refine (AllReadyH.cons rfl (fun K hK => ?_) AllReadyH.nil)
          go_simp
          go_simp
          refine (HAP18.out V2 HV.out eb HEB.out (fun b => (w.heap.size ≤ b ∧ b ≠ g5 ∧ b ≠ g7) ∧ b ≠ gb) (fun b hb hp => ⟨hp, by have := HGZ.out; show b ≠ gb; omega⟩) (fun b hb => ⟨⟨by have := HV.out.size; have := HZ6.out; omega, by have := HV.out.size; have := HZ6.out; omega, by have := HV.out.size; have := HZ6.out; omega⟩, by have := HGW0.out; show b ≠ gb; omega⟩)).mono ?_
          rintro e V3 ⟨mx, c, rfl, hok, hbad, hb⟩
          have HOKX := Lib.hid hok
          have HBADX := Lib.hid hbad
          clear hok hbad
          go_simp
          have HEB := Lib.hid (HEB.out.up hb)
          have HG := Lib.hid (HG.out.up hb)
          have HGW : Hid (gb < V2.heap.size) := by show gb < _; have := HGW0.out; omega
          have HWIN : Hid (WinP V2.heap.size V3 V3) := WinP.refl _ _
          have HV := Lib.hid (Below.then HV.out hb HV.out.size)
          clear hb
          go_wp2_with fail
          refine hK.out _ _ (HS18.out V3 HV.out) (fun hHeld => ?_)
          clear hK K
          try simp only [Act.put, List.setIfInBounds_toArray, List.set_cons_succ, List.set_cons_zero]
          refine takeOp (i := 7) (v := ?_) (some 103) rfl rfl (by kernel_rfl) (by kernel_rfl) (by kernel_rfl) (fun _ _ _ h => h) (Or.inl ⟨by rfl, ?_⟩) (by assumption) ?_
          rotate_left 1
          · (intro w0 hSw; (try dsimp only at hSw); go_simp; try (with_reducible rfl))
          try simp only [Act.put, List.setIfInBounds_toArray, List.set_cons_succ, List.set_cons_zero]
          refine takeOp (i := 8) (v := ?_) (some 111) rfl rfl (by kernel_rfl) (by kernel_rfl) (by kernel_rfl) (fun _ _ _ h => h) (Or.inl ⟨by rfl, ?_⟩) (by assumption) ?_
          rotate_left 1
          · (intro w0 hSw; (try dsimp only at hSw); go_simp; try (with_reducible rfl))
          try simp only [Act.put, List.setIfInBounds_toArray, List.set_cons_succ, List.set_cons_zero]
          refine takeOp (i := 9) (v := ?_) (some 112) rfl rfl (by kernel_rfl) (by kernel_rfl) (by kernel_rfl) (fun _ _ _ h => h) (Or.inl ⟨by rfl, ?_⟩) (by assumption) ?_
          rotate_left 1
          · (intro w0 hSw; (try dsimp only at hSw); go_simp; try (with_reducible rfl))
          try simp only [Act.put, List.setIfInBounds_toArray, List.set_cons_succ, List.set_cons_zero]
          refine takeOp (i := 10) (v := ?_) (some 113) rfl rfl (by kernel_rfl) (by kernel_rfl) (by kernel_rfl) (fun _ _ _ h => h) (Or.inl ⟨by rfl, ?_⟩) (by assumption) ?_
          rotate_left 1
          · (intro w0 hSw; (try dsimp only at hSw); go_simp; try (with_reducible rfl))
          try simp only [Act.put, List.setIfInBounds_toArray, List.set_cons_succ, List.set_cons_zero]
          refine wpAnyH_ready (rs := [12]) (by kernel_rfl) (by simp) ?_
          refine (AllReadyH.cons rfl (fun K hK => ?_) AllReadyH.nil)
          have m0 := HG.out.frozen 0
          have n0 : V3.cell? ⟨gb, 0, none⟩ = some (.map none) := HG.out.cell 0
          have m9 := HG.out.lt
          go_simp
          go_wp2_with fail
          have HGO := HG
          obtain ⟨V4, hV⟩ : ∃ V', V' = (V3.setCell ⟨gb, 0, none⟩ (.map mx)) := ⟨_, rfl⟩
          rw [← hV]
          have HG : Hid (Row V4 gb 28 [.map mx]) := by show Row _ _ _ _; rw [hV]; exact (HG.out.set 0 _)
          have HWIN : Hid (WinP V2.heap.size V3 V4) := by show WinP _ _ _; rw [hV]; exact (HWIN.out.set (Or.inl HGW.out) 0 _)
          have HOKX : Hid (r1.1 = 0 → c = r1.2.2 ∧ DbM (fun b => (w.heap.size ≤ b ∧ b ≠ g5 ∧ b ≠ g7) ∧ b ≠ gb) S V4 (.map mx) r1.2.1) := fun h => ⟨(HOKX.out h).1, by rw [hV]; exact (HOKX.out h).2.keep (Stay.set (fun h => h.2 rfl) 0 _)⟩
          have HV : Hid (Below w6.heap.size w6 V4) := by show Below _ _ _; rw [hV]; exact (HV.out.setCell (by show w6.heap.size ≤ gb; exact HGZ.out) _)
          clear hV m9 HGO m0 n0
          refine hK.out _ _ (HS18.out V4 HV.out) (fun hHeld => ?_)
          clear hK K
          try simp only [Act.put, List.setIfInBounds_toArray, List.set_cons_succ, List.set_cons_zero]
          refine takeOp (i := 13) (v := ?_) (some 16) rfl rfl (by kernel_rfl) (by kernel_rfl) (by kernel_rfl) (fun _ _ _ h => h) (Or.inl ⟨by rfl, ?_⟩) (by assumption) ?_
          rotate_left 1
          · (intro w0 hSw; (try dsimp only at hSw); go_simp; try (with_reducible rfl))
          try simp only [Act.put, List.setIfInBounds_toArray, List.set_cons_succ, List.set_cons_zero]
          refine takeOp (i := 14) (v := ?_) (some 17) rfl rfl (by kernel_rfl) (by kernel_rfl) (by kernel_rfl) (fun _ _ _ h => h) (Or.inl ⟨by rfl, ?_⟩) (by assumption) ?_
          rotate_left 1
          · (intro w0 hSw; (try dsimp only at hSw); go_simp; try (with_reducible rfl))
          try simp only [Act.put, List.setIfInBounds_toArray, List.set_cons_succ, List.set_cons_zero]
          refine wpAnyH_done (by kernel_rfl) ?_ _
          go_wp2_with fail
          go_meet
          case rel => exact ⟨gb, mx, c, rfl, rfl, rfl, HGZ.out, HG.out, fun h => ⟨(HOKX.out h).1, (HOKX.out h).2.weak fun _ _ hp => hp.1⟩, HBADX.out, HV.out⟩
      · go_simp
        obtain ⟨V1, hV⟩ : ∃ V', V' = V0.alloc (.cells #[.map none] 28) := ⟨_, rfl⟩
        rw [← hV]
        have hb : Below V0.heap.size V0 V1 := by rw [hV]; exact ((Ext.refl V0).alloc _).below
        obtain ⟨gb, hgb⟩ : ∃ gb, gb = V0.heap.size := ⟨_, rfl⟩
        have HG : Hid (Row V1 gb 28 [.map none]) := by show Row _ _ _ _; rw [hV, hgb]; exact Row.new V0 _ _
        have HGZ : Hid (w6.heap.size ≤ gb) := by show _ ≤ _; rw [hgb]; exact HV.out.size
        have HGW0 : Hid (gb < V1.heap.size) := HG.out.lt
        have HV := Lib.hid (Below.then HV.out hb HV.out.size)
        rw [← hgb]
        clear hb hV hgb
        refine hK.out _ _ (HS18.out V1 HV.out) (fun hHeld => ?_)
        clear hK K
        try simp only [Act.put, List.setIfInBounds_toArray, List.set_cons_succ, List.set_cons_zero]
        refine wpAnyH_ready (rs := [5]) (by kernel_rfl) (by simp) ?_
        refine (AllReadyH.cons rfl (fun K hK => ?_) AllReadyH.nil)
        go_simp
        obtain ⟨V2, hV⟩ : ∃ V', V' = V1.alloc (.cells #[.bool dl, .string nm, .slice RA x.length RC] 53) := ⟨_, rfl⟩
        rw [← hV]
        have hb : Below V1.heap.size V1 V2 := by rw [hV]; exact ((Ext.refl V1).alloc _).below
        obtain ⟨eb, heb⟩ : ∃ g, g = V1.heap.size := ⟨_, rfl⟩
        rw [← heb]
        have HEB : Hid (Row V2 eb 53 [.bool dl, .string nm, .slice RA x.length RC]) := by show Row _ _ _ _; rw [hV, heb]; exact Row.new V1 _ _
        have HG := Lib.hid (HG.out.up hb)
        have HGW0 : Hid (gb < V2.heap.size) := HG.out.lt
        have HV := Lib.hid (Below.then HV.out hb HV.out.size)
        clear hb hV heb
        refine hK.out _ _ (HS18.out V2 HV.out) (fun hHeld => ?_)
        clear hK K
        try simp only [Act.put, List.setIfInBounds_toArray, List.set_cons_succ, List.set_cons_zero]
        refine wpAnyH_ready (rs := [6]) (by kernel_rfl) (by simp) ?_
        refine (AllReadyH.cons rfl (fun K hK => ?_) AllReadyH.nil)
        go_simp
        go_simp
        refine (HAP18.out V2 HV.out eb HEB.out (fun b => (w.heap.size ≤ b ∧ b ≠ g5 ∧ b ≠ g7) ∧ b ≠ gb) (fun b hb hp => ⟨hp, by have := HGZ.out; show b ≠ gb; omega⟩) (fun b hb => ⟨⟨by have := HV.out.size; have := HZ6.out; omega, by have := HV.out.size; have := HZ6.out; omega, by have := HV.out.size; have := HZ6.out; omega⟩, by have := HGW0.out; show b ≠ gb; omega⟩)).mono ?_
        rintro e V3 ⟨mx, c, rfl, hok, hbad, hb⟩
        have HOKX := Lib.hid hok
        have HBADX := Lib.hid hbad
        clear hok hbad
        go_simp
        have HEB := Lib.hid (HEB.out.up hb)
        have HG := Lib.hid (HG.out.up hb)
        have HGW : Hid (gb < V2.heap.size) := by show gb < _; have := HGW0.out; omega
        have HWIN : Hid (WinP V2.heap.size V3 V3) := WinP.refl _ _
        have HV := Lib.hid (Below.then HV.out hb HV.out.size)
        clear hb
        go_wp2_with fail
        refine hK.out _ _ (HS18.out V3 HV.out) (fun hHeld => ?_)
        clear hK K
        try simp only [Act.put, List.setIfInBounds_toArray, List.set_cons_succ, List.set_cons_zero]
        refine takeOp (i := 7) (v := ?_) (some 103) rfl rfl (by kernel_rfl) (by kernel_rfl) (by kernel_rfl) (fun _ _ _ h => h) (Or.inl ⟨by rfl, ?_⟩) (by assumption) ?_
        rotate_left 1
        · (intro w0 hSw; (try dsimp only at hSw); go_simp; try (with_reducible rfl))
        try simp only [Act.put, List.setIfInBounds_toArray, List.set_cons_succ, List.set_cons_zero]
        refine takeOp (i := 8) (v := ?_) (some 111) rfl rfl (by kernel_rfl) (by kernel_rfl) (by kernel_rfl) (fun _ _ _ h => h) (Or.inl ⟨by rfl, ?_⟩) (by assumption) ?_
        rotate_left 1
        · (intro w0 hSw; (try dsimp only at hSw); go_simp; try (with_reducible rfl))
        try simp only [Act.put, List.setIfInBounds_toArray, List.set_cons_succ, List.set_cons_zero]
        refine takeOp (i := 9) (v := ?_) (some 112) rfl rfl (by kernel_rfl) (by kernel_rfl) (by kernel_rfl) (fun _ _ _ h => h) (Or.inl ⟨by rfl, ?_⟩) (by assumption) ?_
        rotate_left 1
        · (intro w0 hSw; (try dsimp only at hSw); go_simp; try (with_reducible rfl))
        try simp only [Act.put, List.setIfInBounds_toArray, List.set_cons_succ, List.set_cons_zero]
        refine takeOp (i := 10) (v := ?_) (some 113) rfl rfl (by kernel_rfl) (by kernel_rfl) (by kernel_rfl) (fun _ _ _ h => h) (Or.inl ⟨by rfl, ?_⟩) (by assumption) ?_
        rotate_left 1
        · (intro w0 hSw; (try dsimp only at hSw); go_simp; try (with_reducible rfl))
        try simp only [Act.put, List.setIfInBounds_toArray, List.set_cons_succ, List.set_cons_zero]
        refine wpAnyH_ready (rs := [12]) (by kernel_rfl) (by simp) ?_
        refine (AllReadyH.cons rfl (fun K hK => ?_) AllReadyH.nil)
        have m0 := HG.out.frozen 0
        have n0 : V3.cell? ⟨gb, 0, none⟩ = some (.map none) := HG.out.cell 0
        have m9 := HG.out.lt
        go_simp
        go_wp2_with fail
        have HGO := HG
        obtain ⟨V4, hV⟩ : ∃ V', V' = (V3.setCell ⟨gb, 0, none⟩ (.map mx)) := ⟨_, rfl⟩
        rw [← hV]
        have HG : Hid (Row V4 gb 28 [.map mx]) := by show Row _ _ _ _; rw [hV]; exact (HG.out.set 0 _)
        have HWIN : Hid (WinP V2.heap.size V3 V4) := by show WinP _ _ _; rw [hV]; exact (HWIN.out.set (Or.inl HGW.out) 0 _)
        have HOKX : Hid (r1.1 = 0 → c = r1.2.2 ∧ DbM (fun b => (w.heap.size ≤ b ∧ b ≠ g5 ∧ b ≠ g7) ∧ b ≠ gb) S V4 (.map mx) r1.2.1) := fun h => ⟨(HOKX.out h).1, by rw [hV]; exact (HOKX.out h).2.keep (Stay.set (fun h => h.2 rfl) 0 _)⟩
        have HV : Hid (Below w6.heap.size w6 V4) := by show Below _ _ _; rw [hV]; exact (HV.out.setCell (by show w6.heap.size ≤ gb; exact HGZ.out) _)
        clear hV m9 HGO m0 n0
        refine hK.out _ _ (HS18.out V4 HV.out) (fun hHeld => ?_)
        clear hK K
        try simp only [Act.put, List.setIfInBounds_toArray, List.set_cons_succ, List.set_cons_zero]
        refine takeOp (i := 13) (v := ?_) (some 16) rfl rfl (by kernel_rfl) (by kernel_rfl) (by kernel_rfl) (fun _ _ _ h => h) (Or.inl ⟨by rfl, ?_⟩) (by assumption) ?_
        rotate_left 1
        · (intro w0 hSw; (try dsimp only at hSw); go_simp; try (with_reducible rfl))
        try simp only [Act.put, List.setIfInBounds_toArray, List.set_cons_succ, List.set_cons_zero]
        refine takeOp (i := 14) (v := ?_) (some 17) rfl rfl (by kernel_rfl) (by kernel_rfl) (by kernel_rfl) (fun _ _ _ h => h) (Or.inl ⟨by rfl, ?_⟩) (by assumption) ?_
        rotate_left 1
        · (intro w0 hSw; (try dsimp only at hSw); go_simp; try (with_reducible rfl))
        try simp only [Act.put, List.setIfInBounds_toArray, List.set_cons_succ, List.set_cons_zero]
        refine wpAnyH_done (by kernel_rfl) ?_ _
        go_wp2_with fail
        go_meet
        case rel => exact ⟨gb, mx, c, rfl, rfl, rfl, HGZ.out, HG.out, fun h => ⟨(HOKX.out h).1, (HOKX.out h).2.weak fun _ _ hp => hp.1⟩, HBADX.out, HV.out⟩
    case rest =>
    obtain ⟨g15, m15, c15, rfl, rfl, rfl, hg15, hr15, hok15, -, hb7⟩ := hcut
    generalize wc = w7 at *
    have HR15 := Lib.hid hr15
    have HOK15 := Lib.hid hok15
    have HB7 := Lib.hid (HB6.out.trans (hb7.mono HB6.out.size))
    have HBW7 := Lib.hid (HBR.out.trans (HB7.out.mono HBR.out.size))
    have HG15 : Hid (wr.heap.size ≤ g15) := by show _ ≤ _; have := HB6.out.size; omega
    rw [HR11.out]
    have HS19 : Hid (∀ V, Below w7.heap.size w7 V → V.cell? ⟨g5, 0, none⟩ = some (.map (some md)) ∧ V.cell? ⟨g7, 0, none⟩ = some (.slice SA S.length SC) ∧ V.cell? ⟨g7, 1, none⟩ = some (.slice FA l FC) ∧ V.cell? ⟨ub, uo + k * 3, none⟩ = some (.bool dl) ∧ V.cell? ⟨ub, uo + k * 3 + 1, none⟩ = some (.string nm) ∧ V.cell? ⟨ub, uo + k * 3 + 2, none⟩ = some (.slice RA x.length RC)) := fun V hb => by
      have h := HB7.out.trans (hb.mono HB7.out.size)
      exact ⟨cell_below h (HR5.out.cell 0), cell_below h (HR7.out.cell 0), cell_below h (HR7.out.cell 1), HKU.out V (HBR.out.trans (h.mono HBR.out.size))⟩
    have HCK19 : Hid (∀ V, Below w7.heap.size w7 V → Calls Tryz.prog 21 #[.agg #[.map (some md)], .agg #[.bool dl, .string nm, .slice RA x.length RC]] V fun e V' => e = .returned (.int .i64 ck) ∧ Ext V V') := fun V hb => by
      have h := HB7.out.trans (hb.mono HB7.out.size)
      have hbw := HBR.out.trans (h.mono HBR.out.size)
      rw [HCKX.out]
      exact ctCheck_any dl nm RA RC x V (HDB.out.up h) HUK.out.1 (HRX.out V hbw) HUK.out.2.1 HUK.out.2.2
    have HUP19 : Hid (∀ V, Below w7.heap.size w7 V → Calls Tryz.prog 35 #[.agg #[.slice SA S.length SC, .slice FA l FC], .agg #[.bool dl, .string nm, .slice RA x.length RC]] V fun e V' => e = .returned (.int .i64 ck) ∧ Ext V V') := fun V hb => by
      have h := HB7.out.trans (hb.mono HB7.out.size)
      have hbw := HBR.out.trans (h.mono HBR.out.size)
      rw [HCKX.out]
      exact r08Update_any SA SC S (.slice FA l FC) dl nm RA RC x V (HS.out.up hbw) (by have := HL.out; omega) (HRX.out V hbw) HUK.out.2.1 HUK.out.2.2
    have z57 : g5 < w7.heap.size := Nat.lt_of_lt_of_le z56 hb7.size
    have z77 : g7 < w7.heap.size := Nat.lt_of_lt_of_le HZ6.out.2.2 hb7.size
    have zu7 : ub < w7.heap.size := Nat.lt_of_lt_of_le zu6 hb7.size
    have hqq : (ck != ck) = false := by simp
    have hqb : ((ck == 0) != (ck == 0)) = false := by simp
    clear hr15 hok15 hb7 hg15 HAP18 HS18 z56 zu6 HZ6
    go_upto_region 19 with (fail)
    refine wp_region_held_drew (S := (fun V => V.cell? ⟨g5, 0, none⟩ = some (.map (some md)) ∧ V.cell? ⟨g7, 0, none⟩ = some (.slice SA S.length SC) ∧ V.cell? ⟨g7, 1, none⟩ = some (.slice FA l FC) ∧ V.cell? ⟨ub, uo + k * 3, none⟩ = some (.bool dl) ∧ V.cell? ⟨ub, uo + k * 3 + 1, none⟩ = some (.string nm) ∧ V.cell? ⟨ub, uo + k * 3 + 2, none⟩ = some (.slice RA x.length RC))) (by kernel_rfl) (HS19.out w7.drew (Below.refl _ _).drew) (fun hHeld => ?_)
    refine takeOp (i := 0) (v := ?_) (some 114) rfl rfl (by kernel_rfl) (by kernel_rfl) (by kernel_rfl) (fun _ _ _ h => h) (Or.inl ⟨by rfl, ?_⟩) (by assumption) ?_
    rotate_left 1
    · (intro w0 hSw; (try dsimp only at hSw); go_simp; try (with_reducible rfl))
    try simp only [Act.put, List.setIfInBounds_toArray, List.set_cons_succ, List.set_cons_zero]
    refine takeOp (i := 1) (v := ?_) (some 115) rfl rfl (by kernel_rfl) (by kernel_rfl) (by kernel_rfl) (fun _ _ _ h => h) (Or.inl ⟨by rfl, ?_⟩) (by assumption) ?_
    rotate_left 1
    · (intro w0 hSw; (try dsimp only at hSw); go_simp; try (with_reducible rfl))
    try simp only [Act.put, List.setIfInBounds_toArray, List.set_cons_succ, List.set_cons_zero]
    refine takeOp (i := 2) (v := ?_) (some 116) rfl rfl (by kernel_rfl) (by kernel_rfl) (by kernel_rfl) (fun _ _ _ h => h) (Or.inl ⟨by rfl, ?_⟩) (by assumption) ?_
    rotate_left 1
    · (intro w0 hSw; (try dsimp only at hSw); go_simp; try (with_reducible rfl))
    try simp only [Act.put, List.setIfInBounds_toArray, List.set_cons_succ, List.set_cons_zero]
    refine takeOp (i := 3) (v := ?_) (some 117) rfl rfl (by kernel_rfl) (by kernel_rfl) (by kernel_rfl) (fun _ _ _ h => h) (Or.inl ⟨by rfl, ?_⟩) (by assumption) ?_
    rotate_left 1
    · (intro w0 hSw; (try dsimp only at hSw); go_simp; try (with_reducible rfl))
    try simp only [Act.put, List.setIfInBounds_toArray, List.set_cons_succ, List.set_cons_zero]
    refine takeOp (i := 4) (v := ?_) (some 118) rfl rfl (by kernel_rfl) (by kernel_rfl) (by kernel_rfl) (fun _ _ _ h => h) (Or.inl ⟨by rfl, ?_⟩) (by assumption) ?_
    rotate_left 1
    · (intro w0 hSw; (try dsimp only at hSw); go_simp; try (with_reducible rfl))
    try simp only [Act.put, List.setIfInBounds_toArray, List.set_cons_succ, List.set_cons_zero]
    refine takeOp (i := 6) (v := ?_) (some 120) rfl rfl (by kernel_rfl) (by kernel_rfl) (by kernel_rfl) (fun _ _ _ h => h) (Or.inl ⟨by rfl, ?_⟩) (by assumption) ?_
    rotate_left 1
    · (intro w0 hSw; (try dsimp only at hSw); go_simp; try (with_reducible rfl))
    try simp only [Act.put, List.setIfInBounds_toArray, List.set_cons_succ, List.set_cons_zero]
    refine takeOp (i := 7) (v := ?_) (some 121) rfl rfl (by kernel_rfl) (by kernel_rfl) (by kernel_rfl) (fun _ _ _ h => h) (Or.inl ⟨by rfl, ?_⟩) (by assumption) ?_
    rotate_left 1
    · (intro w0 hSw; (try dsimp only at hSw); go_simp; try (with_reducible rfl))
    try simp only [Act.put, List.setIfInBounds_toArray, List.set_cons_succ, List.set_cons_zero]
    refine takeOp (i := 8) (v := ?_) (some 122) rfl rfl (by kernel_rfl) (by kernel_rfl) (by kernel_rfl) (fun _ _ _ h => h) (Or.inl ⟨by rfl, ?_⟩) (by assumption) ?_
    rotate_left 1
    · (intro w0 hSw; (try dsimp only at hSw); go_simp; try (with_reducible rfl))
    try simp only [Act.put, List.setIfInBounds_toArray, List.set_cons_succ, List.set_cons_zero]
    refine takeOp (i := 9) (v := ?_) (some 123) rfl rfl (by kernel_rfl) (by kernel_rfl) (by kernel_rfl) (fun _ _ _ h => h) (Or.inl ⟨by rfl, ?_⟩) (by assumption) ?_
    rotate_left 1
    · (intro w0 hSw; (try dsimp only at hSw); go_simp; try (with_reducible rfl))
    try simp only [Act.put, List.setIfInBounds_toArray, List.set_cons_succ, List.set_cons_zero]
    refine takeOp (i := 10) (v := ?_) (some 124) rfl rfl (by kernel_rfl) (by kernel_rfl) (by kernel_rfl) (fun _ _ _ h => h) (Or.inl ⟨by rfl, ?_⟩) (by assumption) ?_
    rotate_left 1
    · (intro w0 hSw; (try dsimp only at hSw); go_simp; try (with_reducible rfl))
    try simp only [Act.put, List.setIfInBounds_toArray, List.set_cons_succ, List.set_cons_zero]
    refine wpAnyH_ready (rs := [5]) (by kernel_rfl) (by simp) ?_
    refine AllReadyH.cons rfl (fun K hK => ?_) AllReadyH.nil
    go_simp
    refine (HCK19.out w7.drew (Below.refl _ _).drew).mono ?_
    rintro e V1 ⟨rfl, hx1⟩
    have HX1 : Hid (Ext w7 V1) := (Ext.refl w7).drew.trans hx1
    clear hx1
    go_wp2_with fail
    refine hK.out _ _ (HS19.out V1 HX1.out.below) (fun hHeld => ?_)
    clear hK K
    try simp only [Act.put, List.setIfInBounds_toArray, List.set_cons_succ, List.set_cons_zero]
    refine wpAnyH_ready (rs := [11]) (by kernel_rfl) (by simp) ?_
    refine AllReadyH.cons rfl (fun K hK => ?_) AllReadyH.nil
    go_simp
    refine (HUP19.out V1 HX1.out.below).mono ?_
    rintro e V2 ⟨rfl, hx2⟩
    have HX2 : Hid (Ext w7 V2) := HX1.out.trans hx2
    clear hx2
    go_wp2_with fail
    refine hK.out _ _ (HS19.out V2 HX2.out.below) (fun hHeld => ?_)
    clear hK K
    try simp only [Act.put, List.setIfInBounds_toArray, List.set_cons_succ, List.set_cons_zero]
    refine takeOp (i := 12) (v := ?_) (some 126) rfl rfl (by kernel_rfl) (by kernel_rfl) (by kernel_rfl) (fun _ _ _ h => h) (Or.inl ⟨by rfl, ?_⟩) (by assumption) ?_
    rotate_left 1
    · (intro w0 hSw; (try dsimp only at hSw); go_simp; try (with_reducible rfl))
    try simp only [Act.put, List.setIfInBounds_toArray, List.set_cons_succ, List.set_cons_zero]
    refine takeOp (i := 13) (v := ?_) (some 127) rfl rfl (by kernel_rfl) (by kernel_rfl) (by kernel_rfl) (fun _ _ _ h => h) (Or.inl ⟨by rfl, ?_⟩) (by assumption) ?_
    rotate_left 1
    · (intro w0 hSw; (try dsimp only at hSw); go_simp; try (with_reducible rfl))
    try simp only [Act.put, List.setIfInBounds_toArray, List.set_cons_succ, List.set_cons_zero]
    refine takeOp (i := 14) (v := ?_) (some 128) rfl rfl (by kernel_rfl) (by kernel_rfl) (by kernel_rfl) (fun _ _ _ h => h) (Or.inl ⟨by rfl, ?_⟩) (by assumption) ?_
    rotate_left 1
    · (intro w0 hSw; (try dsimp only at hSw); go_simp; try (with_reducible rfl))
    try simp only [Act.put, List.setIfInBounds_toArray, List.set_cons_succ, List.set_cons_zero]
    refine takeOp (i := 15) (v := ?_) (some 129) rfl rfl (by kernel_rfl) (by kernel_rfl) (by kernel_rfl) (fun _ _ _ h => h) (Or.inl ⟨by rfl, ?_⟩) (by assumption) ?_
    rotate_left 1
    · (intro w0 hSw; (try dsimp only at hSw); go_simp; try (with_reducible rfl))
    try simp only [Act.put, List.setIfInBounds_toArray, List.set_cons_succ, List.set_cons_zero]
    refine takeOp (i := 16) (v := ?_) (some 130) rfl rfl (by kernel_rfl) (by kernel_rfl) (by kernel_rfl) (fun _ _ _ h => h) (Or.inl ⟨by rfl, ?_⟩) (by assumption) ?_
    rotate_left 1
    · (intro w0 hSw; (try dsimp only at hSw); go_simp; try (with_reducible rfl))
    try simp only [Act.put, List.setIfInBounds_toArray, List.set_cons_succ, List.set_cons_zero]
    refine takeOp (i := 17) (v := ?_) (some 131) rfl rfl (by kernel_rfl) (by kernel_rfl) (by kernel_rfl) (fun _ _ _ h => h) (Or.inl ⟨by rfl, ?_⟩) (by assumption) ?_
    rotate_left 1
    · (intro w0 hSw; (try dsimp only at hSw); go_simp; try (with_reducible rfl))
    try simp only [Act.put, List.setIfInBounds_toArray, List.set_cons_succ, List.set_cons_zero]
    refine takeOp (i := 18) (v := ?_) (some 132) rfl rfl (by kernel_rfl) (by kernel_rfl) (by kernel_rfl) (fun _ _ _ h => h) (Or.inl ⟨by rfl, ?_⟩) (by assumption) ?_
    rotate_left 1
    · (intro w0 hSw; (try dsimp only at hSw); go_simp; try (with_reducible rfl))
    try simp only [Act.put, List.setIfInBounds_toArray, List.set_cons_succ, List.set_cons_zero]
    refine takeOp (i := 19) (v := ?_) (some 133) rfl rfl (by kernel_rfl) (by kernel_rfl) (by kernel_rfl) (fun _ _ _ h => h) (Or.inl ⟨by rfl, ?_⟩) (by assumption) ?_
    rotate_left 1
    · (intro w0 hSw; (try dsimp only at hSw); go_simp; try (with_reducible rfl))
    try simp only [Act.put, List.setIfInBounds_toArray, List.set_cons_succ, List.set_cons_zero]
    refine takeOp (i := 20) (v := ?_) (some 134) rfl rfl (by kernel_rfl) (by kernel_rfl) (by kernel_rfl) (fun _ _ _ h => h) (Or.inl ⟨by rfl, ?_⟩) (by assumption) ?_
    rotate_left 1
    · (intro w0 hSw; (try dsimp only at hSw); go_simp; try (with_reducible rfl))
    try simp only [Act.put, List.setIfInBounds_toArray, List.set_cons_succ, List.set_cons_zero]
    refine wpAnyH_ready (rs := [21]) (by kernel_rfl) (by simp) ?_
    refine AllReadyH.cons rfl (fun K hK => ?_) AllReadyH.nil
    go_simp
    refine (HUP19.out V2 HX2.out.below).mono ?_
    rintro e V3 ⟨rfl, hx3⟩
    have HX3 : Hid (Ext w7 V3) := HX2.out.trans hx3
    clear hx3
    go_wp2_with fail
    refine hK.out _ _ (HS19.out V3 HX3.out.below) (fun hHeld => ?_)
    clear hK K
    try simp only [Act.put, List.setIfInBounds_toArray, List.set_cons_succ, List.set_cons_zero]
    refine takeOp (i := 22) (v := ?_) (some 136) rfl rfl (by kernel_rfl) (by kernel_rfl) (by kernel_rfl) (fun _ _ _ h => h) (Or.inl ⟨by rfl, ?_⟩) (by assumption) ?_
    rotate_left 1
    · (intro w0 hSw; (try dsimp only at hSw); go_simp; try (with_reducible rfl))
    try simp only [Act.put, List.setIfInBounds_toArray, List.set_cons_succ, List.set_cons_zero]
    refine takeOp (i := 23) (v := ?_) (some 137) rfl rfl (by kernel_rfl) (by kernel_rfl) (by kernel_rfl) (fun _ _ _ h => h) (Or.inl ⟨by rfl, ?_⟩) (by assumption) ?_
    rotate_left 1
    · (intro w0 hSw; (try dsimp only at hSw); go_simp; try (with_reducible rfl))
    try simp only [Act.put, List.setIfInBounds_toArray, List.set_cons_succ, List.set_cons_zero]
    refine takeOp (i := 24) (v := ?_) (some 138) rfl rfl (by kernel_rfl) (by kernel_rfl) (by kernel_rfl) (fun _ _ _ h => h) (Or.inl ⟨by rfl, ?_⟩) (by assumption) ?_
    rotate_left 1
    · (intro w0 hSw; (try dsimp only at hSw); go_simp; try (with_reducible rfl))
    try simp only [Act.put, List.setIfInBounds_toArray, List.set_cons_succ, List.set_cons_zero]
    refine wpAnyH_done (by kernel_rfl) ?_ _
    have HB8 := Lib.hid (HB7.out.trans (HX3.out.below.mono HB7.out.size))
    have HBW8 := Lib.hid (HBR.out.trans (HB8.out.mono HBR.out.size))
    have hw1 : IntKind.i64.wrap ((k : Int) + 1) = ((k + 1 : Nat) : Int) := by rw [IntWalk.i64_in _ (by have := HKL.out; have := HL.out; omega)]; omega
    have HR58 := Lib.hid (HR5.out.up HB8.out)
    have HR78 := Lib.hid (HR7.out.up HB8.out)
    have HR158 := Lib.hid (HR15.out.up HX3.out.below)
    have HD8 := Lib.hid (HDB.out.up HB8.out)
    have HO8 := Lib.hid (own_keep HOWN.out HB8.out)
    clear hqq hqb HS19 HCK19 HUP19 z57 z77 zu7
    by_cases hz : ck = 0
    rotate_left
    · have hne : (ck == 0) = false := by simpa using hz
      have HM3 : Hid (madeF S (us.take (k + 1)) = madeF S (us.take k)) := by show _ = _; rw [HMS.out, if_neg hz]
      clear hz
      go_wp2_with fail
      go_roundw
      case rel => exact ⟨k + 1, md, l, FA, FC, cs, HKL.out, by go_num, HR58.out, HR78.out, by rw [HM3.out, HFF.out.2]; exact HL1.out, by rw [HM3.out, HFF.out.1]; exact HD8.out, by rw [HM3.out, HFF.out.2]; exact HCS.out, HO8.out, HBW8.out⟩
      case measure => have := HKL.out; simp [intOf]; omega
    have heq : (ck == 0) = true := by simpa using hz
    have HM3 : Hid (madeF S (us.take (k + 1)) = (r1.2.1, (refU Fs ⟨dl, nm, x⟩).1)) := by show _ = _; rw [HMS.out, if_pos hz]
    obtain ⟨-, hd15⟩ := HOK15.out (HR11.out.trans hz)
    obtain ⟨n15, hn15⟩ := hd15.form
    injection hn15 with hn15
    subst hn15
    have HD15 := Lib.hid (hd15.up HX3.out.below)
    have HRA : Hid (refA S Fs 0 [⟨dl, nm, x⟩] = (0, (refU Fs ⟨dl, nm, x⟩).1, 0 + if (refU Fs ⟨dl, nm, x⟩).2 = true then 1 else 0)) := refA_one S Fs ⟨dl, nm, x⟩ (by show checkF S nm x = 0; rw [← HCKX.out]; exact hz)
    have e0 : V3.cell? ⟨g15, 0, none⟩ = some (.map (some n15)) := HR158.out.cell 0
    have e1 := HR158.out.lt
    have e2 := HR58.out.frozen 0
    have e3 := HR58.out.lt
    have e4 : V3.cell? ⟨g5, 0, none⟩ = some (.map (some md)) := HR58.out.cell 0
    clear hd15 hz
    go_upto_region 23 with (fail)
    obtain ⟨w9, hw9⟩ : ∃ V, V = V3.setCell ⟨g5, 0, none⟩ (.map (some n15)) := ⟨_, rfl⟩
    rw [← hw9]
    have hne75 : g7 ≠ g5 := by have := HGZ.out; omega
    have HO9 : Hid (w9.ownsRow w.heap.size 85 2 (.slice FA l FC) l cs) := by show World.ownsRow _ _ _ _ _ _ _; rw [hw9]; exact own_far HO8.out (own_ne_rowF HO8.out HR58.out (by decide)) _
    have HR59 : Hid (Row w9 g5 28 [.map (some n15)]) := by show Row _ _ _ _; rw [hw9]; exact HR58.out.set 0 _
    have HR79 : Hid (Row w9 g7 31 [.slice SA S.length SC, .slice FA l FC]) := by show Row _ _ _ _; rw [hw9]; exact HR78.out.far (p := ⟨g5, 0, none⟩) hne75 _
    have HD9 : Hid (DbM (fun b => w.heap.size ≤ b ∧ b ≠ g5 ∧ b ≠ g7) S w9 (.map (some n15)) r1.2.1) := by show DbM _ _ _ _ _; rw [hw9]; exact HD15.out.keep (Stay.set (fun hp => hp.2.1 rfl) 0 _)
    have HBW9 : Hid (Below w.heap.size w w9) := by show Below _ _ _; rw [hw9]; exact HBW8.out.setCell (p := ⟨g5, 0, none⟩) (by show w.heap.size ≤ g5; exact HGZ.out.1) _
    obtain ⟨Fs1, hFs1⟩ : ∃ F, F = (refU Fs ⟨dl, nm, x⟩).1 := ⟨_, rfl⟩
    rw [← hFs1] at HM3 HRA
    obtain ⟨l1, hl1⟩ : ∃ l, l = Fs1.length := ⟨_, rfl⟩
    have HL11 := Lib.hid hl1
    clear hw9 e0 e1 e2 e3 e4 hne75 hFs1 hl1
    have HREF : Hid (∀ V, Below w9.heap.size w9 V → Calls Tryz.prog 33 #[.agg #[.slice SA S.length SC, .slice FA l FC], .slice (some ⟨ub, uo + k * 3, none⟩) 1 (C - k)] V fun e V' => ∃ (A1 : Option Addr) (C1 m1 : Nat) (cs1 : List Value), e = .returned (.tuple #[.agg #[.slice SA S.length SC, .slice A1 l1 C1], .int .i64 (m1 : Nat), .int .i64 0]) ∧ FctCs w.heap.size w Fs1 cs1 ∧ V'.ownsRow w.heap.size 85 2 (.slice A1 l1 C1) l1 cs1 ∧ Below V.heap.size V V') := fun V hb => by
      have hbw := HBW9.out.trans (hb.mono HBW9.out.size)
      have hsl : Sl V.heap.size V FA cs := by
        obtain ⟨A', C', e', _, h3⟩ := Sl.of_own_n (own_keep HO9.out hb)
        injection e' with e1 e2 e3
        subst e1
        exact h3
      have hap := r08Apply_any w.heap.size cs SA SC S FA FC Fs (some ⟨ub, uo + k * 3, none⟩) (C - k) [⟨dl, nm, x⟩] V (HS.out.up hbw) (by have := HL.out; omega) (hbw.size) (HCS.out.lift hbw (Nat.le_refl _)) hsl (by have := HFL.out; omega) (fun f hf => by have := HFRW.out f hf; omega) (HUU.out.below hbw (Nat.le_refl _)) (by simp) (fun u hu => by rw [List.mem_singleton.1 hu]; exact HUK.out.2)
      rw [← HL1.out] at hap
      refine hap.mono ?_
      rintro e V' ⟨-, h2, h3⟩
      rw [HRA.out] at h2
      obtain ⟨A1, C1, cs1, he, hc, ho⟩ := h2 rfl
      rw [← HL11.out] at he ho
      exact ⟨A1, C1, _, cs1, he, hc.back hbw, own_weaken ho hbw.size, h3⟩
    have c70 : w9.cell? ⟨g7, 0, none⟩ = some (.slice SA S.length SC) := HR79.out.cell 0
    have c71 : w9.cell? ⟨g7, 1, none⟩ = some (.slice FA l FC) := HR79.out.cell 1
    have z7 := HR79.out.lt
    have q1 : (0 : Int) ≤ (k : Int) + 1 := by omega
    have q2 : (k : Int) + 1 ≤ (C : Int) := by have := HKL.out; omega
    have q3 : ¬ C = k := by have := HKL.out; omega
    refine regionS (S := (fun w' => w'.cell? ⟨g7, 0, none⟩ = some (.slice SA S.length SC) ∧ w'.cell? ⟨g7, 1, none⟩ = some (.slice FA l FC))) [11] (by kernel_rfl) ⟨c70, c71⟩ (fun hHeld => ?_)
    refine takeS (i := 0) (v := ?_) (some 143) rfl rfl (by kernel_rfl) (by decide) (by kernel_rfl) (by kernel_rfl) (by kernel_rfl) (by kernel_rfl) (fun _ _ _ h => h) (Or.inl ⟨by rfl, ?_⟩) (by assumption) ?_
    rotate_left 1
    · (intro w0 hSw; (try dsimp only at hSw); go_simp; try (with_reducible rfl))
    try simp only [Act.put, List.setIfInBounds_toArray, List.set_cons_succ, List.set_cons_zero]
    refine takeS (i := 1) (v := ?_) (some 144) rfl rfl (by kernel_rfl) (by decide) (by kernel_rfl) (by kernel_rfl) (by kernel_rfl) (by kernel_rfl) (fun _ _ _ h => h) (Or.inl ⟨by rfl, ?_⟩) (by assumption) ?_
    rotate_left 1
    · (intro w0 hSw; (try dsimp only at hSw); go_simp; try (with_reducible rfl))
    try simp only [Act.put, List.setIfInBounds_toArray, List.set_cons_succ, List.set_cons_zero]
    refine takeS (i := 2) (v := ?_) (some 145) rfl rfl (by kernel_rfl) (by decide) (by kernel_rfl) (by kernel_rfl) (by kernel_rfl) (by kernel_rfl) (fun _ _ _ h => h) (Or.inl ⟨by rfl, ?_⟩) (by assumption) ?_
    rotate_left 1
    · (intro w0 hSw; (try dsimp only at hSw); go_simp; try (with_reducible rfl))
    try simp only [Act.put, List.setIfInBounds_toArray, List.set_cons_succ, List.set_cons_zero]
    refine takeS (i := 3) (v := ?_) (some 146) rfl rfl (by kernel_rfl) (by decide) (by kernel_rfl) (by kernel_rfl) (by kernel_rfl) (by kernel_rfl) (fun _ _ _ h => h) (Or.inl ⟨by rfl, ?_⟩) (by assumption) ?_
    rotate_left 1
    · (intro w0 hSw; (try dsimp only at hSw); go_simp; try (with_reducible rfl))
    try simp only [Act.put, List.setIfInBounds_toArray, List.set_cons_succ, List.set_cons_zero]
    refine takeS (i := 4) (v := ?_) (some 147) rfl rfl (by kernel_rfl) (by decide) (by kernel_rfl) (by kernel_rfl) (by kernel_rfl) (by kernel_rfl) (fun _ _ _ h => h) (Or.inl ⟨by rfl, ?_⟩) (by assumption) ?_
    rotate_left 1
    · (intro w0 hSw; (try dsimp only at hSw); go_simp; try (with_reducible rfl))
    try simp only [Act.put, List.setIfInBounds_toArray, List.set_cons_succ, List.set_cons_zero]
    refine takeS (i := 5) (v := ?_) (some 148) rfl rfl (by kernel_rfl) (by decide) (by kernel_rfl) (by kernel_rfl) (by kernel_rfl) (by kernel_rfl) (fun _ _ _ h => h) (Or.inl ⟨by rfl, ?_⟩) (by assumption) ?_
    rotate_left 1
    · (intro w0 hSw; (try dsimp only at hSw); go_simp; try (with_reducible rfl))
    try simp only [Act.put, List.setIfInBounds_toArray, List.set_cons_succ, List.set_cons_zero]
    refine oneS (i := 6) (by kernel_rfl) rfl (fun K hK => ?_)
    go_simp
    refine (HREF.out w9.drew (Below.refl _ _).drew).mono ?_
    rintro e V ⟨A1, C1, m1, cs1, rfl, hc1, ho1, hbV⟩
    have hbV : Below w9.heap.size w9 V := Below.undrew hbV
    have HBV := Lib.hid hbV
    have HC1 := Lib.hid hc1
    have HO1 := Lib.hid ho1
    have HR7V := Lib.hid (HR79.out.up hbV)
    have HKK : Hid (V.cell? ⟨g7, 0, none⟩ = some (.slice SA S.length SC) ∧ V.cell? ⟨g7, 1, none⟩ = some (.slice FA l FC)) := ⟨HR7V.out.cell 0, HR7V.out.cell 1⟩
    have m0 := HR7V.out.frozen 0
    have m1 := HR7V.out.frozen 1
    have m2 := HR7V.out.lt
    have m3 : V.cell? ⟨g7, 0, none⟩ = some (.slice SA S.length SC) := HR7V.out.cell 0
    have m4 : V.cell? ⟨g7, 1, none⟩ = some (.slice FA l FC) := HR7V.out.cell 1
    clear hc1 ho1 hbV
    go_wp2_with fail
    refine hK.out _ _ HKK.out (fun hHeld => ?_)
    clear hK K
    try simp only [Act.put, List.setIfInBounds_toArray, List.set_cons_succ, List.set_cons_zero]
    refine takeS (i := 7) (v := ?_) (some 142) rfl rfl (by kernel_rfl) (by decide) (by kernel_rfl) (by kernel_rfl) (by kernel_rfl) (by kernel_rfl) (fun _ _ _ h => h) (Or.inl ⟨by rfl, ?_⟩) (by assumption) ?_
    rotate_left 1
    · (intro w0 hSw; (try dsimp only at hSw); go_simp; try (with_reducible rfl))
    try simp only [Act.put, List.setIfInBounds_toArray, List.set_cons_succ, List.set_cons_zero]
    refine takeS (i := 8) (v := ?_) (some 150) rfl rfl (by kernel_rfl) (by decide) (by kernel_rfl) (by kernel_rfl) (by kernel_rfl) (by kernel_rfl) (fun _ _ _ h => h) (Or.inl ⟨by rfl, ?_⟩) (by assumption) ?_
    rotate_left 1
    · (intro w0 hSw; (try dsimp only at hSw); go_simp; try (with_reducible rfl))
    try simp only [Act.put, List.setIfInBounds_toArray, List.set_cons_succ, List.set_cons_zero]
    refine takeFree (i := 9) (v := ?_) (some 151) rfl rfl (by kernel_rfl) (by kernel_rfl) (by kernel_rfl) (fun _ _ _ h => h) (Or.inl ⟨by rfl, ?_⟩) ?_
    rotate_left 1
    · (intro w0 hSw; (try dsimp only at hSw); go_simp; try (with_reducible rfl))
    try simp only [Act.put, List.setIfInBounds_toArray, List.set_cons_succ, List.set_cons_zero]
    refine takeFree (i := 10) (v := ?_) (some 152) rfl rfl (by kernel_rfl) (by kernel_rfl) (by kernel_rfl) (fun _ _ _ h => h) (Or.inl ⟨by rfl, ?_⟩) ?_
    rotate_left 1
    · (intro w0 hSw; (try dsimp only at hSw); go_simp; try (with_reducible rfl))
    try simp only [Act.put, List.setIfInBounds_toArray, List.set_cons_succ, List.set_cons_zero]
    refine oneL (i := 11) (by kernel_rfl) rfl (by decide) (fun K hK => ?_)
    go_simp
    go_wp2_with fail
    refine hK.out _ _ ?_
    clear hK K
    try simp only [Act.put, List.setIfInBounds_toArray, List.set_cons_succ, List.set_cons_zero]
    refine doneS (by kernel_rfl) ?_ _
    go_wp2_with fail
    obtain ⟨wZ, hwZ⟩ : ∃ W, W = (V.setCell ⟨g7, 0, none⟩ (.slice SA S.length SC)).setCell ⟨g7, 1, none⟩ (.slice A1 l1 C1) := ⟨_, rfl⟩
    rw [← hwZ]
    have hne57 : g5 ≠ g7 := by have := HGZ.out; omega
    have HR5Z : Hid (Row wZ g5 28 [.map (some n15)]) := by show Row _ _ _ _; rw [hwZ]; exact ((HR59.out.up HBV.out).far (p := ⟨g7, 0, none⟩) hne57 _).far (p := ⟨g7, 1, none⟩) hne57 _
    have HR7Z : Hid (Row wZ g7 31 [.slice SA S.length SC, .slice A1 l1 C1]) := by show Row _ _ _ _; rw [hwZ]; exact (HR7V.out.set 0 _).set 1 _
    have HDZ : Hid (DbM (fun b => w.heap.size ≤ b ∧ b ≠ g5 ∧ b ≠ g7) S wZ (.map (some n15)) r1.2.1) := by show DbM _ _ _ _ _; rw [hwZ]; exact ((HD9.out.up HBV.out).keep (Stay.set (fun hp => hp.2.2 rfl) 0 _)).keep (Stay.set (fun hp => hp.2.2 rfl) 1 _)
    have HOZ : Hid (wZ.ownsRow w.heap.size 85 2 (.slice A1 l1 C1) l1 cs1) := by show World.ownsRow _ _ _ _ _ _ _; rw [hwZ]; exact own_far (own_far HO1.out (own_ne_rowF HO1.out HR7V.out (by decide)) _) (own_ne_rowF HO1.out HR7V.out (by decide)) _
    have HBZ : Hid (Below w.heap.size w wZ) := by show Below _ _ _; rw [hwZ]; exact ((HBW9.out.trans (HBV.out.mono HBW9.out.size)).setCell (p := ⟨g7, 0, none⟩) (by show w.heap.size ≤ g7; have := HGZ.out; omega) _).setCell (p := ⟨g7, 1, none⟩) (by show w.heap.size ≤ g7; have := HGZ.out; omega) _
    clear hwZ hne57
    go_roundw
    case rel => exact ⟨k + 1, n15, l1, A1, C1, cs1, HKL.out, by go_num, HR5Z.out, HR7Z.out, by rw [HM3.out]; exact HL11.out, by rw [HM3.out]; exact HDZ.out, by rw [HM3.out]; exact HC1.out, HOZ.out, HBZ.out⟩
    case measure => have := HKL.out; simp [intOf]; omega
end
end Go.Proofs.YtdadchpiibipoaaGreatDoor

/- Walk: the law CatalogForms. -/
import Derived.Test.YtdadchpiibipoaaGreatDoorHC56
namespace Go.Proofs.YtdadchpiibipoaaGreatDoor
open Go.RowKit Go.Sort Go.ChangeMaps Go.WideShapes

theorem strApp (a b : ByteArray) : (a ++ b).data.toList = a.data.toList ++ b.data.toList := by simp [ByteArray.data_append]
theorem kindsOf_F (S : Sch) (nm : ByteArray) : kindsOf S nm = kindsF S nm := by
  unfold kindsOf kindsF
  cases S.find? (fun p => decide (p.1 = nm)) <;> rfl
set_option maxHeartbeats 16000000 in
set_option maxRecDepth 100000 in
theorem l08Forms_any (SA : Option Addr) (SC : Nat) (S : Sch) (A : Option Addr) (C : Nat) (us : List Upd) (w : World) (hS : SchsM w.heap.size w SA S) (hSo : SchsOk S) (hSl : S.length ≤ 9223372036854775807)
    (hU : UpdsM w.heap.size w A us) (hUo : ∀ u ∈ us, u.rel.size ≤ 9223372036854775807 ∧ u.row.length ≤ 9223372036854775807 ∧ ∀ v ∈ u.row, VFit v) (hUl : us.length ≤ C) (hUc : C ≤ 9223372036854775807) (hT : Tabs w) :
    Calls Tryz.prog 3 #[.slice SA S.length SC, .slice A us.length C] w fun e w' => e = .returned (.bool true) ∧ Below w.heap.size w w' := by
  have HAW := Lib.hid (l08awake_any w hT)
  have HFW := Lib.hid (fun (w1 : World) (hb : Below w.heap.size w w1) => l08Few_any SA SC S.length A C us w1 (hU.up hb) (by omega) fun u hu => ⟨(hUo u hu).1, (hUo u hu).2.1⟩)
  have HS := Lib.hid hS
  have HSO := Lib.hid hSo
  have HU := Lib.hid hU
  have HUO := Lib.hid hUo
  have HSL := Lib.hid hSl
  have HTB := Lib.hid (fun (V : World) (hb : Below w.heap.size w V) => hT.up hb)
  clear hS hSo hU hUo hT hSl
  go_enter Tryz.func3, Tryz.ntmps3
  go_wp2_with fail
  refine HAW.out.mono ?_
  rintro e w1 ⟨rfl, hb1⟩
  have HB1 := Lib.hid hb1
  clear hb1 HAW
  go_wp2_with fail
  refine (HFW.out w1 HB1.out).mono ?_
  rintro e w2 ⟨rfl, hx2⟩
  have HB2 := Lib.hid (HB1.out.trans (hx2.below.mono HB1.out.size))
  clear hx2
  cases hfew : (decide (S.length ≤ 20) && fewB us) with
  | false =>
    clear hfew
    go_wp2_with fail
    go_ret
    exact ⟨rfl, HB2.out⟩
  | true =>
  rw [Bool.and_eq_true, decide_eq_true_eq, fewB_iff] at hfew
  obtain ⟨hs20, hu60, hfit⟩ := hfew
  have HFIT := Lib.hid hfit
  have HL : Hid (S.length ≤ 20 ∧ us.length ≤ 60) := ⟨hs20, hu60⟩
  have HUO2 : Hid (∀ u ∈ us, UpdOk u) := fun u hu => ⟨(HUO.out u hu).1, by have := (HFIT.out u hu).1; omega, fun v hv => ((HUO.out u hu).2.2 v hv).2.2⟩
  have HMD := Lib.hid (l08made_any SA SC S A C us w2 (HS.out.up HB2.out) HSO.out (by omega) (HU.out.up HB2.out) HUO2.out (by omega) hUl)
  clear hfit hs20 hu60 HB1 HFW
  go_wp2_with fail
  refine HMD.out.mono ?_
  rintro e w3 ⟨hbad, hok, hb3⟩
  have HB3 := Lib.hid (HB2.out.trans (hb3.mono HB2.out.size))
  by_cases he : errS S = 0
  rotate_left
  · obtain rfl := hbad he
    have HBA : Hid (∀ V, Ext w3 V → Below w.heap.size w V) := fun V hv => HB3.out.trans (hv.below.mono HB3.out.size)
    have HX4 : Hid (Ext w3 ((w3.alloc (.cells #[.map none] 28)).alloc (.cells #[.slice SA S.length SC, .slice none 0 0] 31))) := ((Ext.refl w3).alloc _).alloc _
    clear hbad hok hb3 he HMD
    go_wp2_with fail
    go_ret
    exact ⟨rfl, HBA.out _ HX4.out⟩
  obtain ⟨bd, FA, FC, cs, rfl, hdb, hfc, hof⟩ := hok he
  have HND : Hid (S.map Prod.fst).Nodup := (errS_mem he).2.1
  have HMEM := Lib.hid (errS_mem he).2.2
  have HL16 : Hid (S.length ≤ 16) := (errS_mem he).1
  have hrel := (made_rel S us (by have := HL.out; omega))
  have HNMS := made_names S us
  have hrows := made_rows S 20 us (fun u hu => (HFIT.out u hu).1)
  have hvals := made_vals S VFit us (fun u hu => (HUO.out u hu).2.2)
  have hcok := made_contOk S us
  obtain ⟨F, hF⟩ : ∃ F, F = (madeF S us).1 := ⟨_, rfl⟩
  obtain ⟨Fs, hFs⟩ : ∃ F, F = (madeF S us).2 := ⟨_, rfl⟩
  rw [← hF, ← hFs] at hrel
  rw [← hFs] at hfc hof hrows hvals ⊢
  rw [← hF] at hdb hcok
  have HREL : Hid (RelF F Fs) := hrel.1
  have HFL : Hid (Fs.length ≤ 60) := Nat.le_trans hrel.2 HL.out.2
  have HFR : Hid (∀ f ∈ Fs, f.2.length ≤ 1000000) := fun f hf => by have := hrows f hf; omega
  have HVL := Lib.hid hvals
  have HFT := Lib.hid (made_fit he hcok HREL.out hvals)
  have HDB := Lib.hid hdb
  have HFC := Lib.hid hfc
  have HOF := Lib.hid hof
  clear hbad hok HMD hrel hrows hvals hcok hdb hfc hof he HNMS hFs hF
  go_upto_region 6 with (fail)
  obtain ⟨g5, hg5⟩ : ∃ g, g = w3.heap.size := ⟨_, rfl⟩
  obtain ⟨g6, hg6⟩ : ∃ g, g = w3.heap.size + 1 := ⟨_, rfl⟩
  obtain ⟨W4, hW4⟩ : ∃ W, W = (w3.alloc (.cells #[.map (some bd)] 28)).alloc (.cells #[.slice SA S.length SC, .slice FA Fs.length FC] 31) := ⟨_, rfl⟩
  have hb4 : Below w3.heap.size w3 W4 := by rw [hW4]; exact (((Ext.refl w3).alloc _).alloc _).below
  have HR5 : Hid (Row W4 g5 28 [.map (some bd)]) := by show Row _ _ _ _; rw [hW4, hg5]; exact (Row.new w3 28 _).alloc _
  have HR6 : Hid (Row W4 g6 31 [.slice SA S.length SC, .slice FA Fs.length FC]) := by
    have h := Row.new (w3.alloc (.cells #[.map (some bd)] 28)) 31 [.slice SA S.length SC, .slice FA Fs.length FC]
    rw [World.size_alloc] at h
    show Row _ _ _ _
    rw [hW4, hg6]; exact h
  have HD4 := Lib.hid (HDB.out.up hb4)
  have HB4 := Lib.hid (HB3.out.trans (hb4.mono HB3.out.size))
  have HFM4 : Hid (FactsM W4.heap.size W4 FA Fs) := by
    obtain ⟨A', C', e', _, h3⟩ := Sl.of_own_n (own_keep HOF.out hb4)
    injection e' with e1 e2 e3
    subst e1
    exact FactsM.of_cs (HFC.out.up (hb3.trans (hb4.mono hb3.size))) h3
  rw [← hW4, ← hg6, ← hg5]
  clear hW4 hg5 hg6 hb4 hb3 HDB HFC HOF
  have HNM := Lib.hid (r08Names_any SA SC S (.slice FA Fs.length FC) W4 (HS.out.up HB4.out) (by have := HL.out; omega) HND.out)
  have c60 : W4.cell? ⟨g6, 0, none⟩ = some (.slice SA S.length SC) := HR6.out.cell 0
  have c61 : W4.cell? ⟨g6, 1, none⟩ = some (.slice FA Fs.length FC) := HR6.out.cell 1
  have z6 := HR6.out.lt
  go_wp2_with fail
  refine HNM.out.mono ?_
  rintro e w5 ⟨NA, NC, ns, rfl, hns, hsl, hb5⟩
  have HNS := Lib.hid hns
  have HSLN := Lib.hid hsl
  have HB45 := Lib.hid hb5
  have HB5 := Lib.hid (HB4.out.trans (hb5.mono HB4.out.size))
  have hnl : ns.length ≤ 20 := by have h := hns.1.length_eq; rw [List.length_map] at h; have := HL.out; omega
  have HKP5 : Hid (∀ V, Below w5.heap.size w5 V → V.cell? ⟨g6, 0, none⟩ = some (.slice SA S.length SC) ∧ V.cell? ⟨g6, 1, none⟩ = some (.slice FA Fs.length FC)) := fun V hb => by
    have h := HR6.out.up (HB45.out.trans (hb.mono HB45.out.size))
    exact ⟨h.cell 0, h.cell 1⟩
  have z65 : g6 < w5.heap.size := Nat.lt_of_lt_of_le z6 hb5.size
  clear hns hsl hb5 c60 c61 z6 HNM
  go_wp2_with fail
  go_loopw [8, 10] (fun v c wx => ∃ (i : Nat) (s : ByteArray), i ≤ ns.length ∧ c = .int .i64 i ∧ v = .string s ∧ s.data.toList = textD S F (ns.take i) ∧ Below w5.heap.size w5 wx) (fun _ c _ => ns.length - (intOf c).toNat)
  case atStart => exact ⟨0, ⟨#[]⟩, Nat.zero_le _, rfl, rfl, rfl, Below.refl _ _⟩
  case round =>
    obtain ⟨i, s, hi, rfl, rfl, hst, hbr⟩ := hrel
    obtain ⟨wo, hwo⟩ : ∃ wo, wo = wr := ⟨_, rfl⟩
    subst hwo
    have HST := Lib.hid hst
    have HBR := Lib.hid hbr
    have hzr := hbr.size
    have HBWO := Lib.hid (HB5.out.trans (hbr.mono HB5.out.size))
    clear hst hbr
    by_cases hil : i < ns.length
    rotate_left
    · obtain rfl : i = ns.length := by omega
      rw [List.take_length] at HST
      have r1 : ¬ (ns.length : Int) < (ns.length : Int) := by omega
      have HTX := Lib.hid (ctText_any wo ((HD4.out.up HB45.out).up HBR.out) HND.out HL16.out (fun p hp => nameF_size (HMEM.out p hp).1) (fun p hp x hx v hv => ((HFT.out p hp).2.2 x hx).2 v hv) HFT.out (HTB.out wo HBWO.out))
      have c5 : wo.cell? ⟨g5, 0, none⟩ = some (.map (some bd)) := ((HR5.out.up HB45.out).up HBR.out).cell 0
      have z5 := ((HR5.out.up HB45.out).up HBR.out).lt
      go_wp2_with fail
      refine HTX.out.mono ?_
      rintro e w6 ⟨ns', hns', rfl, hb6⟩
      obtain rfl := NamesOf.eq hns' HNS.out
      have HB6 := Lib.hid (HBWO.out.trans (hb6.mono HBWO.out.size))
      have hse : ((toB (textD S F ns')).toList == s.toList) = true := by
        rw [strEq_str, decide_eq_true]
        rw [← HST.out, toB_data]
      clear hns' hb6 HTX
      go_wp2_with fail
      go_ret
      exact ⟨rfl, HB6.out⟩
    obtain ⟨nb, no, rfl, hnb, n0⟩ := HSLN.out.at_ (k := i) (by rw [List.length_map]; exact hil)
    rw [List.getElem_map] at n0
    have HTK := Lib.hid (textD_take (S := S) (F := F) hil)
    have HIN : Hid (ns[i] ∈ S.map Prod.fst) := HNS.out.1.mem_iff.1 (List.getElem_mem hil)
    have HKM := Lib.hid (kindsF_mem HIN.out)
    rw [kindsOf_F] at HTK
    have n0 := cell_below HBR.out n0
    generalize ns[i] = nm at *
    obtain ⟨ks, hks⟩ : ∃ ks, ks = kindsF S nm := ⟨_, rfl⟩
    have HKS : Hid (ks = kindsF S nm) := hks
    rw [← hks] at HTK HKM
    obtain ⟨X, hX⟩ : ∃ X, X = F nm := ⟨_, rfl⟩
    have HXF : Hid (X = F nm) := hX
    rw [← hX] at HTK
    have HKL : Hid (ks.length ≤ 6 ∧ ∀ k ∈ ks, k = 1 ∨ k = 2) := (HMEM.out _ HKM.out).2
    have HXN : Hid (X.length ≤ 4096 ∧ ∀ x ∈ X, x.length ≤ 6 ∧ ∀ v ∈ x, VFit v) := by
      have h := HFT.out _ HKM.out
      show X.length ≤ 4096 ∧ ∀ x ∈ X, x.length ≤ 6 ∧ ∀ v ∈ x, VFit v
      rw [hX]
      exact h.2
    clear hks hX
    have g1 : (0 : Int) ≤ (i : Int) := by omega
    have g4 : (i : Int) < (ns.length : Int) := by omega
    have hw1 : IntKind.i64.wrap ((i : Int) + 1) = ((i + 1 : Nat) : Int) := by rw [IntWalk.i64_in _ (by omega)]; omega
    have znb : nb < wo.heap.size := by omega
    have zg6 : g6 < wo.heap.size := by omega
    have c60 := (HKP5.out wo HBR.out).1
    have c61 := (HKP5.out wo HBR.out).2
    have HSZ : Hid (s.size ≤ 60000000) := by
      show _ ≤ _
      have h1 := textD_len HND.out (fun p hp => nameF_size (HMEM.out p hp).1) HFT.out (ns.take i) fun a ha => HNS.out.1.mem_iff.1 (List.mem_of_mem_take ha)
      rw [← HST.out, List.length_take] at h1
      have h2 : s.size = s.data.toList.length := (size_len s).symm
      omega
    have HNZ : Hid (nm.size ≤ 16) := nameF_size (HMEM.out _ HKM.out).1
    have a1 : ¬ 9223372036854775807 < s.size + 9 := by have := HSZ.out; omega
    have a2 : ¬ 9223372036854775807 < s.size + 9 + nm.size := by have := HSZ.out; have := HNZ.out; omega
    have HKD : Hid (∀ V, Below wo.heap.size wo V → Calls Tryz.prog 14 #[.agg #[.slice SA S.length SC, .slice FA Fs.length FC], .string nm] V fun e V' => (∃ A C, e = .returned (.slice A ks.length C) ∧ SlI .i64 V.heap.size V A ks) ∧ Ext V V') := fun V hb => by
      have h := r08Kinds_any SA SC S (.slice FA Fs.length FC) nm V (SchsM.up HS.out (HBWO.out.trans (hb.mono HBWO.out.size))) (by have := HL.out; omega)
      rw [← HKS.out] at h
      exact h
    have HKPO : Hid (∀ V, Below wo.heap.size wo V → V.cell? ⟨g6, 0, none⟩ = some (.slice SA S.length SC) ∧ V.cell? ⟨g6, 1, none⟩ = some (.slice FA Fs.length FC) ∧ V.cell? ⟨nb, no + i, none⟩ = some (.string nm)) := fun V hb => ⟨cell_below hb c60, cell_below hb c61, cell_below hb n0⟩
    go_upto_region 14 with (fail)
    obtain ⟨s1, hs1⟩ : ∃ s', s' = s ++ ⟨#[114, 101, 108, 97, 116, 105, 111, 110, 32]⟩ ++ nm := ⟨_, rfl⟩
    rw [← hs1]
    have HS1 : Hid (s1.data.toList = textD S F (ns.take i) ++ (relW ++ nm.data.toList)) := by
      show _ = _
      rw [hs1, strApp, strApp, HST.out, List.append_assoc]
      rfl
    have HZ1 : Hid (s1.size ≤ 60000025) := by
      show _ ≤ _
      have h2 : s1.size = s1.data.toList.length := (size_len s1).symm
      have h3 : s.size = s.data.toList.length := (size_len s).symm
      have h4 : nm.size = nm.data.toList.length := (size_len nm).symm
      have h5 := HSZ.out
      have h6 := HNZ.out
      rw [h2, HS1.out, ← HST.out, List.length_append, List.length_append]
      have : relW.length = 9 := rfl
      omega
    clear hs1 a1 a2
    refine wp_region_held_drew (S := (fun V => V.cell? ⟨g6, 0, none⟩ = some (.slice SA S.length SC) ∧ V.cell? ⟨g6, 1, none⟩ = some (.slice FA Fs.length FC) ∧ V.cell? ⟨nb, no + i, none⟩ = some (.string nm))) (by kernel_rfl) (HKPO.out wo.drew (Below.refl _ _).drew) (fun hHeld => ?_)
    refine takeOp (i := 0) (v := ?_) (some 45) rfl rfl (by kernel_rfl) (by kernel_rfl) (by kernel_rfl) (fun _ _ _ h => h) (Or.inl ⟨by rfl, ?_⟩) (by assumption) ?_
    rotate_left 1
    · (intro w0 hSw; (try dsimp only at hSw); go_simp; try (with_reducible rfl))
    try simp only [Act.put, List.setIfInBounds_toArray, List.set_cons_succ, List.set_cons_zero]
    refine takeOp (i := 1) (v := ?_) (some 46) rfl rfl (by kernel_rfl) (by kernel_rfl) (by kernel_rfl) (fun _ _ _ h => h) (Or.inl ⟨by rfl, ?_⟩) (by assumption) ?_
    rotate_left 1
    · (intro w0 hSw; (try dsimp only at hSw); go_simp; try (with_reducible rfl))
    try simp only [Act.put, List.setIfInBounds_toArray, List.set_cons_succ, List.set_cons_zero]
    refine takeOp (i := 2) (v := ?_) (some 47) rfl rfl (by kernel_rfl) (by kernel_rfl) (by kernel_rfl) (fun _ _ _ h => h) (Or.inl ⟨by rfl, ?_⟩) (by assumption) ?_
    rotate_left 1
    · (intro w0 hSw; (try dsimp only at hSw); go_simp; try (with_reducible rfl))
    try simp only [Act.put, List.setIfInBounds_toArray, List.set_cons_succ, List.set_cons_zero]
    refine takeOp (i := 3) (v := ?_) (some 48) rfl rfl (by kernel_rfl) (by kernel_rfl) (by kernel_rfl) (fun _ _ _ h => h) (Or.inl ⟨by rfl, ?_⟩) (by assumption) ?_
    rotate_left 1
    · (intro w0 hSw; (try dsimp only at hSw); go_simp; try (with_reducible rfl))
    try simp only [Act.put, List.setIfInBounds_toArray, List.set_cons_succ, List.set_cons_zero]
    refine takeOp (i := 4) (v := ?_) (some 49) rfl rfl (by kernel_rfl) (by kernel_rfl) (by kernel_rfl) (fun _ _ _ h => h) (Or.inl ⟨by rfl, ?_⟩) (by assumption) ?_
    rotate_left 1
    · (intro w0 hSw; (try dsimp only at hSw); go_simp; try (with_reducible rfl))
    try simp only [Act.put, List.setIfInBounds_toArray, List.set_cons_succ, List.set_cons_zero]
    refine wpAnyH_ready (rs := [5]) (by kernel_rfl) (by simp) ?_
    refine AllReadyH.cons rfl (fun K hK => ?_) AllReadyH.nil
    go_simp
    refine (HKD.out wo.drew (Below.refl _ _).drew).mono ?_
    rintro e w6 ⟨⟨KA, KC, rfl, hka⟩, hx6⟩
    have HX6 : Hid (Ext wo w6) := (Ext.refl wo).drew.trans hx6
    have HKA : Hid (SlI .i64 w6.heap.size w6 KA ks) := Sl.more (Sl.ext hka (Nat.le_refl _) hx6) hx6.size
    clear hx6 hka
    go_wp2_with fail
    refine hK.out _ _ (HKPO.out w6 HX6.out.below) (fun hHeld => ?_)
    clear hK K
    try simp only [Act.put, List.setIfInBounds_toArray, List.set_cons_succ, List.set_cons_zero]
    refine takeOp (i := 6) (v := ?_) (some 11) rfl rfl (by kernel_rfl) (by kernel_rfl) (by kernel_rfl) (fun _ _ _ h => h) (Or.inl ⟨by rfl, ?_⟩) (by assumption) ?_
    rotate_left 1
    · (intro w0 hSw; (try dsimp only at hSw); go_simp; try (with_reducible rfl))
    try simp only [Act.put, List.setIfInBounds_toArray, List.set_cons_succ, List.set_cons_zero]
    refine wpAnyH_done (by kernel_rfl) ?_ _
    have HB6 := Lib.hid (HBWO.out.trans (HX6.out.below.mono HBWO.out.size))
    have hz6 := HX6.out.size
    clear HKD c60 c61 n0 znb zg6
    go_wp2_with fail
    go_loopw [8, 12] (fun v c wx => ∃ (j : Nat) (t : ByteArray), j ≤ ks.length ∧ c = .int .i64 j ∧ v = .string t ∧ t.data.toList = s1.data.toList ++ (ks.take j).flatMap kindW ∧ t.size ≤ 60000025 + 4 * j ∧ Ext w6 wx) (fun _ c _ => ks.length - (intOf c).toNat)
    case atStart => exact ⟨0, s1, Nat.zero_le _, rfl, rfl, by simp, HZ1.out, Ext.refl _⟩
    case round =>
      obtain ⟨j, t, hj, rfl, rfl, htt, htz, hxr⟩ := hrel
      obtain ⟨w7, hw7⟩ : ∃ w7, w7 = wr := ⟨_, rfl⟩
      subst hw7
      have HTT := Lib.hid htt
      have HTZ := Lib.hid htz
      have HXR := Lib.hid hxr
      have hz7 := hxr.size
      clear htt htz hxr
      by_cases hjl : j < ks.length
      · obtain ⟨kb, ko, rfl, hkb, k0⟩ := HKA.out.at_ (k := j) (by rw [List.length_map]; exact hjl)
        rw [List.getElem_map] at k0
        have k0 := (HXR.out.cell hkb).trans k0
        have HKT := Lib.hid (kinds_take hjl)
        have hkk := HKL.out.2 _ (List.getElem_mem hjl)
        have hkl6 := HKL.out.1
        have p0 : (0 : Int) ≤ (j : Int) := by omega
        have p1 : (j : Int) < (ks.length : Int) := by omega
        have zkb : kb < w7.heap.size := by omega
        have hw2 : IntKind.i64.wrap ((j : Int) + 1) = ((j + 1 : Nat) : Int) := by rw [IntWalk.i64_in _ (by omega)]; omega
        have a1 : ¬ 9223372036854775807 < t.size + 4 := by have := HTZ.out; omega
        have HB7 : Hid (Ext w7 (w7.alloc (.cells #[.string ⟨#[32, 105, 110, 116]⟩, .string ⟨#[32, 115, 116, 114]⟩] 9))) := (Ext.refl w7).alloc _
        generalize ks[j] = kk at *
        rcases hkk with rfl | rfl
        · have HT2 : Hid ((t ++ ⟨#[32, 105, 110, 116]⟩).data.toList = s1.data.toList ++ (ks.take (j + 1)).flatMap kindW) := by
            show _ = _
            rw [strApp, HTT.out, HKT.out, List.append_assoc]; rfl
          have HZ2 : Hid ((t ++ ⟨#[32, 105, 110, 116]⟩).size ≤ 60000025 + 4 * (j + 1)) := by
            show _ ≤ _
            rw [ByteArray.size_append]
            have := HTZ.out
            show t.size + 4 ≤ _
            omega
          have hwz : IntKind.i64.wrap ((1 : Int) - 1) = 0 := by decide
          go_wp2_with fail
          go_roundw
          case rel => exact ⟨j + 1, _, hjl, by go_num, rfl, HT2.out, HZ2.out, HXR.out.trans HB7.out⟩
          case measure => simp [intOf]; omega
        · have HT2 : Hid ((t ++ ⟨#[32, 115, 116, 114]⟩).data.toList = s1.data.toList ++ (ks.take (j + 1)).flatMap kindW) := by
            show _ = _
            rw [strApp, HTT.out, HKT.out, List.append_assoc]; rfl
          have HZ2 : Hid ((t ++ ⟨#[32, 115, 116, 114]⟩).size ≤ 60000025 + 4 * (j + 1)) := by
            show _ ≤ _
            rw [ByteArray.size_append]
            have := HTZ.out
            show t.size + 4 ≤ _
            omega
          have hwz : IntKind.i64.wrap ((2 : Int) - 1) = 1 := by decide
          go_wp2_with fail
          go_roundw
          case rel => exact ⟨j + 1, _, hjl, by go_num, rfl, HT2.out, HZ2.out, HXR.out.trans HB7.out⟩
          case measure => simp [intOf]; omega
      · obtain rfl : j = ks.length := by omega
        rw [List.take_length] at HTT
        have p1 : ¬ (ks.length : Int) < (ks.length : Int) := by omega
        have hkl6 := HKL.out.1
        have a1 : ¬ 9223372036854775807 < t.size + 1 := by have := HTZ.out; omega
        have HX7 := Lib.hid (HX6.out.trans HXR.out)
        have HB7 := Lib.hid (HBWO.out.trans (HX7.out.below.mono HBWO.out.size))
        have HFM7 := Lib.hid ((HFM4.out.up HB45.out).up (HBR.out.trans (HX7.out.below.mono (by omega))))
        have HRWS : Hid (∀ V, Below w7.heap.size w7 V → Calls Tryz.prog 15 #[.agg #[.slice SA S.length SC, .slice FA Fs.length FC], .string nm] V fun e V' => ∃ A C, ∃ hs : List Value, e = .returned (.slice A X.length C) ∧ RowCs V'.heap.size V' X hs ∧ Sl V'.heap.size V' A hs ∧ Below V.heap.size V V') := fun V hb => by
          have h := r08Rows_any (.slice SA S.length SC) FA FC F Fs nm V HREL.out (HFM7.out.up hb) (by have := HFL.out; omega) HFR.out
          rw [← HXF.out] at h
          exact h
        have HKP7 : Hid (∀ V, Below w7.heap.size w7 V → V.cell? ⟨g6, 0, none⟩ = some (.slice SA S.length SC) ∧ V.cell? ⟨g6, 1, none⟩ = some (.slice FA Fs.length FC) ∧ V.cell? ⟨nb, no + i, none⟩ = some (.string nm)) := fun V hb => HKPO.out V (HX7.out.below.trans (hb.mono (by omega)))
        have znb : nb < w7.heap.size := by omega
        have zg6 : g6 < w7.heap.size := by omega
        go_upto_region 20 with (fail)
        obtain ⟨s3, hs3⟩ : ∃ s', s' = t ++ ⟨#[10]⟩ := ⟨_, rfl⟩
        rw [← hs3]
        have HS3 : Hid (s3.data.toList = s1.data.toList ++ (ks.flatMap kindW ++ [10])) := by
          show _ = _
          rw [hs3, strApp, HTT.out, List.append_assoc]
        have HZ3 : Hid (s3.size ≤ 60000100) := by
          show _ ≤ _
          rw [hs3, ByteArray.size_append]
          have := HTZ.out
          show t.size + 1 ≤ _
          omega
        clear hs3 a1
        refine wp_region_held_drew (S := (fun V => V.cell? ⟨g6, 0, none⟩ = some (.slice SA S.length SC) ∧ V.cell? ⟨g6, 1, none⟩ = some (.slice FA Fs.length FC) ∧ V.cell? ⟨nb, no + i, none⟩ = some (.string nm))) (by kernel_rfl) (HKP7.out w7.drew (Below.refl _ _).drew) (fun hHeld => ?_)
        refine takeOp (i := 0) (v := ?_) (some 69) rfl rfl (by kernel_rfl) (by kernel_rfl) (by kernel_rfl) (fun _ _ _ h => h) (Or.inl ⟨by rfl, ?_⟩) (by assumption) ?_
        rotate_left 1
        · (intro w0 hSw; (try dsimp only at hSw); go_simp; try (with_reducible rfl))
        try simp only [Act.put, List.setIfInBounds_toArray, List.set_cons_succ, List.set_cons_zero]
        refine takeOp (i := 1) (v := ?_) (some 70) rfl rfl (by kernel_rfl) (by kernel_rfl) (by kernel_rfl) (fun _ _ _ h => h) (Or.inl ⟨by rfl, ?_⟩) (by assumption) ?_
        rotate_left 1
        · (intro w0 hSw; (try dsimp only at hSw); go_simp; try (with_reducible rfl))
        try simp only [Act.put, List.setIfInBounds_toArray, List.set_cons_succ, List.set_cons_zero]
        refine takeOp (i := 2) (v := ?_) (some 71) rfl rfl (by kernel_rfl) (by kernel_rfl) (by kernel_rfl) (fun _ _ _ h => h) (Or.inl ⟨by rfl, ?_⟩) (by assumption) ?_
        rotate_left 1
        · (intro w0 hSw; (try dsimp only at hSw); go_simp; try (with_reducible rfl))
        try simp only [Act.put, List.setIfInBounds_toArray, List.set_cons_succ, List.set_cons_zero]
        refine takeOp (i := 3) (v := ?_) (some 72) rfl rfl (by kernel_rfl) (by kernel_rfl) (by kernel_rfl) (fun _ _ _ h => h) (Or.inl ⟨by rfl, ?_⟩) (by assumption) ?_
        rotate_left 1
        · (intro w0 hSw; (try dsimp only at hSw); go_simp; try (with_reducible rfl))
        try simp only [Act.put, List.setIfInBounds_toArray, List.set_cons_succ, List.set_cons_zero]
        refine takeOp (i := 4) (v := ?_) (some 73) rfl rfl (by kernel_rfl) (by kernel_rfl) (by kernel_rfl) (fun _ _ _ h => h) (Or.inl ⟨by rfl, ?_⟩) (by assumption) ?_
        rotate_left 1
        · (intro w0 hSw; (try dsimp only at hSw); go_simp; try (with_reducible rfl))
        try simp only [Act.put, List.setIfInBounds_toArray, List.set_cons_succ, List.set_cons_zero]
        refine wpAnyH_ready (rs := [5]) (by kernel_rfl) (by simp) ?_
        refine AllReadyH.cons rfl (fun K hK => ?_) AllReadyH.nil
        go_simp
        refine (HRWS.out w7.drew (Below.refl _ _).drew).mono ?_
        rintro e w8 ⟨RA, RC, hs, rfl, hcs, hsl, hb8⟩
        have HB78 : Hid (Below w7.heap.size w7 w8) := Below.undrew hb8
        have HCS := Lib.hid hcs
        have HSLR := Lib.hid hsl
        clear hcs hsl hb8
        go_wp2_with fail
        refine hK.out _ _ (HKP7.out w8 HB78.out) (fun hHeld => ?_)
        clear hK K
        try simp only [Act.put, List.setIfInBounds_toArray, List.set_cons_succ, List.set_cons_zero]
        refine takeOp (i := 6) (v := ?_) (some 13) rfl rfl (by kernel_rfl) (by kernel_rfl) (by kernel_rfl) (fun _ _ _ h => h) (Or.inl ⟨by rfl, ?_⟩) (by assumption) ?_
        rotate_left 1
        · (intro w0 hSw; (try dsimp only at hSw); go_simp; try (with_reducible rfl))
        try simp only [Act.put, List.setIfInBounds_toArray, List.set_cons_succ, List.set_cons_zero]
        refine wpAnyH_done (by kernel_rfl) ?_ _
        have HB8 := Lib.hid (HB7.out.trans (HB78.out.mono HB7.out.size))
        have hz8 := HB78.out.size
        clear HRWS HKP7 znb zg6
        go_wp2_with fail
        go_loopw [8, 14] (fun v c wx => ∃ (j : Nat) (t : ByteArray), j ≤ X.length ∧ c = .int .i64 j ∧ v = .string t ∧ t.data.toList = s3.data.toList ++ rowsW (X.take j) ∧ t.size ≤ 60000100 + 603 * j ∧ Below w8.heap.size w8 wx) (fun _ c _ => X.length - (intOf c).toNat)
        case atStart => exact ⟨0, s3, Nat.zero_le _, rfl, rfl, by simp [rowsW], HZ3.out, Below.refl _ _⟩
        case round =>
          obtain ⟨j, t, hj, rfl, rfl, htt, htz, hbj⟩ := hrel
          have HTT := Lib.hid htt
          have HTZ := Lib.hid htz
          have HBJ := Lib.hid hbj
          have hz9 := hbj.size
          clear htt htz hbj
          by_cases hjl : j < X.length
          · obtain ⟨rb, ro, rfl, hrb, e0⟩ := HSLR.out.at_ (k := j) (by rw [HCS.out.len]; exact hjl)
            obtain ⟨YA, YC, y0, hy⟩ := HCS.out.at_ j hjl
            rw [(List.getElem?_eq_some_iff.1 y0).2] at e0
            have e0 := cell_below HBJ.out e0
            have HXJ := Lib.hid (HXN.out.2 _ (List.getElem_mem hjl))
            have HRT := Lib.hid (rowsW_take2 hjl)
            have HB9 := Lib.hid (HB8.out.trans (HBJ.out.mono HB8.out.size))
            have HTX := Lib.hid (rwText_any YA YC X[j] wr ((Sl.below hy HBJ.out (Nat.le_refl _)).more HBJ.out.size) (by have := HXJ.out.1; omega) HXJ.out.2 (HTB.out wr HB9.out))
            have HTL : Hid ((textR X[j]).length ≤ 602) := by have h := textR_len HXJ.out.2; have := HXJ.out.1; show _ ≤ _; omega
            have hxn4 := HXN.out.1
            obtain ⟨tx, htx⟩ : ∃ tx, tx = toB (textR X[j]) := ⟨_, rfl⟩
            have HTD : Hid (tx.data.toList = textR X[j]) := by show _ = _; rw [htx]; simp [toB]
            rw [← htx] at HTX
            have HTS : Hid (tx.size ≤ 602) := by
              show _ ≤ _
              have h2 : tx.size = tx.data.toList.length := (size_len tx).symm
              rw [h2, HTD.out]; exact HTL.out
            clear htx HTL y0 hy
            generalize X[j] = x at *
            have p0 : (0 : Int) ≤ (j : Int) := by omega
            have p1 : (j : Int) < (X.length : Int) := by omega
            have zrb : rb < wr.heap.size := by omega
            have hw2 : IntKind.i64.wrap ((j : Int) + 1) = ((j + 1 : Nat) : Int) := by rw [IntWalk.i64_in _ (by omega)]; omega
            have a1 : ¬ 9223372036854775807 < t.size + tx.size := by have := HTZ.out; have := HTS.out; omega
            have a2 : ¬ 9223372036854775807 < t.size + tx.size + 1 := by have := HTZ.out; have := HTS.out; omega
            have HT2 : Hid ((t ++ tx ++ ⟨#[10]⟩).data.toList = s3.data.toList ++ rowsW (X.take (j + 1))) := by
              show _ = _
              rw [strApp, strApp, HTT.out, HRT.out, HTD.out, List.append_assoc, List.append_assoc]
            have HZ2 : Hid ((t ++ tx ++ ⟨#[10]⟩).size ≤ 60000100 + 603 * (j + 1)) := by
              show _ ≤ _
              rw [ByteArray.size_append, ByteArray.size_append]
              have := HTZ.out
              have := HTS.out
              show t.size + tx.size + 1 ≤ _
              omega
            go_wp2_with fail
            refine HTX.out.mono ?_
            rintro e w9 ⟨rfl, hb9⟩
            have HBZ := Lib.hid (HBJ.out.trans (hb9.mono HBJ.out.size))
            clear hb9
            go_wp2_with fail
            go_roundw
            case rel => exact ⟨j + 1, _, hjl, by go_num, rfl, HT2.out, HZ2.out, HBZ.out⟩
            case measure => simp [intOf]; omega
          · obtain rfl : j = X.length := by omega
            rw [List.take_length] at HTT
            have p1 : ¬ (X.length : Int) < (X.length : Int) := by omega
            have HEND : Hid (t.data.toList = textD S F (ns.take (i + 1))) := by
              show _ = _
              rw [HTT.out, HS3.out, HS1.out, HTK.out]
              unfold textRel
              simp [List.append_assoc]
            go_wp2_with fail
            go_roundw
            case rel => exact ⟨i + 1, t, hil, by go_num, rfl, HEND.out, HBR.out.trans ((HX7.out.below.trans (HB78.out.mono (by omega)) |>.trans (HBJ.out.mono (by omega))).mono (by omega))⟩
            case measure => simp [intOf]; omega
end Go.Proofs.YtdadchpiibipoaaGreatDoor

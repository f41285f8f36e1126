/- Walk: the law SnapshotFails (chapter 16). -/
import Derived.Test.YtgaffbdcpkbdhaaHZ27
namespace Go.Proofs.Ytgaffbdcpkbdhaa
open Go.RowKit Go.Sort Go.ChangeMaps Go.WideShapes

theorem beq_no {a : Int} (h : a ≠ 0) : (a == 0) = false := by simpa using h

set_option maxHeartbeats 16000000 in
set_option maxRecDepth 100000 in
theorem l16Fails_any (SA : Option Addr) (SC : Nat) (X : Sch) (LA : Option Addr) (LC : Nat) (L : List ActR) (kd : Nat) (p : Int) (UA : Option Addr) (UC : Nat) (us : List Upd) (w : World)
    (hS : SchsM w.heap.size w SA X) (hSo : SchsOk X) (hSl : X.length ≤ 9223372036854775807) (hL : ActsM w.heap.size w LA L) (hLo : ∀ a ∈ L, ActOk a) (hLl : L.length ≤ 9223372036854775807) (hU : UpdsM w.heap.size w UA us) (hUC : us.length ≤ UC) (ha : ActOk ⟨kd, p, us⟩) :
    Calls Try.prog 5 #[.slice SA X.length SC, .slice LA L.length LC, .agg #[.int .u8 (kd : Nat), .int .i64 p, .slice UA us.length UC]] w fun e w' => e = .returned (.bool true) ∧ Below w.heap.size w w' := by
  have HS := Lib.hid hS
  have HSO := Lib.hid hSo
  have HL := Lib.hid hL
  have HLO := Lib.hid hLo
  have HU := Lib.hid hU
  have HAO := Lib.hid ha
  have HUC := Lib.hid hUC
  have HSL := Lib.hid hSl
  have HLL := Lib.hid hLl
  clear hS hSo hL hLo hU ha hUC hSl hLl
  obtain ⟨W0, hW0⟩ : ∃ W0, W0 = w.alloc (.cells #[.int .u8 (kd : Nat), .int .i64 p, .slice UA us.length UC] 51) := ⟨_, rfl⟩
  have hx0 : Ext w W0 := by rw [hW0]; exact (Ext.refl w).alloc _
  have HA0 : Hid (Row W0 w.heap.size 51 [.int .u8 (kd : Nat), .int .i64 p, .slice UA us.length UC]) := by show Row _ _ _ _; rw [hW0]; exact Row.new w 51 _
  have HB0 := Lib.hid hx0.below
  have HW0 := Lib.hid hW0
  have HAW := Lib.hid (l16awake_any W0)
  clear hx0 hW0
  go_enter Try.func5, Try.ntmps5
  go_upto_region 1 with (fail)
  rw [← HW0.out]
  clear HW0
  go_wp2_with fail
  refine HAW.out.mono ?_
  rintro e w1 ⟨rfl, hb1⟩
  have HA1 := Lib.hid (HA0.out.up hb1)
  have HB1 := Lib.hid (Below.then HB0.out hb1 HB0.out.size)
  have HF1 := Lib.hid (l16few_any LA LC L w1 ((HL.out.below HB1.out (Nat.le_refl _)).more HB1.out.size) HLL.out HLO.out)
  clear hb1 HA0 HB0 HAW
  cases hf1 : fewL L with
  | false =>
    rw [hf1] at HF1
    clear hf1
    go_wp2_with fail
    refine HF1.out.mono ?_
    rintro e w2 ⟨rfl, hx2⟩
    have HB2 := Lib.hid (Below.then HB1.out hx2.below HB1.out.size)
    clear hx2 HF1 HA1 HB1
    go_wp2_with fail
    go_ret
    exact ⟨rfl, HB2.out⟩
  | true =>
  rw [hf1] at HF1
  obtain ⟨hL40, hfit⟩ := fewL_fit hf1 HLO.out
  have HFIT := Lib.hid hfit
  clear hf1 hfit
  go_wp2_with fail
  refine HF1.out.mono ?_
  rintro e w2 ⟨rfl, hx2⟩
  have HA2 := Lib.hid (HA1.out.up hx2.below)
  have HB2 := Lib.hid (Below.then HB1.out hx2.below HB1.out.size)
  obtain ⟨W3, hW3⟩ : ∃ W3, W3 = w2.alloc (.cells #[.int .u8 (kd : Nat), .int .i64 p, .slice UA us.length UC] 51) := ⟨_, rfl⟩
  have hx3 : Ext w2 W3 := by rw [hW3]; exact (Ext.refl w2).alloc _
  have hr3 : Row W3 w2.heap.size 51 [.int .u8 (kd : Nat), .int .i64 p, .slice UA us.length UC] := by rw [hW3]; exact Row.new w2 51 _
  have HA3 := Lib.hid (HA2.out.up hx3.below)
  have HB3 := Lib.hid (Below.then HB2.out hx3.below HB2.out.size)
  have HM3 : Hid (ActsM W3.heap.size W3 (some ⟨w2.heap.size, 0, none⟩) [⟨kd, p, us⟩]) := fun _ => ⟨w2.heap.size, 0, rfl, hr3.lt, fun i hi => by
    obtain rfl : i = 0 := by simp at hi; exact hi
    exact ⟨UA, UC, hr3.cell 0, hr3.cell 1, hr3.cell 2, HUC.out, (HU.out.below HB3.out (Nat.le_refl _)).more HB3.out.size⟩⟩
  have HF2 := Lib.hid (l16few_any (some ⟨w2.heap.size, 0, none⟩) 1 [⟨kd, p, us⟩] W3 HM3.out (by show (1 : Nat) ≤ _; decide) (fun a ha => by rw [List.mem_singleton.1 ha]; exact HAO.out))
  have j0 : w2.cell? ⟨w.heap.size, 0, none⟩ = some (.int .u8 (kd : Nat)) := HA2.out.cell 0
  have j1 : w2.cell? ⟨w.heap.size, 1, none⟩ = some (.int .i64 p) := HA2.out.cell 1
  have j2 : w2.cell? ⟨w.heap.size, 2, none⟩ = some (.slice UA us.length UC) := HA2.out.cell 2
  have j3 := HA2.out.lt
  have HW3 := Lib.hid hW3
  clear hx2 hx3 hr3 hW3 HF1 HA1 HB1 HB2 HM3
  cases hf2 : fewL [⟨kd, p, us⟩] with
  | false =>
    rw [hf2] at HF2
    clear hf2
    go_wp2_with fail
    rw [← HW3.out]
    refine HF2.out.mono ?_
    rintro e w4 ⟨rfl, hx4⟩
    have HB4 := Lib.hid (Below.then HB3.out hx4.below HB3.out.size)
    clear hx4 HF2 HB3 j0 j1 j2 j3
    go_wp2_with fail
    go_ret
    exact ⟨rfl, HB4.out⟩
  | true =>
  rw [hf2] at HF2
  obtain ⟨-, hfit2⟩ := fewL_fit hf2 (fun a ha => by rw [List.mem_singleton.1 ha]; exact HAO.out)
  obtain ⟨hkd, hpw, hus, -⟩ := hfit2 ⟨kd, p, us⟩ (List.mem_singleton.2 rfl)
  have hus : us.length ≤ 12 := hus
  have HUF : Hid (∀ u ∈ us, UpdOk u) := (hfit2 ⟨kd, p, us⟩ (List.mem_singleton.2 rfl)).upd
  have HPW : Hid ((Lit.int .i64 p).wf = true) := hpw
  clear hf2 hfit2 hkd hpw
  go_wp2_with fail
  rw [← HW3.out]
  clear HW3 j0 j1 j2 j3
  refine HF2.out.mono ?_
  rintro e w4 ⟨rfl, hx4⟩
  have HA4 := Lib.hid (HA3.out.up hx4.below)
  have HB4 := Lib.hid (Below.then HB3.out hx4.below HB3.out.size)
  clear hx4 HF2 HB3 HA3 HA2
  by_cases h20 : 20 < X.length
  · have q1 : (20 : Int) < (X.length : Int) := by omega
    go_wp2_with fail
    go_ret
    exact ⟨rfl, HB4.out⟩
  have q1 : ¬ (20 : Int) < (X.length : Int) := by omega
  have HN := Lib.hid (ctNew_any (fun _ => True) SA SC X w4 (fun _ _ => trivial) ((HS.out.below HB4.out (Nat.le_refl _)).more HB4.out.size) HSO.out HSL.out)
  clear h20
  go_wp2_with fail
  refine HN.out.mono ?_
  rintro e w5 ⟨h5, h6, hb5⟩
  have HA5 := Lib.hid (HA4.out.up hb5)
  have HB5 := Lib.hid (Below.then HB4.out hb5 HB4.out.size)
  clear HN HA4 HB4 hb5
  by_cases herr : errS X = 0
  rotate_left
  · obtain rfl := h6 herr
    have HE : Hid (errS X ≠ 0) := herr
    obtain ⟨W7, hW7⟩ : ∃ W7, W7 = w5.alloc (.cells #[.map none] 25) := ⟨_, rfl⟩
    have hx7 : Ext w5 W7 := by rw [hW7]; exact (Ext.refl w5).alloc _
    have hr7 : Row W7 w5.heap.size 25 [.map none] := by rw [hW7]; exact Row.new w5 25 _
    have k0 : W7.cell? ⟨w5.heap.size, 0, none⟩ = some (.map none) := hr7.cell 0
    have k1 := hr7.lt
    have HB7 := Lib.hid (Below.then HB5.out hx7.below HB5.out.size)
    have HNW := Lib.hid (snNew_low 0 (by decide) (by decide) W7)
    have q2 : (errS X != 0) = true := by simpa using herr
    have HW7 := Lib.hid hW7
    clear h5 h6 herr hx7 hr7 hW7 HB5
    go_upto_region 6 with (fail)
    rw [← HW7.out]
    clear HW7
    go_wp2_with fail
    refine HNW.out.mono ?_
    rintro e w8 ⟨m8, rfl, hb8⟩
    have HB8 := Lib.hid (Below.then HB7.out hb8 HB7.out.size)
    clear hb8 HNW HB7 k0 k1
    go_wp2_with fail
    go_ret
    exact ⟨rfl, Below.then HB8.out ((Ext.refl w8).alloc _).below HB8.out.size⟩
  obtain ⟨m5, rfl, hdb⟩ := h5 herr
  obtain ⟨bd, rfl⟩ := hdb.form
  have HOKS := Lib.hid (errS_ok herr)
  obtain ⟨W7, hW7⟩ : ∃ W7, W7 = w5.alloc (.cells #[.map (some bd)] 25) := ⟨_, rfl⟩
  have hx7 : Ext w5 W7 := by rw [hW7]; exact (Ext.refl w5).alloc _
  have hr7 : Row W7 w5.heap.size 25 [.map (some bd)] := by rw [hW7]; exact Row.new w5 25 _
  have k0 : W7.cell? ⟨w5.heap.size, 0, none⟩ = some (.map (some bd)) := hr7.cell 0
  have k1 := hr7.lt
  have HA7 := Lib.hid (HA5.out.up hx7.below)
  have HB7 := Lib.hid (Below.then HB5.out hx7.below HB5.out.size)
  have HDB := Lib.hid (hdb.up hx7.below)
  have HW7 := Lib.hid hW7
  clear h5 h6 hx7 hr7 hW7 hdb herr HA5 HB5
  go_upto_region 6 with (fail)
  rw [← HW7.out]
  clear HW7
  go_wp2_with fail
  refine (snNew_ok (P := fun _ => True) (S := X) (m := .map (some bd)) (F := fun _ => []) 0 (by decide) (by decide) W7 HDB.out (fun _ _ => trivial)).mono ?_
  rintro e w8 ⟨m8, rfl, hst8, hb8⟩
  obtain ⟨b8, rfl⟩ := hst8.form
  obtain ⟨W9, hW9⟩ : ∃ W9, W9 = w8.alloc (.cells #[.map (some b8), .int .i64 0] 31) := ⟨_, rfl⟩
  obtain ⟨g, hg⟩ : ∃ g, g = w8.heap.size := ⟨_, rfl⟩
  have hx9 : Ext w8 W9 := by rw [hW9]; exact (Ext.refl w8).alloc _
  have HR9 : Hid (Row W9 g 31 [.map (some b8), .int .i64 0]) := by show Row _ _ _ _; rw [hW9, hg]; exact Row.new w8 31 _
  have HB9 := Lib.hid (Below.then (Below.then HB7.out hb8 HB7.out.size) hx9.below (Nat.le_trans HB7.out.size hb8.size))
  have HA9 := Lib.hid ((HA7.out.up hb8).up hx9.below)
  have HS9 : Hid (StM (fun b => b ≠ g) X W9 (.map (some b8)) [⟨0, fun _ => [], 0⟩]) := (hst8.weak (P' := fun b => b ≠ g) fun b hb _ => by show b ≠ g; omega).up hx9.below
  have hgw : w.heap.size < g := by rw [hg]; exact Nat.lt_of_lt_of_le HA7.out.lt hb8.size
  have HW9 := Lib.hid hW9
  have HG := Lib.hid hg
  clear hst8 hb8 hx9 hW9 hg k0 k1 HDB HB7 HA7
  go_upto_region 10 with (fail)
  rw [← HW9.out, ← HG.out]
  clear HW9 HG
  go_loopw [11] (fun c wx => ∃ (j b : Nat) (l : Int) (V : List Ver), j ≤ L.length ∧ c = .int .i64 j ∧ Row wx g 31 [.map (some b), .int .i64 l] ∧ StM (fun b => b ≠ g) X wx (.map (some b)) V ∧ Good V l j ∧ (∀ x ∈ V, x.pins = 0) ∧ Row wx w.heap.size 51 [.int .u8 (kd : Nat), .int .i64 p, .slice UA us.length UC] ∧ Below w.heap.size w wx) (fun c _ => L.length - (intOf c).toNat)
  case atStart => exact ⟨0, b8, 0, _, Nat.zero_le _, rfl, HR9.out, HS9.out, Good.one (Int.le_refl _) (by decide), (fun x hx => by rw [List.mem_singleton.1 hx]), HA9.out, HB9.out⟩
  case round =>
    obtain ⟨j, b, l, V, hj, rfl, hr, hst, hgd, hpin, hra, hbw⟩ := hrel
    have g0 : wr.cell? ⟨g, 0, none⟩ = some (.map (some b)) := hr.cell 0
    have g1 : wr.cell? ⟨g, 1, none⟩ = some (.int .i64 l) := hr.cell 1
    have g2 := hr.lt
    have HR := Lib.hid hr
    have HT := Lib.hid hst
    have HGD := Lib.hid hgd
    have HPI := Lib.hid hpin
    have HRA := Lib.hid hra
    have HB := Lib.hid hbw
    have hlen := hgd.len
    clear hr hst hgd hpin hra hbw HR9 HS9 HA9 HB9
    by_cases hjl : j < L.length
    · have r1 : (j : Int) < (L.length : Int) := by omega
      have r0 : (0 : Int) ≤ (j : Int) := by omega
      have r3 : IntKind.i64.wrap ((j : Int) + 1) = ((j + 1 : Nat) : Int) := by rw [IntWalk.i64_in _ (by omega)]; omega
      obtain ⟨lb, lo, rfl, hlb, hlc⟩ := HL.out (by intro h0; rw [h0] at hjl; simp at hjl)
      obtain ⟨UA', UC', -, -, c2, -, hu⟩ := hlc j hjl
      have c2 := (HB.out.cell hlb).trans c2
      have c3 := Nat.lt_of_lt_of_le hlb HB.out.size
      have hft := HFIT.out L[j] (List.getElem_mem hjl)
      have hok := hft.upd
      have hul := hft.2.2.1
      clear hlc hft
      generalize L[j] = aj at *
      obtain ⟨kj, nj, vs⟩ := aj
      have hul : vs.length ≤ 12 := hul
      have c2 : wr.cell? ⟨lb, lo + j * 3 + 2, none⟩ = some (.slice UA' vs.length UC') := c2
      have hok : ∀ u ∈ vs, UpdOk u := hok
      have hu : UpdsM w.heap.size w UA' vs := hu
      obtain ⟨wo, hwo⟩ : ∃ wo, wo = wr := ⟨_, rfl⟩
      subst hwo
      have HKP : Hid (∀ W, Below wo.heap.size wo W → W.cell? ⟨lb, lo + j * 3 + 2, none⟩ = some (.slice UA' vs.length UC')) := fun W hb =>
        (hb.cell (p := ⟨lb, lo + j * 3 + 2, none⟩) c3).trans c2
      have HCM : Hid (∀ W, Below wo.heap.size wo W → Calls Try.prog 11 #[.agg #[.map (some b), .int .i64 l], .slice UA' vs.length UC'] W (CommitPost (fun b => b ≠ g) X (.map (some b)) (commitR X V l vs) W)) := fun W hb =>
        snCommit_all (B := j) (HT.out.up hb) (fun b' hb' => by have := hb.size; show b' ≠ g; omega) HGD.out (by omega) (by omega) (Nat.le_trans HOKS.out.1 (by decide)) UA' UC' vs ((hu.below (Below.then HB.out hb HB.out.size) (Nat.le_refl _)).more (Nat.le_trans HB.out.size hb.size)) hok (by omega)
      have HGC := Lib.hid (HGD.out.commit HT.out.asc X vs)
      have HPC := Lib.hid (commit_pins (X := X) (l := l) (us := vs) HT.out.asc HPI.out)
      obtain ⟨r, hr⟩ : ∃ r, r = commitR X V l vs := ⟨_, rfl⟩
      rw [← hr] at HCM HGC HPC
      clear hr hu hok c2
      go_upto_region 12 with (fail)
      refine wp_region_held_drew (S := (fun w' => w'.cell? ⟨lb, lo + j * 3 + 2, none⟩ = some (.slice UA' vs.length UC'))) (by kernel_rfl) (HKP.out wo.drew (Below.refl _ _).drew) (fun hHeld => ?_)
      refine takeOp (i := 1) (v := ?_) (some 57) rfl rfl (by kernel_rfl) (by kernel_rfl) (by kernel_rfl) (fun _ _ _ h => h) (Or.inl ⟨by rfl, ?_⟩) (by assumption) ?_
      rotate_left 1
      · (intro w0 hSw; (try dsimp only at hSw); go_simp; try (with_reducible rfl))
      try simp only [Act.put]
      try simp only [List.setIfInBounds_toArray]
      try simp only [List.set_cons_succ]
      try simp only [List.set_cons_zero]
      refine takeOp (i := 2) (v := ?_) (some 58) rfl rfl (by kernel_rfl) (by kernel_rfl) (by kernel_rfl) (fun _ _ _ h => h) (Or.inl ⟨by rfl, ?_⟩) (by assumption) ?_
      rotate_left 1
      · (intro w0 hSw; (try dsimp only at hSw); go_simp; try (with_reducible rfl))
      try simp only [Act.put]
      try simp only [List.setIfInBounds_toArray]
      try simp only [List.set_cons_succ]
      try simp only [List.set_cons_zero]
      refine takeOp (i := 3) (v := ?_) (some 59) rfl rfl (by kernel_rfl) (by kernel_rfl) (by kernel_rfl) (fun _ _ _ h => h) (Or.inl ⟨by rfl, ?_⟩) (by assumption) ?_
      rotate_left 1
      · (intro w0 hSw; (try dsimp only at hSw); go_simp; try (with_reducible rfl))
      try simp only [Act.put]
      try simp only [List.setIfInBounds_toArray]
      try simp only [List.set_cons_succ]
      try simp only [List.set_cons_zero]
      refine takeOp (i := 4) (v := ?_) (some 60) rfl rfl (by kernel_rfl) (by kernel_rfl) (by kernel_rfl) (fun _ _ _ h => h) (Or.inl ⟨by rfl, ?_⟩) (by assumption) ?_
      rotate_left 1
      · (intro w0 hSw; (try dsimp only at hSw); go_simp; try (with_reducible rfl))
      try simp only [Act.put]
      try simp only [List.setIfInBounds_toArray]
      try simp only [List.set_cons_succ]
      try simp only [List.set_cons_zero]
      refine takeOp (i := 5) (v := ?_) (some 61) rfl rfl (by kernel_rfl) (by kernel_rfl) (by kernel_rfl) (fun _ _ _ h => h) (Or.inl ⟨by rfl, ?_⟩) (by assumption) ?_
      rotate_left 1
      · (intro w0 hSw; (try dsimp only at hSw); go_simp; try (with_reducible rfl))
      try simp only [Act.put]
      try simp only [List.setIfInBounds_toArray]
      try simp only [List.set_cons_succ]
      try simp only [List.set_cons_zero]
      refine wpAnyH_ready (rs := [0]) (by kernel_rfl) (by simp) ?_
      refine AllReadyH.cons rfl (fun K hK => ?_) AllReadyH.nil
      go_simp
      refine hK.out _ _ (HKP.out wo.drew (Below.refl _ _).drew) (fun hHeld => ?_)
      clear hK K
      try simp only [Act.put]
      try simp only [List.setIfInBounds_toArray]
      try simp only [List.set_cons_succ]
      try simp only [List.set_cons_zero]
      refine wpAnyH_ready (rs := [6]) (by kernel_rfl) (by simp) ?_
      refine AllReadyH.cons rfl (fun K hK => ?_) AllReadyH.nil
      go_simp
      refine (HCM.out wo.drew (Below.refl _ _).drew).mono ?_
      rintro e V1 ⟨m1, n1, rfl, hn1, -, hst1, hb1⟩
      have HV1 : Hid (Below wo.heap.size wo V1) := Below.undrew hb1
      have HT1 := Lib.hid hst1
      have HR1 := Lib.hid (HR.out.up HV1.out)
      have HRA1 := Lib.hid (HRA.out.up HV1.out)
      have HB1 := Lib.hid (Below.then HB.out HV1.out HB.out.size)
      clear hn1 hst1 hb1 g0 g1
      go_wp2_with fail
      refine hK.out _ _ (HKP.out V1 HV1.out) (fun hHeld => ?_)
      clear hK K
      try simp only [Act.put]
      try simp only [List.setIfInBounds_toArray]
      try simp only [List.set_cons_succ]
      try simp only [List.set_cons_zero]
      refine takeOp (i := 7) (v := ?_) (some 55) rfl rfl (by kernel_rfl) (by kernel_rfl) (by kernel_rfl) (fun _ _ _ h => h) (Or.inl ⟨by rfl, ?_⟩) (by assumption) ?_
      rotate_left 1
      · (intro w0 hSw; (try dsimp only at hSw); go_simp; try (with_reducible rfl))
      try simp only [Act.put]
      try simp only [List.setIfInBounds_toArray]
      try simp only [List.set_cons_succ]
      try simp only [List.set_cons_zero]
      refine takeOp (i := 8) (v := ?_) (some 63) rfl rfl (by kernel_rfl) (by kernel_rfl) (by kernel_rfl) (fun _ _ _ h => h) (Or.inl ⟨by rfl, ?_⟩) (by assumption) ?_
      rotate_left 1
      · (intro w0 hSw; (try dsimp only at hSw); go_simp; try (with_reducible rfl))
      try simp only [Act.put]
      try simp only [List.setIfInBounds_toArray]
      try simp only [List.set_cons_succ]
      try simp only [List.set_cons_zero]
      refine takeOp (i := 9) (v := ?_) (some 64) rfl rfl (by kernel_rfl) (by kernel_rfl) (by kernel_rfl) (fun _ _ _ h => h) (Or.inl ⟨by rfl, ?_⟩) (by assumption) ?_
      rotate_left 1
      · (intro w0 hSw; (try dsimp only at hSw); go_simp; try (with_reducible rfl))
      try simp only [Act.put]
      try simp only [List.setIfInBounds_toArray]
      try simp only [List.set_cons_succ]
      try simp only [List.set_cons_zero]
      refine takeOp (i := 10) (v := ?_) (some 65) rfl rfl (by kernel_rfl) (by kernel_rfl) (by kernel_rfl) (fun _ _ _ h => h) (Or.inl ⟨by rfl, ?_⟩) (by assumption) ?_
      rotate_left 1
      · (intro w0 hSw; (try dsimp only at hSw); go_simp; try (with_reducible rfl))
      try simp only [Act.put]
      try simp only [List.setIfInBounds_toArray]
      try simp only [List.set_cons_succ]
      try simp only [List.set_cons_zero]
      refine wpAnyH_ready (rs := [11]) (by kernel_rfl) (by simp) ?_
      refine AllReadyH.cons rfl (fun K hK => ?_) AllReadyH.nil
      have m0 : V1.cell? ⟨g, 0, none⟩ = some (.map (some b)) := HR1.out.cell 0
      have m2 : V1.cell? ⟨g, 1, none⟩ = some (.int .i64 l) := HR1.out.cell 1
      have m3 := HR1.out.frozen 0
      have m4 := HR1.out.frozen 1
      have m5 := HR1.out.lt
      go_simp
      obtain ⟨V2, hV⟩ : ∃ V', V' = (V1.setCell ⟨g, 0, none⟩ (.map (some m1))).setCell ⟨g, 1, none⟩ (.int .i64 r.2.2) := ⟨_, rfl⟩
      rw [← hV]
      have HR2 : Hid (Row V2 g 31 [.map (some m1), .int .i64 r.2.2]) := by show Row _ _ _ _; rw [hV]; exact HR1.out.set2 _ _
      have HT2 : Hid (StM (fun b => b ≠ g) X V2 (.map (some m1)) r.2.1) := by show StM _ _ _ _ _; rw [hV]; exact StM.setBox HT1.out _ _
      have HRA2 : Hid (Row V2 w.heap.size 51 [.int .u8 (kd : Nat), .int .i64 p, .slice UA us.length UC]) := by show Row _ _ _ _; rw [hV]; exact (HRA1.out.far (show w.heap.size ≠ g by omega) _).far (show w.heap.size ≠ g by omega) _
      have HB2 : Hid (Below w.heap.size w V2) := by show Below _ _ _; rw [hV]; exact (HB1.out.setCell (Nat.le_of_lt hgw) _).setCell (Nat.le_of_lt hgw) _
      have KEEP : V2.cell? ⟨lb, lo + j * 3 + 2, none⟩ = some (.slice UA' vs.length UC') := by
        have hne : g ≠ lb := by omega
        rw [hV]
        exact far_cell hne (far_cell hne (HKP.out V1 HV1.out))
      clear hV m0 m2 m3 m4 m5
      refine hK.out _ _ KEEP (fun hHeld => ?_)
      clear hK K
      try simp only [Act.put]
      try simp only [List.setIfInBounds_toArray]
      try simp only [List.set_cons_succ]
      try simp only [List.set_cons_zero]
      refine wpAnyH_done (by kernel_rfl) ?_ _
      go_wp2_with fail
      go_roundw
      case rel => exact ⟨j + 1, m1, r.2.2, r.2.1, hjl, by go_num, HR2.out, HT2.out, HGC.out, HPC.out, HRA2.out, HB2.out⟩
      case measure => simp [intOf]; omega
    obtain rfl : j = L.length := by omega
    have r1 : ¬ (L.length : Int) < (L.length : Int) := by omega
    have HPN := Lib.hid (snPin_all (B := L.length) HT.out (fun b hb => by show b ≠ g; omega) HGD.out (by omega) HPW.out)
    have j0 : wr.cell? ⟨w.heap.size, 1, none⟩ = some (.int .i64 p) := HRA.out.cell 1
    have j1 := HRA.out.lt
    obtain ⟨q1, hq1⟩ : ∃ q, q = pinR V p := ⟨_, rfl⟩
    rw [← hq1] at HPN
    clear hq1
    go_wp2_with fail
    clear j0 j1 g0 g1 g2
    refine HPN.out.mono ?_
    rintro e w2' ⟨m1, rfl, hm1, -, hb2⟩
    obtain ⟨W3', hW3⟩ : ∃ W, W = w2'.alloc (.cells #[.map (some m1), .int .i64 l] 31) := ⟨_, rfl⟩
    obtain ⟨x1, hx1⟩ : ∃ x, x = w2'.heap.size := ⟨_, rfl⟩
    have hx3 : Ext w2' W3' := by rw [hW3]; exact (Ext.refl w2').alloc _
    have hb3 := Below.then hb2 hx3.below hb2.size
    have HX3 : Hid (Row W3' x1 31 [.map (some m1), .int .i64 l]) := by show Row _ _ _ _; rw [hW3, hx1]; exact Row.new w2' 31 _
    have HR3 := Lib.hid (HR.out.up hb3)
    have HT3 := Lib.hid (HT.out.up hb3)
    have HRA3 := Lib.hid (HRA.out.up hb3)
    have HB3 := Lib.hid (Below.then HB.out hb3 HB.out.size)
    have HM1 : Hid (q1.1 ≠ 0 → m1 = b) := fun h => by have e := hm1 h; simp at e; exact e
    have HUN := Lib.hid (snUnpin_all (B := L.length) (n := p) HT3.out (fun b hb => by have h1 := HR3.out.lt; show b ≠ g; omega) HGD.out (by omega) HPW.out)
    obtain ⟨q2, hq2⟩ : ∃ q, q = unpinR V p := ⟨_, rfl⟩
    have HQ2 : Hid (q2.1 ≠ 0) := by show _ ≠ _; rw [hq2]; exact unpin_pins HPI.out p
    rw [← hq2] at HUN
    have k0 : W3'.cell? ⟨g, 0, none⟩ = some (.map (some b)) := HR3.out.cell 0
    have k1 : W3'.cell? ⟨g, 1, none⟩ = some (.int .i64 l) := HR3.out.cell 1
    have k2 := HR3.out.lt
    have j0 : W3'.cell? ⟨w.heap.size, 1, none⟩ = some (.int .i64 p) := HRA3.out.cell 1
    have j1 := HRA3.out.lt
    have HW3' := Lib.hid hW3
    have HXX := Lib.hid hx1
    clear hq2 hW3 hx1 hx3 hb2 hb3 hm1 HPN HR HT HRA HB HPI
    go_upto_region 14 with (fail)
    rw [← HW3'.out, ← HXX.out]
    clear HW3' HXX
    go_wp2_with fail
    clear j0 j1 k0 k1 k2
    refine HUN.out.mono ?_
    rintro e w4' ⟨m2, rfl, hm2, -, hb4⟩
    have hm3 := hm2 HQ2.out
    simp only [Value.map.injEq, Option.some.injEq] at hm3
    subst hm3
    obtain ⟨W6, hW6⟩ : ∃ W, W = w4'.alloc (.cells #[.map (some m2), .int .i64 l] 31) := ⟨_, rfl⟩
    obtain ⟨x2, hx2⟩ : ∃ x, x = w4'.heap.size := ⟨_, rfl⟩
    have hx6 : Ext w4' W6 := by rw [hW6]; exact (Ext.refl w4').alloc _
    have hb6 := Below.then hb4 hx6.below hb4.size
    have HY6 : Hid (Row W6 x2 31 [.map (some m2), .int .i64 l]) := by show Row _ _ _ _; rw [hW6, hx2]; exact Row.new w4' 31 _
    have HX6 := Lib.hid (HX3.out.up hb6)
    have HR6 := Lib.hid (HR3.out.up hb6)
    have HT6 := Lib.hid (HT3.out.up hb6)
    have HRA6 := Lib.hid (HRA3.out.up hb6)
    have HB6 := Lib.hid (Below.then HB3.out hb6 HB3.out.size)
    have HW6 := Lib.hid hW6
    have HXX := Lib.hid hx2
    clear hW6 hx2 hx6 hb4 hb6 hm2 HUN HR3 HT3 HRA3 HB3 HX3
    obtain ⟨b, hb⟩ : ∃ b, b = m2 := ⟨_, rfl⟩
    subst hb
    have KEEP15 : Hid (∀ V, Below W6.heap.size W6 V → V.cell? ⟨g, 0, none⟩ = some (.map (some b)) ∧ V.cell? ⟨g, 1, none⟩ = some (.int .i64 l) ∧ V.cell? ⟨w.heap.size, 2, none⟩ = some (.slice UA us.length UC)) := fun V hb =>
      ⟨(HR6.out.up hb).cell 0, (HR6.out.up hb).cell 1, (HRA6.out.up hb).cell 2⟩
    obtain ⟨cs, hcs, hsc⟩ := ((HU.out.below HB6.out (Nat.le_refl _)).more HB6.out.size).cs
    have HCS := Lib.hid hcs
    have HSC := Lib.hid hsc
    have HFIX : Hid (∀ v V', Below W6.heap.size W6 V' → V'.ownsRow W6.heap.size 56 3 v (1 + us.length) ([.bool false, .string ⟨#[]⟩, .slice none 0 0] ++ cs) → ∃ A D, v = .slice A (us.length + 1) D ∧ ∀ V'', Below V'.heap.size V' V'' → Calls Try.prog 11 #[.agg #[.map (some b), .int .i64 l], .slice A (us.length + 1) D] V'' (fun e w' => e = .returned (.tuple #[.agg #[.map (some b), .int .i64 l], .int .i64 0, .int .i64 7]) ∧ Below V''.heap.size V'' w')) := fun v V' hV' hown => by
      have h1 := UpdCs.one1 (B := V'.heap.size) (w := V') ⟨false, ⟨#[]⟩, []⟩ none 0 SlR.nil
      have h2 := h1.append ((HCS.out.below hV' (Nat.le_refl _)).more hV'.size)
      obtain ⟨A, D, e, -, -, hM⟩ := own_updsM hown h2
      refine ⟨A, D, e, fun V'' hV'' => ?_⟩
      have hc := snCommit_all (B := L.length) (S := X) (l := l) ((HT6.out.up hV').up hV'') (fun b' hb' => by have h1 := HR6.out.lt; have h2 := hV'.size; have h3 := hV''.size; show b' ≠ g; omega) HGD.out (by omega) (by omega) (Nat.le_trans HOKS.out.1 (by decide)) A D ([⟨false, ⟨#[]⟩, []⟩] ++ us) ((hM.below hV'' (Nat.le_refl _)).more hV''.size) (fun u hu => by
        rcases List.mem_append.1 hu with hu | hu
        · rw [List.mem_singleton.1 hu]; exact ⟨by decide, by show (0 : Nat) ≤ _; decide, fun v hv => (by cases hv)⟩
        · exact HUF.out u hu) (by show us.length + 1 ≤ _; omega)
      have hbad : commitR X V l ([⟨false, ⟨#[]⟩, []⟩] ++ us) = (7, V, l) := commit_bad (fun p hp => (HOKS.out.2.1 p hp).1) V l us
      rw [hbad] at hc
      refine hc.mono ?_
      rintro e w' ⟨m', n', rfl, hn, hm, -, hb⟩
      have hm := hm (fun h => by cases h)
      simp only [Value.map.injEq, Option.some.injEq] at hm
      subst hm
      have hn : n' = 0 := by rw [hn]; rfl
      subst hn
      exact ⟨rfl, hb⟩
    have hwz := HR6.out.lt
    clear hcs hsc
    go_upto_region 15 with (fail)
    rw [← HW6.out, ← HXX.out]
    clear HW6 HXX
    go_cut [16, 17, 18] from 80 to 90 (fun r n e wx => Below W6.heap.size W6 wx ∧ ∃ x3, r = .pointer (some ⟨x3, 0, none⟩) ∧ n = .int .i64 0 ∧ e = .int .i64 7 ∧ W6.heap.size ≤ x3 ∧ Row wx x3 31 [.map (some b), .int .i64 l])
    case first =>
      refine wp_region_held_drew (S := (fun w' => w'.cell? ⟨g, 0, none⟩ = some (.map (some b)) ∧ w'.cell? ⟨g, 1, none⟩ = some (.int .i64 l) ∧ w'.cell? ⟨w.heap.size, 2, none⟩ = some (.slice UA us.length UC))) (by kernel_rfl) (KEEP15.out _ ((Below.refl _ _).drew)) (fun hHeld => ?_)
      obtain ⟨V0, hV0⟩ : ∃ V, V = W6.drew := ⟨_, rfl⟩
      have HV : Hid (Below W6.heap.size W6 V0) := by show Below _ _ _; rw [hV0]; exact (Below.refl _ _).drew
      rw [← hV0]
      clear hV0
      have hHeld0 := KEEP15.out _ HV.out
      refine takeOp (i := 0) (v := ?_) (some 81) rfl rfl (by kernel_rfl) (by kernel_rfl) (by kernel_rfl) (fun _ _ _ h => h) (Or.inl ⟨by rfl, ?_⟩) (by assumption) ?_
      rotate_left 1
      · (intro w0 hSw; (try dsimp only at hSw); go_simp; try (with_reducible rfl))
      try simp only [Act.put]
      try simp only [List.setIfInBounds_toArray]
      try simp only [List.set_cons_succ]
      try simp only [List.set_cons_zero]
      refine takeOp (i := 1) (v := ?_) (some 82) rfl rfl (by kernel_rfl) (by kernel_rfl) (by kernel_rfl) (fun _ _ _ h => h) (Or.inl ⟨by rfl, ?_⟩) (by assumption) ?_
      rotate_left 1
      · (intro w0 hSw; (try dsimp only at hSw); go_simp; try (with_reducible rfl))
      try simp only [Act.put]
      try simp only [List.setIfInBounds_toArray]
      try simp only [List.set_cons_succ]
      try simp only [List.set_cons_zero]
      refine takeOp (i := 3) (v := ?_) (some 84) rfl rfl (by kernel_rfl) (by kernel_rfl) (by kernel_rfl) (fun _ _ _ h => h) (Or.inl ⟨by rfl, ?_⟩) (by assumption) ?_
      rotate_left 1
      · (intro w0 hSw; (try dsimp only at hSw); go_simp; try (with_reducible rfl))
      try simp only [Act.put]
      try simp only [List.setIfInBounds_toArray]
      try simp only [List.set_cons_succ]
      try simp only [List.set_cons_zero]
      refine takeOp (i := 4) (v := ?_) (some 85) rfl rfl (by kernel_rfl) (by kernel_rfl) (by kernel_rfl) (fun _ _ _ h => h) (Or.inl ⟨by rfl, ?_⟩) (by assumption) ?_
      rotate_left 1
      · (intro w0 hSw; (try dsimp only at hSw); go_simp; try (with_reducible rfl))
      try simp only [Act.put]
      try simp only [List.setIfInBounds_toArray]
      try simp only [List.set_cons_succ]
      try simp only [List.set_cons_zero]
      refine wpAnyH_ready (rs := [2, 11]) (by kernel_rfl) (by simp) ?_
      refine (AllReadyH.cons rfl (fun K hK => ?_) (AllReadyH.cons rfl (fun K hK => ?_) AllReadyH.nil))
      · go_simp
        obtain ⟨V1, hV⟩ : ∃ V', V' = V0.alloc (.cells #[.bool false, .string ⟨#[]⟩, .slice none 0 0] 56) := ⟨_, rfl⟩
        rw [← hV]
        have hx : Ext V0 V1 := by rw [hV]; exact (Ext.refl V0).alloc _
        have HO : Hid (V1.ownsRow W6.heap.size 56 3 (.slice (some ⟨V0.heap.size, 0, none⟩) 1 1) 1 [.bool false, .string ⟨#[]⟩, .slice none 0 0]) := by show World.ownsRow _ _ _ _ _ _ _; rw [hV]; exact own_new V0 _ _ _ _ rfl HV.out.size
        have HV := Lib.hid (Below.then HV.out hx.below HV.out.size)
        clear hx hV
        refine hK.out _ _ (KEEP15.out _ HV.out) (fun hHeld => ?_)
        clear hK K
        try simp only [Act.put]
        try simp only [List.setIfInBounds_toArray]
        try simp only [List.set_cons_succ]
        try simp only [List.set_cons_zero]
        refine wpAnyH_ready (rs := [5, 11]) (by kernel_rfl) (by simp) ?_
        refine (AllReadyH.cons rfl (fun K hK => ?_) (AllReadyH.cons rfl (fun K hK => ?_) AllReadyH.nil))
        · refine stepXUpd (w := V1) rfl (.tmp 83) (.tmp 85) rfl W6.heap.size (.slice (some ⟨V0.heap.size, 0, none⟩) 1 1) 1 [.bool false, .string ⟨#[]⟩, .slice none 0 0] (by simp [Act.eval]) HO.out UA us.length UC cs (by simp [Act.eval]) HCS.out.len ((Sl.below HSC.out HV.out (Nat.le_refl _)).more HV.out.size) HCS.out.one (by omega) HV.out.size ?_
          intro v2 V2 hown hg hat
          have HV := Lib.hid (HV.out.grown hg HV.out.size (fun k hk => own_base HO.out hk))
          obtain ⟨A9, D9, rfl, ha9⟩ := HFIX.out v2 V2 HV.out hown
          have HJ9 := Lib.hid ha9
          have HVV : Hid (Below V2.heap.size V2 V2) := Below.refl _ _
          clear hown hg hat ha9
          refine hK.out _ _ (KEEP15.out _ HV.out) (fun hHeld => ?_)
          clear hK K
          try simp only [Act.put]
          try simp only [List.setIfInBounds_toArray]
          try simp only [List.set_cons_succ]
          try simp only [List.set_cons_zero]
          refine wpAnyH_ready (rs := [6, 11]) (by kernel_rfl) (by simp) ?_
          refine (AllReadyH.cons rfl (fun K hK => ?_) (AllReadyH.cons rfl (fun K hK => ?_) AllReadyH.nil))
          · go_simp
            refine (HJ9.out V2 HVV.out).mono ?_
            rintro e V10 ⟨rfl, hb10⟩
            have HV := Lib.hid (Below.then HV.out hb10 HV.out.size)
            clear hb10 HJ9
            go_wp2_with fail
            refine hK.out _ _ (KEEP15.out _ HV.out) (fun hHeld => ?_)
            clear hK K
            try simp only [Act.put]
            try simp only [List.setIfInBounds_toArray]
            try simp only [List.set_cons_succ]
            try simp only [List.set_cons_zero]
            refine takeOp (i := 7) (v := ?_) (some 80) rfl rfl (by kernel_rfl) (by kernel_rfl) (by kernel_rfl) (fun _ _ _ h => h) (Or.inl ⟨by rfl, ?_⟩) (by assumption) ?_
            rotate_left 1
            · (intro w0 hSw; (try dsimp only at hSw); go_simp; try (with_reducible rfl))
            try simp only [Act.put]
            try simp only [List.setIfInBounds_toArray]
            try simp only [List.set_cons_succ]
            try simp only [List.set_cons_zero]
            refine takeOp (i := 8) (v := ?_) (some 88) rfl rfl (by kernel_rfl) (by kernel_rfl) (by kernel_rfl) (fun _ _ _ h => h) (Or.inl ⟨by rfl, ?_⟩) (by assumption) ?_
            rotate_left 1
            · (intro w0 hSw; (try dsimp only at hSw); go_simp; try (with_reducible rfl))
            try simp only [Act.put]
            try simp only [List.setIfInBounds_toArray]
            try simp only [List.set_cons_succ]
            try simp only [List.set_cons_zero]
            refine takeOp (i := 9) (v := ?_) (some 89) rfl rfl (by kernel_rfl) (by kernel_rfl) (by kernel_rfl) (fun _ _ _ h => h) (Or.inl ⟨by rfl, ?_⟩) (by assumption) ?_
            rotate_left 1
            · (intro w0 hSw; (try dsimp only at hSw); go_simp; try (with_reducible rfl))
            try simp only [Act.put]
            try simp only [List.setIfInBounds_toArray]
            try simp only [List.set_cons_succ]
            try simp only [List.set_cons_zero]
            refine takeOp (i := 10) (v := ?_) (some 90) rfl rfl (by kernel_rfl) (by kernel_rfl) (by kernel_rfl) (fun _ _ _ h => h) (Or.inl ⟨by rfl, ?_⟩) (by assumption) ?_
            rotate_left 1
            · (intro w0 hSw; (try dsimp only at hSw); go_simp; try (with_reducible rfl))
            try simp only [Act.put]
            try simp only [List.setIfInBounds_toArray]
            try simp only [List.set_cons_succ]
            try simp only [List.set_cons_zero]
            refine wpAnyH_ready (rs := [11]) (by kernel_rfl) (by simp) ?_
            refine (AllReadyH.cons rfl (fun K hK => ?_) AllReadyH.nil)
            go_simp
            obtain ⟨V11, hV⟩ : ∃ V', V' = V10.alloc (.cells #[.map none, .int .i64 0] 31) := ⟨_, rfl⟩
            rw [← hV]
            have hx : Ext V10 V11 := by rw [hV]; exact (Ext.refl V10).alloc _
            have HI : Hid (Row V11 V10.heap.size 31 [.map none, .int .i64 0]) := by show Row _ _ _ _; rw [hV]; exact Row.new V10 31 _
            have HIZ : Hid (V10.heap.size < V11.heap.size) := HI.out.lt
            have HIW : Hid (W6.heap.size ≤ V10.heap.size) := HV.out.size
            have HV := Lib.hid (Below.then HV.out hx.below HV.out.size)
            clear hx hV
            refine hK.out _ _ (KEEP15.out _ HV.out) (fun hHeld => ?_)
            clear hK K
            try simp only [Act.put]
            try simp only [List.setIfInBounds_toArray]
            try simp only [List.set_cons_succ]
            try simp only [List.set_cons_zero]
            refine wpAnyH_ready (rs := [12]) (by kernel_rfl) (by simp) ?_
            refine (AllReadyH.cons rfl (fun K hK => ?_) AllReadyH.nil)
            have m0 : V11.cell? ⟨V10.heap.size, 0, none⟩ = some (.map none) := HI.out.cell 0
            have m1 : V11.cell? ⟨V10.heap.size, 1, none⟩ = some (.int .i64 0) := HI.out.cell 1
            have m2 := HI.out.frozen 0
            have m3 := HI.out.frozen 1
            have m4 := HI.out.lt
            go_simp
            obtain ⟨V12, hV⟩ : ∃ V', V' = (V11.setCell ⟨V10.heap.size, 0, none⟩ (.map (some b))).setCell ⟨V10.heap.size, 1, none⟩ (.int .i64 l) := ⟨_, rfl⟩
            rw [← hV]
            have HI : Hid (Row V12 V10.heap.size 31 [.map (some b), .int .i64 l]) := by show Row _ _ _ _; rw [hV]; exact HI.out.set2 _ _
            have HV : Hid (Below W6.heap.size W6 V12) := by show Below _ _ _; rw [hV]; exact (HV.out.setCell HIW.out _).setCell HIW.out _
            clear hV m0 m1 m2 m3 m4
            refine hK.out _ _ (KEEP15.out _ HV.out) (fun hHeld => ?_)
            clear hK K
            try simp only [Act.put]
            try simp only [List.setIfInBounds_toArray]
            try simp only [List.set_cons_succ]
            try simp only [List.set_cons_zero]
            refine takeOp (i := 13) (v := ?_) (some 17) rfl rfl (by kernel_rfl) (by kernel_rfl) (by kernel_rfl) (fun _ _ _ h => h) (Or.inl ⟨by rfl, ?_⟩) (by assumption) ?_
            rotate_left 1
            · (intro w0 hSw; (try dsimp only at hSw); go_simp; try (with_reducible rfl))
            try simp only [Act.put]
            try simp only [List.setIfInBounds_toArray]
            try simp only [List.set_cons_succ]
            try simp only [List.set_cons_zero]
            refine takeOp (i := 14) (v := ?_) (some 18) rfl rfl (by kernel_rfl) (by kernel_rfl) (by kernel_rfl) (fun _ _ _ h => h) (Or.inl ⟨by rfl, ?_⟩) (by assumption) ?_
            rotate_left 1
            · (intro w0 hSw; (try dsimp only at hSw); go_simp; try (with_reducible rfl))
            try simp only [Act.put]
            try simp only [List.setIfInBounds_toArray]
            try simp only [List.set_cons_succ]
            try simp only [List.set_cons_zero]
            refine wpAnyH_done (by kernel_rfl) ?_ _
            go_wp2_with fail
            go_meet
            case rel => exact ⟨HV.out, V10.heap.size, rfl, rfl, rfl, HIW.out, HI.out⟩
          · go_simp
            obtain ⟨V3, hV⟩ : ∃ V', V' = V2.alloc (.cells #[.map none, .int .i64 0] 31) := ⟨_, rfl⟩
            rw [← hV]
            have hx : Ext V2 V3 := by rw [hV]; exact (Ext.refl V2).alloc _
            have HVV := Lib.hid (Below.then HVV.out hx.below HVV.out.size)
            have HI : Hid (Row V3 V2.heap.size 31 [.map none, .int .i64 0]) := by show Row _ _ _ _; rw [hV]; exact Row.new V2 31 _
            have HIZ : Hid (V2.heap.size < V3.heap.size) := HI.out.lt
            have HIW : Hid (W6.heap.size ≤ V2.heap.size) := HV.out.size
            have HV := Lib.hid (Below.then HV.out hx.below HV.out.size)
            clear hx hV
            refine hK.out _ _ (KEEP15.out _ HV.out) (fun hHeld => ?_)
            clear hK K
            try simp only [Act.put]
            try simp only [List.setIfInBounds_toArray]
            try simp only [List.set_cons_succ]
            try simp only [List.set_cons_zero]
            refine wpAnyH_ready (rs := [6]) (by kernel_rfl) (by simp) ?_
            refine (AllReadyH.cons rfl (fun K hK => ?_) AllReadyH.nil)
            go_simp
            refine (HJ9.out V3 HVV.out).mono ?_
            rintro e V10 ⟨rfl, hb10⟩
            have HI := Lib.hid (HI.out.up hb10)
            have HV := Lib.hid (Below.then HV.out hb10 HV.out.size)
            clear hb10 HJ9
            go_wp2_with fail
            refine hK.out _ _ (KEEP15.out _ HV.out) (fun hHeld => ?_)
            clear hK K
            try simp only [Act.put]
            try simp only [List.setIfInBounds_toArray]
            try simp only [List.set_cons_succ]
            try simp only [List.set_cons_zero]
            refine takeOp (i := 7) (v := ?_) (some 80) rfl rfl (by kernel_rfl) (by kernel_rfl) (by kernel_rfl) (fun _ _ _ h => h) (Or.inl ⟨by rfl, ?_⟩) (by assumption) ?_
            rotate_left 1
            · (intro w0 hSw; (try dsimp only at hSw); go_simp; try (with_reducible rfl))
            try simp only [Act.put]
            try simp only [List.setIfInBounds_toArray]
            try simp only [List.set_cons_succ]
            try simp only [List.set_cons_zero]
            refine takeOp (i := 8) (v := ?_) (some 88) rfl rfl (by kernel_rfl) (by kernel_rfl) (by kernel_rfl) (fun _ _ _ h => h) (Or.inl ⟨by rfl, ?_⟩) (by assumption) ?_
            rotate_left 1
            · (intro w0 hSw; (try dsimp only at hSw); go_simp; try (with_reducible rfl))
            try simp only [Act.put]
            try simp only [List.setIfInBounds_toArray]
            try simp only [List.set_cons_succ]
            try simp only [List.set_cons_zero]
            refine takeOp (i := 9) (v := ?_) (some 89) rfl rfl (by kernel_rfl) (by kernel_rfl) (by kernel_rfl) (fun _ _ _ h => h) (Or.inl ⟨by rfl, ?_⟩) (by assumption) ?_
            rotate_left 1
            · (intro w0 hSw; (try dsimp only at hSw); go_simp; try (with_reducible rfl))
            try simp only [Act.put]
            try simp only [List.setIfInBounds_toArray]
            try simp only [List.set_cons_succ]
            try simp only [List.set_cons_zero]
            refine takeOp (i := 10) (v := ?_) (some 90) rfl rfl (by kernel_rfl) (by kernel_rfl) (by kernel_rfl) (fun _ _ _ h => h) (Or.inl ⟨by rfl, ?_⟩) (by assumption) ?_
            rotate_left 1
            · (intro w0 hSw; (try dsimp only at hSw); go_simp; try (with_reducible rfl))
            try simp only [Act.put]
            try simp only [List.setIfInBounds_toArray]
            try simp only [List.set_cons_succ]
            try simp only [List.set_cons_zero]
            refine wpAnyH_ready (rs := [12]) (by kernel_rfl) (by simp) ?_
            refine (AllReadyH.cons rfl (fun K hK => ?_) AllReadyH.nil)
            have m0 : V10.cell? ⟨V2.heap.size, 0, none⟩ = some (.map none) := HI.out.cell 0
            have m1 : V10.cell? ⟨V2.heap.size, 1, none⟩ = some (.int .i64 0) := HI.out.cell 1
            have m2 := HI.out.frozen 0
            have m3 := HI.out.frozen 1
            have m4 := HI.out.lt
            go_simp
            obtain ⟨V11, hV⟩ : ∃ V', V' = (V10.setCell ⟨V2.heap.size, 0, none⟩ (.map (some b))).setCell ⟨V2.heap.size, 1, none⟩ (.int .i64 l) := ⟨_, rfl⟩
            rw [← hV]
            have HI : Hid (Row V11 V2.heap.size 31 [.map (some b), .int .i64 l]) := by show Row _ _ _ _; rw [hV]; exact HI.out.set2 _ _
            have HV : Hid (Below W6.heap.size W6 V11) := by show Below _ _ _; rw [hV]; exact (HV.out.setCell HIW.out _).setCell HIW.out _
            clear hV m0 m1 m2 m3 m4
            refine hK.out _ _ (KEEP15.out _ HV.out) (fun hHeld => ?_)
            clear hK K
            try simp only [Act.put]
            try simp only [List.setIfInBounds_toArray]
            try simp only [List.set_cons_succ]
            try simp only [List.set_cons_zero]
            refine takeOp (i := 13) (v := ?_) (some 17) rfl rfl (by kernel_rfl) (by kernel_rfl) (by kernel_rfl) (fun _ _ _ h => h) (Or.inl ⟨by rfl, ?_⟩) (by assumption) ?_
            rotate_left 1
            · (intro w0 hSw; (try dsimp only at hSw); go_simp; try (with_reducible rfl))
            try simp only [Act.put]
            try simp only [List.setIfInBounds_toArray]
            try simp only [List.set_cons_succ]
            try simp only [List.set_cons_zero]
            refine takeOp (i := 14) (v := ?_) (some 18) rfl rfl (by kernel_rfl) (by kernel_rfl) (by kernel_rfl) (fun _ _ _ h => h) (Or.inl ⟨by rfl, ?_⟩) (by assumption) ?_
            rotate_left 1
            · (intro w0 hSw; (try dsimp only at hSw); go_simp; try (with_reducible rfl))
            try simp only [Act.put]
            try simp only [List.setIfInBounds_toArray]
            try simp only [List.set_cons_succ]
            try simp only [List.set_cons_zero]
            refine wpAnyH_done (by kernel_rfl) ?_ _
            go_wp2_with fail
            go_meet
            case rel => exact ⟨HV.out, V2.heap.size, rfl, rfl, rfl, HIW.out, HI.out⟩
        · have HOZ : Hid (∀ b, ((.slice (some ⟨V0.heap.size, 0, none⟩) 1 1) : Value).ownBlock = some b → b < V1.heap.size) := fun b hb => own_lt HO.out b hb
          go_simp
          obtain ⟨V2, hV⟩ : ∃ V', V' = V1.alloc (.cells #[.map none, .int .i64 0] 31) := ⟨_, rfl⟩
          rw [← hV]
          have hx : Ext V1 V2 := by rw [hV]; exact (Ext.refl V1).alloc _
          have HO := Lib.hid (own_keep HO.out hx.below)
          have HDI : Hid (∀ b, ((.slice (some ⟨V0.heap.size, 0, none⟩) 1 1) : Value).ownBlock = some b → b ≠ V1.heap.size) := fun b hb => by have := own_lt (own_keep HO.out (Below.refl _ _)) b hb; have h2 := HOZ.out b hb; omega
          have HI : Hid (Row V2 V1.heap.size 31 [.map none, .int .i64 0]) := by show Row _ _ _ _; rw [hV]; exact Row.new V1 31 _
          have HIZ : Hid (V1.heap.size < V2.heap.size) := HI.out.lt
          have HIW : Hid (W6.heap.size ≤ V1.heap.size) := HV.out.size
          have HV := Lib.hid (Below.then HV.out hx.below HV.out.size)
          clear hx hV
          refine hK.out _ _ (KEEP15.out _ HV.out) (fun hHeld => ?_)
          clear hK K
          try simp only [Act.put]
          try simp only [List.setIfInBounds_toArray]
          try simp only [List.set_cons_succ]
          try simp only [List.set_cons_zero]
          refine wpAnyH_ready (rs := [5]) (by kernel_rfl) (by simp) ?_
          refine (AllReadyH.cons rfl (fun K hK => ?_) AllReadyH.nil)
          refine stepXUpd (w := V2) rfl (.tmp 83) (.tmp 85) rfl W6.heap.size (.slice (some ⟨V0.heap.size, 0, none⟩) 1 1) 1 [.bool false, .string ⟨#[]⟩, .slice none 0 0] (by simp [Act.eval]) HO.out UA us.length UC cs (by simp [Act.eval]) HCS.out.len ((Sl.below HSC.out HV.out (Nat.le_refl _)).more HV.out.size) HCS.out.one (by omega) HV.out.size ?_
          intro v3 V3 hown hg hat
          have HI := Lib.hid (Row.grown HI.out hg (fun e => HDI.out _ e.symm rfl))
          have HV := Lib.hid (HV.out.grown hg HV.out.size (fun k hk => own_base HO.out hk))
          obtain ⟨A9, D9, rfl, ha9⟩ := HFIX.out v3 V3 HV.out hown
          have HJ9 := Lib.hid ha9
          have HVV : Hid (Below V3.heap.size V3 V3) := Below.refl _ _
          clear hown hg hat ha9
          refine hK.out _ _ (KEEP15.out _ HV.out) (fun hHeld => ?_)
          clear hK K
          try simp only [Act.put]
          try simp only [List.setIfInBounds_toArray]
          try simp only [List.set_cons_succ]
          try simp only [List.set_cons_zero]
          refine wpAnyH_ready (rs := [6]) (by kernel_rfl) (by simp) ?_
          refine (AllReadyH.cons rfl (fun K hK => ?_) AllReadyH.nil)
          go_simp
          refine (HJ9.out V3 HVV.out).mono ?_
          rintro e V10 ⟨rfl, hb10⟩
          have HI := Lib.hid (HI.out.up hb10)
          have HV := Lib.hid (Below.then HV.out hb10 HV.out.size)
          clear hb10 HJ9
          go_wp2_with fail
          refine hK.out _ _ (KEEP15.out _ HV.out) (fun hHeld => ?_)
          clear hK K
          try simp only [Act.put]
          try simp only [List.setIfInBounds_toArray]
          try simp only [List.set_cons_succ]
          try simp only [List.set_cons_zero]
          refine takeOp (i := 7) (v := ?_) (some 80) rfl rfl (by kernel_rfl) (by kernel_rfl) (by kernel_rfl) (fun _ _ _ h => h) (Or.inl ⟨by rfl, ?_⟩) (by assumption) ?_
          rotate_left 1
          · (intro w0 hSw; (try dsimp only at hSw); go_simp; try (with_reducible rfl))
          try simp only [Act.put]
          try simp only [List.setIfInBounds_toArray]
          try simp only [List.set_cons_succ]
          try simp only [List.set_cons_zero]
          refine takeOp (i := 8) (v := ?_) (some 88) rfl rfl (by kernel_rfl) (by kernel_rfl) (by kernel_rfl) (fun _ _ _ h => h) (Or.inl ⟨by rfl, ?_⟩) (by assumption) ?_
          rotate_left 1
          · (intro w0 hSw; (try dsimp only at hSw); go_simp; try (with_reducible rfl))
          try simp only [Act.put]
          try simp only [List.setIfInBounds_toArray]
          try simp only [List.set_cons_succ]
          try simp only [List.set_cons_zero]
          refine takeOp (i := 9) (v := ?_) (some 89) rfl rfl (by kernel_rfl) (by kernel_rfl) (by kernel_rfl) (fun _ _ _ h => h) (Or.inl ⟨by rfl, ?_⟩) (by assumption) ?_
          rotate_left 1
          · (intro w0 hSw; (try dsimp only at hSw); go_simp; try (with_reducible rfl))
          try simp only [Act.put]
          try simp only [List.setIfInBounds_toArray]
          try simp only [List.set_cons_succ]
          try simp only [List.set_cons_zero]
          refine takeOp (i := 10) (v := ?_) (some 90) rfl rfl (by kernel_rfl) (by kernel_rfl) (by kernel_rfl) (fun _ _ _ h => h) (Or.inl ⟨by rfl, ?_⟩) (by assumption) ?_
          rotate_left 1
          · (intro w0 hSw; (try dsimp only at hSw); go_simp; try (with_reducible rfl))
          try simp only [Act.put]
          try simp only [List.setIfInBounds_toArray]
          try simp only [List.set_cons_succ]
          try simp only [List.set_cons_zero]
          refine wpAnyH_ready (rs := [12]) (by kernel_rfl) (by simp) ?_
          refine (AllReadyH.cons rfl (fun K hK => ?_) AllReadyH.nil)
          have m0 : V10.cell? ⟨V1.heap.size, 0, none⟩ = some (.map none) := HI.out.cell 0
          have m1 : V10.cell? ⟨V1.heap.size, 1, none⟩ = some (.int .i64 0) := HI.out.cell 1
          have m2 := HI.out.frozen 0
          have m3 := HI.out.frozen 1
          have m4 := HI.out.lt
          go_simp
          obtain ⟨V11, hV⟩ : ∃ V', V' = (V10.setCell ⟨V1.heap.size, 0, none⟩ (.map (some b))).setCell ⟨V1.heap.size, 1, none⟩ (.int .i64 l) := ⟨_, rfl⟩
          rw [← hV]
          have HI : Hid (Row V11 V1.heap.size 31 [.map (some b), .int .i64 l]) := by show Row _ _ _ _; rw [hV]; exact HI.out.set2 _ _
          have HV : Hid (Below W6.heap.size W6 V11) := by show Below _ _ _; rw [hV]; exact (HV.out.setCell HIW.out _).setCell HIW.out _
          clear hV m0 m1 m2 m3 m4
          refine hK.out _ _ (KEEP15.out _ HV.out) (fun hHeld => ?_)
          clear hK K
          try simp only [Act.put]
          try simp only [List.setIfInBounds_toArray]
          try simp only [List.set_cons_succ]
          try simp only [List.set_cons_zero]
          refine takeOp (i := 13) (v := ?_) (some 17) rfl rfl (by kernel_rfl) (by kernel_rfl) (by kernel_rfl) (fun _ _ _ h => h) (Or.inl ⟨by rfl, ?_⟩) (by assumption) ?_
          rotate_left 1
          · (intro w0 hSw; (try dsimp only at hSw); go_simp; try (with_reducible rfl))
          try simp only [Act.put]
          try simp only [List.setIfInBounds_toArray]
          try simp only [List.set_cons_succ]
          try simp only [List.set_cons_zero]
          refine takeOp (i := 14) (v := ?_) (some 18) rfl rfl (by kernel_rfl) (by kernel_rfl) (by kernel_rfl) (fun _ _ _ h => h) (Or.inl ⟨by rfl, ?_⟩) (by assumption) ?_
          rotate_left 1
          · (intro w0 hSw; (try dsimp only at hSw); go_simp; try (with_reducible rfl))
          try simp only [Act.put]
          try simp only [List.setIfInBounds_toArray]
          try simp only [List.set_cons_succ]
          try simp only [List.set_cons_zero]
          refine wpAnyH_done (by kernel_rfl) ?_ _
          go_wp2_with fail
          go_meet
          case rel => exact ⟨HV.out, V1.heap.size, rfl, rfl, rfl, HIW.out, HI.out⟩
      · go_simp
        obtain ⟨V1, hV⟩ : ∃ V', V' = V0.alloc (.cells #[.map none, .int .i64 0] 31) := ⟨_, rfl⟩
        rw [← hV]
        have hx : Ext V0 V1 := by rw [hV]; exact (Ext.refl V0).alloc _
        have HI : Hid (Row V1 V0.heap.size 31 [.map none, .int .i64 0]) := by show Row _ _ _ _; rw [hV]; exact Row.new V0 31 _
        have HIZ : Hid (V0.heap.size < V1.heap.size) := HI.out.lt
        have HIW : Hid (W6.heap.size ≤ V0.heap.size) := HV.out.size
        have HV := Lib.hid (Below.then HV.out hx.below HV.out.size)
        clear hx hV
        refine hK.out _ _ (KEEP15.out _ HV.out) (fun hHeld => ?_)
        clear hK K
        try simp only [Act.put]
        try simp only [List.setIfInBounds_toArray]
        try simp only [List.set_cons_succ]
        try simp only [List.set_cons_zero]
        refine wpAnyH_ready (rs := [2]) (by kernel_rfl) (by simp) ?_
        refine (AllReadyH.cons rfl (fun K hK => ?_) AllReadyH.nil)
        go_simp
        obtain ⟨V2, hV⟩ : ∃ V', V' = V1.alloc (.cells #[.bool false, .string ⟨#[]⟩, .slice none 0 0] 56) := ⟨_, rfl⟩
        rw [← hV]
        have hx : Ext V1 V2 := by rw [hV]; exact (Ext.refl V1).alloc _
        have HI := Lib.hid (HI.out.up hx.below)
        have HDI : Hid (∀ b, (Value.slice (some ⟨V1.heap.size, 0, none⟩) 1 1).ownBlock = some b → b ≠ V0.heap.size) := fun b hb => by have e : some V1.heap.size = some b := hb; injection e with e; have := HIZ.out; omega
        have HO : Hid (V2.ownsRow W6.heap.size 56 3 (.slice (some ⟨V1.heap.size, 0, none⟩) 1 1) 1 [.bool false, .string ⟨#[]⟩, .slice none 0 0]) := by show World.ownsRow _ _ _ _ _ _ _; rw [hV]; exact own_new V1 _ _ _ _ rfl HV.out.size
        have HV := Lib.hid (Below.then HV.out hx.below HV.out.size)
        clear hx hV
        refine hK.out _ _ (KEEP15.out _ HV.out) (fun hHeld => ?_)
        clear hK K
        try simp only [Act.put]
        try simp only [List.setIfInBounds_toArray]
        try simp only [List.set_cons_succ]
        try simp only [List.set_cons_zero]
        refine wpAnyH_ready (rs := [5]) (by kernel_rfl) (by simp) ?_
        refine (AllReadyH.cons rfl (fun K hK => ?_) AllReadyH.nil)
        refine stepXUpd (w := V2) rfl (.tmp 83) (.tmp 85) rfl W6.heap.size (.slice (some ⟨V1.heap.size, 0, none⟩) 1 1) 1 [.bool false, .string ⟨#[]⟩, .slice none 0 0] (by simp [Act.eval]) HO.out UA us.length UC cs (by simp [Act.eval]) HCS.out.len ((Sl.below HSC.out HV.out (Nat.le_refl _)).more HV.out.size) HCS.out.one (by omega) HV.out.size ?_
        intro v3 V3 hown hg hat
        have HI := Lib.hid (Row.grown HI.out hg (fun e => HDI.out _ e.symm rfl))
        have HV := Lib.hid (HV.out.grown hg HV.out.size (fun k hk => own_base HO.out hk))
        obtain ⟨A9, D9, rfl, ha9⟩ := HFIX.out v3 V3 HV.out hown
        have HJ9 := Lib.hid ha9
        have HVV : Hid (Below V3.heap.size V3 V3) := Below.refl _ _
        clear hown hg hat ha9
        refine hK.out _ _ (KEEP15.out _ HV.out) (fun hHeld => ?_)
        clear hK K
        try simp only [Act.put]
        try simp only [List.setIfInBounds_toArray]
        try simp only [List.set_cons_succ]
        try simp only [List.set_cons_zero]
        refine wpAnyH_ready (rs := [6]) (by kernel_rfl) (by simp) ?_
        refine (AllReadyH.cons rfl (fun K hK => ?_) AllReadyH.nil)
        go_simp
        refine (HJ9.out V3 HVV.out).mono ?_
        rintro e V10 ⟨rfl, hb10⟩
        have HI := Lib.hid (HI.out.up hb10)
        have HV := Lib.hid (Below.then HV.out hb10 HV.out.size)
        clear hb10 HJ9
        go_wp2_with fail
        refine hK.out _ _ (KEEP15.out _ HV.out) (fun hHeld => ?_)
        clear hK K
        try simp only [Act.put]
        try simp only [List.setIfInBounds_toArray]
        try simp only [List.set_cons_succ]
        try simp only [List.set_cons_zero]
        refine takeOp (i := 7) (v := ?_) (some 80) rfl rfl (by kernel_rfl) (by kernel_rfl) (by kernel_rfl) (fun _ _ _ h => h) (Or.inl ⟨by rfl, ?_⟩) (by assumption) ?_
        rotate_left 1
        · (intro w0 hSw; (try dsimp only at hSw); go_simp; try (with_reducible rfl))
        try simp only [Act.put]
        try simp only [List.setIfInBounds_toArray]
        try simp only [List.set_cons_succ]
        try simp only [List.set_cons_zero]
        refine takeOp (i := 8) (v := ?_) (some 88) rfl rfl (by kernel_rfl) (by kernel_rfl) (by kernel_rfl) (fun _ _ _ h => h) (Or.inl ⟨by rfl, ?_⟩) (by assumption) ?_
        rotate_left 1
        · (intro w0 hSw; (try dsimp only at hSw); go_simp; try (with_reducible rfl))
        try simp only [Act.put]
        try simp only [List.setIfInBounds_toArray]
        try simp only [List.set_cons_succ]
        try simp only [List.set_cons_zero]
        refine takeOp (i := 9) (v := ?_) (some 89) rfl rfl (by kernel_rfl) (by kernel_rfl) (by kernel_rfl) (fun _ _ _ h => h) (Or.inl ⟨by rfl, ?_⟩) (by assumption) ?_
        rotate_left 1
        · (intro w0 hSw; (try dsimp only at hSw); go_simp; try (with_reducible rfl))
        try simp only [Act.put]
        try simp only [List.setIfInBounds_toArray]
        try simp only [List.set_cons_succ]
        try simp only [List.set_cons_zero]
        refine takeOp (i := 10) (v := ?_) (some 90) rfl rfl (by kernel_rfl) (by kernel_rfl) (by kernel_rfl) (fun _ _ _ h => h) (Or.inl ⟨by rfl, ?_⟩) (by assumption) ?_
        rotate_left 1
        · (intro w0 hSw; (try dsimp only at hSw); go_simp; try (with_reducible rfl))
        try simp only [Act.put]
        try simp only [List.setIfInBounds_toArray]
        try simp only [List.set_cons_succ]
        try simp only [List.set_cons_zero]
        refine wpAnyH_ready (rs := [12]) (by kernel_rfl) (by simp) ?_
        refine (AllReadyH.cons rfl (fun K hK => ?_) AllReadyH.nil)
        have m0 : V10.cell? ⟨V0.heap.size, 0, none⟩ = some (.map none) := HI.out.cell 0
        have m1 : V10.cell? ⟨V0.heap.size, 1, none⟩ = some (.int .i64 0) := HI.out.cell 1
        have m2 := HI.out.frozen 0
        have m3 := HI.out.frozen 1
        have m4 := HI.out.lt
        go_simp
        obtain ⟨V11, hV⟩ : ∃ V', V' = (V10.setCell ⟨V0.heap.size, 0, none⟩ (.map (some b))).setCell ⟨V0.heap.size, 1, none⟩ (.int .i64 l) := ⟨_, rfl⟩
        rw [← hV]
        have HI : Hid (Row V11 V0.heap.size 31 [.map (some b), .int .i64 l]) := by show Row _ _ _ _; rw [hV]; exact HI.out.set2 _ _
        have HV : Hid (Below W6.heap.size W6 V11) := by show Below _ _ _; rw [hV]; exact (HV.out.setCell HIW.out _).setCell HIW.out _
        clear hV m0 m1 m2 m3 m4
        refine hK.out _ _ (KEEP15.out _ HV.out) (fun hHeld => ?_)
        clear hK K
        try simp only [Act.put]
        try simp only [List.setIfInBounds_toArray]
        try simp only [List.set_cons_succ]
        try simp only [List.set_cons_zero]
        refine takeOp (i := 13) (v := ?_) (some 17) rfl rfl (by kernel_rfl) (by kernel_rfl) (by kernel_rfl) (fun _ _ _ h => h) (Or.inl ⟨by rfl, ?_⟩) (by assumption) ?_
        rotate_left 1
        · (intro w0 hSw; (try dsimp only at hSw); go_simp; try (with_reducible rfl))
        try simp only [Act.put]
        try simp only [List.setIfInBounds_toArray]
        try simp only [List.set_cons_succ]
        try simp only [List.set_cons_zero]
        refine takeOp (i := 14) (v := ?_) (some 18) rfl rfl (by kernel_rfl) (by kernel_rfl) (by kernel_rfl) (fun _ _ _ h => h) (Or.inl ⟨by rfl, ?_⟩) (by assumption) ?_
        rotate_left 1
        · (intro w0 hSw; (try dsimp only at hSw); go_simp; try (with_reducible rfl))
        try simp only [Act.put]
        try simp only [List.setIfInBounds_toArray]
        try simp only [List.set_cons_succ]
        try simp only [List.set_cons_zero]
        refine wpAnyH_done (by kernel_rfl) ?_ _
        go_wp2_with fail
        go_meet
        case rel => exact ⟨HV.out, V0.heap.size, rfl, rfl, rfl, HIW.out, HI.out⟩
    case rest =>
    obtain ⟨hb7, x3, rfl, rfl, rfl, hx3, hr3⟩ := hcut
    have hxg : g < W6.heap.size := hwz
    have HX7 := Lib.hid (HX6.out.up hb7)
    have HY7 := Lib.hid (HY6.out.up hb7)
    have HZ7 := Lib.hid hr3
    have HR7 := Lib.hid (HR6.out.up hb7)
    have HT7 := Lib.hid (HT6.out.up hb7)
    have HRA7 := Lib.hid (HRA6.out.up hb7)
    have HB7 := Lib.hid (Below.then HB6.out hb7 HB6.out.size)
    clear hb7 hr3 HX6 HY6 HR6 HT6 HRA6 HB6 HFIX HSC HCS KEEP15 hxg hwz hx3
    obtain ⟨W8, hW8⟩ : ∃ W, W = wc := ⟨_, rfl⟩
    subst hW8
    go_wp2_with fail
    go_loopw [19] (fun c wx => ∃ i : Nat, i ≤ 3 ∧ c = .int .i64 i ∧ Below W8.heap.size W8 wx) (fun c _ => 3 - (intOf c).toNat)
    case atStart => exact ⟨0, by decide, rfl, Below.refl _ _⟩
    case round =>
      obtain ⟨i, hi, rfl, hbr⟩ := hrel
      have HBR := Lib.hid hbr
      have HX9 := Lib.hid (HX7.out.up hbr)
      have HY9 := Lib.hid (HY7.out.up hbr)
      have HZ9 := Lib.hid (HZ7.out.up hbr)
      have HR9 := Lib.hid (HR7.out.up hbr)
      have HT9 := Lib.hid (HT7.out.up hbr)
      have HRA9 := Lib.hid (HRA7.out.up hbr)
      have HB9 := Lib.hid (Below.then HB7.out hbr HB7.out.size)
      have l0 : wr.cell? ⟨x1, 0, none⟩ = some (.map (some m1)) := HX9.out.cell 0
      have l1 : wr.cell? ⟨x1, 1, none⟩ = some (.int .i64 l) := HX9.out.cell 1
      have l2 : wr.cell? ⟨x2, 0, none⟩ = some (.map (some b)) := HY9.out.cell 0
      have l3 : wr.cell? ⟨x2, 1, none⟩ = some (.int .i64 l) := HY9.out.cell 1
      have l4 : wr.cell? ⟨x3, 0, none⟩ = some (.map (some b)) := HZ9.out.cell 0
      have l5 : wr.cell? ⟨x3, 1, none⟩ = some (.int .i64 l) := HZ9.out.cell 1
      have l6 := HX9.out.lt
      have l7 := HY9.out.lt
      have l8 := HZ9.out.lt
      clear hbr HX7 HY7 HZ7 HR7 HT7 HRA7 HB7
      have hcase : i = 3 ∨ (i = 0 ∧ q1.1 = 0) ∨ (i = 0 ∧ q1.1 ≠ 0) ∨ i = 1 ∨ i = 2 := by omega
      rcases hcase with rfl | ⟨rfl, h0⟩ | ⟨rfl, h0⟩ | rfl | rfl
      · have e2 : (q2.1 != 0) = true := by simpa using HQ2.out
        go_wp2
        go_ret
        exact ⟨rfl, HB9.out⟩
      · have e1 : (q1.1 == 0) = true := by simpa using h0
        have HBX : Hid (∀ V, Ext wr V → Below W8.heap.size W8 V) := fun V hx => Below.then HBR.out hx.below HBR.out.size
        clear h0
        go_wp2
        go_roundw
        case rel => exact ⟨1, by decide, by go_num, HBX.out _ (((Ext.refl wr).alloc _).alloc _ |>.alloc _)⟩
        case measure => simp [intOf]
      · have e1 : (q1.1 == 0) = false := beq_no h0
        have hmb := (HM1.out h0).symm
        subst hmb
        obtain ⟨W9, hW9⟩ : ∃ W9, W9 = ((wr.alloc (.cells #[.map (some b), .int .i64 l, .map (some b), .int .i64 l, .map (some b), .int .i64 l] 31)).alloc (.cells #[.map (some b), .int .i64 l] 31)).alloc (.cells #[.int .i64 q1.1, .int .i64 q2.1, .int .i64 7] 26) := ⟨_, rfl⟩
        have hx9 : Ext wr W9 := by rw [hW9]; exact (((Ext.refl wr).alloc _).alloc _).alloc _
        have hb9 := hx9.below
        have HN9 : Hid (Row W9 (wr.heap.size + 1) 31 [.map (some b), .int .i64 l]) := by
          have h := (Row.new (wr.alloc (.cells #[.map (some b), .int .i64 l, .map (some b), .int .i64 l, .map (some b), .int .i64 l] 31)) 31 [.map (some b), .int .i64 l]).alloc (.cells #[.int .i64 q1.1, .int .i64 q2.1, .int .i64 7] 26)
          rw [World.size_alloc] at h
          show Row _ _ _ _
          rw [hW9]; exact h
        have HKP : Hid (∀ V, Below W9.heap.size W9 V → V.cell? ⟨wr.heap.size + 1, 0, none⟩ = some (.map (some b)) ∧ V.cell? ⟨wr.heap.size + 1, 1, none⟩ = some (.int .i64 l) ∧ V.cell? ⟨g, 0, none⟩ = some (.map (some b)) ∧ V.cell? ⟨g, 1, none⟩ = some (.int .i64 l) ∧ V.cell? ⟨w.heap.size, 1, none⟩ = some (.int .i64 p)) := fun V hb =>
          have h := Below.then hb9 hb hb9.size
          ⟨(HN9.out.up hb).cell 0, (HN9.out.up hb).cell 1, (HR9.out.up h).cell 0, (HR9.out.up h).cell 1, (HRA9.out.up h).cell 1⟩
        have HT10 := Lib.hid (HT9.out.up hb9)
        have HB10 := Lib.hid (Below.then HBR.out hb9 HBR.out.size)
        obtain ⟨xg, hxg⟩ : ∃ x, x = wr.heap.size + 1 := ⟨_, rfl⟩
        rw [← hxg] at HKP
        have HXG := Lib.hid hxg
        have HW9 := Lib.hid hW9
        clear hx9 hb9 HN9 HT9 HR9 HRA9 HX9 HY9 HZ9 hW9 hxg
        go_upto_region 21 with (fail)
        rw [← HW9.out, ← HXG.out]
        clear HW9 HXG l1 l2 l3 l4 l5 l6 l7 l8 e1
        refine wp_region_held_drew (S := (fun w' => w'.cell? ⟨xg, 0, none⟩ = some (.map (some b)) ∧ w'.cell? ⟨xg, 1, none⟩ = some (.int .i64 l) ∧ w'.cell? ⟨g, 0, none⟩ = some (.map (some b)) ∧ w'.cell? ⟨g, 1, none⟩ = some (.int .i64 l) ∧ w'.cell? ⟨w.heap.size, 1, none⟩ = some (.int .i64 p))) (by kernel_rfl) (HKP.out W9.drew (Below.refl _ _).drew) (fun hHeld => ?_)
        refine takeOp (i := 0) (v := ?_) (some 110) rfl rfl (by kernel_rfl) (by kernel_rfl) (by kernel_rfl) (fun _ _ _ h => h) (Or.inl ⟨by rfl, ?_⟩) (by assumption) ?_
        rotate_left 1
        · (intro w0 hSw; (try dsimp only at hSw); go_simp; try (with_reducible rfl))
        try simp only [Act.put]
        try simp only [List.setIfInBounds_toArray]
        try simp only [List.set_cons_succ]
        try simp only [List.set_cons_zero]
        refine takeOp (i := 2) (v := ?_) (some 112) rfl rfl (by kernel_rfl) (by kernel_rfl) (by kernel_rfl) (fun _ _ _ h => h) (Or.inl ⟨by rfl, ?_⟩) (by assumption) ?_
        rotate_left 1
        · (intro w0 hSw; (try dsimp only at hSw); go_simp; try (with_reducible rfl))
        try simp only [Act.put]
        try simp only [List.setIfInBounds_toArray]
        try simp only [List.set_cons_succ]
        try simp only [List.set_cons_zero]
        refine wpAnyH_ready (rs := [1]) (by kernel_rfl) (by simp) ?_
        refine AllReadyH.cons rfl (fun K hK => ?_) AllReadyH.nil
        go_simp
        refine (snLatest_any (.map (some b)) l W9.drew).mono ?_
        rintro e V1 ⟨rfl, hx⟩
        have HV1 : Hid (Below W9.heap.size W9 V1) := Below.undrew hx.below
        clear hx
        go_wp2_with fail
        refine hK.out _ _ (HKP.out V1 HV1.out) (fun hHeld => ?_)
        clear hK K
        try simp only [Act.put]
        try simp only [List.setIfInBounds_toArray]
        try simp only [List.set_cons_succ]
        try simp only [List.set_cons_zero]
        refine wpAnyH_ready (rs := [3]) (by kernel_rfl) (by simp) ?_
        refine AllReadyH.cons rfl (fun K hK => ?_) AllReadyH.nil
        go_simp
        refine (snLatest_any (.map (some b)) l V1).mono ?_
        rintro e V2 ⟨rfl, hx⟩
        have HV2 : Hid (Below W9.heap.size W9 V2) := Below.then HV1.out hx.below HV1.out.size
        clear hx
        go_wp2_with fail
        refine hK.out _ _ (HKP.out V2 HV2.out) (fun hHeld => ?_)
        clear hK K
        try simp only [Act.put]
        try simp only [List.setIfInBounds_toArray]
        try simp only [List.set_cons_succ]
        try simp only [List.set_cons_zero]
        refine takeOp (i := 4) (v := ?_) (some 114) rfl rfl (by kernel_rfl) (by kernel_rfl) (by kernel_rfl) (fun _ _ _ h => h) (Or.inl ⟨by rfl, ?_⟩) (by assumption) ?_
        rotate_left 1
        · (intro w0 hSw; (try dsimp only at hSw); go_simp; try (with_reducible rfl))
        try simp only [Act.put]
        try simp only [List.setIfInBounds_toArray]
        try simp only [List.set_cons_succ]
        try simp only [List.set_cons_zero]
        refine takeOp (i := 5) (v := ?_) (some 115) rfl rfl (by kernel_rfl) (by kernel_rfl) (by kernel_rfl) (fun _ _ _ h => h) (Or.inl ⟨by rfl, ?_⟩) (by assumption) ?_
        rotate_left 1
        · (intro w0 hSw; (try dsimp only at hSw); go_simp; try (with_reducible rfl))
        try simp only [Act.put]
        try simp only [List.setIfInBounds_toArray]
        try simp only [List.set_cons_succ]
        try simp only [List.set_cons_zero]
        refine takeOp (i := 6) (v := ?_) (some 116) rfl rfl (by kernel_rfl) (by kernel_rfl) (by kernel_rfl) (fun _ _ _ h => h) (Or.inl ⟨by rfl, ?_⟩) (by assumption) ?_
        rotate_left 1
        · (intro w0 hSw; (try dsimp only at hSw); go_simp; try (with_reducible rfl))
        try simp only [Act.put]
        try simp only [List.setIfInBounds_toArray]
        try simp only [List.set_cons_succ]
        try simp only [List.set_cons_zero]
        refine takeOp (i := 8) (v := ?_) (some 118) rfl rfl (by kernel_rfl) (by kernel_rfl) (by kernel_rfl) (fun _ _ _ h => h) (Or.inl ⟨by rfl, ?_⟩) (by assumption) ?_
        rotate_left 1
        · (intro w0 hSw; (try dsimp only at hSw); go_simp; try (with_reducible rfl))
        try simp only [Act.put]
        try simp only [List.setIfInBounds_toArray]
        try simp only [List.set_cons_succ]
        try simp only [List.set_cons_zero]
        refine wpAnyH_ready (rs := [7]) (by kernel_rfl) (by simp) ?_
        refine AllReadyH.cons rfl (fun K hK => ?_) AllReadyH.nil
        go_simp
        refine (snVersions_sl (l := l) (HT10.out.up HV2.out) (by omega)).mono ?_
        rintro e V3 ⟨A3, C3, rfl, hs, hb⟩
        have HV3 : Hid (Below W9.heap.size W9 V3) := Below.then HV2.out hb HV2.out.size
        have HS3 := Lib.hid hs
        clear hs hb
        go_wp2_with fail
        refine hK.out _ _ (HKP.out V3 HV3.out) (fun hHeld => ?_)
        clear hK K
        try simp only [Act.put]
        try simp only [List.setIfInBounds_toArray]
        try simp only [List.set_cons_succ]
        try simp only [List.set_cons_zero]
        refine wpAnyH_ready (rs := [9]) (by kernel_rfl) (by simp) ?_
        refine AllReadyH.cons rfl (fun K hK => ?_) AllReadyH.nil
        go_simp
        refine (snVersions_sl (l := l) (HT10.out.up HV3.out) (by omega)).mono ?_
        rintro e V4 ⟨A4, C4, rfl, hs, hb⟩
        have HV4 : Hid (Below W9.heap.size W9 V4) := Below.then HV3.out hb HV3.out.size
        have HS4 := Lib.hid hs
        have HS34 : Hid (SlI .i64 V4.heap.size V4 A3 (V.map (·.num))) := (Sl.below HS3.out hb (Nat.le_refl _)).more hb.size
        clear hs hb HS3
        go_wp2_with fail
        refine hK.out _ _ (HKP.out V4 HV4.out) (fun hHeld => ?_)
        clear hK K
        try simp only [Act.put]
        try simp only [List.setIfInBounds_toArray]
        try simp only [List.set_cons_succ]
        try simp only [List.set_cons_zero]
        refine wpAnyH_ready (rs := [10]) (by kernel_rfl) (by simp) ?_
        refine AllReadyH.cons rfl (fun K hK => ?_) AllReadyH.nil
        go_simp
        refine (r16Same_refl A3 A4 C3 C4 V.length (V.map (·.num)) V4 (by rw [List.length_map]) HS34.out HS4.out (by omega)).mono ?_
        rintro e V5 ⟨rfl, hx⟩
        have HV5 : Hid (Below W9.heap.size W9 V5) := Below.then HV4.out hx.below HV4.out.size
        clear hx HS34 HS4
        go_wp2_with fail
        refine hK.out _ _ (HKP.out V5 HV5.out) (fun hHeld => ?_)
        clear hK K
        try simp only [Act.put]
        try simp only [List.setIfInBounds_toArray]
        try simp only [List.set_cons_succ]
        try simp only [List.set_cons_zero]
        refine takeOp (i := 11) (v := ?_) (some 121) rfl rfl (by kernel_rfl) (by kernel_rfl) (by kernel_rfl) (fun _ _ _ h => h) (Or.inl ⟨by rfl, ?_⟩) (by assumption) ?_
        rotate_left 1
        · (intro w0 hSw; (try dsimp only at hSw); go_simp; try (with_reducible rfl))
        try simp only [Act.put]
        try simp only [List.setIfInBounds_toArray]
        try simp only [List.set_cons_succ]
        try simp only [List.set_cons_zero]
        refine takeOp (i := 12) (v := ?_) (some 122) rfl rfl (by kernel_rfl) (by kernel_rfl) (by kernel_rfl) (fun _ _ _ h => h) (Or.inl ⟨by rfl, ?_⟩) (by assumption) ?_
        rotate_left 1
        · (intro w0 hSw; (try dsimp only at hSw); go_simp; try (with_reducible rfl))
        try simp only [Act.put]
        try simp only [List.setIfInBounds_toArray]
        try simp only [List.set_cons_succ]
        try simp only [List.set_cons_zero]
        refine takeOp (i := 13) (v := ?_) (some 123) rfl rfl (by kernel_rfl) (by kernel_rfl) (by kernel_rfl) (fun _ _ _ h => h) (Or.inl ⟨by rfl, ?_⟩) (by assumption) ?_
        rotate_left 1
        · (intro w0 hSw; (try dsimp only at hSw); go_simp; try (with_reducible rfl))
        try simp only [Act.put]
        try simp only [List.setIfInBounds_toArray]
        try simp only [List.set_cons_succ]
        try simp only [List.set_cons_zero]
        refine takeOp (i := 14) (v := ?_) (some 124) rfl rfl (by kernel_rfl) (by kernel_rfl) (by kernel_rfl) (fun _ _ _ h => h) (Or.inl ⟨by rfl, ?_⟩) (by assumption) ?_
        rotate_left 1
        · (intro w0 hSw; (try dsimp only at hSw); go_simp; try (with_reducible rfl))
        try simp only [Act.put]
        try simp only [List.setIfInBounds_toArray]
        try simp only [List.set_cons_succ]
        try simp only [List.set_cons_zero]
        refine takeOp (i := 15) (v := ?_) (some 125) rfl rfl (by kernel_rfl) (by kernel_rfl) (by kernel_rfl) (fun _ _ _ h => h) (Or.inl ⟨by rfl, ?_⟩) (by assumption) ?_
        rotate_left 1
        · (intro w0 hSw; (try dsimp only at hSw); go_simp; try (with_reducible rfl))
        try simp only [Act.put]
        try simp only [List.setIfInBounds_toArray]
        try simp only [List.set_cons_succ]
        try simp only [List.set_cons_zero]
        refine takeOp (i := 16) (v := ?_) (some 126) rfl rfl (by kernel_rfl) (by kernel_rfl) (by kernel_rfl) (fun _ _ _ h => h) (Or.inl ⟨by rfl, ?_⟩) (by assumption) ?_
        rotate_left 1
        · (intro w0 hSw; (try dsimp only at hSw); go_simp; try (with_reducible rfl))
        try simp only [Act.put]
        try simp only [List.setIfInBounds_toArray]
        try simp only [List.set_cons_succ]
        try simp only [List.set_cons_zero]
        refine takeOp (i := 18) (v := ?_) (some 128) rfl rfl (by kernel_rfl) (by kernel_rfl) (by kernel_rfl) (fun _ _ _ h => h) (Or.inl ⟨by rfl, ?_⟩) (by assumption) ?_
        rotate_left 1
        · (intro w0 hSw; (try dsimp only at hSw); go_simp; try (with_reducible rfl))
        try simp only [Act.put]
        try simp only [List.setIfInBounds_toArray]
        try simp only [List.set_cons_succ]
        try simp only [List.set_cons_zero]
        refine takeOp (i := 19) (v := ?_) (some 129) rfl rfl (by kernel_rfl) (by kernel_rfl) (by kernel_rfl) (fun _ _ _ h => h) (Or.inl ⟨by rfl, ?_⟩) (by assumption) ?_
        rotate_left 1
        · (intro w0 hSw; (try dsimp only at hSw); go_simp; try (with_reducible rfl))
        try simp only [Act.put]
        try simp only [List.setIfInBounds_toArray]
        try simp only [List.set_cons_succ]
        try simp only [List.set_cons_zero]
        refine takeOp (i := 20) (v := ?_) (some 130) rfl rfl (by kernel_rfl) (by kernel_rfl) (by kernel_rfl) (fun _ _ _ h => h) (Or.inl ⟨by rfl, ?_⟩) (by assumption) ?_
        rotate_left 1
        · (intro w0 hSw; (try dsimp only at hSw); go_simp; try (with_reducible rfl))
        try simp only [Act.put]
        try simp only [List.setIfInBounds_toArray]
        try simp only [List.set_cons_succ]
        try simp only [List.set_cons_zero]
        refine wpAnyH_ready (rs := [17]) (by kernel_rfl) (by simp) ?_
        refine AllReadyH.cons rfl (fun K hK => ?_) AllReadyH.nil
        go_simp
        refine (snPins_all (l := l) (HT10.out.up HV5.out) HPW.out).mono ?_
        rintro e V6 ⟨rfl, hx⟩
        have HV6 : Hid (Below W9.heap.size W9 V6) := Below.then HV5.out hx.below HV5.out.size
        clear hx
        go_wp2_with fail
        refine hK.out _ _ (HKP.out V6 HV6.out) (fun hHeld => ?_)
        clear hK K
        try simp only [Act.put]
        try simp only [List.setIfInBounds_toArray]
        try simp only [List.set_cons_succ]
        try simp only [List.set_cons_zero]
        refine wpAnyH_ready (rs := [21]) (by kernel_rfl) (by simp) ?_
        refine AllReadyH.cons rfl (fun K hK => ?_) AllReadyH.nil
        go_simp
        refine (snPins_all (l := l) (HT10.out.up HV6.out) HPW.out).mono ?_
        rintro e V7 ⟨rfl, hx⟩
        have HV7 : Hid (Below W9.heap.size W9 V7) := Below.then HV6.out hx.below HV6.out.size
        clear hx
        go_wp2_with fail
        refine hK.out _ _ (HKP.out V7 HV7.out) (fun hHeld => ?_)
        clear hK K
        try simp only [Act.put]
        try simp only [List.setIfInBounds_toArray]
        try simp only [List.set_cons_succ]
        try simp only [List.set_cons_zero]
        refine takeOp (i := 22) (v := ?_) (some 132) rfl rfl (by kernel_rfl) (by kernel_rfl) (by kernel_rfl) (fun _ _ _ h => h) (Or.inl ⟨by rfl, ?_⟩) (by assumption) ?_
        rotate_left 1
        · (intro w0 hSw; (try dsimp only at hSw); go_simp; try (with_reducible rfl))
        try simp only [Act.put]
        try simp only [List.setIfInBounds_toArray]
        try simp only [List.set_cons_succ]
        try simp only [List.set_cons_zero]
        refine takeOp (i := 23) (v := ?_) (some 133) rfl rfl (by kernel_rfl) (by kernel_rfl) (by kernel_rfl) (fun _ _ _ h => h) (Or.inl ⟨by rfl, ?_⟩) (by assumption) ?_
        rotate_left 1
        · (intro w0 hSw; (try dsimp only at hSw); go_simp; try (with_reducible rfl))
        try simp only [Act.put]
        try simp only [List.setIfInBounds_toArray]
        try simp only [List.set_cons_succ]
        try simp only [List.set_cons_zero]
        refine wpAnyH_done (by kernel_rfl) ?_ _
        have HB11 := Lib.hid (Below.then HB10.out HV7.out HB10.out.size)
        clear HV1 HV2 HV3 HV4 HV5 HV6 HV7 hHeld HB9
        go_wp2
        go_roundw
        case rel => exact ⟨1, by decide, by go_num, HB11.out⟩
        case measure => simp [intOf]
      · have e1 : (q2.1 == 0) = false := beq_no HQ2.out
        skip
        skip
        obtain ⟨W9, hW9⟩ : ∃ W9, W9 = ((wr.alloc (.cells #[.map (some m1), .int .i64 l, .map (some b), .int .i64 l, .map (some b), .int .i64 l] 31)).alloc (.cells #[.map (some b), .int .i64 l] 31)).alloc (.cells #[.int .i64 q1.1, .int .i64 q2.1, .int .i64 7] 26) := ⟨_, rfl⟩
        have hx9 : Ext wr W9 := by rw [hW9]; exact (((Ext.refl wr).alloc _).alloc _).alloc _
        have hb9 := hx9.below
        have HN9 : Hid (Row W9 (wr.heap.size + 1) 31 [.map (some b), .int .i64 l]) := by
          have h := (Row.new (wr.alloc (.cells #[.map (some m1), .int .i64 l, .map (some b), .int .i64 l, .map (some b), .int .i64 l] 31)) 31 [.map (some b), .int .i64 l]).alloc (.cells #[.int .i64 q1.1, .int .i64 q2.1, .int .i64 7] 26)
          rw [World.size_alloc] at h
          show Row _ _ _ _
          rw [hW9]; exact h
        have HKP : Hid (∀ V, Below W9.heap.size W9 V → V.cell? ⟨wr.heap.size + 1, 0, none⟩ = some (.map (some b)) ∧ V.cell? ⟨wr.heap.size + 1, 1, none⟩ = some (.int .i64 l) ∧ V.cell? ⟨g, 0, none⟩ = some (.map (some b)) ∧ V.cell? ⟨g, 1, none⟩ = some (.int .i64 l) ∧ V.cell? ⟨w.heap.size, 1, none⟩ = some (.int .i64 p)) := fun V hb =>
          have h := Below.then hb9 hb hb9.size
          ⟨(HN9.out.up hb).cell 0, (HN9.out.up hb).cell 1, (HR9.out.up h).cell 0, (HR9.out.up h).cell 1, (HRA9.out.up h).cell 1⟩
        have HT10 := Lib.hid (HT9.out.up hb9)
        have HB10 := Lib.hid (Below.then HBR.out hb9 HBR.out.size)
        obtain ⟨xg, hxg⟩ : ∃ x, x = wr.heap.size + 1 := ⟨_, rfl⟩
        rw [← hxg] at HKP
        have HXG := Lib.hid hxg
        have HW9 := Lib.hid hW9
        clear hx9 hb9 HN9 HT9 HR9 HRA9 HX9 HY9 HZ9 hW9 hxg
        go_upto_region 21 with (fail)
        rw [← HW9.out, ← HXG.out]
        clear HW9 HXG l1 l2 l3 l4 l5 l6 l7 l8 e1
        refine wp_region_held_drew (S := (fun w' => w'.cell? ⟨xg, 0, none⟩ = some (.map (some b)) ∧ w'.cell? ⟨xg, 1, none⟩ = some (.int .i64 l) ∧ w'.cell? ⟨g, 0, none⟩ = some (.map (some b)) ∧ w'.cell? ⟨g, 1, none⟩ = some (.int .i64 l) ∧ w'.cell? ⟨w.heap.size, 1, none⟩ = some (.int .i64 p))) (by kernel_rfl) (HKP.out W9.drew (Below.refl _ _).drew) (fun hHeld => ?_)
        refine takeOp (i := 0) (v := ?_) (some 110) rfl rfl (by kernel_rfl) (by kernel_rfl) (by kernel_rfl) (fun _ _ _ h => h) (Or.inl ⟨by rfl, ?_⟩) (by assumption) ?_
        rotate_left 1
        · (intro w0 hSw; (try dsimp only at hSw); go_simp; try (with_reducible rfl))
        try simp only [Act.put]
        try simp only [List.setIfInBounds_toArray]
        try simp only [List.set_cons_succ]
        try simp only [List.set_cons_zero]
        refine takeOp (i := 2) (v := ?_) (some 112) rfl rfl (by kernel_rfl) (by kernel_rfl) (by kernel_rfl) (fun _ _ _ h => h) (Or.inl ⟨by rfl, ?_⟩) (by assumption) ?_
        rotate_left 1
        · (intro w0 hSw; (try dsimp only at hSw); go_simp; try (with_reducible rfl))
        try simp only [Act.put]
        try simp only [List.setIfInBounds_toArray]
        try simp only [List.set_cons_succ]
        try simp only [List.set_cons_zero]
        refine wpAnyH_ready (rs := [1]) (by kernel_rfl) (by simp) ?_
        refine AllReadyH.cons rfl (fun K hK => ?_) AllReadyH.nil
        go_simp
        refine (snLatest_any (.map (some b)) l W9.drew).mono ?_
        rintro e V1 ⟨rfl, hx⟩
        have HV1 : Hid (Below W9.heap.size W9 V1) := Below.undrew hx.below
        clear hx
        go_wp2_with fail
        refine hK.out _ _ (HKP.out V1 HV1.out) (fun hHeld => ?_)
        clear hK K
        try simp only [Act.put]
        try simp only [List.setIfInBounds_toArray]
        try simp only [List.set_cons_succ]
        try simp only [List.set_cons_zero]
        refine wpAnyH_ready (rs := [3]) (by kernel_rfl) (by simp) ?_
        refine AllReadyH.cons rfl (fun K hK => ?_) AllReadyH.nil
        go_simp
        refine (snLatest_any (.map (some b)) l V1).mono ?_
        rintro e V2 ⟨rfl, hx⟩
        have HV2 : Hid (Below W9.heap.size W9 V2) := Below.then HV1.out hx.below HV1.out.size
        clear hx
        go_wp2_with fail
        refine hK.out _ _ (HKP.out V2 HV2.out) (fun hHeld => ?_)
        clear hK K
        try simp only [Act.put]
        try simp only [List.setIfInBounds_toArray]
        try simp only [List.set_cons_succ]
        try simp only [List.set_cons_zero]
        refine takeOp (i := 4) (v := ?_) (some 114) rfl rfl (by kernel_rfl) (by kernel_rfl) (by kernel_rfl) (fun _ _ _ h => h) (Or.inl ⟨by rfl, ?_⟩) (by assumption) ?_
        rotate_left 1
        · (intro w0 hSw; (try dsimp only at hSw); go_simp; try (with_reducible rfl))
        try simp only [Act.put]
        try simp only [List.setIfInBounds_toArray]
        try simp only [List.set_cons_succ]
        try simp only [List.set_cons_zero]
        refine takeOp (i := 5) (v := ?_) (some 115) rfl rfl (by kernel_rfl) (by kernel_rfl) (by kernel_rfl) (fun _ _ _ h => h) (Or.inl ⟨by rfl, ?_⟩) (by assumption) ?_
        rotate_left 1
        · (intro w0 hSw; (try dsimp only at hSw); go_simp; try (with_reducible rfl))
        try simp only [Act.put]
        try simp only [List.setIfInBounds_toArray]
        try simp only [List.set_cons_succ]
        try simp only [List.set_cons_zero]
        refine takeOp (i := 6) (v := ?_) (some 116) rfl rfl (by kernel_rfl) (by kernel_rfl) (by kernel_rfl) (fun _ _ _ h => h) (Or.inl ⟨by rfl, ?_⟩) (by assumption) ?_
        rotate_left 1
        · (intro w0 hSw; (try dsimp only at hSw); go_simp; try (with_reducible rfl))
        try simp only [Act.put]
        try simp only [List.setIfInBounds_toArray]
        try simp only [List.set_cons_succ]
        try simp only [List.set_cons_zero]
        refine takeOp (i := 8) (v := ?_) (some 118) rfl rfl (by kernel_rfl) (by kernel_rfl) (by kernel_rfl) (fun _ _ _ h => h) (Or.inl ⟨by rfl, ?_⟩) (by assumption) ?_
        rotate_left 1
        · (intro w0 hSw; (try dsimp only at hSw); go_simp; try (with_reducible rfl))
        try simp only [Act.put]
        try simp only [List.setIfInBounds_toArray]
        try simp only [List.set_cons_succ]
        try simp only [List.set_cons_zero]
        refine wpAnyH_ready (rs := [7]) (by kernel_rfl) (by simp) ?_
        refine AllReadyH.cons rfl (fun K hK => ?_) AllReadyH.nil
        go_simp
        refine (snVersions_sl (l := l) (HT10.out.up HV2.out) (by omega)).mono ?_
        rintro e V3 ⟨A3, C3, rfl, hs, hb⟩
        have HV3 : Hid (Below W9.heap.size W9 V3) := Below.then HV2.out hb HV2.out.size
        have HS3 := Lib.hid hs
        clear hs hb
        go_wp2_with fail
        refine hK.out _ _ (HKP.out V3 HV3.out) (fun hHeld => ?_)
        clear hK K
        try simp only [Act.put]
        try simp only [List.setIfInBounds_toArray]
        try simp only [List.set_cons_succ]
        try simp only [List.set_cons_zero]
        refine wpAnyH_ready (rs := [9]) (by kernel_rfl) (by simp) ?_
        refine AllReadyH.cons rfl (fun K hK => ?_) AllReadyH.nil
        go_simp
        refine (snVersions_sl (l := l) (HT10.out.up HV3.out) (by omega)).mono ?_
        rintro e V4 ⟨A4, C4, rfl, hs, hb⟩
        have HV4 : Hid (Below W9.heap.size W9 V4) := Below.then HV3.out hb HV3.out.size
        have HS4 := Lib.hid hs
        have HS34 : Hid (SlI .i64 V4.heap.size V4 A3 (V.map (·.num))) := (Sl.below HS3.out hb (Nat.le_refl _)).more hb.size
        clear hs hb HS3
        go_wp2_with fail
        refine hK.out _ _ (HKP.out V4 HV4.out) (fun hHeld => ?_)
        clear hK K
        try simp only [Act.put]
        try simp only [List.setIfInBounds_toArray]
        try simp only [List.set_cons_succ]
        try simp only [List.set_cons_zero]
        refine wpAnyH_ready (rs := [10]) (by kernel_rfl) (by simp) ?_
        refine AllReadyH.cons rfl (fun K hK => ?_) AllReadyH.nil
        go_simp
        refine (r16Same_refl A3 A4 C3 C4 V.length (V.map (·.num)) V4 (by rw [List.length_map]) HS34.out HS4.out (by omega)).mono ?_
        rintro e V5 ⟨rfl, hx⟩
        have HV5 : Hid (Below W9.heap.size W9 V5) := Below.then HV4.out hx.below HV4.out.size
        clear hx HS34 HS4
        go_wp2_with fail
        refine hK.out _ _ (HKP.out V5 HV5.out) (fun hHeld => ?_)
        clear hK K
        try simp only [Act.put]
        try simp only [List.setIfInBounds_toArray]
        try simp only [List.set_cons_succ]
        try simp only [List.set_cons_zero]
        refine takeOp (i := 11) (v := ?_) (some 121) rfl rfl (by kernel_rfl) (by kernel_rfl) (by kernel_rfl) (fun _ _ _ h => h) (Or.inl ⟨by rfl, ?_⟩) (by assumption) ?_
        rotate_left 1
        · (intro w0 hSw; (try dsimp only at hSw); go_simp; try (with_reducible rfl))
        try simp only [Act.put]
        try simp only [List.setIfInBounds_toArray]
        try simp only [List.set_cons_succ]
        try simp only [List.set_cons_zero]
        refine takeOp (i := 12) (v := ?_) (some 122) rfl rfl (by kernel_rfl) (by kernel_rfl) (by kernel_rfl) (fun _ _ _ h => h) (Or.inl ⟨by rfl, ?_⟩) (by assumption) ?_
        rotate_left 1
        · (intro w0 hSw; (try dsimp only at hSw); go_simp; try (with_reducible rfl))
        try simp only [Act.put]
        try simp only [List.setIfInBounds_toArray]
        try simp only [List.set_cons_succ]
        try simp only [List.set_cons_zero]
        refine takeOp (i := 13) (v := ?_) (some 123) rfl rfl (by kernel_rfl) (by kernel_rfl) (by kernel_rfl) (fun _ _ _ h => h) (Or.inl ⟨by rfl, ?_⟩) (by assumption) ?_
        rotate_left 1
        · (intro w0 hSw; (try dsimp only at hSw); go_simp; try (with_reducible rfl))
        try simp only [Act.put]
        try simp only [List.setIfInBounds_toArray]
        try simp only [List.set_cons_succ]
        try simp only [List.set_cons_zero]
        refine takeOp (i := 14) (v := ?_) (some 124) rfl rfl (by kernel_rfl) (by kernel_rfl) (by kernel_rfl) (fun _ _ _ h => h) (Or.inl ⟨by rfl, ?_⟩) (by assumption) ?_
        rotate_left 1
        · (intro w0 hSw; (try dsimp only at hSw); go_simp; try (with_reducible rfl))
        try simp only [Act.put]
        try simp only [List.setIfInBounds_toArray]
        try simp only [List.set_cons_succ]
        try simp only [List.set_cons_zero]
        refine takeOp (i := 15) (v := ?_) (some 125) rfl rfl (by kernel_rfl) (by kernel_rfl) (by kernel_rfl) (fun _ _ _ h => h) (Or.inl ⟨by rfl, ?_⟩) (by assumption) ?_
        rotate_left 1
        · (intro w0 hSw; (try dsimp only at hSw); go_simp; try (with_reducible rfl))
        try simp only [Act.put]
        try simp only [List.setIfInBounds_toArray]
        try simp only [List.set_cons_succ]
        try simp only [List.set_cons_zero]
        refine takeOp (i := 16) (v := ?_) (some 126) rfl rfl (by kernel_rfl) (by kernel_rfl) (by kernel_rfl) (fun _ _ _ h => h) (Or.inl ⟨by rfl, ?_⟩) (by assumption) ?_
        rotate_left 1
        · (intro w0 hSw; (try dsimp only at hSw); go_simp; try (with_reducible rfl))
        try simp only [Act.put]
        try simp only [List.setIfInBounds_toArray]
        try simp only [List.set_cons_succ]
        try simp only [List.set_cons_zero]
        refine takeOp (i := 18) (v := ?_) (some 128) rfl rfl (by kernel_rfl) (by kernel_rfl) (by kernel_rfl) (fun _ _ _ h => h) (Or.inl ⟨by rfl, ?_⟩) (by assumption) ?_
        rotate_left 1
        · (intro w0 hSw; (try dsimp only at hSw); go_simp; try (with_reducible rfl))
        try simp only [Act.put]
        try simp only [List.setIfInBounds_toArray]
        try simp only [List.set_cons_succ]
        try simp only [List.set_cons_zero]
        refine takeOp (i := 19) (v := ?_) (some 129) rfl rfl (by kernel_rfl) (by kernel_rfl) (by kernel_rfl) (fun _ _ _ h => h) (Or.inl ⟨by rfl, ?_⟩) (by assumption) ?_
        rotate_left 1
        · (intro w0 hSw; (try dsimp only at hSw); go_simp; try (with_reducible rfl))
        try simp only [Act.put]
        try simp only [List.setIfInBounds_toArray]
        try simp only [List.set_cons_succ]
        try simp only [List.set_cons_zero]
        refine takeOp (i := 20) (v := ?_) (some 130) rfl rfl (by kernel_rfl) (by kernel_rfl) (by kernel_rfl) (fun _ _ _ h => h) (Or.inl ⟨by rfl, ?_⟩) (by assumption) ?_
        rotate_left 1
        · (intro w0 hSw; (try dsimp only at hSw); go_simp; try (with_reducible rfl))
        try simp only [Act.put]
        try simp only [List.setIfInBounds_toArray]
        try simp only [List.set_cons_succ]
        try simp only [List.set_cons_zero]
        refine wpAnyH_ready (rs := [17]) (by kernel_rfl) (by simp) ?_
        refine AllReadyH.cons rfl (fun K hK => ?_) AllReadyH.nil
        go_simp
        refine (snPins_all (l := l) (HT10.out.up HV5.out) HPW.out).mono ?_
        rintro e V6 ⟨rfl, hx⟩
        have HV6 : Hid (Below W9.heap.size W9 V6) := Below.then HV5.out hx.below HV5.out.size
        clear hx
        go_wp2_with fail
        refine hK.out _ _ (HKP.out V6 HV6.out) (fun hHeld => ?_)
        clear hK K
        try simp only [Act.put]
        try simp only [List.setIfInBounds_toArray]
        try simp only [List.set_cons_succ]
        try simp only [List.set_cons_zero]
        refine wpAnyH_ready (rs := [21]) (by kernel_rfl) (by simp) ?_
        refine AllReadyH.cons rfl (fun K hK => ?_) AllReadyH.nil
        go_simp
        refine (snPins_all (l := l) (HT10.out.up HV6.out) HPW.out).mono ?_
        rintro e V7 ⟨rfl, hx⟩
        have HV7 : Hid (Below W9.heap.size W9 V7) := Below.then HV6.out hx.below HV6.out.size
        clear hx
        go_wp2_with fail
        refine hK.out _ _ (HKP.out V7 HV7.out) (fun hHeld => ?_)
        clear hK K
        try simp only [Act.put]
        try simp only [List.setIfInBounds_toArray]
        try simp only [List.set_cons_succ]
        try simp only [List.set_cons_zero]
        refine takeOp (i := 22) (v := ?_) (some 132) rfl rfl (by kernel_rfl) (by kernel_rfl) (by kernel_rfl) (fun _ _ _ h => h) (Or.inl ⟨by rfl, ?_⟩) (by assumption) ?_
        rotate_left 1
        · (intro w0 hSw; (try dsimp only at hSw); go_simp; try (with_reducible rfl))
        try simp only [Act.put]
        try simp only [List.setIfInBounds_toArray]
        try simp only [List.set_cons_succ]
        try simp only [List.set_cons_zero]
        refine takeOp (i := 23) (v := ?_) (some 133) rfl rfl (by kernel_rfl) (by kernel_rfl) (by kernel_rfl) (fun _ _ _ h => h) (Or.inl ⟨by rfl, ?_⟩) (by assumption) ?_
        rotate_left 1
        · (intro w0 hSw; (try dsimp only at hSw); go_simp; try (with_reducible rfl))
        try simp only [Act.put]
        try simp only [List.setIfInBounds_toArray]
        try simp only [List.set_cons_succ]
        try simp only [List.set_cons_zero]
        refine wpAnyH_done (by kernel_rfl) ?_ _
        have HB11 := Lib.hid (Below.then HB10.out HV7.out HB10.out.size)
        clear HV1 HV2 HV3 HV4 HV5 HV6 HV7 hHeld HB9
        go_wp2
        go_roundw
        case rel => exact ⟨2, by decide, by go_num, HB11.out⟩
        case measure => simp [intOf]
      · have e1 : ((7 : Int) == 0) = false := beq_no (show (7 : Int) ≠ 0 by decide)
        skip
        skip
        obtain ⟨W9, hW9⟩ : ∃ W9, W9 = ((wr.alloc (.cells #[.map (some m1), .int .i64 l, .map (some b), .int .i64 l, .map (some b), .int .i64 l] 31)).alloc (.cells #[.map (some b), .int .i64 l] 31)).alloc (.cells #[.int .i64 q1.1, .int .i64 q2.1, .int .i64 7] 26) := ⟨_, rfl⟩
        have hx9 : Ext wr W9 := by rw [hW9]; exact (((Ext.refl wr).alloc _).alloc _).alloc _
        have hb9 := hx9.below
        have HN9 : Hid (Row W9 (wr.heap.size + 1) 31 [.map (some b), .int .i64 l]) := by
          have h := (Row.new (wr.alloc (.cells #[.map (some m1), .int .i64 l, .map (some b), .int .i64 l, .map (some b), .int .i64 l] 31)) 31 [.map (some b), .int .i64 l]).alloc (.cells #[.int .i64 q1.1, .int .i64 q2.1, .int .i64 7] 26)
          rw [World.size_alloc] at h
          show Row _ _ _ _
          rw [hW9]; exact h
        have HKP : Hid (∀ V, Below W9.heap.size W9 V → V.cell? ⟨wr.heap.size + 1, 0, none⟩ = some (.map (some b)) ∧ V.cell? ⟨wr.heap.size + 1, 1, none⟩ = some (.int .i64 l) ∧ V.cell? ⟨g, 0, none⟩ = some (.map (some b)) ∧ V.cell? ⟨g, 1, none⟩ = some (.int .i64 l) ∧ V.cell? ⟨w.heap.size, 1, none⟩ = some (.int .i64 p)) := fun V hb =>
          have h := Below.then hb9 hb hb9.size
          ⟨(HN9.out.up hb).cell 0, (HN9.out.up hb).cell 1, (HR9.out.up h).cell 0, (HR9.out.up h).cell 1, (HRA9.out.up h).cell 1⟩
        have HT10 := Lib.hid (HT9.out.up hb9)
        have HB10 := Lib.hid (Below.then HBR.out hb9 HBR.out.size)
        obtain ⟨xg, hxg⟩ : ∃ x, x = wr.heap.size + 1 := ⟨_, rfl⟩
        rw [← hxg] at HKP
        have HXG := Lib.hid hxg
        have HW9 := Lib.hid hW9
        clear hx9 hb9 HN9 HT9 HR9 HRA9 HX9 HY9 HZ9 hW9 hxg
        go_upto_region 21 with (fail)
        rw [← HW9.out, ← HXG.out]
        clear HW9 HXG l1 l2 l3 l4 l5 l6 l7 l8 e1
        refine wp_region_held_drew (S := (fun w' => w'.cell? ⟨xg, 0, none⟩ = some (.map (some b)) ∧ w'.cell? ⟨xg, 1, none⟩ = some (.int .i64 l) ∧ w'.cell? ⟨g, 0, none⟩ = some (.map (some b)) ∧ w'.cell? ⟨g, 1, none⟩ = some (.int .i64 l) ∧ w'.cell? ⟨w.heap.size, 1, none⟩ = some (.int .i64 p))) (by kernel_rfl) (HKP.out W9.drew (Below.refl _ _).drew) (fun hHeld => ?_)
        refine takeOp (i := 0) (v := ?_) (some 110) rfl rfl (by kernel_rfl) (by kernel_rfl) (by kernel_rfl) (fun _ _ _ h => h) (Or.inl ⟨by rfl, ?_⟩) (by assumption) ?_
        rotate_left 1
        · (intro w0 hSw; (try dsimp only at hSw); go_simp; try (with_reducible rfl))
        try simp only [Act.put]
        try simp only [List.setIfInBounds_toArray]
        try simp only [List.set_cons_succ]
        try simp only [List.set_cons_zero]
        refine takeOp (i := 2) (v := ?_) (some 112) rfl rfl (by kernel_rfl) (by kernel_rfl) (by kernel_rfl) (fun _ _ _ h => h) (Or.inl ⟨by rfl, ?_⟩) (by assumption) ?_
        rotate_left 1
        · (intro w0 hSw; (try dsimp only at hSw); go_simp; try (with_reducible rfl))
        try simp only [Act.put]
        try simp only [List.setIfInBounds_toArray]
        try simp only [List.set_cons_succ]
        try simp only [List.set_cons_zero]
        refine wpAnyH_ready (rs := [1]) (by kernel_rfl) (by simp) ?_
        refine AllReadyH.cons rfl (fun K hK => ?_) AllReadyH.nil
        go_simp
        refine (snLatest_any (.map (some b)) l W9.drew).mono ?_
        rintro e V1 ⟨rfl, hx⟩
        have HV1 : Hid (Below W9.heap.size W9 V1) := Below.undrew hx.below
        clear hx
        go_wp2_with fail
        refine hK.out _ _ (HKP.out V1 HV1.out) (fun hHeld => ?_)
        clear hK K
        try simp only [Act.put]
        try simp only [List.setIfInBounds_toArray]
        try simp only [List.set_cons_succ]
        try simp only [List.set_cons_zero]
        refine wpAnyH_ready (rs := [3]) (by kernel_rfl) (by simp) ?_
        refine AllReadyH.cons rfl (fun K hK => ?_) AllReadyH.nil
        go_simp
        refine (snLatest_any (.map (some b)) l V1).mono ?_
        rintro e V2 ⟨rfl, hx⟩
        have HV2 : Hid (Below W9.heap.size W9 V2) := Below.then HV1.out hx.below HV1.out.size
        clear hx
        go_wp2_with fail
        refine hK.out _ _ (HKP.out V2 HV2.out) (fun hHeld => ?_)
        clear hK K
        try simp only [Act.put]
        try simp only [List.setIfInBounds_toArray]
        try simp only [List.set_cons_succ]
        try simp only [List.set_cons_zero]
        refine takeOp (i := 4) (v := ?_) (some 114) rfl rfl (by kernel_rfl) (by kernel_rfl) (by kernel_rfl) (fun _ _ _ h => h) (Or.inl ⟨by rfl, ?_⟩) (by assumption) ?_
        rotate_left 1
        · (intro w0 hSw; (try dsimp only at hSw); go_simp; try (with_reducible rfl))
        try simp only [Act.put]
        try simp only [List.setIfInBounds_toArray]
        try simp only [List.set_cons_succ]
        try simp only [List.set_cons_zero]
        refine takeOp (i := 5) (v := ?_) (some 115) rfl rfl (by kernel_rfl) (by kernel_rfl) (by kernel_rfl) (fun _ _ _ h => h) (Or.inl ⟨by rfl, ?_⟩) (by assumption) ?_
        rotate_left 1
        · (intro w0 hSw; (try dsimp only at hSw); go_simp; try (with_reducible rfl))
        try simp only [Act.put]
        try simp only [List.setIfInBounds_toArray]
        try simp only [List.set_cons_succ]
        try simp only [List.set_cons_zero]
        refine takeOp (i := 6) (v := ?_) (some 116) rfl rfl (by kernel_rfl) (by kernel_rfl) (by kernel_rfl) (fun _ _ _ h => h) (Or.inl ⟨by rfl, ?_⟩) (by assumption) ?_
        rotate_left 1
        · (intro w0 hSw; (try dsimp only at hSw); go_simp; try (with_reducible rfl))
        try simp only [Act.put]
        try simp only [List.setIfInBounds_toArray]
        try simp only [List.set_cons_succ]
        try simp only [List.set_cons_zero]
        refine takeOp (i := 8) (v := ?_) (some 118) rfl rfl (by kernel_rfl) (by kernel_rfl) (by kernel_rfl) (fun _ _ _ h => h) (Or.inl ⟨by rfl, ?_⟩) (by assumption) ?_
        rotate_left 1
        · (intro w0 hSw; (try dsimp only at hSw); go_simp; try (with_reducible rfl))
        try simp only [Act.put]
        try simp only [List.setIfInBounds_toArray]
        try simp only [List.set_cons_succ]
        try simp only [List.set_cons_zero]
        refine wpAnyH_ready (rs := [7]) (by kernel_rfl) (by simp) ?_
        refine AllReadyH.cons rfl (fun K hK => ?_) AllReadyH.nil
        go_simp
        refine (snVersions_sl (l := l) (HT10.out.up HV2.out) (by omega)).mono ?_
        rintro e V3 ⟨A3, C3, rfl, hs, hb⟩
        have HV3 : Hid (Below W9.heap.size W9 V3) := Below.then HV2.out hb HV2.out.size
        have HS3 := Lib.hid hs
        clear hs hb
        go_wp2_with fail
        refine hK.out _ _ (HKP.out V3 HV3.out) (fun hHeld => ?_)
        clear hK K
        try simp only [Act.put]
        try simp only [List.setIfInBounds_toArray]
        try simp only [List.set_cons_succ]
        try simp only [List.set_cons_zero]
        refine wpAnyH_ready (rs := [9]) (by kernel_rfl) (by simp) ?_
        refine AllReadyH.cons rfl (fun K hK => ?_) AllReadyH.nil
        go_simp
        refine (snVersions_sl (l := l) (HT10.out.up HV3.out) (by omega)).mono ?_
        rintro e V4 ⟨A4, C4, rfl, hs, hb⟩
        have HV4 : Hid (Below W9.heap.size W9 V4) := Below.then HV3.out hb HV3.out.size
        have HS4 := Lib.hid hs
        have HS34 : Hid (SlI .i64 V4.heap.size V4 A3 (V.map (·.num))) := (Sl.below HS3.out hb (Nat.le_refl _)).more hb.size
        clear hs hb HS3
        go_wp2_with fail
        refine hK.out _ _ (HKP.out V4 HV4.out) (fun hHeld => ?_)
        clear hK K
        try simp only [Act.put]
        try simp only [List.setIfInBounds_toArray]
        try simp only [List.set_cons_succ]
        try simp only [List.set_cons_zero]
        refine wpAnyH_ready (rs := [10]) (by kernel_rfl) (by simp) ?_
        refine AllReadyH.cons rfl (fun K hK => ?_) AllReadyH.nil
        go_simp
        refine (r16Same_refl A3 A4 C3 C4 V.length (V.map (·.num)) V4 (by rw [List.length_map]) HS34.out HS4.out (by omega)).mono ?_
        rintro e V5 ⟨rfl, hx⟩
        have HV5 : Hid (Below W9.heap.size W9 V5) := Below.then HV4.out hx.below HV4.out.size
        clear hx HS34 HS4
        go_wp2_with fail
        refine hK.out _ _ (HKP.out V5 HV5.out) (fun hHeld => ?_)
        clear hK K
        try simp only [Act.put]
        try simp only [List.setIfInBounds_toArray]
        try simp only [List.set_cons_succ]
        try simp only [List.set_cons_zero]
        refine takeOp (i := 11) (v := ?_) (some 121) rfl rfl (by kernel_rfl) (by kernel_rfl) (by kernel_rfl) (fun _ _ _ h => h) (Or.inl ⟨by rfl, ?_⟩) (by assumption) ?_
        rotate_left 1
        · (intro w0 hSw; (try dsimp only at hSw); go_simp; try (with_reducible rfl))
        try simp only [Act.put]
        try simp only [List.setIfInBounds_toArray]
        try simp only [List.set_cons_succ]
        try simp only [List.set_cons_zero]
        refine takeOp (i := 12) (v := ?_) (some 122) rfl rfl (by kernel_rfl) (by kernel_rfl) (by kernel_rfl) (fun _ _ _ h => h) (Or.inl ⟨by rfl, ?_⟩) (by assumption) ?_
        rotate_left 1
        · (intro w0 hSw; (try dsimp only at hSw); go_simp; try (with_reducible rfl))
        try simp only [Act.put]
        try simp only [List.setIfInBounds_toArray]
        try simp only [List.set_cons_succ]
        try simp only [List.set_cons_zero]
        refine takeOp (i := 13) (v := ?_) (some 123) rfl rfl (by kernel_rfl) (by kernel_rfl) (by kernel_rfl) (fun _ _ _ h => h) (Or.inl ⟨by rfl, ?_⟩) (by assumption) ?_
        rotate_left 1
        · (intro w0 hSw; (try dsimp only at hSw); go_simp; try (with_reducible rfl))
        try simp only [Act.put]
        try simp only [List.setIfInBounds_toArray]
        try simp only [List.set_cons_succ]
        try simp only [List.set_cons_zero]
        refine takeOp (i := 14) (v := ?_) (some 124) rfl rfl (by kernel_rfl) (by kernel_rfl) (by kernel_rfl) (fun _ _ _ h => h) (Or.inl ⟨by rfl, ?_⟩) (by assumption) ?_
        rotate_left 1
        · (intro w0 hSw; (try dsimp only at hSw); go_simp; try (with_reducible rfl))
        try simp only [Act.put]
        try simp only [List.setIfInBounds_toArray]
        try simp only [List.set_cons_succ]
        try simp only [List.set_cons_zero]
        refine takeOp (i := 15) (v := ?_) (some 125) rfl rfl (by kernel_rfl) (by kernel_rfl) (by kernel_rfl) (fun _ _ _ h => h) (Or.inl ⟨by rfl, ?_⟩) (by assumption) ?_
        rotate_left 1
        · (intro w0 hSw; (try dsimp only at hSw); go_simp; try (with_reducible rfl))
        try simp only [Act.put]
        try simp only [List.setIfInBounds_toArray]
        try simp only [List.set_cons_succ]
        try simp only [List.set_cons_zero]
        refine takeOp (i := 16) (v := ?_) (some 126) rfl rfl (by kernel_rfl) (by kernel_rfl) (by kernel_rfl) (fun _ _ _ h => h) (Or.inl ⟨by rfl, ?_⟩) (by assumption) ?_
        rotate_left 1
        · (intro w0 hSw; (try dsimp only at hSw); go_simp; try (with_reducible rfl))
        try simp only [Act.put]
        try simp only [List.setIfInBounds_toArray]
        try simp only [List.set_cons_succ]
        try simp only [List.set_cons_zero]
        refine takeOp (i := 18) (v := ?_) (some 128) rfl rfl (by kernel_rfl) (by kernel_rfl) (by kernel_rfl) (fun _ _ _ h => h) (Or.inl ⟨by rfl, ?_⟩) (by assumption) ?_
        rotate_left 1
        · (intro w0 hSw; (try dsimp only at hSw); go_simp; try (with_reducible rfl))
        try simp only [Act.put]
        try simp only [List.setIfInBounds_toArray]
        try simp only [List.set_cons_succ]
        try simp only [List.set_cons_zero]
        refine takeOp (i := 19) (v := ?_) (some 129) rfl rfl (by kernel_rfl) (by kernel_rfl) (by kernel_rfl) (fun _ _ _ h => h) (Or.inl ⟨by rfl, ?_⟩) (by assumption) ?_
        rotate_left 1
        · (intro w0 hSw; (try dsimp only at hSw); go_simp; try (with_reducible rfl))
        try simp only [Act.put]
        try simp only [List.setIfInBounds_toArray]
        try simp only [List.set_cons_succ]
        try simp only [List.set_cons_zero]
        refine takeOp (i := 20) (v := ?_) (some 130) rfl rfl (by kernel_rfl) (by kernel_rfl) (by kernel_rfl) (fun _ _ _ h => h) (Or.inl ⟨by rfl, ?_⟩) (by assumption) ?_
        rotate_left 1
        · (intro w0 hSw; (try dsimp only at hSw); go_simp; try (with_reducible rfl))
        try simp only [Act.put]
        try simp only [List.setIfInBounds_toArray]
        try simp only [List.set_cons_succ]
        try simp only [List.set_cons_zero]
        refine wpAnyH_ready (rs := [17]) (by kernel_rfl) (by simp) ?_
        refine AllReadyH.cons rfl (fun K hK => ?_) AllReadyH.nil
        go_simp
        refine (snPins_all (l := l) (HT10.out.up HV5.out) HPW.out).mono ?_
        rintro e V6 ⟨rfl, hx⟩
        have HV6 : Hid (Below W9.heap.size W9 V6) := Below.then HV5.out hx.below HV5.out.size
        clear hx
        go_wp2_with fail
        refine hK.out _ _ (HKP.out V6 HV6.out) (fun hHeld => ?_)
        clear hK K
        try simp only [Act.put]
        try simp only [List.setIfInBounds_toArray]
        try simp only [List.set_cons_succ]
        try simp only [List.set_cons_zero]
        refine wpAnyH_ready (rs := [21]) (by kernel_rfl) (by simp) ?_
        refine AllReadyH.cons rfl (fun K hK => ?_) AllReadyH.nil
        go_simp
        refine (snPins_all (l := l) (HT10.out.up HV6.out) HPW.out).mono ?_
        rintro e V7 ⟨rfl, hx⟩
        have HV7 : Hid (Below W9.heap.size W9 V7) := Below.then HV6.out hx.below HV6.out.size
        clear hx
        go_wp2_with fail
        refine hK.out _ _ (HKP.out V7 HV7.out) (fun hHeld => ?_)
        clear hK K
        try simp only [Act.put]
        try simp only [List.setIfInBounds_toArray]
        try simp only [List.set_cons_succ]
        try simp only [List.set_cons_zero]
        refine takeOp (i := 22) (v := ?_) (some 132) rfl rfl (by kernel_rfl) (by kernel_rfl) (by kernel_rfl) (fun _ _ _ h => h) (Or.inl ⟨by rfl, ?_⟩) (by assumption) ?_
        rotate_left 1
        · (intro w0 hSw; (try dsimp only at hSw); go_simp; try (with_reducible rfl))
        try simp only [Act.put]
        try simp only [List.setIfInBounds_toArray]
        try simp only [List.set_cons_succ]
        try simp only [List.set_cons_zero]
        refine takeOp (i := 23) (v := ?_) (some 133) rfl rfl (by kernel_rfl) (by kernel_rfl) (by kernel_rfl) (fun _ _ _ h => h) (Or.inl ⟨by rfl, ?_⟩) (by assumption) ?_
        rotate_left 1
        · (intro w0 hSw; (try dsimp only at hSw); go_simp; try (with_reducible rfl))
        try simp only [Act.put]
        try simp only [List.setIfInBounds_toArray]
        try simp only [List.set_cons_succ]
        try simp only [List.set_cons_zero]
        refine wpAnyH_done (by kernel_rfl) ?_ _
        have HB11 := Lib.hid (Below.then HB10.out HV7.out HB10.out.size)
        clear HV1 HV2 HV3 HV4 HV5 HV6 HV7 hHeld HB9
        go_wp2
        go_roundw
        case rel => exact ⟨3, by decide, by go_num, HB11.out⟩
        case measure => simp [intOf]
end Go.Proofs.Ytgaffbdcpkbdhaa

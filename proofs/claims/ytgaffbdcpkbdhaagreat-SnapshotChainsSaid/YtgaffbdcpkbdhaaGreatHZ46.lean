/- Walk: the law SnapshotChains (chapter 16). -/
import Derived.Test.YtgaffbdcpkbdhaaGreatQ8
import Derived.Test.YtgaffbdcpkbdhaaGreatQ6
import Derived.Test.YtgaffbdcpkbdhaaGreatQ5
namespace Go.Proofs.YtgaffbdcpkbdhaaGreat
open Go.RowKit Go.Sort Go.ChangeMaps Go.WideShapes

theorem own_emptyU (w : World) (base : Nat) (hb : base ≤ w.heap.size) : (w.alloc (.cells #[] 61)).ownsRow base 61 3 (.slice (some ⟨w.heap.size, 0, none⟩) 0 0) 0 [] :=
  ⟨by simp, .inr ⟨w.heap.size, 0, #[], rfl, hb, Row.new w 61 [], Nat.le_refl _, by simp [maxLen], by simp, by simp⟩⟩
theorem own_ne_newU {w : World} {v : Value} {base : Nat} {e : TypeId} {size n : Nat} {xs : List Value} (h : w.ownsRow base e size v n xs) : v.ownBlock ≠ some w.heap.size := fun e => Nat.lt_irrefl _ (own_lt h _ e)

set_option maxHeartbeats 16000000 in
set_option maxRecDepth 100000 in
theorem l16Chains_any (SA : Option Addr) (SC : Nat) (X : Sch) (LA : Option Addr) (LC : Nat) (L : List ActR) (y0 y1 y2 : Int) (w : World)
    (hS : SchsM w.heap.size w SA X) (hSo : SchsOk X) (hSl : X.length ≤ 9223372036854775807) (hL : ActsM w.heap.size w LA L) (hLo : ∀ a ∈ L, ActOk a) (hLl : L.length ≤ 9223372036854775807) (hq0 : (Lit.int .i64 y0).wf = true) (hq1 : (Lit.int .i64 y1).wf = true) (hq2 : (Lit.int .i64 y2).wf = true) :
    Calls Tryz.prog 4 #[.slice SA X.length SC, .slice LA L.length LC, .agg #[.int .i64 y0, .int .i64 y1, .int .i64 y2]] w fun e w' => e = .returned (.bool true) ∧ Below w.heap.size w w' := by
  have HS := Lib.hid hS
  have HSO := Lib.hid hSo
  have HL := Lib.hid hL
  have HLO := Lib.hid hLo
  have HSL := Lib.hid hSl
  have HLL := Lib.hid hLl
  have HQ0 := Lib.hid hq0
  have HQ1 := Lib.hid hq1
  have HQ2 := Lib.hid hq2
  clear hS hSo hL hLo hSl hLl hq0 hq1 hq2
  obtain ⟨W0, hW0⟩ : ∃ W0, W0 = w.alloc (.cells #[.int .i64 y0, .int .i64 y1, .int .i64 y2] 51) := ⟨_, rfl⟩
  have hx0 : Ext w W0 := by rw [hW0]; exact (Ext.refl w).alloc _
  have HA0 : Hid (Row W0 w.heap.size 51 [.int .i64 y0, .int .i64 y1, .int .i64 y2]) := by show Row _ _ _ _; rw [hW0]; exact Row.new w 51 _
  have HB0 := Lib.hid hx0.below
  have HW0 := Lib.hid hW0
  have HAW := Lib.hid (l16awake_any W0)
  clear hx0 hW0
  go_enter Tryz.func4, Tryz.ntmps4
  go_upto_region 1 with (fail)
  rw [← HW0.out]
  clear HW0
  go_wp2_with fail
  refine HAW.out.mono ?_
  rintro e w1 ⟨rfl, hb1⟩
  have HA1 := Lib.hid (HA0.out.up hb1)
  have HB1 := Lib.hid (Below.then HB0.out hb1 HB0.out.size)
  have HF1 := Lib.hid (l16few_any LA LC L w1 ((HL.out.below HB1.out (Nat.le_refl _)).more HB1.out.size) HLL.out HLO.out)
  clear hb1 HA0 HB0 HAW
  cases hf1 : fewL L with
  | false =>
    rw [hf1] at HF1
    clear hf1
    go_wp2_with fail
    refine HF1.out.mono ?_
    rintro e w2 ⟨rfl, hx2⟩
    have HB2 := Lib.hid (Below.then HB1.out hx2.below HB1.out.size)
    clear hx2 HF1 HA1 HB1
    go_wp2_with fail
    go_ret
    exact ⟨rfl, HB2.out⟩
  | true =>
  rw [hf1] at HF1
  obtain ⟨hL40, hfit⟩ := fewL_fit hf1 HLO.out
  have HFIT := Lib.hid hfit
  clear hf1 hfit
  go_wp2_with fail
  refine HF1.out.mono ?_
  rintro e w4 ⟨rfl, hx2⟩
  have HA4 := Lib.hid (HA1.out.up hx2.below)
  have HB4 := Lib.hid (Below.then HB1.out hx2.below HB1.out.size)
  clear hx2 HF1 HB1 HA1
  by_cases h20 : 20 < X.length
  · have q1 : (20 : Int) < (X.length : Int) := by omega
    go_wp2_with fail
    go_ret
    exact ⟨rfl, HB4.out⟩
  have q1 : ¬ (20 : Int) < (X.length : Int) := by omega
  have HN := Lib.hid (ctNew_any (fun _ => True) SA SC X w4 (fun _ _ => trivial) ((HS.out.below HB4.out (Nat.le_refl _)).more HB4.out.size) HSO.out HSL.out)
  clear h20
  go_wp2_with fail
  refine HN.out.mono ?_
  rintro e w5 ⟨h5, h6, hb5⟩
  have HA5 := Lib.hid (HA4.out.up hb5)
  have HB5 := Lib.hid (Below.then HB4.out hb5 HB4.out.size)
  clear HN HA4 HB4 hb5
  by_cases herr : errS X = 0
  rotate_left
  · obtain rfl := h6 herr
    have HE : Hid (errS X ≠ 0) := herr
    obtain ⟨W7, hW7⟩ : ∃ W7, W7 = w5.alloc (.cells #[.map none] 29) := ⟨_, rfl⟩
    have hx7 : Ext w5 W7 := by rw [hW7]; exact (Ext.refl w5).alloc _
    have hr7 : Row W7 w5.heap.size 29 [.map none] := by rw [hW7]; exact Row.new w5 29 _
    have k0 : W7.cell? ⟨w5.heap.size, 0, none⟩ = some (.map none) := hr7.cell 0
    have k1 := hr7.lt
    have HB7 := Lib.hid (Below.then HB5.out hx7.below HB5.out.size)
    have HNW := Lib.hid (snNew_low 0 (by decide) (by decide) W7)
    have q2 : (errS X != 0) = true := by simpa using herr
    have HW7 := Lib.hid hW7
    clear h5 h6 herr hx7 hr7 hW7 HB5
    go_upto_region 6 with (fail)
    rw [← HW7.out]
    clear HW7
    go_wp2_with fail
    refine HNW.out.mono ?_
    rintro e w8 ⟨m8, rfl, hb8⟩
    have HB8 := Lib.hid (Below.then HB7.out hb8 HB7.out.size)
    clear hb8 HNW HB7 k0 k1
    go_wp2_with fail
    go_ret
    exact ⟨rfl, Below.then HB8.out ((Ext.refl w8).alloc _).below HB8.out.size⟩
  obtain ⟨m5, rfl, hdb⟩ := h5 herr
  obtain ⟨bd, rfl⟩ := hdb.form
  have HOKS := Lib.hid (errS_ok herr)
  obtain ⟨W7, hW7⟩ : ∃ W7, W7 = w5.alloc (.cells #[.map (some bd)] 29) := ⟨_, rfl⟩
  have hx7 : Ext w5 W7 := by rw [hW7]; exact (Ext.refl w5).alloc _
  have hr7 : Row W7 w5.heap.size 29 [.map (some bd)] := by rw [hW7]; exact Row.new w5 29 _
  have k0 : W7.cell? ⟨w5.heap.size, 0, none⟩ = some (.map (some bd)) := hr7.cell 0
  have k1 := hr7.lt
  have HA7 := Lib.hid (HA5.out.up hx7.below)
  have HB7 := Lib.hid (Below.then HB5.out hx7.below HB5.out.size)
  have HDB := Lib.hid (hdb.up hx7.below)
  have HW7 := Lib.hid hW7
  clear h5 h6 hx7 hr7 hW7 hdb herr HA5 HB5
  go_upto_region 6 with (fail)
  rw [← HW7.out]
  clear HW7
  go_wp2_with fail
  refine (snNew_ok (P := fun _ => True) (S := X) (m := .map (some bd)) (F := fun _ => []) 0 (by decide) (by decide) W7 HDB.out (fun _ _ => trivial)).mono ?_
  rintro e w8 ⟨m8, rfl, hst8, hb8⟩
  obtain ⟨b8, rfl⟩ := hst8.form
  obtain ⟨W9, hW9⟩ : ∃ W9, W9 = w8.alloc (.cells #[.map (some b8), .int .i64 0] 35) := ⟨_, rfl⟩
  obtain ⟨g, hg⟩ : ∃ g, g = w8.heap.size := ⟨_, rfl⟩
  have hx9 : Ext w8 W9 := by rw [hW9]; exact (Ext.refl w8).alloc _
  have HR9 : Hid (Row W9 g 35 [.map (some b8), .int .i64 0]) := by show Row _ _ _ _; rw [hW9, hg]; exact Row.new w8 35 _
  have HB9 := Lib.hid (Below.then (Below.then HB7.out hb8 HB7.out.size) hx9.below (Nat.le_trans HB7.out.size hb8.size))
  have HA9 := Lib.hid ((HA7.out.up hb8).up hx9.below)
  have HS9 : Hid (StM (fun b => b ≠ g) X W9 (.map (some b8)) [⟨0, fun _ => [], 0⟩]) := (hst8.weak (P' := fun b => b ≠ g) fun b hb _ => by show b ≠ g; omega).up hx9.below
  have hgw : w.heap.size < g := by rw [hg]; exact Nat.lt_of_lt_of_le HA7.out.lt hb8.size
  have HW9 := Lib.hid hW9
  have HG := Lib.hid hg
  clear hst8 hb8 hx9 hW9 hg k0 k1 HDB HB7 HA7
  go_upto_region 10 with (fail)
  rw [← HW9.out, ← HG.out]
  clear HW9 HG
  go_loopw [11] (fun c wx => ∃ (j b : Nat) (l : Int) (V : List Ver), j ≤ L.length ∧ c = .int .i64 j ∧ Row wx g 35 [.map (some b), .int .i64 l] ∧ StM (fun b => b ≠ g) X wx (.map (some b)) V ∧ Good V l j ∧ VersC X V ∧ Row wx w.heap.size 51 [.int .i64 y0, .int .i64 y1, .int .i64 y2] ∧ Below w.heap.size w wx) (fun c _ => L.length - (intOf c).toNat)
  case atStart => exact ⟨0, b8, 0, _, Nat.zero_le _, rfl, HR9.out, HS9.out, Good.one (Int.le_refl _) (by decide), (fun x hx => by rw [List.mem_singleton.1 hx]; exact ContOk.zero), HA9.out, HB9.out⟩
  case round =>
    obtain ⟨j, b, l, V, hj, rfl, hr, hst, hgd, hvc, hra, hbw⟩ := hrel
    have g0 : wr.cell? ⟨g, 0, none⟩ = some (.map (some b)) := hr.cell 0
    have g1 : wr.cell? ⟨g, 1, none⟩ = some (.int .i64 l) := hr.cell 1
    have g2 := hr.lt
    have HR := Lib.hid hr
    have HT := Lib.hid hst
    have HGD := Lib.hid hgd
    have HVC := Lib.hid hvc
    have HRA := Lib.hid hra
    have HB := Lib.hid hbw
    have hlen := hgd.len
    clear hr hst hgd hvc hra hbw HR9 HS9 HA9 HB9
    by_cases hjl : j < L.length
    · have r1 : (j : Int) < (L.length : Int) := by omega
      have r0 : (0 : Int) ≤ (j : Int) := by omega
      have r3 : IntKind.i64.wrap ((j : Int) + 1) = ((j + 1 : Nat) : Int) := by rw [IntWalk.i64_in _ (by omega)]; omega
      obtain ⟨lb, lo, rfl, hlb, hlc⟩ := HL.out (by intro h0; rw [h0] at hjl; simp at hjl)
      obtain ⟨UA', UC', -, -, c2, -, hu⟩ := hlc j hjl
      have c2 := (HB.out.cell hlb).trans c2
      have c3 := Nat.lt_of_lt_of_le hlb HB.out.size
      have hft := HFIT.out L[j] (List.getElem_mem hjl)
      have hok := hft.upd
      have hul := hft.2.2.1
      clear hlc hft
      generalize L[j] = aj at *
      obtain ⟨kj, nj, vs⟩ := aj
      have hul : vs.length ≤ 12 := hul
      have c2 : wr.cell? ⟨lb, lo + j * 3 + 2, none⟩ = some (.slice UA' vs.length UC') := c2
      have hok : ∀ u ∈ vs, UpdOk u := hok
      have hu : UpdsM w.heap.size w UA' vs := hu
      obtain ⟨wo, hwo⟩ : ∃ wo, wo = wr := ⟨_, rfl⟩
      subst hwo
      have HKP : Hid (∀ W, Below wo.heap.size wo W → W.cell? ⟨lb, lo + j * 3 + 2, none⟩ = some (.slice UA' vs.length UC')) := fun W hb =>
        (hb.cell (p := ⟨lb, lo + j * 3 + 2, none⟩) c3).trans c2
      have HCM : Hid (∀ W, Below wo.heap.size wo W → Calls Tryz.prog 9 #[.agg #[.map (some b), .int .i64 l], .slice UA' vs.length UC'] W (CommitPost (fun b => b ≠ g) X (.map (some b)) (commitR X V l vs) W)) := fun W hb =>
        snCommit_all (B := j) (HT.out.up hb) (fun b' hb' => by have := hb.size; show b' ≠ g; omega) HGD.out (by omega) (by omega) (Nat.le_trans HOKS.out.1 (by decide)) UA' UC' vs ((hu.below (Below.then HB.out hb HB.out.size) (Nat.le_refl _)).more (Nat.le_trans HB.out.size hb.size)) hok (by omega)
      have HGC := Lib.hid (HGD.out.commit HT.out.asc X vs)
      have HVC2 := Lib.hid (HVC.out.commit (l := l) HT.out.asc vs)
      obtain ⟨r, hr⟩ : ∃ r, r = commitR X V l vs := ⟨_, rfl⟩
      rw [← hr] at HCM HGC HVC2
      clear hr hu hok c2
      go_upto_region 12 with (fail)
      refine wp_region_held_drew (S := (fun w' => w'.cell? ⟨lb, lo + j * 3 + 2, none⟩ = some (.slice UA' vs.length UC'))) (by kernel_rfl) (HKP.out wo.drew (Below.refl _ _).drew) (fun hHeld => ?_)
      refine takeOp (i := 1) (v := ?_) (some 53) rfl rfl (by kernel_rfl) (by kernel_rfl) (by kernel_rfl) (fun _ _ _ h => h) (Or.inl ⟨by rfl, ?_⟩) (by assumption) ?_
      rotate_left 1
      · (intro w0 hSw; (try dsimp only at hSw); go_simp; try (with_reducible rfl))
      try simp only [Act.put]
      try simp only [List.setIfInBounds_toArray]
      try simp only [List.set_cons_succ]
      try simp only [List.set_cons_zero]
      refine takeOp (i := 2) (v := ?_) (some 54) rfl rfl (by kernel_rfl) (by kernel_rfl) (by kernel_rfl) (fun _ _ _ h => h) (Or.inl ⟨by rfl, ?_⟩) (by assumption) ?_
      rotate_left 1
      · (intro w0 hSw; (try dsimp only at hSw); go_simp; try (with_reducible rfl))
      try simp only [Act.put]
      try simp only [List.setIfInBounds_toArray]
      try simp only [List.set_cons_succ]
      try simp only [List.set_cons_zero]
      refine takeOp (i := 3) (v := ?_) (some 55) rfl rfl (by kernel_rfl) (by kernel_rfl) (by kernel_rfl) (fun _ _ _ h => h) (Or.inl ⟨by rfl, ?_⟩) (by assumption) ?_
      rotate_left 1
      · (intro w0 hSw; (try dsimp only at hSw); go_simp; try (with_reducible rfl))
      try simp only [Act.put]
      try simp only [List.setIfInBounds_toArray]
      try simp only [List.set_cons_succ]
      try simp only [List.set_cons_zero]
      refine takeOp (i := 4) (v := ?_) (some 56) rfl rfl (by kernel_rfl) (by kernel_rfl) (by kernel_rfl) (fun _ _ _ h => h) (Or.inl ⟨by rfl, ?_⟩) (by assumption) ?_
      rotate_left 1
      · (intro w0 hSw; (try dsimp only at hSw); go_simp; try (with_reducible rfl))
      try simp only [Act.put]
      try simp only [List.setIfInBounds_toArray]
      try simp only [List.set_cons_succ]
      try simp only [List.set_cons_zero]
      refine takeOp (i := 5) (v := ?_) (some 57) rfl rfl (by kernel_rfl) (by kernel_rfl) (by kernel_rfl) (fun _ _ _ h => h) (Or.inl ⟨by rfl, ?_⟩) (by assumption) ?_
      rotate_left 1
      · (intro w0 hSw; (try dsimp only at hSw); go_simp; try (with_reducible rfl))
      try simp only [Act.put]
      try simp only [List.setIfInBounds_toArray]
      try simp only [List.set_cons_succ]
      try simp only [List.set_cons_zero]
      refine wpAnyH_ready (rs := [0]) (by kernel_rfl) (by simp) ?_
      refine AllReadyH.cons rfl (fun K hK => ?_) AllReadyH.nil
      go_simp
      refine hK.out _ _ (HKP.out wo.drew (Below.refl _ _).drew) (fun hHeld => ?_)
      clear hK K
      try simp only [Act.put]
      try simp only [List.setIfInBounds_toArray]
      try simp only [List.set_cons_succ]
      try simp only [List.set_cons_zero]
      refine wpAnyH_ready (rs := [6]) (by kernel_rfl) (by simp) ?_
      refine AllReadyH.cons rfl (fun K hK => ?_) AllReadyH.nil
      go_simp
      refine (HCM.out wo.drew (Below.refl _ _).drew).mono ?_
      rintro e V1 ⟨m1, n1, rfl, hn1, -, hst1, hb1⟩
      have HV1 : Hid (Below wo.heap.size wo V1) := Below.undrew hb1
      have HT1 := Lib.hid hst1
      have HR1 := Lib.hid (HR.out.up HV1.out)
      have HRA1 := Lib.hid (HRA.out.up HV1.out)
      have HB1 := Lib.hid (Below.then HB.out HV1.out HB.out.size)
      clear hn1 hst1 hb1 g0 g1
      go_wp2_with fail
      refine hK.out _ _ (HKP.out V1 HV1.out) (fun hHeld => ?_)
      clear hK K
      try simp only [Act.put]
      try simp only [List.setIfInBounds_toArray]
      try simp only [List.set_cons_succ]
      try simp only [List.set_cons_zero]
      refine takeOp (i := 7) (v := ?_) (some 51) rfl rfl (by kernel_rfl) (by kernel_rfl) (by kernel_rfl) (fun _ _ _ h => h) (Or.inl ⟨by rfl, ?_⟩) (by assumption) ?_
      rotate_left 1
      · (intro w0 hSw; (try dsimp only at hSw); go_simp; try (with_reducible rfl))
      try simp only [Act.put]
      try simp only [List.setIfInBounds_toArray]
      try simp only [List.set_cons_succ]
      try simp only [List.set_cons_zero]
      refine takeOp (i := 8) (v := ?_) (some 59) rfl rfl (by kernel_rfl) (by kernel_rfl) (by kernel_rfl) (fun _ _ _ h => h) (Or.inl ⟨by rfl, ?_⟩) (by assumption) ?_
      rotate_left 1
      · (intro w0 hSw; (try dsimp only at hSw); go_simp; try (with_reducible rfl))
      try simp only [Act.put]
      try simp only [List.setIfInBounds_toArray]
      try simp only [List.set_cons_succ]
      try simp only [List.set_cons_zero]
      refine takeOp (i := 9) (v := ?_) (some 60) rfl rfl (by kernel_rfl) (by kernel_rfl) (by kernel_rfl) (fun _ _ _ h => h) (Or.inl ⟨by rfl, ?_⟩) (by assumption) ?_
      rotate_left 1
      · (intro w0 hSw; (try dsimp only at hSw); go_simp; try (with_reducible rfl))
      try simp only [Act.put]
      try simp only [List.setIfInBounds_toArray]
      try simp only [List.set_cons_succ]
      try simp only [List.set_cons_zero]
      refine takeOp (i := 10) (v := ?_) (some 61) rfl rfl (by kernel_rfl) (by kernel_rfl) (by kernel_rfl) (fun _ _ _ h => h) (Or.inl ⟨by rfl, ?_⟩) (by assumption) ?_
      rotate_left 1
      · (intro w0 hSw; (try dsimp only at hSw); go_simp; try (with_reducible rfl))
      try simp only [Act.put]
      try simp only [List.setIfInBounds_toArray]
      try simp only [List.set_cons_succ]
      try simp only [List.set_cons_zero]
      refine wpAnyH_ready (rs := [11]) (by kernel_rfl) (by simp) ?_
      refine AllReadyH.cons rfl (fun K hK => ?_) AllReadyH.nil
      have m0 : V1.cell? ⟨g, 0, none⟩ = some (.map (some b)) := HR1.out.cell 0
      have m2 : V1.cell? ⟨g, 1, none⟩ = some (.int .i64 l) := HR1.out.cell 1
      have m3 := HR1.out.frozen 0
      have m4 := HR1.out.frozen 1
      have m5 := HR1.out.lt
      go_simp
      obtain ⟨V2, hV⟩ : ∃ V', V' = (V1.setCell ⟨g, 0, none⟩ (.map (some m1))).setCell ⟨g, 1, none⟩ (.int .i64 r.2.2) := ⟨_, rfl⟩
      rw [← hV]
      have HR2 : Hid (Row V2 g 35 [.map (some m1), .int .i64 r.2.2]) := by show Row _ _ _ _; rw [hV]; exact HR1.out.set2 _ _
      have HT2 : Hid (StM (fun b => b ≠ g) X V2 (.map (some m1)) r.2.1) := by show StM _ _ _ _ _; rw [hV]; exact StM.setBox HT1.out _ _
      have HRA2 : Hid (Row V2 w.heap.size 51 [.int .i64 y0, .int .i64 y1, .int .i64 y2]) := by show Row _ _ _ _; rw [hV]; exact (HRA1.out.far (show w.heap.size ≠ g by omega) _).far (show w.heap.size ≠ g by omega) _
      have HB2 : Hid (Below w.heap.size w V2) := by show Below _ _ _; rw [hV]; exact (HB1.out.setCell (Nat.le_of_lt hgw) _).setCell (Nat.le_of_lt hgw) _
      have KEEP : V2.cell? ⟨lb, lo + j * 3 + 2, none⟩ = some (.slice UA' vs.length UC') := by
        have hne : g ≠ lb := by omega
        rw [hV]
        exact far_cell hne (far_cell hne (HKP.out V1 HV1.out))
      clear hV m0 m2 m3 m4 m5
      refine hK.out _ _ KEEP (fun hHeld => ?_)
      clear hK K
      try simp only [Act.put]
      try simp only [List.setIfInBounds_toArray]
      try simp only [List.set_cons_succ]
      try simp only [List.set_cons_zero]
      refine wpAnyH_done (by kernel_rfl) ?_ _
      go_wp2_with fail
      go_roundw
      case rel => exact ⟨j + 1, m1, r.2.2, r.2.1, hjl, by go_num, HR2.out, HT2.out, HGC.out, HVC2.out, HRA2.out, HB2.out⟩
      case measure => simp [intOf]; omega
    · obtain rfl : j = L.length := by omega
      have r1 : ¬ (L.length : Int) < (L.length : Int) := by omega
      have HSZ : Hid (∀ p ∈ X, p.1.size ≤ 9223372036854775807 ∧ p.2.length ≤ 6) := fun p hp => ⟨(HSO.out p hp).1, (HOKS.out.2.1 p hp).2⟩
      have a0 : wr.cell? ⟨w.heap.size, 0, none⟩ = some (.int .i64 y0) := HRA.out.cell 0
      have a1 : wr.cell? ⟨w.heap.size, 1, none⟩ = some (.int .i64 y1) := HRA.out.cell 1
      have a2 : wr.cell? ⟨w.heap.size, 2, none⟩ = some (.int .i64 y2) := HRA.out.cell 2
      have a9 := HRA.out.lt
      have HAT0 := Lib.hid (snAt_all (l := l) (n := y0) HT.out HQ0.out)
      clear hlen
      go_wp2_with fail
      clear g0 g1 g2 a0 a1 a2 a9
      refine HAT0.out.mono ?_
      rintro e w11 hat
      obtain ⟨om, ea, rfl, hat0, -, hx1⟩ := hat.shape
      have HA0 := Lib.hid hat0
      obtain ⟨g12, hgx⟩ : ∃ x, x = w11.heap.size := ⟨_, rfl⟩
      obtain ⟨W12, hWx⟩ : ∃ W, W = w11.alloc (.cells #[.map om] 29) := ⟨_, rfl⟩
      have hx2 : Ext w11 W12 := by rw [hWx]; exact (Ext.refl w11).alloc _
      have HGg12 : Hid (Row W12 g12 29 [.map om]) := by show Row _ _ _ _; rw [hWx, hgx]; exact Row.new w11 29 _
      have HX0 := Lib.hid (hx1.trans hx2).below
      have HR12 := Lib.hid (HR.out.up HX0.out)
      have HRA12 := Lib.hid (HRA.out.up HX0.out)
      have HT12 := Lib.hid (HT.out.up HX0.out)
      have HB12 := Lib.hid (Below.then HB.out HX0.out HB.out.size)
      have HWX := Lib.hid hWx
      have HGX := Lib.hid hgx
      clear hat hat0 hx1 hx2 hWx hgx HAT0
      have HAT2 := Lib.hid (snAt_all (l := l) (n := y2) HT12.out HQ2.out)
      have g0 : W12.cell? ⟨g, 0, none⟩ = some (.map (some b)) := HR12.out.cell 0
      have g1 : W12.cell? ⟨g, 1, none⟩ = some (.int .i64 l) := HR12.out.cell 1
      have g2 := HR12.out.lt
      have a0 : W12.cell? ⟨w.heap.size, 0, none⟩ = some (.int .i64 y0) := HRA12.out.cell 0
      have a1 : W12.cell? ⟨w.heap.size, 1, none⟩ = some (.int .i64 y1) := HRA12.out.cell 1
      have a2 : W12.cell? ⟨w.heap.size, 2, none⟩ = some (.int .i64 y2) := HRA12.out.cell 2
      have a9 := HRA12.out.lt
      go_upto_region 14 with (fail)
      rw [← HWX.out, ← HGX.out]
      clear HWX HGX HR HRA HB
      go_wp2_with fail
      clear g0 g1 g2 a0 a1 a2 a9
      refine HAT2.out.mono ?_
      rintro e w13 hat
      obtain ⟨oc, eb, rfl, hat0, -, hx1⟩ := hat.shape
      have HA2 := Lib.hid hat0
      obtain ⟨g14, hgx⟩ : ∃ x, x = w13.heap.size := ⟨_, rfl⟩
      obtain ⟨W14, hWx⟩ : ∃ W, W = w13.alloc (.cells #[.map oc] 29) := ⟨_, rfl⟩
      have hx2 : Ext w13 W14 := by rw [hWx]; exact (Ext.refl w13).alloc _
      have HGg14 : Hid (Row W14 g14 29 [.map oc]) := by show Row _ _ _ _; rw [hWx, hgx]; exact Row.new w13 29 _
      have HX2 := Lib.hid (hx1.trans hx2).below
      have HR14 := Lib.hid (HR12.out.up HX2.out)
      have HRA14 := Lib.hid (HRA12.out.up HX2.out)
      have HT14 := Lib.hid (HT12.out.up HX2.out)
      have HB14 := Lib.hid (Below.then HB12.out HX2.out HB12.out.size)
      have HWX := Lib.hid hWx
      have HGX := Lib.hid hgx
      clear hat hat0 hx1 hx2 hWx hgx HAT2
      have HG124 := Lib.hid (HGg12.out.up HX2.out)
      have HCH := Lib.hid (snChanges_any (l := l) HT14.out HQ0.out HQ1.out HOKS.out.2.2 HOKS.out.1 (fun p hp => (HSZ.out p hp).1))
      have g0 : W14.cell? ⟨g, 0, none⟩ = some (.map (some b)) := HR14.out.cell 0
      have g1 : W14.cell? ⟨g, 1, none⟩ = some (.int .i64 l) := HR14.out.cell 1
      have g2 := HR14.out.lt
      have a0 : W14.cell? ⟨w.heap.size, 0, none⟩ = some (.int .i64 y0) := HRA14.out.cell 0
      have a1 : W14.cell? ⟨w.heap.size, 1, none⟩ = some (.int .i64 y1) := HRA14.out.cell 1
      have a2 : W14.cell? ⟨w.heap.size, 2, none⟩ = some (.int .i64 y2) := HRA14.out.cell 2
      have a9 := HRA14.out.lt
      go_upto_region 15 with (fail)
      rw [← HWX.out, ← HGX.out]
      clear HWX HGX HR12 HRA12 HB12
      go_wp2_with fail
      clear g0 g1 g2 a0 a1 a2 a9
      refine HCH.out.mono ?_
      rintro e w15 hch
      obtain ⟨A1, us, C1, ef, rfl, hf0, -, hb15⟩ := hch.shape
      have HF0 := Lib.hid hf0
      have HX15 := Lib.hid hb15
      have HR15 := Lib.hid (HR14.out.up hb15)
      have HRA15 := Lib.hid (HRA14.out.up hb15)
      have HB15 := Lib.hid (Below.then HB14.out hb15 HB14.out.size)
      have HT15 := Lib.hid (HT14.out.up hb15)
      have HG125 := Lib.hid (HG124.out.up hb15)
      have HG145 := Lib.hid (HGg14.out.up hb15)
      have HCH2 := Lib.hid (snChanges_any (l := l) HT15.out HQ1.out HQ2.out HOKS.out.2.2 HOKS.out.1 (fun p hp => (HSZ.out p hp).1))
      have g0 : w15.cell? ⟨g, 0, none⟩ = some (.map (some b)) := HR15.out.cell 0
      have g1 : w15.cell? ⟨g, 1, none⟩ = some (.int .i64 l) := HR15.out.cell 1
      have g2 := HR15.out.lt
      have a0 : w15.cell? ⟨w.heap.size, 0, none⟩ = some (.int .i64 y0) := HRA15.out.cell 0
      have a1 : w15.cell? ⟨w.heap.size, 1, none⟩ = some (.int .i64 y1) := HRA15.out.cell 1
      have a2 : w15.cell? ⟨w.heap.size, 2, none⟩ = some (.int .i64 y2) := HRA15.out.cell 2
      have a9 := HRA15.out.lt
      clear hch hf0 hb15 HCH HR14 HRA14 HB14
      go_wp2_with fail
      clear g0 g1 g2 a0 a1 a2 a9
      refine HCH2.out.mono ?_
      rintro e wk hch
      obtain ⟨A2, ws, C2, eg, rfl, hf0, -, hb16⟩ := hch.shape
      have HF1 := Lib.hid hf0
      have HX16 := Lib.hid hb16
      have HBK := Lib.hid (Below.then HB15.out hb16 HB15.out.size)
      have HG126 := Lib.hid (HG125.out.up hb16)
      have HG146 := Lib.hid (HG145.out.up hb16)
      have HGL : Hid (g < wk.heap.size) := Nat.lt_of_lt_of_le HR15.out.lt hb16.size
      clear hch hf0 hb16 HCH2 HR15 HRA15 HB15
      by_cases h1 : ea = 0
      rotate_left
      · have e1 : (ea != 0) = true := by simpa using h1
        clear h1
        go_wp2_with fail
        go_ret
        exact ⟨rfl, HBK.out⟩
      by_cases h2 : eb = 0
      rotate_left
      · have e1 : (ea != 0) = false := by simpa using h1
        have e2 : (eb != 0) = true := by simpa using h2
        clear h1 h2
        go_wp2_with fail
        go_ret
        exact ⟨rfl, HBK.out⟩
      by_cases h3 : ef = 0
      rotate_left
      · have e1 : (ea != 0) = false := by simpa using h1
        have e2 : (eb != 0) = false := by simpa using h2
        have e3 : (ef != 0) = true := by simpa using h3
        clear h1 h2 h3
        go_wp2_with fail
        go_ret
        exact ⟨rfl, HBK.out⟩
      by_cases h4 : eg = 0
      rotate_left
      · have e1 : (ea != 0) = false := by simpa using h1
        have e2 : (eb != 0) = false := by simpa using h2
        have e3 : (ef != 0) = false := by simpa using h3
        have e4 : (eg != 0) = true := by simpa using h4
        clear h1 h2 h3 h4
        go_wp2_with fail
        go_ret
        exact ⟨rfl, HBK.out⟩
      · subst h1 h2 h3 h4
        obtain ⟨x, d, hfx, rfl, hd⟩ := HA0.out rfl
        obtain ⟨z, d', hfz, rfl, hd'⟩ := HA2.out rfl
        obtain ⟨x', y, ns, e1, hfy, hus, hp, hu⟩ := HF0.out rfl
        obtain ⟨y', z', ms, e2, e3, hws, hpm, hum⟩ := HF1.out rfl
        rw [hfx] at e1
        rw [hfy] at e2
        rw [hfz] at e3
        cases e1
        cases e2
        cases e3
        have hcx := HVC.out x (findV_some hfx).1
        have hcy := HVC.out y (findV_some hfy).1
        have hcz := HVC.out z (findV_some hfz).1
        have hns : ∀ s ∈ ns, s ∈ X.map Prod.fst := fun s hs => hp.mem_iff.1 hs
        have hms : ∀ s ∈ ms, s ∈ X.map Prod.fst := fun s hs => hpm.mem_iff.1 hs
        obtain ⟨H1, hrun1, hH1, -⟩ := diff_run hcx hcy ns (hp.symm.nodup HOKS.out.2.2) hns x.db 0 (fun s _ => rfl)
        obtain ⟨H, hrun2, hH, -⟩ := diff_run hcy hcz ms (hpm.symm.nodup HOKS.out.2.2) hms H1 (0 + (diffF ns x.db y.db).length) (fun s hs => hH1 s (hp.mem_iff.2 (hms s hs)))
        have hrun : applyF X x.db 0 (us ++ ws) = (0, H, us.length + ws.length) := by
          rw [hus, hws, applyF_app X _ _ _ _ (by rw [hrun1]), hrun1]
          show applyF X H1 (0 + (diffF ns x.db y.db).length) (diffF ms y.db z.db) = _
          rw [hrun2, Nat.zero_add]
        have h3 := HOKS.out.1
        have hul : us.length ≤ 16 * 8192 := by
          rw [hus]
          have h1 := diffF_le hcx hcy ns hns
          have h2 := hp.length_eq
          rw [List.length_map] at h2
          omega
        have hwl : ws.length ≤ 16 * 8192 := by
          rw [hws]
          have h1 := diffF_le hcy hcz ms hms
          have h2 := hpm.length_eq
          rw [List.length_map] at h2
          omega
        have huok : ∀ u ∈ us ++ ws, UpdOk u := fun u hu => by
          rcases List.mem_append.1 hu with h | h
          · rw [hus] at h; exact diff_ok hcx hcy hns HSZ.out u h
          · rw [hws] at h; exact diff_ok hcy hcz hms HSZ.out u h
        have HSC : Hid (sameC X H z.db = true) := List.all_eq_true.2 fun p hpx => decide_eq_true (hH p.1 (hpm.mem_iff.2 (List.mem_map.2 ⟨p, hpx, rfl⟩)))
        have HD1 := Lib.hid (hd.up (Below.then (Below.then (Below.then HX0.out HX2.out HX0.out.size) HX15.out (Nat.le_trans HX0.out.size HX2.out.size)) HX16.out (Nat.le_trans (Nat.le_trans HX0.out.size HX2.out.size) HX15.out.size)))
        have HD2 := Lib.hid (hd'.up (Below.then (Below.then HX2.out HX15.out HX2.out.size) HX16.out (Nat.le_trans HX2.out.size HX15.out.size)))
        obtain ⟨n1s, hn1, hsl1⟩ := hu.cs
        obtain ⟨n2s, hn2, hsl2⟩ := hum.cs
        have HN1 : Hid (UpdCs wk.heap.size wk us n1s) := (hn1.below HX16.out (Nat.le_refl _)).more HX16.out.size
        have HN2 : Hid (UpdCs wk.heap.size wk ws n2s) := hn2
        have HS1 : Hid (Sl wk.heap.size wk A1 n1s) := (Sl.below hsl1 HX16.out (Nat.le_refl _)).more HX16.out.size
        have HS2 : Hid (Sl wk.heap.size wk A2 n2s) := hsl2
        have HLE1 : Hid (0 + us.length ≤ 1000000) := by show _ ≤ _; omega
        have HLE2 : Hid (us.length + ws.length ≤ 1000000) := by show _ ≤ _; omega
        have HLE2b : Hid ((us ++ ws).length ≤ 1000000) := by show _ ≤ _; rw [List.length_append]; omega
        have HUW := Lib.hid huok
        have HRUN : Hid (applyF X x.db 0 (us ++ ws) = (0, H, (us ++ ws).length)) := by show _ = _; rw [hrun, List.length_append]
        have HSS : Hid (∀ W, Below wk.heap.size wk W → W.cell? ⟨g12, 0, none⟩ = some (.map (some d))) := fun W hb => (HG126.out.up hb).cell 0
        clear hfx hfy hfz hd hd' hus hws hp hpm hu hum hcx hcy hcz hns hms hrun1 hrun2 hH1 hH hrun h3 hul hwl huok hn1 hn2 hsl1 hsl2 HF0 HF1 HA0 HA2
        go_upto_region 19 with (fail)
        go_cut [20, 22] from 108 to 118 (fun vp ve wx => ∃ gx be, vp = .pointer (some ⟨gx, 0, none⟩) ∧ ve = .int .i64 0 ∧ Row wx gx 29 [.map (some be)] ∧ DbM (fun b => b ≠ g) X wx (.map (some be)) H ∧ Below wk.heap.size wk wx)
        case first =>
          refine wp_region_held_drew (S := (fun w' => w'.cell? ⟨g12, 0, none⟩ = some (.map (some d)))) (by kernel_rfl) (HSS.out wk.drew (Below.refl _ _).drew) (fun hHeld => ?_)
          obtain ⟨V0, hV0⟩ : ∃ V, V = wk.drew := ⟨_, rfl⟩
          have HV : Hid (Below wk.heap.size wk V0) := by show Below _ _ _; rw [hV0]; exact ((Ext.refl wk).drew).below
          rw [← hV0]
          clear hV0
          have hHeld0 : V0.cell? ⟨g12, 0, none⟩ = some (.map (some d)) := HSS.out V0 HV.out
          refine takeOp (i := 0) (v := ?_) (some 109) rfl rfl (by kernel_rfl) (by kernel_rfl) (by kernel_rfl) (fun _ _ _ h => h) (Or.inl ⟨by rfl, ?_⟩) (by assumption) ?_
          rotate_left 1
          · (intro w0 hSw; (try dsimp only at hSw); go_simp; try (with_reducible rfl))
          try simp only [Act.put]
          try simp only [List.setIfInBounds_toArray]
          try simp only [List.set_cons_succ]
          try simp only [List.set_cons_zero]
          refine takeOp (i := 2) (v := ?_) (some 111) rfl rfl (by kernel_rfl) (by kernel_rfl) (by kernel_rfl) (fun _ _ _ h => h) (Or.inl ⟨by rfl, ?_⟩) (by assumption) ?_
          rotate_left 1
          · (intro w0 hSw; (try dsimp only at hSw); go_simp; try (with_reducible rfl))
          try simp only [Act.put]
          try simp only [List.setIfInBounds_toArray]
          try simp only [List.set_cons_succ]
          try simp only [List.set_cons_zero]
          refine takeOp (i := 4) (v := ?_) (some 113) rfl rfl (by kernel_rfl) (by kernel_rfl) (by kernel_rfl) (fun _ _ _ h => h) (Or.inl ⟨by rfl, ?_⟩) (by assumption) ?_
          rotate_left 1
          · (intro w0 hSw; (try dsimp only at hSw); go_simp; try (with_reducible rfl))
          try simp only [Act.put]
          try simp only [List.setIfInBounds_toArray]
          try simp only [List.set_cons_succ]
          try simp only [List.set_cons_zero]
          refine wpAnyH_ready (rs := [1, 11]) (by kernel_rfl) (by simp) ?_
          refine (AllReadyH.cons rfl (fun K hK => ?_) (AllReadyH.cons rfl (fun K hK => ?_) AllReadyH.nil))
          · go_simp
            obtain ⟨V1, hV⟩ : ∃ V', V' = V0.alloc (.cells #[] 61) := ⟨_, rfl⟩
            rw [← hV]
            have hx : Ext V0 V1 := by rw [hV]; exact (Ext.refl V0).alloc _
            have HO : Hid (V1.ownsRow wk.heap.size 61 3 (.slice (some ⟨V0.heap.size, 0, none⟩) 0 0) 0 []) := by show World.ownsRow _ _ _ _ _ _ _; rw [hV]; exact own_emptyU V0 _ HV.out.size
            have HV := Lib.hid (Below.then HV.out hx.below HV.out.size)
            clear hx hV
            refine hK.out _ _ (HSS.out V1 HV.out) (fun hHeld => ?_)
            clear hK K
            try simp only [Act.put]
            try simp only [List.setIfInBounds_toArray]
            try simp only [List.set_cons_succ]
            try simp only [List.set_cons_zero]
            refine wpAnyH_ready (rs := [3, 11]) (by kernel_rfl) (by simp) ?_
            refine (AllReadyH.cons rfl (fun K hK => ?_) (AllReadyH.cons rfl (fun K hK => ?_) AllReadyH.nil))
            · refine stepXUpd rfl (.tmp 110) (.tmp 111) rfl wk.heap.size (.slice (some ⟨V0.heap.size, 0, none⟩) 0 0) 0 [] rfl HO.out A1 us.length C1 n1s rfl HN1.out.len ((Sl.below HS1.out HV.out (Nat.le_refl _)).more HV.out.size) HN1.out.one HLE1.out HV.out.size ?_
              intro v5 V2 hown hg hat
              rw [Nat.zero_add, List.nil_append] at hown
              have HV := Lib.hid (HV.out.grown hg HV.out.size (fun k hk => own_base HO.out hk))
              have HO := Lib.hid hown
              clear hown hg hat
              refine hK.out _ _ (HSS.out V2 HV.out) (fun hHeld => ?_)
              clear hK K
              try simp only [Act.put]
              try simp only [List.setIfInBounds_toArray]
              try simp only [List.set_cons_succ]
              try simp only [List.set_cons_zero]
              refine wpAnyH_ready (rs := [5, 11]) (by kernel_rfl) (by simp) ?_
              refine (AllReadyH.cons rfl (fun K hK => ?_) (AllReadyH.cons rfl (fun K hK => ?_) AllReadyH.nil))
              · refine stepXUpd rfl (.tmp 112) (.tmp 113) rfl wk.heap.size v5 us.length n1s rfl HO.out A2 ws.length C2 n2s rfl HN2.out.len ((Sl.below HS2.out HV.out (Nat.le_refl _)).more HV.out.size) HN2.out.one HLE2.out HV.out.size ?_
                intro v6 V3 hown hg hat
                have HV := Lib.hid (HV.out.grown hg HV.out.size (fun k hk => own_base HO.out hk))
                have hlc : (us ++ ws).length = us.length + ws.length := List.length_append
                rw [← hlc] at hown
                obtain ⟨A6, C6, rfl, -, -, hM⟩ := own_updsM hown ((((HN1.out.below HV.out (Nat.le_refl _)).append (HN2.out.below HV.out (Nat.le_refl _)))).more HV.out.size)
                rw [hlc]
                have HM := Lib.hid hM
                clear hown hg hat hlc hM HO
                refine hK.out _ _ (HSS.out V3 HV.out) (fun hHeld => ?_)
                clear hK K
                try simp only [Act.put]
                try simp only [List.setIfInBounds_toArray]
                try simp only [List.set_cons_succ]
                try simp only [List.set_cons_zero]
                refine wpAnyH_ready (rs := [6, 11]) (by kernel_rfl) (by simp) ?_
                refine (AllReadyH.cons rfl (fun K hK => ?_) (AllReadyH.cons rfl (fun K hK => ?_) AllReadyH.nil))
                · go_simp
                  have hap := ctApply_any (fun b => b ≠ g) X (.map (some d)) x.db A6 C6 (us ++ ws) V3 (HD1.out.up HV.out) (fun b hb => by have h1 := HV.out.size; have h2 := HGL.out; show b ≠ g; omega) HM.out HUW.out HLE2b.out (Nat.le_trans HOKS.out.1 (by decide))
                  rw [HRUN.out, List.length_append] at hap
                  refine hap.mono ?_
                  rintro e V4 ⟨h1, -, hb⟩
                  obtain ⟨mm, rfl, hd6⟩ := h1 rfl
                  obtain ⟨be, rfl⟩ := hd6.form
                  have HD := Lib.hid hd6
                  have HV := Lib.hid (Below.then HV.out hb HV.out.size)
                  clear h1 hb hd6 hap HM
                  go_wp2_with fail
                  refine hK.out _ _ (HSS.out V4 HV.out) (fun hHeld => ?_)
                  clear hK K
                  try simp only [Act.put]
                  try simp only [List.setIfInBounds_toArray]
                  try simp only [List.set_cons_succ]
                  try simp only [List.set_cons_zero]
                  refine takeOp (i := 7) (v := ?_) (some 108) rfl rfl (by kernel_rfl) (by kernel_rfl) (by kernel_rfl) (fun _ _ _ h => h) (Or.inl ⟨by rfl, ?_⟩) (by assumption) ?_
                  rotate_left 1
                  · (intro w0 hSw; (try dsimp only at hSw); go_simp; try (with_reducible rfl))
                  try simp only [Act.put]
                  try simp only [List.setIfInBounds_toArray]
                  try simp only [List.set_cons_succ]
                  try simp only [List.set_cons_zero]
                  refine takeOp (i := 8) (v := ?_) (some 116) rfl rfl (by kernel_rfl) (by kernel_rfl) (by kernel_rfl) (fun _ _ _ h => h) (Or.inl ⟨by rfl, ?_⟩) (by assumption) ?_
                  rotate_left 1
                  · (intro w0 hSw; (try dsimp only at hSw); go_simp; try (with_reducible rfl))
                  try simp only [Act.put]
                  try simp only [List.setIfInBounds_toArray]
                  try simp only [List.set_cons_succ]
                  try simp only [List.set_cons_zero]
                  refine takeOp (i := 9) (v := ?_) (some 117) rfl rfl (by kernel_rfl) (by kernel_rfl) (by kernel_rfl) (fun _ _ _ h => h) (Or.inl ⟨by rfl, ?_⟩) (by assumption) ?_
                  rotate_left 1
                  · (intro w0 hSw; (try dsimp only at hSw); go_simp; try (with_reducible rfl))
                  try simp only [Act.put]
                  try simp only [List.setIfInBounds_toArray]
                  try simp only [List.set_cons_succ]
                  try simp only [List.set_cons_zero]
                  refine takeOp (i := 10) (v := ?_) (some 118) rfl rfl (by kernel_rfl) (by kernel_rfl) (by kernel_rfl) (fun _ _ _ h => h) (Or.inl ⟨by rfl, ?_⟩) (by assumption) ?_
                  rotate_left 1
                  · (intro w0 hSw; (try dsimp only at hSw); go_simp; try (with_reducible rfl))
                  try simp only [Act.put]
                  try simp only [List.setIfInBounds_toArray]
                  try simp only [List.set_cons_succ]
                  try simp only [List.set_cons_zero]
                  refine wpAnyH_ready (rs := [11]) (by kernel_rfl) (by simp) ?_
                  refine (AllReadyH.cons rfl (fun K hK => ?_) AllReadyH.nil)
                  go_simp
                  obtain ⟨V5, hV⟩ : ∃ V', V' = V4.alloc (.cells #[.map none] 29) := ⟨_, rfl⟩
                  rw [← hV]
                  have hx : Ext V4 V5 := by rw [hV]; exact (Ext.refl V4).alloc _
                  have HG : Hid (Row V5 V4.heap.size 29 [.map none]) := by show Row _ _ _ _; rw [hV]; exact Row.new V4 29 _
                  have HGZ := Lib.hid HV.out.size
                  have HD := Lib.hid ((HD.out.but (Nat.le_refl _)).up hx.below)
                  have HV := Lib.hid (Below.then HV.out hx.below HV.out.size)
                  clear hx hV
                  refine hK.out _ _ (HSS.out V5 HV.out) (fun hHeld => ?_)
                  clear hK K
                  try simp only [Act.put]
                  try simp only [List.setIfInBounds_toArray]
                  try simp only [List.set_cons_succ]
                  try simp only [List.set_cons_zero]
                  refine wpAnyH_ready (rs := [12]) (by kernel_rfl) (by simp) ?_
                  refine (AllReadyH.cons rfl (fun K hK => ?_) AllReadyH.nil)
                  have m0 : V5.cell? ⟨V4.heap.size, 0, none⟩ = some (.map none) := HG.out.cell 0
                  have m2 := HG.out.frozen 0
                  have m4 := HG.out.lt
                  go_simp
                  obtain ⟨V6, hV⟩ : ∃ V', V' = V5.setCell ⟨V4.heap.size, 0, none⟩ (.map (some be)) := ⟨_, rfl⟩
                  rw [← hV]
                  have HG : Hid (Row V6 V4.heap.size 29 [.map (some be)]) := by show Row _ _ _ _; rw [hV]; exact HG.out.set 0 _
                  have HD : Hid (DbM (fun b => b ≠ g ∧ b ≠ V4.heap.size) X V6 (.map (some be)) H) := by show DbM _ _ _ _ _; rw [hV]; exact HD.out.keep (Stay.set (fun h => h.2 rfl) _ _)
                  have HV : Hid (Below wk.heap.size wk V6) := by show Below _ _ _; rw [hV]; exact HV.out.setCell HGZ.out _
                  clear m0 m2 m4 hV
                  refine hK.out _ _ (HSS.out V6 HV.out) (fun hHeld => ?_)
                  clear hK K
                  try simp only [Act.put]
                  try simp only [List.setIfInBounds_toArray]
                  try simp only [List.set_cons_succ]
                  try simp only [List.set_cons_zero]
                  refine takeOp (i := 13) (v := ?_) (some 21) rfl rfl (by kernel_rfl) (by kernel_rfl) (by kernel_rfl) (fun _ _ _ h => h) (Or.inl ⟨by rfl, ?_⟩) (by assumption) ?_
                  rotate_left 1
                  · (intro w0 hSw; (try dsimp only at hSw); go_simp; try (with_reducible rfl))
                  try simp only [Act.put]
                  try simp only [List.setIfInBounds_toArray]
                  try simp only [List.set_cons_succ]
                  try simp only [List.set_cons_zero]
                  refine takeOp (i := 14) (v := ?_) (some 22) rfl rfl (by kernel_rfl) (by kernel_rfl) (by kernel_rfl) (fun _ _ _ h => h) (Or.inl ⟨by rfl, ?_⟩) (by assumption) ?_
                  rotate_left 1
                  · (intro w0 hSw; (try dsimp only at hSw); go_simp; try (with_reducible rfl))
                  try simp only [Act.put]
                  try simp only [List.setIfInBounds_toArray]
                  try simp only [List.set_cons_succ]
                  try simp only [List.set_cons_zero]
                  refine wpAnyH_done (by kernel_rfl) ?_ _
                  go_wp2_with fail
                  go_meet
                  case rel => exact ⟨V4.heap.size, be, rfl, rfl, HG.out, HD.out.weak (fun b _ hp => hp.1), HV.out⟩
                · go_simp
                  obtain ⟨V4, hV⟩ : ∃ V', V' = V3.alloc (.cells #[.map none] 29) := ⟨_, rfl⟩
                  rw [← hV]
                  have hx : Ext V3 V4 := by rw [hV]; exact (Ext.refl V3).alloc _
                  have HG : Hid (Row V4 V3.heap.size 29 [.map none]) := by show Row _ _ _ _; rw [hV]; exact Row.new V3 29 _
                  have HGZ := Lib.hid HV.out.size
                  have HM := Lib.hid ((HM.out.below hx.below (Nat.le_refl _)).more hx.size)
                  have HV := Lib.hid (Below.then HV.out hx.below HV.out.size)
                  clear hx hV
                  refine hK.out _ _ (HSS.out V4 HV.out) (fun hHeld => ?_)
                  clear hK K
                  try simp only [Act.put]
                  try simp only [List.setIfInBounds_toArray]
                  try simp only [List.set_cons_succ]
                  try simp only [List.set_cons_zero]
                  refine wpAnyH_ready (rs := [6]) (by kernel_rfl) (by simp) ?_
                  refine (AllReadyH.cons rfl (fun K hK => ?_) AllReadyH.nil)
                  go_simp
                  have hap := ctApply_any (fun b => b ≠ g ∧ b ≠ V3.heap.size) X (.map (some d)) x.db A6 C6 (us ++ ws) V4 ((HD1.out.weak (P' := (fun b => b ≠ g ∧ b ≠ V3.heap.size)) fun b hb hp => ⟨hp, by have h1 := HGZ.out; omega⟩).up HV.out) (fun b hb => ⟨by have h1 := HV.out.size; have h2 := HGL.out; show b ≠ g; omega, by have := HG.out.lt; omega⟩) HM.out HUW.out HLE2b.out (Nat.le_trans HOKS.out.1 (by decide))
                  rw [HRUN.out, List.length_append] at hap
                  refine hap.mono ?_
                  rintro e V5 ⟨h1, -, hb⟩
                  obtain ⟨mm, rfl, hd6⟩ := h1 rfl
                  obtain ⟨be, rfl⟩ := hd6.form
                  have HD := Lib.hid hd6
                  have HG := Lib.hid (HG.out.up hb)
                  have HV := Lib.hid (Below.then HV.out hb HV.out.size)
                  clear h1 hb hd6 hap HM
                  go_wp2_with fail
                  refine hK.out _ _ (HSS.out V5 HV.out) (fun hHeld => ?_)
                  clear hK K
                  try simp only [Act.put]
                  try simp only [List.setIfInBounds_toArray]
                  try simp only [List.set_cons_succ]
                  try simp only [List.set_cons_zero]
                  refine takeOp (i := 7) (v := ?_) (some 108) rfl rfl (by kernel_rfl) (by kernel_rfl) (by kernel_rfl) (fun _ _ _ h => h) (Or.inl ⟨by rfl, ?_⟩) (by assumption) ?_
                  rotate_left 1
                  · (intro w0 hSw; (try dsimp only at hSw); go_simp; try (with_reducible rfl))
                  try simp only [Act.put]
                  try simp only [List.setIfInBounds_toArray]
                  try simp only [List.set_cons_succ]
                  try simp only [List.set_cons_zero]
                  refine takeOp (i := 8) (v := ?_) (some 116) rfl rfl (by kernel_rfl) (by kernel_rfl) (by kernel_rfl) (fun _ _ _ h => h) (Or.inl ⟨by rfl, ?_⟩) (by assumption) ?_
                  rotate_left 1
                  · (intro w0 hSw; (try dsimp only at hSw); go_simp; try (with_reducible rfl))
                  try simp only [Act.put]
                  try simp only [List.setIfInBounds_toArray]
                  try simp only [List.set_cons_succ]
                  try simp only [List.set_cons_zero]
                  refine takeOp (i := 9) (v := ?_) (some 117) rfl rfl (by kernel_rfl) (by kernel_rfl) (by kernel_rfl) (fun _ _ _ h => h) (Or.inl ⟨by rfl, ?_⟩) (by assumption) ?_
                  rotate_left 1
                  · (intro w0 hSw; (try dsimp only at hSw); go_simp; try (with_reducible rfl))
                  try simp only [Act.put]
                  try simp only [List.setIfInBounds_toArray]
                  try simp only [List.set_cons_succ]
                  try simp only [List.set_cons_zero]
                  refine takeOp (i := 10) (v := ?_) (some 118) rfl rfl (by kernel_rfl) (by kernel_rfl) (by kernel_rfl) (fun _ _ _ h => h) (Or.inl ⟨by rfl, ?_⟩) (by assumption) ?_
                  rotate_left 1
                  · (intro w0 hSw; (try dsimp only at hSw); go_simp; try (with_reducible rfl))
                  try simp only [Act.put]
                  try simp only [List.setIfInBounds_toArray]
                  try simp only [List.set_cons_succ]
                  try simp only [List.set_cons_zero]
                  refine wpAnyH_ready (rs := [12]) (by kernel_rfl) (by simp) ?_
                  refine (AllReadyH.cons rfl (fun K hK => ?_) AllReadyH.nil)
                  have m0 : V5.cell? ⟨V3.heap.size, 0, none⟩ = some (.map none) := HG.out.cell 0
                  have m2 := HG.out.frozen 0
                  have m4 := HG.out.lt
                  go_simp
                  obtain ⟨V6, hV⟩ : ∃ V', V' = V5.setCell ⟨V3.heap.size, 0, none⟩ (.map (some be)) := ⟨_, rfl⟩
                  rw [← hV]
                  have HG : Hid (Row V6 V3.heap.size 29 [.map (some be)]) := by show Row _ _ _ _; rw [hV]; exact HG.out.set 0 _
                  have HD : Hid (DbM (fun b => b ≠ g ∧ b ≠ V3.heap.size) X V6 (.map (some be)) H) := by show DbM _ _ _ _ _; rw [hV]; exact HD.out.keep (Stay.set (fun h => h.2 rfl) _ _)
                  have HV : Hid (Below wk.heap.size wk V6) := by show Below _ _ _; rw [hV]; exact HV.out.setCell HGZ.out _
                  clear m0 m2 m4 hV
                  refine hK.out _ _ (HSS.out V6 HV.out) (fun hHeld => ?_)
                  clear hK K
                  try simp only [Act.put]
                  try simp only [List.setIfInBounds_toArray]
                  try simp only [List.set_cons_succ]
                  try simp only [List.set_cons_zero]
                  refine takeOp (i := 13) (v := ?_) (some 21) rfl rfl (by kernel_rfl) (by kernel_rfl) (by kernel_rfl) (fun _ _ _ h => h) (Or.inl ⟨by rfl, ?_⟩) (by assumption) ?_
                  rotate_left 1
                  · (intro w0 hSw; (try dsimp only at hSw); go_simp; try (with_reducible rfl))
                  try simp only [Act.put]
                  try simp only [List.setIfInBounds_toArray]
                  try simp only [List.set_cons_succ]
                  try simp only [List.set_cons_zero]
                  refine takeOp (i := 14) (v := ?_) (some 22) rfl rfl (by kernel_rfl) (by kernel_rfl) (by kernel_rfl) (fun _ _ _ h => h) (Or.inl ⟨by rfl, ?_⟩) (by assumption) ?_
                  rotate_left 1
                  · (intro w0 hSw; (try dsimp only at hSw); go_simp; try (with_reducible rfl))
                  try simp only [Act.put]
                  try simp only [List.setIfInBounds_toArray]
                  try simp only [List.set_cons_succ]
                  try simp only [List.set_cons_zero]
                  refine wpAnyH_done (by kernel_rfl) ?_ _
                  go_wp2_with fail
                  go_meet
                  case rel => exact ⟨V3.heap.size, be, rfl, rfl, HG.out, HD.out.weak (fun b _ hp => hp.1), HV.out⟩
              · go_simp
                obtain ⟨V3, hV⟩ : ∃ V', V' = V2.alloc (.cells #[.map none] 29) := ⟨_, rfl⟩
                rw [← hV]
                have hx : Ext V2 V3 := by rw [hV]; exact (Ext.refl V2).alloc _
                have HG : Hid (Row V3 V2.heap.size 29 [.map none]) := by show Row _ _ _ _; rw [hV]; exact Row.new V2 29 _
                have HGZ := Lib.hid HV.out.size
                have HNO : Hid ((v5 : Value).ownBlock ≠ some V2.heap.size) := own_ne_newU HO.out
                have HO := Lib.hid (own_keep HO.out hx.below)
                have HV := Lib.hid (Below.then HV.out hx.below HV.out.size)
                clear hx hV
                refine hK.out _ _ (HSS.out V3 HV.out) (fun hHeld => ?_)
                clear hK K
                try simp only [Act.put]
                try simp only [List.setIfInBounds_toArray]
                try simp only [List.set_cons_succ]
                try simp only [List.set_cons_zero]
                refine wpAnyH_ready (rs := [5]) (by kernel_rfl) (by simp) ?_
                refine (AllReadyH.cons rfl (fun K hK => ?_) AllReadyH.nil)
                refine stepXUpd rfl (.tmp 112) (.tmp 113) rfl wk.heap.size v5 us.length n1s rfl HO.out A2 ws.length C2 n2s rfl HN2.out.len ((Sl.below HS2.out HV.out (Nat.le_refl _)).more HV.out.size) HN2.out.one HLE2.out HV.out.size ?_
                intro v6 V4 hown hg hat
                have HNO0 := HNO
                have HNO : Hid (v6.ownBlock ≠ some V2.heap.size) := fun e => by rcases hat _ e with h | h; exact HNO.out h; have h2 := HG.out.lt; omega
                have HG := Lib.hid (HG.out.grown hg (fun e => HNO0.out e.symm))
                have HV := Lib.hid (HV.out.grown hg HV.out.size (fun k hk => own_base HO.out hk))
                have hlc : (us ++ ws).length = us.length + ws.length := List.length_append
                rw [← hlc] at hown
                obtain ⟨A6, C6, rfl, -, -, hM⟩ := own_updsM hown ((((HN1.out.below HV.out (Nat.le_refl _)).append (HN2.out.below HV.out (Nat.le_refl _)))).more HV.out.size)
                rw [hlc]
                have HM := Lib.hid hM
                clear hown hg hat hlc hM HO HNO
                refine hK.out _ _ (HSS.out V4 HV.out) (fun hHeld => ?_)
                clear hK K
                try simp only [Act.put]
                try simp only [List.setIfInBounds_toArray]
                try simp only [List.set_cons_succ]
                try simp only [List.set_cons_zero]
                refine wpAnyH_ready (rs := [6]) (by kernel_rfl) (by simp) ?_
                refine (AllReadyH.cons rfl (fun K hK => ?_) AllReadyH.nil)
                go_simp
                have hap := ctApply_any (fun b => b ≠ g ∧ b ≠ V2.heap.size) X (.map (some d)) x.db A6 C6 (us ++ ws) V4 ((HD1.out.weak (P' := (fun b => b ≠ g ∧ b ≠ V2.heap.size)) fun b hb hp => ⟨hp, by have h1 := HGZ.out; omega⟩).up HV.out) (fun b hb => ⟨by have h1 := HV.out.size; have h2 := HGL.out; show b ≠ g; omega, by have := HG.out.lt; omega⟩) HM.out HUW.out HLE2b.out (Nat.le_trans HOKS.out.1 (by decide))
                rw [HRUN.out, List.length_append] at hap
                refine hap.mono ?_
                rintro e V5 ⟨h1, -, hb⟩
                obtain ⟨mm, rfl, hd6⟩ := h1 rfl
                obtain ⟨be, rfl⟩ := hd6.form
                have HD := Lib.hid hd6
                have HG := Lib.hid (HG.out.up hb)
                have HV := Lib.hid (Below.then HV.out hb HV.out.size)
                clear h1 hb hd6 hap HM
                go_wp2_with fail
                refine hK.out _ _ (HSS.out V5 HV.out) (fun hHeld => ?_)
                clear hK K
                try simp only [Act.put]
                try simp only [List.setIfInBounds_toArray]
                try simp only [List.set_cons_succ]
                try simp only [List.set_cons_zero]
                refine takeOp (i := 7) (v := ?_) (some 108) rfl rfl (by kernel_rfl) (by kernel_rfl) (by kernel_rfl) (fun _ _ _ h => h) (Or.inl ⟨by rfl, ?_⟩) (by assumption) ?_
                rotate_left 1
                · (intro w0 hSw; (try dsimp only at hSw); go_simp; try (with_reducible rfl))
                try simp only [Act.put]
                try simp only [List.setIfInBounds_toArray]
                try simp only [List.set_cons_succ]
                try simp only [List.set_cons_zero]
                refine takeOp (i := 8) (v := ?_) (some 116) rfl rfl (by kernel_rfl) (by kernel_rfl) (by kernel_rfl) (fun _ _ _ h => h) (Or.inl ⟨by rfl, ?_⟩) (by assumption) ?_
                rotate_left 1
                · (intro w0 hSw; (try dsimp only at hSw); go_simp; try (with_reducible rfl))
                try simp only [Act.put]
                try simp only [List.setIfInBounds_toArray]
                try simp only [List.set_cons_succ]
                try simp only [List.set_cons_zero]
                refine takeOp (i := 9) (v := ?_) (some 117) rfl rfl (by kernel_rfl) (by kernel_rfl) (by kernel_rfl) (fun _ _ _ h => h) (Or.inl ⟨by rfl, ?_⟩) (by assumption) ?_
                rotate_left 1
                · (intro w0 hSw; (try dsimp only at hSw); go_simp; try (with_reducible rfl))
                try simp only [Act.put]
                try simp only [List.setIfInBounds_toArray]
                try simp only [List.set_cons_succ]
                try simp only [List.set_cons_zero]
                refine takeOp (i := 10) (v := ?_) (some 118) rfl rfl (by kernel_rfl) (by kernel_rfl) (by kernel_rfl) (fun _ _ _ h => h) (Or.inl ⟨by rfl, ?_⟩) (by assumption) ?_
                rotate_left 1
                · (intro w0 hSw; (try dsimp only at hSw); go_simp; try (with_reducible rfl))
                try simp only [Act.put]
                try simp only [List.setIfInBounds_toArray]
                try simp only [List.set_cons_succ]
                try simp only [List.set_cons_zero]
                refine wpAnyH_ready (rs := [12]) (by kernel_rfl) (by simp) ?_
                refine (AllReadyH.cons rfl (fun K hK => ?_) AllReadyH.nil)
                have m0 : V5.cell? ⟨V2.heap.size, 0, none⟩ = some (.map none) := HG.out.cell 0
                have m2 := HG.out.frozen 0
                have m4 := HG.out.lt
                go_simp
                obtain ⟨V6, hV⟩ : ∃ V', V' = V5.setCell ⟨V2.heap.size, 0, none⟩ (.map (some be)) := ⟨_, rfl⟩
                rw [← hV]
                have HG : Hid (Row V6 V2.heap.size 29 [.map (some be)]) := by show Row _ _ _ _; rw [hV]; exact HG.out.set 0 _
                have HD : Hid (DbM (fun b => b ≠ g ∧ b ≠ V2.heap.size) X V6 (.map (some be)) H) := by show DbM _ _ _ _ _; rw [hV]; exact HD.out.keep (Stay.set (fun h => h.2 rfl) _ _)
                have HV : Hid (Below wk.heap.size wk V6) := by show Below _ _ _; rw [hV]; exact HV.out.setCell HGZ.out _
                clear m0 m2 m4 hV
                refine hK.out _ _ (HSS.out V6 HV.out) (fun hHeld => ?_)
                clear hK K
                try simp only [Act.put]
                try simp only [List.setIfInBounds_toArray]
                try simp only [List.set_cons_succ]
                try simp only [List.set_cons_zero]
                refine takeOp (i := 13) (v := ?_) (some 21) rfl rfl (by kernel_rfl) (by kernel_rfl) (by kernel_rfl) (fun _ _ _ h => h) (Or.inl ⟨by rfl, ?_⟩) (by assumption) ?_
                rotate_left 1
                · (intro w0 hSw; (try dsimp only at hSw); go_simp; try (with_reducible rfl))
                try simp only [Act.put]
                try simp only [List.setIfInBounds_toArray]
                try simp only [List.set_cons_succ]
                try simp only [List.set_cons_zero]
                refine takeOp (i := 14) (v := ?_) (some 22) rfl rfl (by kernel_rfl) (by kernel_rfl) (by kernel_rfl) (fun _ _ _ h => h) (Or.inl ⟨by rfl, ?_⟩) (by assumption) ?_
                rotate_left 1
                · (intro w0 hSw; (try dsimp only at hSw); go_simp; try (with_reducible rfl))
                try simp only [Act.put]
                try simp only [List.setIfInBounds_toArray]
                try simp only [List.set_cons_succ]
                try simp only [List.set_cons_zero]
                refine wpAnyH_done (by kernel_rfl) ?_ _
                go_wp2_with fail
                go_meet
                case rel => exact ⟨V2.heap.size, be, rfl, rfl, HG.out, HD.out.weak (fun b _ hp => hp.1), HV.out⟩
            · go_simp
              obtain ⟨V2, hV⟩ : ∃ V', V' = V1.alloc (.cells #[.map none] 29) := ⟨_, rfl⟩
              rw [← hV]
              have hx : Ext V1 V2 := by rw [hV]; exact (Ext.refl V1).alloc _
              have HG : Hid (Row V2 V1.heap.size 29 [.map none]) := by show Row _ _ _ _; rw [hV]; exact Row.new V1 29 _
              have HGZ := Lib.hid HV.out.size
              have HNO : Hid (((.slice (some ⟨V0.heap.size, 0, none⟩) 0 0) : Value).ownBlock ≠ some V1.heap.size) := own_ne_newU HO.out
              have HO := Lib.hid (own_keep HO.out hx.below)
              have HV := Lib.hid (Below.then HV.out hx.below HV.out.size)
              clear hx hV
              refine hK.out _ _ (HSS.out V2 HV.out) (fun hHeld => ?_)
              clear hK K
              try simp only [Act.put]
              try simp only [List.setIfInBounds_toArray]
              try simp only [List.set_cons_succ]
              try simp only [List.set_cons_zero]
              refine wpAnyH_ready (rs := [3]) (by kernel_rfl) (by simp) ?_
              refine (AllReadyH.cons rfl (fun K hK => ?_) AllReadyH.nil)
              refine stepXUpd rfl (.tmp 110) (.tmp 111) rfl wk.heap.size (.slice (some ⟨V0.heap.size, 0, none⟩) 0 0) 0 [] rfl HO.out A1 us.length C1 n1s rfl HN1.out.len ((Sl.below HS1.out HV.out (Nat.le_refl _)).more HV.out.size) HN1.out.one HLE1.out HV.out.size ?_
              intro v5 V3 hown hg hat
              have HNO0 := HNO
              rw [Nat.zero_add, List.nil_append] at hown
              have HNO : Hid (v5.ownBlock ≠ some V1.heap.size) := fun e => by rcases hat _ e with h | h; exact HNO.out h; have h2 := HG.out.lt; omega
              have HG := Lib.hid (HG.out.grown hg (fun e => HNO0.out e.symm))
              have HV := Lib.hid (HV.out.grown hg HV.out.size (fun k hk => own_base HO.out hk))
              have HO := Lib.hid hown
              clear hown hg hat
              refine hK.out _ _ (HSS.out V3 HV.out) (fun hHeld => ?_)
              clear hK K
              try simp only [Act.put]
              try simp only [List.setIfInBounds_toArray]
              try simp only [List.set_cons_succ]
              try simp only [List.set_cons_zero]
              refine wpAnyH_ready (rs := [5]) (by kernel_rfl) (by simp) ?_
              refine (AllReadyH.cons rfl (fun K hK => ?_) AllReadyH.nil)
              refine stepXUpd rfl (.tmp 112) (.tmp 113) rfl wk.heap.size v5 us.length n1s rfl HO.out A2 ws.length C2 n2s rfl HN2.out.len ((Sl.below HS2.out HV.out (Nat.le_refl _)).more HV.out.size) HN2.out.one HLE2.out HV.out.size ?_
              intro v6 V4 hown hg hat
              have HNO0 := HNO
              have HNO : Hid (v6.ownBlock ≠ some V1.heap.size) := fun e => by rcases hat _ e with h | h; exact HNO.out h; have h2 := HG.out.lt; omega
              have HG := Lib.hid (HG.out.grown hg (fun e => HNO0.out e.symm))
              have HV := Lib.hid (HV.out.grown hg HV.out.size (fun k hk => own_base HO.out hk))
              have hlc : (us ++ ws).length = us.length + ws.length := List.length_append
              rw [← hlc] at hown
              obtain ⟨A6, C6, rfl, -, -, hM⟩ := own_updsM hown ((((HN1.out.below HV.out (Nat.le_refl _)).append (HN2.out.below HV.out (Nat.le_refl _)))).more HV.out.size)
              rw [hlc]
              have HM := Lib.hid hM
              clear hown hg hat hlc hM HO HNO
              refine hK.out _ _ (HSS.out V4 HV.out) (fun hHeld => ?_)
              clear hK K
              try simp only [Act.put]
              try simp only [List.setIfInBounds_toArray]
              try simp only [List.set_cons_succ]
              try simp only [List.set_cons_zero]
              refine wpAnyH_ready (rs := [6]) (by kernel_rfl) (by simp) ?_
              refine (AllReadyH.cons rfl (fun K hK => ?_) AllReadyH.nil)
              go_simp
              have hap := ctApply_any (fun b => b ≠ g ∧ b ≠ V1.heap.size) X (.map (some d)) x.db A6 C6 (us ++ ws) V4 ((HD1.out.weak (P' := (fun b => b ≠ g ∧ b ≠ V1.heap.size)) fun b hb hp => ⟨hp, by have h1 := HGZ.out; omega⟩).up HV.out) (fun b hb => ⟨by have h1 := HV.out.size; have h2 := HGL.out; show b ≠ g; omega, by have := HG.out.lt; omega⟩) HM.out HUW.out HLE2b.out (Nat.le_trans HOKS.out.1 (by decide))
              rw [HRUN.out, List.length_append] at hap
              refine hap.mono ?_
              rintro e V5 ⟨h1, -, hb⟩
              obtain ⟨mm, rfl, hd6⟩ := h1 rfl
              obtain ⟨be, rfl⟩ := hd6.form
              have HD := Lib.hid hd6
              have HG := Lib.hid (HG.out.up hb)
              have HV := Lib.hid (Below.then HV.out hb HV.out.size)
              clear h1 hb hd6 hap HM
              go_wp2_with fail
              refine hK.out _ _ (HSS.out V5 HV.out) (fun hHeld => ?_)
              clear hK K
              try simp only [Act.put]
              try simp only [List.setIfInBounds_toArray]
              try simp only [List.set_cons_succ]
              try simp only [List.set_cons_zero]
              refine takeOp (i := 7) (v := ?_) (some 108) rfl rfl (by kernel_rfl) (by kernel_rfl) (by kernel_rfl) (fun _ _ _ h => h) (Or.inl ⟨by rfl, ?_⟩) (by assumption) ?_
              rotate_left 1
              · (intro w0 hSw; (try dsimp only at hSw); go_simp; try (with_reducible rfl))
              try simp only [Act.put]
              try simp only [List.setIfInBounds_toArray]
              try simp only [List.set_cons_succ]
              try simp only [List.set_cons_zero]
              refine takeOp (i := 8) (v := ?_) (some 116) rfl rfl (by kernel_rfl) (by kernel_rfl) (by kernel_rfl) (fun _ _ _ h => h) (Or.inl ⟨by rfl, ?_⟩) (by assumption) ?_
              rotate_left 1
              · (intro w0 hSw; (try dsimp only at hSw); go_simp; try (with_reducible rfl))
              try simp only [Act.put]
              try simp only [List.setIfInBounds_toArray]
              try simp only [List.set_cons_succ]
              try simp only [List.set_cons_zero]
              refine takeOp (i := 9) (v := ?_) (some 117) rfl rfl (by kernel_rfl) (by kernel_rfl) (by kernel_rfl) (fun _ _ _ h => h) (Or.inl ⟨by rfl, ?_⟩) (by assumption) ?_
              rotate_left 1
              · (intro w0 hSw; (try dsimp only at hSw); go_simp; try (with_reducible rfl))
              try simp only [Act.put]
              try simp only [List.setIfInBounds_toArray]
              try simp only [List.set_cons_succ]
              try simp only [List.set_cons_zero]
              refine takeOp (i := 10) (v := ?_) (some 118) rfl rfl (by kernel_rfl) (by kernel_rfl) (by kernel_rfl) (fun _ _ _ h => h) (Or.inl ⟨by rfl, ?_⟩) (by assumption) ?_
              rotate_left 1
              · (intro w0 hSw; (try dsimp only at hSw); go_simp; try (with_reducible rfl))
              try simp only [Act.put]
              try simp only [List.setIfInBounds_toArray]
              try simp only [List.set_cons_succ]
              try simp only [List.set_cons_zero]
              refine wpAnyH_ready (rs := [12]) (by kernel_rfl) (by simp) ?_
              refine (AllReadyH.cons rfl (fun K hK => ?_) AllReadyH.nil)
              have m0 : V5.cell? ⟨V1.heap.size, 0, none⟩ = some (.map none) := HG.out.cell 0
              have m2 := HG.out.frozen 0
              have m4 := HG.out.lt
              go_simp
              obtain ⟨V6, hV⟩ : ∃ V', V' = V5.setCell ⟨V1.heap.size, 0, none⟩ (.map (some be)) := ⟨_, rfl⟩
              rw [← hV]
              have HG : Hid (Row V6 V1.heap.size 29 [.map (some be)]) := by show Row _ _ _ _; rw [hV]; exact HG.out.set 0 _
              have HD : Hid (DbM (fun b => b ≠ g ∧ b ≠ V1.heap.size) X V6 (.map (some be)) H) := by show DbM _ _ _ _ _; rw [hV]; exact HD.out.keep (Stay.set (fun h => h.2 rfl) _ _)
              have HV : Hid (Below wk.heap.size wk V6) := by show Below _ _ _; rw [hV]; exact HV.out.setCell HGZ.out _
              clear m0 m2 m4 hV
              refine hK.out _ _ (HSS.out V6 HV.out) (fun hHeld => ?_)
              clear hK K
              try simp only [Act.put]
              try simp only [List.setIfInBounds_toArray]
              try simp only [List.set_cons_succ]
              try simp only [List.set_cons_zero]
              refine takeOp (i := 13) (v := ?_) (some 21) rfl rfl (by kernel_rfl) (by kernel_rfl) (by kernel_rfl) (fun _ _ _ h => h) (Or.inl ⟨by rfl, ?_⟩) (by assumption) ?_
              rotate_left 1
              · (intro w0 hSw; (try dsimp only at hSw); go_simp; try (with_reducible rfl))
              try simp only [Act.put]
              try simp only [List.setIfInBounds_toArray]
              try simp only [List.set_cons_succ]
              try simp only [List.set_cons_zero]
              refine takeOp (i := 14) (v := ?_) (some 22) rfl rfl (by kernel_rfl) (by kernel_rfl) (by kernel_rfl) (fun _ _ _ h => h) (Or.inl ⟨by rfl, ?_⟩) (by assumption) ?_
              rotate_left 1
              · (intro w0 hSw; (try dsimp only at hSw); go_simp; try (with_reducible rfl))
              try simp only [Act.put]
              try simp only [List.setIfInBounds_toArray]
              try simp only [List.set_cons_succ]
              try simp only [List.set_cons_zero]
              refine wpAnyH_done (by kernel_rfl) ?_ _
              go_wp2_with fail
              go_meet
              case rel => exact ⟨V1.heap.size, be, rfl, rfl, HG.out, HD.out.weak (fun b _ hp => hp.1), HV.out⟩
          · go_simp
            obtain ⟨V1, hV⟩ : ∃ V', V' = V0.alloc (.cells #[.map none] 29) := ⟨_, rfl⟩
            rw [← hV]
            have hx : Ext V0 V1 := by rw [hV]; exact (Ext.refl V0).alloc _
            have HG : Hid (Row V1 V0.heap.size 29 [.map none]) := by show Row _ _ _ _; rw [hV]; exact Row.new V0 29 _
            have HGZ := Lib.hid HV.out.size
            have HV := Lib.hid (Below.then HV.out hx.below HV.out.size)
            clear hx hV
            refine hK.out _ _ (HSS.out V1 HV.out) (fun hHeld => ?_)
            clear hK K
            try simp only [Act.put]
            try simp only [List.setIfInBounds_toArray]
            try simp only [List.set_cons_succ]
            try simp only [List.set_cons_zero]
            refine wpAnyH_ready (rs := [1]) (by kernel_rfl) (by simp) ?_
            refine (AllReadyH.cons rfl (fun K hK => ?_) AllReadyH.nil)
            go_simp
            obtain ⟨V2, hV⟩ : ∃ V', V' = V1.alloc (.cells #[] 61) := ⟨_, rfl⟩
            rw [← hV]
            have hx : Ext V1 V2 := by rw [hV]; exact (Ext.refl V1).alloc _
            have HO : Hid (V2.ownsRow wk.heap.size 61 3 (.slice (some ⟨V1.heap.size, 0, none⟩) 0 0) 0 []) := by show World.ownsRow _ _ _ _ _ _ _; rw [hV]; exact own_emptyU V1 _ HV.out.size
            have HNO : Hid ((Value.slice (some ⟨V1.heap.size, 0, none⟩) 0 0).ownBlock ≠ some V0.heap.size) := fun e => by have h := HG.out.lt; have e : some V1.heap.size = some V0.heap.size := e; injection e with e; omega
            have HG := Lib.hid (HG.out.up hx.below)
            have HV := Lib.hid (Below.then HV.out hx.below HV.out.size)
            clear hx hV
            refine hK.out _ _ (HSS.out V2 HV.out) (fun hHeld => ?_)
            clear hK K
            try simp only [Act.put]
            try simp only [List.setIfInBounds_toArray]
            try simp only [List.set_cons_succ]
            try simp only [List.set_cons_zero]
            refine wpAnyH_ready (rs := [3]) (by kernel_rfl) (by simp) ?_
            refine (AllReadyH.cons rfl (fun K hK => ?_) AllReadyH.nil)
            refine stepXUpd rfl (.tmp 110) (.tmp 111) rfl wk.heap.size (.slice (some ⟨V1.heap.size, 0, none⟩) 0 0) 0 [] rfl HO.out A1 us.length C1 n1s rfl HN1.out.len ((Sl.below HS1.out HV.out (Nat.le_refl _)).more HV.out.size) HN1.out.one HLE1.out HV.out.size ?_
            intro v5 V3 hown hg hat
            have HNO0 := HNO
            rw [Nat.zero_add, List.nil_append] at hown
            have HNO : Hid (v5.ownBlock ≠ some V0.heap.size) := fun e => by rcases hat _ e with h | h; exact HNO.out h; have h2 := HG.out.lt; omega
            have HG := Lib.hid (HG.out.grown hg (fun e => HNO0.out e.symm))
            have HV := Lib.hid (HV.out.grown hg HV.out.size (fun k hk => own_base HO.out hk))
            have HO := Lib.hid hown
            clear hown hg hat
            refine hK.out _ _ (HSS.out V3 HV.out) (fun hHeld => ?_)
            clear hK K
            try simp only [Act.put]
            try simp only [List.setIfInBounds_toArray]
            try simp only [List.set_cons_succ]
            try simp only [List.set_cons_zero]
            refine wpAnyH_ready (rs := [5]) (by kernel_rfl) (by simp) ?_
            refine (AllReadyH.cons rfl (fun K hK => ?_) AllReadyH.nil)
            refine stepXUpd rfl (.tmp 112) (.tmp 113) rfl wk.heap.size v5 us.length n1s rfl HO.out A2 ws.length C2 n2s rfl HN2.out.len ((Sl.below HS2.out HV.out (Nat.le_refl _)).more HV.out.size) HN2.out.one HLE2.out HV.out.size ?_
            intro v6 V4 hown hg hat
            have HNO0 := HNO
            have HNO : Hid (v6.ownBlock ≠ some V0.heap.size) := fun e => by rcases hat _ e with h | h; exact HNO.out h; have h2 := HG.out.lt; omega
            have HG := Lib.hid (HG.out.grown hg (fun e => HNO0.out e.symm))
            have HV := Lib.hid (HV.out.grown hg HV.out.size (fun k hk => own_base HO.out hk))
            have hlc : (us ++ ws).length = us.length + ws.length := List.length_append
            rw [← hlc] at hown
            obtain ⟨A6, C6, rfl, -, -, hM⟩ := own_updsM hown ((((HN1.out.below HV.out (Nat.le_refl _)).append (HN2.out.below HV.out (Nat.le_refl _)))).more HV.out.size)
            rw [hlc]
            have HM := Lib.hid hM
            clear hown hg hat hlc hM HO HNO
            refine hK.out _ _ (HSS.out V4 HV.out) (fun hHeld => ?_)
            clear hK K
            try simp only [Act.put]
            try simp only [List.setIfInBounds_toArray]
            try simp only [List.set_cons_succ]
            try simp only [List.set_cons_zero]
            refine wpAnyH_ready (rs := [6]) (by kernel_rfl) (by simp) ?_
            refine (AllReadyH.cons rfl (fun K hK => ?_) AllReadyH.nil)
            go_simp
            have hap := ctApply_any (fun b => b ≠ g ∧ b ≠ V0.heap.size) X (.map (some d)) x.db A6 C6 (us ++ ws) V4 ((HD1.out.weak (P' := (fun b => b ≠ g ∧ b ≠ V0.heap.size)) fun b hb hp => ⟨hp, by have h1 := HGZ.out; omega⟩).up HV.out) (fun b hb => ⟨by have h1 := HV.out.size; have h2 := HGL.out; show b ≠ g; omega, by have := HG.out.lt; omega⟩) HM.out HUW.out HLE2b.out (Nat.le_trans HOKS.out.1 (by decide))
            rw [HRUN.out, List.length_append] at hap
            refine hap.mono ?_
            rintro e V5 ⟨h1, -, hb⟩
            obtain ⟨mm, rfl, hd6⟩ := h1 rfl
            obtain ⟨be, rfl⟩ := hd6.form
            have HD := Lib.hid hd6
            have HG := Lib.hid (HG.out.up hb)
            have HV := Lib.hid (Below.then HV.out hb HV.out.size)
            clear h1 hb hd6 hap HM
            go_wp2_with fail
            refine hK.out _ _ (HSS.out V5 HV.out) (fun hHeld => ?_)
            clear hK K
            try simp only [Act.put]
            try simp only [List.setIfInBounds_toArray]
            try simp only [List.set_cons_succ]
            try simp only [List.set_cons_zero]
            refine takeOp (i := 7) (v := ?_) (some 108) rfl rfl (by kernel_rfl) (by kernel_rfl) (by kernel_rfl) (fun _ _ _ h => h) (Or.inl ⟨by rfl, ?_⟩) (by assumption) ?_
            rotate_left 1
            · (intro w0 hSw; (try dsimp only at hSw); go_simp; try (with_reducible rfl))
            try simp only [Act.put]
            try simp only [List.setIfInBounds_toArray]
            try simp only [List.set_cons_succ]
            try simp only [List.set_cons_zero]
            refine takeOp (i := 8) (v := ?_) (some 116) rfl rfl (by kernel_rfl) (by kernel_rfl) (by kernel_rfl) (fun _ _ _ h => h) (Or.inl ⟨by rfl, ?_⟩) (by assumption) ?_
            rotate_left 1
            · (intro w0 hSw; (try dsimp only at hSw); go_simp; try (with_reducible rfl))
            try simp only [Act.put]
            try simp only [List.setIfInBounds_toArray]
            try simp only [List.set_cons_succ]
            try simp only [List.set_cons_zero]
            refine takeOp (i := 9) (v := ?_) (some 117) rfl rfl (by kernel_rfl) (by kernel_rfl) (by kernel_rfl) (fun _ _ _ h => h) (Or.inl ⟨by rfl, ?_⟩) (by assumption) ?_
            rotate_left 1
            · (intro w0 hSw; (try dsimp only at hSw); go_simp; try (with_reducible rfl))
            try simp only [Act.put]
            try simp only [List.setIfInBounds_toArray]
            try simp only [List.set_cons_succ]
            try simp only [List.set_cons_zero]
            refine takeOp (i := 10) (v := ?_) (some 118) rfl rfl (by kernel_rfl) (by kernel_rfl) (by kernel_rfl) (fun _ _ _ h => h) (Or.inl ⟨by rfl, ?_⟩) (by assumption) ?_
            rotate_left 1
            · (intro w0 hSw; (try dsimp only at hSw); go_simp; try (with_reducible rfl))
            try simp only [Act.put]
            try simp only [List.setIfInBounds_toArray]
            try simp only [List.set_cons_succ]
            try simp only [List.set_cons_zero]
            refine wpAnyH_ready (rs := [12]) (by kernel_rfl) (by simp) ?_
            refine (AllReadyH.cons rfl (fun K hK => ?_) AllReadyH.nil)
            have m0 : V5.cell? ⟨V0.heap.size, 0, none⟩ = some (.map none) := HG.out.cell 0
            have m2 := HG.out.frozen 0
            have m4 := HG.out.lt
            go_simp
            obtain ⟨V6, hV⟩ : ∃ V', V' = V5.setCell ⟨V0.heap.size, 0, none⟩ (.map (some be)) := ⟨_, rfl⟩
            rw [← hV]
            have HG : Hid (Row V6 V0.heap.size 29 [.map (some be)]) := by show Row _ _ _ _; rw [hV]; exact HG.out.set 0 _
            have HD : Hid (DbM (fun b => b ≠ g ∧ b ≠ V0.heap.size) X V6 (.map (some be)) H) := by show DbM _ _ _ _ _; rw [hV]; exact HD.out.keep (Stay.set (fun h => h.2 rfl) _ _)
            have HV : Hid (Below wk.heap.size wk V6) := by show Below _ _ _; rw [hV]; exact HV.out.setCell HGZ.out _
            clear m0 m2 m4 hV
            refine hK.out _ _ (HSS.out V6 HV.out) (fun hHeld => ?_)
            clear hK K
            try simp only [Act.put]
            try simp only [List.setIfInBounds_toArray]
            try simp only [List.set_cons_succ]
            try simp only [List.set_cons_zero]
            refine takeOp (i := 13) (v := ?_) (some 21) rfl rfl (by kernel_rfl) (by kernel_rfl) (by kernel_rfl) (fun _ _ _ h => h) (Or.inl ⟨by rfl, ?_⟩) (by assumption) ?_
            rotate_left 1
            · (intro w0 hSw; (try dsimp only at hSw); go_simp; try (with_reducible rfl))
            try simp only [Act.put]
            try simp only [List.setIfInBounds_toArray]
            try simp only [List.set_cons_succ]
            try simp only [List.set_cons_zero]
            refine takeOp (i := 14) (v := ?_) (some 22) rfl rfl (by kernel_rfl) (by kernel_rfl) (by kernel_rfl) (fun _ _ _ h => h) (Or.inl ⟨by rfl, ?_⟩) (by assumption) ?_
            rotate_left 1
            · (intro w0 hSw; (try dsimp only at hSw); go_simp; try (with_reducible rfl))
            try simp only [Act.put]
            try simp only [List.setIfInBounds_toArray]
            try simp only [List.set_cons_succ]
            try simp only [List.set_cons_zero]
            refine wpAnyH_done (by kernel_rfl) ?_ _
            go_wp2_with fail
            go_meet
            case rel => exact ⟨V0.heap.size, be, rfl, rfl, HG.out, HD.out.weak (fun b _ hp => hp.1), HV.out⟩
        case rest =>
        obtain ⟨g20, be, rfl, rfl, hg20, hd20, hbc⟩ := hcut
        have HG147 := Lib.hid (HG146.out.up hbc)
        have heq := ctEqual_any wc hd20 (HD2.out.up hbc) HOKS.out.2.2
        rw [HSC.out] at heq
        have HEQ := Lib.hid heq
        have HBC := Lib.hid (Below.then HBK.out hbc HBK.out.size)
        have k0 : wc.cell? ⟨g20, 0, none⟩ = some (.map (some be)) := hg20.cell 0
        have k1 := hg20.lt
        have k2 : wc.cell? ⟨g14, 0, none⟩ = some (.map (some d')) := HG147.out.cell 0
        have k3 := HG147.out.lt
        clear hg20 hd20 hbc heq HSS
        go_wp2_with fail
        clear k0 k1 k2 k3
        refine HEQ.out.mono ?_
        rintro e w18 ⟨rfl, hb18⟩
        have HB18 := Lib.hid (Below.then HBC.out hb18 HBC.out.size)
        clear hb18 HEQ
        go_wp2_with fail
        go_ret
        exact ⟨rfl, HB18.out⟩

end Go.Proofs.YtgaffbdcpkbdhaaGreat

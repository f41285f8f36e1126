/- Parts of the proof, merged: Z45, F15, F16. -/
import Derived.Test.YtgaffbdcpkbdhaaGreatQ7
import Derived.Test.YtgaffbdcpkbdhaaGreatQ6
import Derived.Test.YtgaffbdcpkbdhaaGreatQ5
import Derived.Test.YtgaffbdcpkbdhaaGreatRows
import Derived.ProofKit
import Derived.OpenShut
import Derived.ShutString
import Derived.ChangeOld
import Derived.ChangeSame
import Derived.Lib.SmallJoins
import Derived.Deep.Slices
import Derived.Deep.Fields

section
/- Walk: the law SnapshotChanges (chapter 16). -/
namespace Go.Proofs.YtgaffbdcpkbdhaaGreat
open Go.RowKit Go.Sort Go.ChangeMaps Go.WideShapes

theorem AtPost.shape {P : Nat → Prop} {S : Sch} {V : List Ver} {n : Int} {w : World} {e : Ending} {w' : World} (h : AtPost P S V n w e w') : ∃ om ec, e = .returned (.tuple #[.agg #[.map om], .int .i64 ec]) ∧ (ec = 0 → ∃ x d, findV V n = some x ∧ om = some d ∧ DbM P S w (.map (some d)) x.db) ∧ (ec ≠ 0 → findV V n = none) ∧ Ext w w' := by
  obtain ⟨h1, h2, h3⟩ := h
  cases hf : findV V n with
  | none => exact ⟨none, 31, h1 hf, fun h => absurd h (by decide), fun _ => rfl, h3⟩
  | some x =>
    obtain ⟨d, e1, hd⟩ := h2 x hf
    exact ⟨some d, 0, e1, fun _ => ⟨x, d, rfl, rfl, hd⟩, fun h => absurd rfl h, h3⟩
theorem ChPost.shape {S : Sch} {V : List Ver} {qa qb : Int} {w : World} {e : Ending} {w' : World} (h : ChPost S V qa qb w e w') : ∃ A us C ec, e = .returned (.tuple #[.slice A (List.length us) C, .int .i64 ec]) ∧ (ec = 0 → ∃ x y ns, findV V qa = some x ∧ findV V qb = some y ∧ us = diffF ns x.db y.db ∧ ns.Perm (S.map Prod.fst) ∧ UpdsM w'.heap.size w' A us) ∧ (ec ≠ 0 → ec = 31 ∧ us = [] ∧ (findV V qa = none ∨ findV V qb = none)) ∧ Below w.heap.size w w' := by
  obtain ⟨h1, h2, h3⟩ := h
  cases hfa : findV V qa with
  | none => exact ⟨none, [], 0, 31, h1 (.inl hfa), fun h => absurd h (by decide), fun _ => ⟨rfl, rfl, .inl rfl⟩, h3⟩
  | some x =>
    cases hfb : findV V qb with
    | none => exact ⟨none, [], 0, 31, h1 (.inr hfb), fun h => absurd h (by decide), fun _ => ⟨rfl, rfl, .inr rfl⟩, h3⟩
    | some y =>
      obtain ⟨A, C, ns, e1, hp, hu⟩ := h2 x y hfa hfb
      exact ⟨A, _, C, 0, e1, fun _ => ⟨x, y, ns, rfl, rfl, rfl, hp, hu⟩, fun h => absurd rfl h, h3⟩

set_option maxHeartbeats 16000000 in
set_option maxRecDepth 100000 in
theorem l16Changes_any (SA : Option Addr) (SC : Nat) (X : Sch) (LA : Option Addr) (LC : Nat) (L : List ActR) (y0 y1 : Int) (w : World)
    (hS : SchsM w.heap.size w SA X) (hSo : SchsOk X) (hSl : X.length ≤ 9223372036854775807) (hL : ActsM w.heap.size w LA L) (hLo : ∀ a ∈ L, ActOk a) (hLl : L.length ≤ 9223372036854775807) (hq0 : (Lit.int .i64 y0).wf = true) (hq1 : (Lit.int .i64 y1).wf = true) :
    Calls Tryz.prog 3 #[.slice SA X.length SC, .slice LA L.length LC, .agg #[.int .i64 y0, .int .i64 y1]] w fun e w' => e = .returned (.bool true) ∧ Below w.heap.size w w' := by
  have HS := Lib.hid hS
  have HSO := Lib.hid hSo
  have HL := Lib.hid hL
  have HLO := Lib.hid hLo
  have HSL := Lib.hid hSl
  have HLL := Lib.hid hLl
  have HQ0 := Lib.hid hq0
  have HQ1 := Lib.hid hq1
  clear hS hSo hL hLo hSl hLl hq0 hq1
  obtain ⟨W0, hW0⟩ : ∃ W0, W0 = w.alloc (.cells #[.int .i64 y0, .int .i64 y1] 24) := ⟨_, rfl⟩
  have hx0 : Ext w W0 := by rw [hW0]; exact (Ext.refl w).alloc _
  have HA0 : Hid (Row W0 w.heap.size 24 [.int .i64 y0, .int .i64 y1]) := by show Row _ _ _ _; rw [hW0]; exact Row.new w 24 _
  have HB0 := Lib.hid hx0.below
  have HW0 := Lib.hid hW0
  have HAW := Lib.hid (l16awake_any W0)
  clear hx0 hW0
  go_enter Tryz.func3, Tryz.ntmps3
  go_upto_region 1 with (fail)
  rw [← HW0.out]
  clear HW0
  go_wp2_with fail
  refine HAW.out.mono ?_
  rintro e w1 ⟨rfl, hb1⟩
  have HA1 := Lib.hid (HA0.out.up hb1)
  have HB1 := Lib.hid (Below.then HB0.out hb1 HB0.out.size)
  have HF1 := Lib.hid (l16few_any LA LC L w1 ((HL.out.below HB1.out (Nat.le_refl _)).more HB1.out.size) HLL.out HLO.out)
  clear hb1 HA0 HB0 HAW
  cases hf1 : fewL L with
  | false =>
    rw [hf1] at HF1
    clear hf1
    go_wp2_with fail
    refine HF1.out.mono ?_
    rintro e w2 ⟨rfl, hx2⟩
    have HB2 := Lib.hid (Below.then HB1.out hx2.below HB1.out.size)
    clear hx2 HF1 HA1 HB1
    go_wp2_with fail
    go_ret
    exact ⟨rfl, HB2.out⟩
  | true =>
  rw [hf1] at HF1
  obtain ⟨hL40, hfit⟩ := fewL_fit hf1 HLO.out
  have HFIT := Lib.hid hfit
  clear hf1 hfit
  go_wp2_with fail
  refine HF1.out.mono ?_
  rintro e w4 ⟨rfl, hx2⟩
  have HA4 := Lib.hid (HA1.out.up hx2.below)
  have HB4 := Lib.hid (Below.then HB1.out hx2.below HB1.out.size)
  clear hx2 HF1 HB1 HA1
  by_cases h20 : 20 < X.length
  · have q1 : (20 : Int) < (X.length : Int) := by omega
    go_wp2_with fail
    go_ret
    exact ⟨rfl, HB4.out⟩
  have q1 : ¬ (20 : Int) < (X.length : Int) := by omega
  have HN := Lib.hid (ctNew_any (fun _ => True) SA SC X w4 (fun _ _ => trivial) ((HS.out.below HB4.out (Nat.le_refl _)).more HB4.out.size) HSO.out HSL.out)
  clear h20
  go_wp2_with fail
  refine HN.out.mono ?_
  rintro e w5 ⟨h5, h6, hb5⟩
  have HA5 := Lib.hid (HA4.out.up hb5)
  have HB5 := Lib.hid (Below.then HB4.out hb5 HB4.out.size)
  clear HN HA4 HB4 hb5
  by_cases herr : errS X = 0
  rotate_left
  · obtain rfl := h6 herr
    have HE : Hid (errS X ≠ 0) := herr
    obtain ⟨W7, hW7⟩ : ∃ W7, W7 = w5.alloc (.cells #[.map none] 29) := ⟨_, rfl⟩
    have hx7 : Ext w5 W7 := by rw [hW7]; exact (Ext.refl w5).alloc _
    have hr7 : Row W7 w5.heap.size 29 [.map none] := by rw [hW7]; exact Row.new w5 29 _
    have k0 : W7.cell? ⟨w5.heap.size, 0, none⟩ = some (.map none) := hr7.cell 0
    have k1 := hr7.lt
    have HB7 := Lib.hid (Below.then HB5.out hx7.below HB5.out.size)
    have HNW := Lib.hid (snNew_low 0 (by decide) (by decide) W7)
    have q2 : (errS X != 0) = true := by simpa using herr
    have HW7 := Lib.hid hW7
    clear h5 h6 herr hx7 hr7 hW7 HB5
    go_upto_region 6 with (fail)
    rw [← HW7.out]
    clear HW7
    go_wp2_with fail
    refine HNW.out.mono ?_
    rintro e w8 ⟨m8, rfl, hb8⟩
    have HB8 := Lib.hid (Below.then HB7.out hb8 HB7.out.size)
    clear hb8 HNW HB7 k0 k1
    go_wp2_with fail
    go_ret
    exact ⟨rfl, Below.then HB8.out ((Ext.refl w8).alloc _).below HB8.out.size⟩
  obtain ⟨m5, rfl, hdb⟩ := h5 herr
  obtain ⟨bd, rfl⟩ := hdb.form
  have HOKS := Lib.hid (errS_ok herr)
  obtain ⟨W7, hW7⟩ : ∃ W7, W7 = w5.alloc (.cells #[.map (some bd)] 29) := ⟨_, rfl⟩
  have hx7 : Ext w5 W7 := by rw [hW7]; exact (Ext.refl w5).alloc _
  have hr7 : Row W7 w5.heap.size 29 [.map (some bd)] := by rw [hW7]; exact Row.new w5 29 _
  have k0 : W7.cell? ⟨w5.heap.size, 0, none⟩ = some (.map (some bd)) := hr7.cell 0
  have k1 := hr7.lt
  have HA7 := Lib.hid (HA5.out.up hx7.below)
  have HB7 := Lib.hid (Below.then HB5.out hx7.below HB5.out.size)
  have HDB := Lib.hid (hdb.up hx7.below)
  have HW7 := Lib.hid hW7
  clear h5 h6 hx7 hr7 hW7 hdb herr HA5 HB5
  go_upto_region 6 with (fail)
  rw [← HW7.out]
  clear HW7
  go_wp2_with fail
  refine (snNew_ok (P := fun _ => True) (S := X) (m := .map (some bd)) (F := fun _ => []) 0 (by decide) (by decide) W7 HDB.out (fun _ _ => trivial)).mono ?_
  rintro e w8 ⟨m8, rfl, hst8, hb8⟩
  obtain ⟨b8, rfl⟩ := hst8.form
  obtain ⟨W9, hW9⟩ : ∃ W9, W9 = w8.alloc (.cells #[.map (some b8), .int .i64 0] 35) := ⟨_, rfl⟩
  obtain ⟨g, hg⟩ : ∃ g, g = w8.heap.size := ⟨_, rfl⟩
  have hx9 : Ext w8 W9 := by rw [hW9]; exact (Ext.refl w8).alloc _
  have HR9 : Hid (Row W9 g 35 [.map (some b8), .int .i64 0]) := by show Row _ _ _ _; rw [hW9, hg]; exact Row.new w8 35 _
  have HB9 := Lib.hid (Below.then (Below.then HB7.out hb8 HB7.out.size) hx9.below (Nat.le_trans HB7.out.size hb8.size))
  have HA9 := Lib.hid ((HA7.out.up hb8).up hx9.below)
  have HS9 : Hid (StM (fun b => b ≠ g) X W9 (.map (some b8)) [⟨0, fun _ => [], 0⟩]) := (hst8.weak (P' := fun b => b ≠ g) fun b hb _ => by show b ≠ g; omega).up hx9.below
  have hgw : w.heap.size < g := by rw [hg]; exact Nat.lt_of_lt_of_le HA7.out.lt hb8.size
  have HW9 := Lib.hid hW9
  have HG := Lib.hid hg
  clear hst8 hb8 hx9 hW9 hg k0 k1 HDB HB7 HA7
  go_upto_region 10 with (fail)
  rw [← HW9.out, ← HG.out]
  clear HW9 HG
  go_loopw [11] (fun c wx => ∃ (j b : Nat) (l : Int) (V : List Ver), j ≤ L.length ∧ c = .int .i64 j ∧ Row wx g 35 [.map (some b), .int .i64 l] ∧ StM (fun b => b ≠ g) X wx (.map (some b)) V ∧ Good V l j ∧ VersC X V ∧ Row wx w.heap.size 24 [.int .i64 y0, .int .i64 y1] ∧ Below w.heap.size w wx) (fun c _ => L.length - (intOf c).toNat)
  case atStart => exact ⟨0, b8, 0, _, Nat.zero_le _, rfl, HR9.out, HS9.out, Good.one (Int.le_refl _) (by decide), (fun x hx => by rw [List.mem_singleton.1 hx]; exact ContOk.zero), HA9.out, HB9.out⟩
  case round =>
    obtain ⟨j, b, l, V, hj, rfl, hr, hst, hgd, hvc, hra, hbw⟩ := hrel
    have g0 : wr.cell? ⟨g, 0, none⟩ = some (.map (some b)) := hr.cell 0
    have g1 : wr.cell? ⟨g, 1, none⟩ = some (.int .i64 l) := hr.cell 1
    have g2 := hr.lt
    have HR := Lib.hid hr
    have HT := Lib.hid hst
    have HGD := Lib.hid hgd
    have HVC := Lib.hid hvc
    have HRA := Lib.hid hra
    have HB := Lib.hid hbw
    have hlen := hgd.len
    clear hr hst hgd hvc hra hbw HR9 HS9 HA9 HB9
    by_cases hjl : j < L.length
    · have r1 : (j : Int) < (L.length : Int) := by omega
      have r0 : (0 : Int) ≤ (j : Int) := by omega
      have r3 : IntKind.i64.wrap ((j : Int) + 1) = ((j + 1 : Nat) : Int) := by rw [IntWalk.i64_in _ (by omega)]; omega
      obtain ⟨lb, lo, rfl, hlb, hlc⟩ := HL.out (by intro h0; rw [h0] at hjl; simp at hjl)
      obtain ⟨UA', UC', -, -, c2, -, hu⟩ := hlc j hjl
      have c2 := (HB.out.cell hlb).trans c2
      have c3 := Nat.lt_of_lt_of_le hlb HB.out.size
      have hft := HFIT.out L[j] (List.getElem_mem hjl)
      have hok := hft.upd
      have hul := hft.2.2.1
      clear hlc hft
      generalize L[j] = aj at *
      obtain ⟨kj, nj, vs⟩ := aj
      have hul : vs.length ≤ 12 := hul
      have c2 : wr.cell? ⟨lb, lo + j * 3 + 2, none⟩ = some (.slice UA' vs.length UC') := c2
      have hok : ∀ u ∈ vs, UpdOk u := hok
      have hu : UpdsM w.heap.size w UA' vs := hu
      obtain ⟨wo, hwo⟩ : ∃ wo, wo = wr := ⟨_, rfl⟩
      subst hwo
      have HKP : Hid (∀ W, Below wo.heap.size wo W → W.cell? ⟨lb, lo + j * 3 + 2, none⟩ = some (.slice UA' vs.length UC')) := fun W hb =>
        (hb.cell (p := ⟨lb, lo + j * 3 + 2, none⟩) c3).trans c2
      have HCM : Hid (∀ W, Below wo.heap.size wo W → Calls Tryz.prog 9 #[.agg #[.map (some b), .int .i64 l], .slice UA' vs.length UC'] W (CommitPost (fun b => b ≠ g) X (.map (some b)) (commitR X V l vs) W)) := fun W hb =>
        snCommit_all (B := j) (HT.out.up hb) (fun b' hb' => by have := hb.size; show b' ≠ g; omega) HGD.out (by omega) (by omega) (Nat.le_trans HOKS.out.1 (by decide)) UA' UC' vs ((hu.below (Below.then HB.out hb HB.out.size) (Nat.le_refl _)).more (Nat.le_trans HB.out.size hb.size)) hok (by omega)
      have HGC := Lib.hid (HGD.out.commit HT.out.asc X vs)
      have HVC2 := Lib.hid (HVC.out.commit (l := l) HT.out.asc vs)
      obtain ⟨r, hr⟩ : ∃ r, r = commitR X V l vs := ⟨_, rfl⟩
      rw [← hr] at HCM HGC HVC2
      clear hr hu hok c2
      go_upto_region 12 with (fail)
      refine wp_region_held_drew (S := (fun w' => w'.cell? ⟨lb, lo + j * 3 + 2, none⟩ = some (.slice UA' vs.length UC'))) (by kernel_rfl) (HKP.out wo.drew (Below.refl _ _).drew) (fun hHeld => ?_)
      refine takeOp (i := 1) (v := ?_) (some 53) rfl rfl (by kernel_rfl) (by kernel_rfl) (by kernel_rfl) (fun _ _ _ h => h) (Or.inl ⟨by rfl, ?_⟩) (by assumption) ?_
      rotate_left 1
      · (intro w0 hSw; (try dsimp only at hSw); go_simp; try (with_reducible rfl))
      try simp only [Act.put]
      try simp only [List.setIfInBounds_toArray]
      try simp only [List.set_cons_succ]
      try simp only [List.set_cons_zero]
      refine takeOp (i := 2) (v := ?_) (some 54) rfl rfl (by kernel_rfl) (by kernel_rfl) (by kernel_rfl) (fun _ _ _ h => h) (Or.inl ⟨by rfl, ?_⟩) (by assumption) ?_
      rotate_left 1
      · (intro w0 hSw; (try dsimp only at hSw); go_simp; try (with_reducible rfl))
      try simp only [Act.put]
      try simp only [List.setIfInBounds_toArray]
      try simp only [List.set_cons_succ]
      try simp only [List.set_cons_zero]
      refine takeOp (i := 3) (v := ?_) (some 55) rfl rfl (by kernel_rfl) (by kernel_rfl) (by kernel_rfl) (fun _ _ _ h => h) (Or.inl ⟨by rfl, ?_⟩) (by assumption) ?_
      rotate_left 1
      · (intro w0 hSw; (try dsimp only at hSw); go_simp; try (with_reducible rfl))
      try simp only [Act.put]
      try simp only [List.setIfInBounds_toArray]
      try simp only [List.set_cons_succ]
      try simp only [List.set_cons_zero]
      refine takeOp (i := 4) (v := ?_) (some 56) rfl rfl (by kernel_rfl) (by kernel_rfl) (by kernel_rfl) (fun _ _ _ h => h) (Or.inl ⟨by rfl, ?_⟩) (by assumption) ?_
      rotate_left 1
      · (intro w0 hSw; (try dsimp only at hSw); go_simp; try (with_reducible rfl))
      try simp only [Act.put]
      try simp only [List.setIfInBounds_toArray]
      try simp only [List.set_cons_succ]
      try simp only [List.set_cons_zero]
      refine takeOp (i := 5) (v := ?_) (some 57) rfl rfl (by kernel_rfl) (by kernel_rfl) (by kernel_rfl) (fun _ _ _ h => h) (Or.inl ⟨by rfl, ?_⟩) (by assumption) ?_
      rotate_left 1
      · (intro w0 hSw; (try dsimp only at hSw); go_simp; try (with_reducible rfl))
      try simp only [Act.put]
      try simp only [List.setIfInBounds_toArray]
      try simp only [List.set_cons_succ]
      try simp only [List.set_cons_zero]
      refine wpAnyH_ready (rs := [0]) (by kernel_rfl) (by simp) ?_
      refine AllReadyH.cons rfl (fun K hK => ?_) AllReadyH.nil
      go_simp
      refine hK.out _ _ (HKP.out wo.drew (Below.refl _ _).drew) (fun hHeld => ?_)
      clear hK K
      try simp only [Act.put]
      try simp only [List.setIfInBounds_toArray]
      try simp only [List.set_cons_succ]
      try simp only [List.set_cons_zero]
      refine wpAnyH_ready (rs := [6]) (by kernel_rfl) (by simp) ?_
      refine AllReadyH.cons rfl (fun K hK => ?_) AllReadyH.nil
      go_simp
      refine (HCM.out wo.drew (Below.refl _ _).drew).mono ?_
      rintro e V1 ⟨m1, n1, rfl, hn1, -, hst1, hb1⟩
      have HV1 : Hid (Below wo.heap.size wo V1) := Below.undrew hb1
      have HT1 := Lib.hid hst1
      have HR1 := Lib.hid (HR.out.up HV1.out)
      have HRA1 := Lib.hid (HRA.out.up HV1.out)
      have HB1 := Lib.hid (Below.then HB.out HV1.out HB.out.size)
      clear hn1 hst1 hb1 g0 g1
      go_wp2_with fail
      refine hK.out _ _ (HKP.out V1 HV1.out) (fun hHeld => ?_)
      clear hK K
      try simp only [Act.put]
      try simp only [List.setIfInBounds_toArray]
      try simp only [List.set_cons_succ]
      try simp only [List.set_cons_zero]
      refine takeOp (i := 7) (v := ?_) (some 51) rfl rfl (by kernel_rfl) (by kernel_rfl) (by kernel_rfl) (fun _ _ _ h => h) (Or.inl ⟨by rfl, ?_⟩) (by assumption) ?_
      rotate_left 1
      · (intro w0 hSw; (try dsimp only at hSw); go_simp; try (with_reducible rfl))
      try simp only [Act.put]
      try simp only [List.setIfInBounds_toArray]
      try simp only [List.set_cons_succ]
      try simp only [List.set_cons_zero]
      refine takeOp (i := 8) (v := ?_) (some 59) rfl rfl (by kernel_rfl) (by kernel_rfl) (by kernel_rfl) (fun _ _ _ h => h) (Or.inl ⟨by rfl, ?_⟩) (by assumption) ?_
      rotate_left 1
      · (intro w0 hSw; (try dsimp only at hSw); go_simp; try (with_reducible rfl))
      try simp only [Act.put]
      try simp only [List.setIfInBounds_toArray]
      try simp only [List.set_cons_succ]
      try simp only [List.set_cons_zero]
      refine takeOp (i := 9) (v := ?_) (some 60) rfl rfl (by kernel_rfl) (by kernel_rfl) (by kernel_rfl) (fun _ _ _ h => h) (Or.inl ⟨by rfl, ?_⟩) (by assumption) ?_
      rotate_left 1
      · (intro w0 hSw; (try dsimp only at hSw); go_simp; try (with_reducible rfl))
      try simp only [Act.put]
      try simp only [List.setIfInBounds_toArray]
      try simp only [List.set_cons_succ]
      try simp only [List.set_cons_zero]
      refine takeOp (i := 10) (v := ?_) (some 61) rfl rfl (by kernel_rfl) (by kernel_rfl) (by kernel_rfl) (fun _ _ _ h => h) (Or.inl ⟨by rfl, ?_⟩) (by assumption) ?_
      rotate_left 1
      · (intro w0 hSw; (try dsimp only at hSw); go_simp; try (with_reducible rfl))
      try simp only [Act.put]
      try simp only [List.setIfInBounds_toArray]
      try simp only [List.set_cons_succ]
      try simp only [List.set_cons_zero]
      refine wpAnyH_ready (rs := [11]) (by kernel_rfl) (by simp) ?_
      refine AllReadyH.cons rfl (fun K hK => ?_) AllReadyH.nil
      have m0 : V1.cell? ⟨g, 0, none⟩ = some (.map (some b)) := HR1.out.cell 0
      have m2 : V1.cell? ⟨g, 1, none⟩ = some (.int .i64 l) := HR1.out.cell 1
      have m3 := HR1.out.frozen 0
      have m4 := HR1.out.frozen 1
      have m5 := HR1.out.lt
      go_simp
      obtain ⟨V2, hV⟩ : ∃ V', V' = (V1.setCell ⟨g, 0, none⟩ (.map (some m1))).setCell ⟨g, 1, none⟩ (.int .i64 r.2.2) := ⟨_, rfl⟩
      rw [← hV]
      have HR2 : Hid (Row V2 g 35 [.map (some m1), .int .i64 r.2.2]) := by show Row _ _ _ _; rw [hV]; exact HR1.out.set2 _ _
      have HT2 : Hid (StM (fun b => b ≠ g) X V2 (.map (some m1)) r.2.1) := by show StM _ _ _ _ _; rw [hV]; exact StM.setBox HT1.out _ _
      have HRA2 : Hid (Row V2 w.heap.size 24 [.int .i64 y0, .int .i64 y1]) := by show Row _ _ _ _; rw [hV]; exact (HRA1.out.far (show w.heap.size ≠ g by omega) _).far (show w.heap.size ≠ g by omega) _
      have HB2 : Hid (Below w.heap.size w V2) := by show Below _ _ _; rw [hV]; exact (HB1.out.setCell (Nat.le_of_lt hgw) _).setCell (Nat.le_of_lt hgw) _
      have KEEP : V2.cell? ⟨lb, lo + j * 3 + 2, none⟩ = some (.slice UA' vs.length UC') := by
        have hne : g ≠ lb := by omega
        rw [hV]
        exact far_cell hne (far_cell hne (HKP.out V1 HV1.out))
      clear hV m0 m2 m3 m4 m5
      refine hK.out _ _ KEEP (fun hHeld => ?_)
      clear hK K
      try simp only [Act.put]
      try simp only [List.setIfInBounds_toArray]
      try simp only [List.set_cons_succ]
      try simp only [List.set_cons_zero]
      refine wpAnyH_done (by kernel_rfl) ?_ _
      go_wp2_with fail
      go_roundw
      case rel => exact ⟨j + 1, m1, r.2.2, r.2.1, hjl, by go_num, HR2.out, HT2.out, HGC.out, HVC2.out, HRA2.out, HB2.out⟩
      case measure => simp [intOf]; omega
    · obtain rfl : j = L.length := by omega
      have r1 : ¬ (L.length : Int) < (L.length : Int) := by omega
      have HSZ : Hid (∀ p ∈ X, p.1.size ≤ 9223372036854775807 ∧ p.2.length ≤ 6) := fun p hp => ⟨(HSO.out p hp).1, (HOKS.out.2.1 p hp).2⟩
      have a0 : wr.cell? ⟨w.heap.size, 0, none⟩ = some (.int .i64 y0) := HRA.out.cell 0
      have a1 : wr.cell? ⟨w.heap.size, 1, none⟩ = some (.int .i64 y1) := HRA.out.cell 1
      have a9 := HRA.out.lt
      have HCH := Lib.hid (snChanges_any (l := l) HT.out HQ0.out HQ1.out HOKS.out.2.2 HOKS.out.1 (fun p hp => (HSZ.out p hp).1))
      clear hlen
      go_wp2_with fail
      clear g0 g1 g2 a0 a1 a9
      refine HCH.out.mono ?_
      rintro e w10 hch
      obtain ⟨A, us, C, ef, rfl, hf0, hf1, hb10⟩ := hch.shape
      have HF0 := Lib.hid hf0
      have HF1 := Lib.hid hf1
      have HR10 := Lib.hid (HR.out.up hb10)
      have HRA10 := Lib.hid (HRA.out.up hb10)
      have HB10 := Lib.hid (Below.then HB.out hb10 HB.out.size)
      have HT10 := Lib.hid (HT.out.up hb10)
      have HAT0 := Lib.hid (snAt_all (l := l) (n := y0) HT10.out HQ0.out)
      have g0 : w10.cell? ⟨g, 0, none⟩ = some (.map (some b)) := HR10.out.cell 0
      have g1 : w10.cell? ⟨g, 1, none⟩ = some (.int .i64 l) := HR10.out.cell 1
      have g2 := HR10.out.lt
      have a0 : w10.cell? ⟨w.heap.size, 0, none⟩ = some (.int .i64 y0) := HRA10.out.cell 0
      have a1 : w10.cell? ⟨w.heap.size, 1, none⟩ = some (.int .i64 y1) := HRA10.out.cell 1
      have a9 := HRA10.out.lt
      clear hch hf0 hf1 hb10 HCH HR HRA HB
      go_wp2_with fail
      clear g0 g1 g2 a0 a1 a9
      refine HAT0.out.mono ?_
      rintro e w11 hat
      obtain ⟨om, ea, rfl, hat0, hat1, hx11⟩ := hat.shape
      have HA0 := Lib.hid hat0
      have HA1 := Lib.hid hat1
      obtain ⟨g14, hg14⟩ : ∃ x, x = w11.heap.size := ⟨_, rfl⟩
      obtain ⟨W12, hW12⟩ : ∃ W, W = w11.alloc (.cells #[.map om] 29) := ⟨_, rfl⟩
      have hx12 : Ext w11 W12 := by rw [hW12]; exact (Ext.refl w11).alloc _
      have HG14 : Hid (Row W12 g14 29 [.map om]) := by show Row _ _ _ _; rw [hW12, hg14]; exact Row.new w11 29 _
      have HX12 := Lib.hid (hx11.trans hx12).below
      have HR12 := Lib.hid (HR10.out.up HX12.out)
      have HRA12 := Lib.hid (HRA10.out.up HX12.out)
      have HT12 := Lib.hid (HT10.out.up HX12.out)
      have HAT1 := Lib.hid (snAt_all (l := l) (n := y1) HT12.out HQ1.out)
      have g0 : W12.cell? ⟨g, 0, none⟩ = some (.map (some b)) := HR12.out.cell 0
      have g1 : W12.cell? ⟨g, 1, none⟩ = some (.int .i64 l) := HR12.out.cell 1
      have g2 := HR12.out.lt
      have a0 : W12.cell? ⟨w.heap.size, 0, none⟩ = some (.int .i64 y0) := HRA12.out.cell 0
      have a1 : W12.cell? ⟨w.heap.size, 1, none⟩ = some (.int .i64 y1) := HRA12.out.cell 1
      have a9 := HRA12.out.lt
      have HW12 := Lib.hid hW12
      have HGE := Lib.hid hg14
      clear hat hat0 hat1 hx11 hx12 hW12 hg14 HAT0
      go_upto_region 15 with (fail)
      rw [← HW12.out, ← HGE.out]
      clear HW12 HGE
      go_wp2_with fail
      clear g0 g1 g2 a0 a1 a9
      refine HAT1.out.mono ?_
      rintro e w13 hat
      obtain ⟨om', eb, rfl, hat0, hat1, hx13⟩ := hat.shape
      have HA0' := Lib.hid hat0
      have HA1' := Lib.hid hat1
      obtain ⟨g16, hg16⟩ : ∃ x, x = w13.heap.size := ⟨_, rfl⟩
      obtain ⟨W14, hW14⟩ : ∃ W, W = w13.alloc (.cells #[.map om'] 29) := ⟨_, rfl⟩
      have hx14 : Ext w13 W14 := by rw [hW14]; exact (Ext.refl w13).alloc _
      have HG16 : Hid (Row W14 g16 29 [.map om']) := by show Row _ _ _ _; rw [hW14, hg16]; exact Row.new w13 29 _
      have HX14 := Lib.hid (hx13.trans hx14).below
      have HXA := Lib.hid (Below.then HX12.out HX14.out HX12.out.size)
      have HB14 := Lib.hid (Below.then HB10.out HXA.out HB10.out.size)
      have HG144 := Lib.hid (HG14.out.up HX14.out)
      have HW14 := Lib.hid hW14
      have HGE := Lib.hid hg16
      clear hat hat0 hat1 hx13 hx14 hW14 hg16 HAT1
      go_upto_region 16 with (fail)
      rw [← HW14.out, ← HGE.out]
      clear HW14 HGE
      by_cases h0 : ea = 0 ∧ eb = 0
      rotate_left
      · have hnn : ef = 31 ∧ us = [] := by
          have hh : findV V y0 = none ∨ findV V y1 = none := by
            by_cases ha : ea = 0
            · exact .inr (HA1'.out fun hb => h0 ⟨ha, hb⟩)
            · exact .inl (HA1.out ha)
          by_cases hf : ef = 0
          · obtain ⟨x, y, ns, e1, e2, -⟩ := HF0.out hf
            rw [e1, e2] at hh
            rcases hh with hh | hh <;> cases hh
          · obtain ⟨e1, e2, -⟩ := HF1.out hf
            exact ⟨e1, e2⟩
        obtain ⟨rfl, rfl⟩ := hnn
        by_cases ha : ea = 0
        · have e1 : (ea != 0) = false := by simpa using ha
          have e2 : (eb != 0) = true := by
            have : eb ≠ 0 := fun hb => h0 ⟨ha, hb⟩
            simpa using this
          clear h0 ha
          go_wp2_with fail
          go_ret
          exact ⟨rfl, HB14.out⟩
        · have e1 : (ea != 0) = true := by simpa using ha
          clear h0 ha
          go_wp2_with fail
          go_ret
          exact ⟨rfl, HB14.out⟩
      obtain ⟨rfl, rfl⟩ := h0
      obtain ⟨x, d, hfx, rfl, hd⟩ := HA0.out rfl
      obtain ⟨y, d', hfy, rfl, hd'⟩ := HA0'.out rfl
      have hef : ef = 0 := by
        rcases Classical.em (ef = 0) with h | h
        · exact h
        · obtain ⟨-, -, hh⟩ := HF1.out h
          rw [hfx, hfy] at hh
          rcases hh with hh | hh <;> cases hh
      subst hef
      obtain ⟨x', y', ns, e1, e2, hus, hp, hu⟩ := HF0.out rfl
      rw [hfx] at e1
      rw [hfy] at e2
      cases e1
      cases e2
      have hcx := HVC.out x (findV_some hfx).1
      have hcy := HVC.out y (findV_some hfy).1
      have hns : ∀ s ∈ ns, s ∈ X.map Prod.fst := fun s hs => hp.mem_iff.1 hs
      obtain ⟨H, hrun, hH, -⟩ := diff_run hcx hcy ns (hp.symm.nodup HOKS.out.2.2) hns x.db 0 (fun s _ => rfl)
      have hul : us.length ≤ 16 * 8192 := by
        rw [hus]
        have h1 := diffF_le hcx hcy ns hns
        have h2 := hp.length_eq
        rw [List.length_map] at h2
        have h3 := HOKS.out.1
        omega
      have huok : ∀ u ∈ us, UpdOk u := by rw [hus]; exact diff_ok hcx hcy hns HSZ.out
      rw [← hus, Nat.zero_add] at hrun
      have HSC : Hid (sameC X H y.db = true) := List.all_eq_true.2 fun p hpx => decide_eq_true (hH p.1 (hp.mem_iff.2 (List.mem_map.2 ⟨p, hpx, rfl⟩)))
      have HLEN : Hid (∀ ms : List ByteArray, ms.Perm (X.map Prod.fst) → (diffF ms x.db y.db).length = us.length) := fun ms hm => by rw [hus]; exact diffF_len (hm.trans hp.symm) _ _
      have HD1 := Lib.hid (hd.up HXA.out)
      have HD2 := Lib.hid (hd'.up HX14.out)
      have HDF := Lib.hid (ctDiff_any W14 HD1.out HD2.out HOKS.out.2.2 HOKS.out.1 (fun p hp => (HSZ.out p hp).1))
      have HU14 : Hid (UpdsM W14.heap.size W14 A us) := (hu.below HXA.out (Nat.le_refl _)).more HXA.out.size
      have HUOK := Lib.hid huok
      have HRUN := Lib.hid hrun
      have k0 : W14.cell? ⟨g14, 0, none⟩ = some (.map (some d)) := HG144.out.cell 0
      have k1 := HG144.out.lt
      have k2 : W14.cell? ⟨g16, 0, none⟩ = some (.map (some d')) := HG16.out.cell 0
      have k3 := HG16.out.lt
      have hgz : g < W14.heap.size := Nat.lt_of_lt_of_le HR10.out.lt HXA.out.size
      clear hfx hfy hd hd' hus hp hu hcx hcy hns hH huok hrun HF0 HF1 HA0 HA1 HA0' HA1'
      go_wp2_with fail
      clear k0 k1 k2 k3
      refine HDF.out.mono ?_
      rintro e w15 ⟨A2, C2, ms, rfl, hms, -, hb15⟩
      rw [HLEN.out ms hms]
      have HB15 := Lib.hid (Below.then HB14.out hb15 HB14.out.size)
      have HG145 := Lib.hid (HG144.out.up hb15)
      have HG165 := Lib.hid (HG16.out.up hb15)
      have HD15 := Lib.hid (HD1.out.up hb15)
      have HD25 := Lib.hid (HD2.out.up hb15)
      have hap := ctApply_any (fun b => b ≠ g) X (.map (some d)) x.db A C us w15 HD15.out (fun b' hb' => by have := hb15.size; show b' ≠ g; omega) ((HU14.out.below hb15 (Nat.le_refl _)).more hb15.size) HUOK.out (by omega) (Nat.le_trans HOKS.out.1 (by decide))
      rw [HRUN.out] at hap
      have HAP := Lib.hid hap
      have k0 : w15.cell? ⟨g14, 0, none⟩ = some (.map (some d)) := HG145.out.cell 0
      have k1 := HG145.out.lt
      clear hms hb15 hap HDF HLEN
      go_wp2_with fail
      clear k0 k1
      refine HAP.out.mono ?_
      rintro e w16 ⟨h1, -, hb16⟩
      obtain ⟨m16, rfl, hd16⟩ := h1 rfl
      obtain ⟨b16, rfl⟩ := hd16.form
      obtain ⟨g20, hg20⟩ : ∃ x, x = w16.heap.size := ⟨_, rfl⟩
      obtain ⟨W17, hW17⟩ : ∃ W, W = w16.alloc (.cells #[.map (some b16)] 29) := ⟨_, rfl⟩
      have hx17 : Ext w16 W17 := by rw [hW17]; exact (Ext.refl w16).alloc _
      have HG20 : Hid (Row W17 g20 29 [.map (some b16)]) := by show Row _ _ _ _; rw [hW17, hg20]; exact Row.new w16 29 _
      have hb17 := Below.then hb16 hx17.below hb16.size
      have HG167 := Lib.hid (HG165.out.up hb17)
      have HB17 := Lib.hid (Below.then HB15.out hb17 HB15.out.size)
      have heq := ctEqual_any W17 (hd16.up hx17.below) (HD25.out.up hb17) HOKS.out.2.2
      rw [HSC.out] at heq
      have HEQ := Lib.hid heq
      have k0 : W17.cell? ⟨g20, 0, none⟩ = some (.map (some b16)) := HG20.out.cell 0
      have k1 := HG20.out.lt
      have k2 : W17.cell? ⟨g16, 0, none⟩ = some (.map (some d')) := HG167.out.cell 0
      have k3 := HG167.out.lt
      have HW17 := Lib.hid hW17
      have HGE := Lib.hid hg20
      clear h1 hd16 hb16 hg20 hW17 hx17 hb17 heq HAP
      go_upto_region 20 with (fail)
      rw [← HW17.out, ← HGE.out]
      clear HW17 HGE
      go_wp2_with fail
      clear k0 k1 k2 k3
      refine HEQ.out.mono ?_
      rintro e w18 ⟨rfl, hb18⟩
      have HB18 := Lib.hid (Below.then HB17.out hb18 HB17.out.size)
      clear hb18 HEQ
      go_wp2_with fail
      go_ret
      exact ⟨rfl, HB18.out⟩

end Go.Proofs.YtgaffbdcpkbdhaaGreat
end

section
/- Opening the arguments of the laws of chapter 16: schemas, acts, lists of bools. -/
namespace Go.Proofs.YtgaffbdcpkbdhaaGreat
open Go.ChangeShapes Go.WideShapes Go.ChangeAt Go.RowKit Go.Joins Go.Deep

theorem cell_addr {w : World} {a : Addr} {v : Value} (h : w.cell? a = some v) : a = ⟨a.block, a.off, none⟩ ∧ a.block < w.heap.size := by
  obtain ⟨b, o, s⟩ := a
  unfold World.cell? at h
  simp only at h
  cases hh : w.heap[b]? with
  | none => rw [hh] at h; cases h
  | some ob =>
    have hlt : b < w.heap.size := by
      rcases Nat.lt_or_ge b w.heap.size with h1 | h1
      · exact h1
      · rw [Array.getElem?_eq_none h1] at hh; cases hh
    refine ⟨?_, hlt⟩
    rw [hh] at h
    cases ob with
    | cells c _ _ =>
      cases s with
      | none => rfl
      | some s => simp at h
    | _ => simp at h

theorem add_addr (b o i : Nat) : (Addr.add ⟨b, o, none⟩ i) = ⟨b, o + i, none⟩ := by
  unfold Addr.add
  split
  · next h => subst h; rfl
  · rfl

theorem rcells_div (y : RL.R) (i : Nat) (u : Value) (h : (rcells y)[i]? = some u) : ∃ v, y[i / 3]? = some v ∧ (vcells v)[i % 3]? = some u := by
  have hl : i < (rcells y).length := (List.getElem?_eq_some_iff.1 h).1
  rw [rcells_length] at hl
  have hq : i / 3 < y.length := by omega
  refine ⟨y[i / 3], List.getElem?_eq_getElem hq, ?_⟩
  obtain ⟨g0, g1, g2⟩ := rcells_get y (i / 3) _ (List.getElem?_eq_getElem hq)
  have hi : i = i / 3 * 3 + i % 3 := by omega
  have hr : i % 3 = 0 ∨ i % 3 = 1 ∨ i % 3 = 2 := by omega
  rcases hr with hr | hr | hr
  · rw [hr, Nat.add_zero] at hi; rw [hr]; rw [hi, g0] at h; exact h
  · rw [hr] at hi; rw [hr]; rw [hi, g1] at h; exact h
  · rw [hr] at hi; rw [hr]; rw [hi, g2] at h; exact h

section
variable {H : Type} {enc : TypeId × Value → H} {W : World} {n : Nat} {x : DataW H × List MemPlace}

theorem cells_TValue : Tryz.prog.cellsOf 57 = 3 := by kernel_rfl
theorem cells_TRow : Tryz.prog.cellsOf 59 = 1 := by kernel_rfl

set_option maxRecDepth 100000 in
/-- One value that reads. -/
theorem open_value {cs : List Value} (h : DataW.trod enc Tryz.prog W 0 (fun _ => true) true n 57 cs = some x) :
    ∃ v : RL.V, cs = vcells v ∧ v.str.size ≤ 9223372036854775807 := by
  obtain ⟨ys, n', _, _, hlen, hyl, hf⟩ := DataW.trod_struct Tryz.underlying57 h
  rw [cells_TValue] at hlen
  match cs, hlen with
  | [c0, c1, c2], _ =>
    match ys, hyl with
    | [y0, y1, y2], _ =>
      have h0 := hf 0 _ rfl
      have h1 := hf 1 _ rfl
      have h2 := hf 2 _ rfl
      obtain ⟨a0, e0, _, _⟩ := DataW.trod_int (k := .i64) (by kernel_rfl) h0
      obtain ⟨a1, e1, _, _⟩ := DataW.trod_int (k := .i64) (by kernel_rfl) h1
      obtain ⟨a2, e2, _, hz⟩ := DataW.trod_string (by kernel_rfl) h2
      have q0 : List.take (Tryz.prog.cellsOf 3) (List.drop 0 [c0, c1, c2]) = [.int .i64 a0] := e0
      have q1 : List.take (Tryz.prog.cellsOf 2) (List.drop 1 [c0, c1, c2]) = [.int .i64 a1] := e1
      have q2 : List.take (Tryz.prog.cellsOf 9) (List.drop 2 [c0, c1, c2]) = [.string a2] := e2
      rw [show Tryz.prog.cellsOf 3 = 1 by kernel_rfl] at q0
      rw [show Tryz.prog.cellsOf 2 = 1 by kernel_rfl] at q1
      rw [show Tryz.prog.cellsOf 9 = 1 by kernel_rfl] at q2
      simp at q0 q1 q2
      subst q0 q1 q2
      exact ⟨⟨a0, a1, a2⟩, rfl, hz⟩

theorem vcells_length (v : RL.V) : (vcells v).length = 3 := rfl

/-- A row that reads. -/
theorem open_row {cs : List Value} (h : DataW.trod enc Tryz.prog W 0 (fun _ => true) true n 59 cs = some x) :
    ∃ A C y, cs = [.slice A y.length C] ∧ SlR W.heap.size W A y ∧ y.length ≤ C ∧ C ≤ 9223372036854775807 ∧ BigW y := by
  rcases open_slice Tryz.underlying59 h with ⟨hcs, _⟩ | ⟨a, len, cap, m, n', D, Pl, hcs, _, hl, hm, hmm, _, hel⟩
  · exact ⟨none, 0, [], hcs, SlR.nil, Nat.le_refl _, by simp, by simp [BigW]⟩
  · rw [cells_TValue] at hel
    simp only [if_true] at hmm
    subst hmm
    have hch : ∀ i, i < len → ∃ v : RL.V, (∀ j, j < 3 → W.cell? (a.add (i * 3 + j)) = (vcells v)[j]?) ∧ v.str.size ≤ 9223372036854775807 := by
      intro i hi
      obtain ⟨cs', h1, h2⟩ := hel i (by omega)
      obtain ⟨v, rfl, hv⟩ := open_value h2
      obtain ⟨_, _, h3⟩ := World.cells?_some h1
      refine ⟨v, fun j hj => ?_, hv⟩
      rw [← Go.Deep.add_add]
      exact h3 j hj
    haveI : Inhabited RL.V := ⟨⟨0, 0, ByteArray.empty⟩⟩
    obtain ⟨f, hf⟩ := choose_lt hch
    refine ⟨some a, m, (List.range len).map f, by simpa using hcs, fun hne => ?_, by simpa using hl, hm, by simp only [List.length_map, List.length_range]; exact Nat.le_trans hl hm, ?_⟩
    · have hpos : 0 < len := by
        rcases Nat.eq_zero_or_pos len with h0 | h0
        · subst h0; exact absurd rfl hne
        · exact h0
      have h0 := (hf 0 hpos).1 0 (by omega)
      rw [show a.add (0 * 3 + 0) = a by unfold Addr.add; simp] at h0
      obtain ⟨ha, hb⟩ := cell_addr (h0.trans rfl)
      refine ⟨a.block, a.off, by rw [← ha], hb, fun i u hu => ?_⟩
      obtain ⟨v, hv, hvu⟩ := rcells_div _ _ _ hu
      rw [List.getElem?_map] at hv
      have hq : i / 3 < len := by
        rcases Nat.lt_or_ge (i / 3) len with h | h
        · exact h
        · rw [List.getElem?_eq_none (by simpa using h)] at hv; simp at hv
      rw [List.getElem?_range hq] at hv
      simp at hv
      subst hv
      have h1 := (hf _ hq).1 (i % 3) (by omega)
      rw [show i / 3 * 3 + i % 3 = i by omega, ha, add_addr] at h1
      rw [h1]
      exact hvu
    · intro v hv
      rw [List.mem_map] at hv
      obtain ⟨i, hi, rfl⟩ := hv
      exact (hf i (by simpa using hi)).2


/-- A slice of bools that reads. -/
theorem open_bools {cs : List Value} (h : DataW.trod enc Tryz.prog W 0 (fun _ => true) true n 142 cs = some x) :
    ∃ A C l, cs = [.slice A l.length C] ∧ BoolsM W.heap.size W A l ∧ l.length ≤ 9223372036854775807 := by
  rcases open_slice1 Tryz.underlying142 (by kernel_rfl) h with ⟨hcs, _⟩ | ⟨a, len, cap, m, n', V, D, Pl, hcs, _, hl, hm, hmm, hx, hel⟩
  · exact ⟨none, 0, [], hcs, fun h => absurd rfl h, by simp⟩
  · simp only [if_true] at hmm
    subst hmm
    have hm' : m ≤ 9223372036854775807 := hm
    have hch : ∀ i, i < len → ∃ y : Bool, W.cell? (a.add i) = some (.bool y) := by
      intro i hi
      obtain ⟨h1, h2⟩ := hel i (by omega)
      obtain ⟨b, e, _⟩ := DataW.trod_bool Tryz.underlying4 h2
      simp at e
      rw [e] at h1
      exact ⟨b, h1⟩
    obtain ⟨f, hf⟩ := choose_lt hch
    refine ⟨some a, m, (List.range len).map f, by simpa using hcs, fun hne => ?_, by simp only [List.length_map, List.length_range]; omega⟩
    have hpos : 0 < len := by
      rcases Nat.eq_zero_or_pos len with h0 | h0
      · subst h0; exact absurd rfl hne
      · exact h0
    have h0 := hf 0 hpos
    rw [show a.add 0 = a by unfold Addr.add; simp] at h0
    obtain ⟨ha, hb⟩ := cell_addr h0
    refine ⟨a.block, a.off, by rw [← ha], hb, fun i hi => ?_⟩
    have hi' : i < len := by simpa using hi
    have g0 := hf i hi'
    rw [ha, add_addr] at g0
    simpa using g0

theorem sl_open {k : IntKind} {w : World} {a : Addr} {zs : List Int} {len : Nat} (hl : len ≤ zs.length) (hcell : ∀ i, i < zs.length → w.cell? (a.add i) = some (.int k (zs.getD i 0))) :
    SlI k w.heap.size w (some a) (zs.take len) := by
  intro hne
  have hpos : 0 < (zs.take len).length := by
    rcases Nat.eq_zero_or_pos (zs.take len).length with h | h
    · exact absurd (by rw [List.eq_nil_of_length_eq_zero h]; rfl) hne
    · exact h
  rw [List.length_take] at hpos
  have h0 := hcell 0 (by omega)
  rw [show a.add 0 = a by unfold Addr.add; simp] at h0
  obtain ⟨ha, hb⟩ := cell_addr h0
  refine ⟨a.block, a.off, by rw [← ha], hb, fun i u hu => ?_⟩
  rw [List.getElem?_map] at hu
  cases hz : (zs.take len)[i]? with
  | none => rw [hz] at hu; simp at hu
  | some z =>
    rw [hz] at hu
    simp at hu
    subst hu
    obtain ⟨hi, hzi⟩ := List.getElem?_eq_some_iff.1 hz
    rw [List.length_take] at hi
    have h1 := hcell i (by omega)
    rw [ha, add_addr] at h1
    rw [h1]
    simp at hzi
    simp [show i < zs.length by omega, hzi]

/-- A slice of ints that reads. -/
theorem open_cols {cs : List Value} (h : DataW.trod enc Tryz.prog W 0 (fun _ => true) true n 53 cs = some x) :
    ∃ A c zs, cs = [.slice A zs.length c] ∧ SlI .i64 W.heap.size W A zs ∧ zs.length ≤ 9223372036854775807 := by
  rcases open_ints Tryz.underlying53 Tryz.underlying3 (by kernel_rfl) h with ⟨hcs, _⟩ | ⟨a, len, cap, zs, hcs, _, hl, hm, hz, _, hcell, hwz⟩
  · exact ⟨none, 0, [], hcs, Sl.nil, by simp⟩
  · simp at hz
    have hlz : len ≤ zs.length := by omega
    have hm' : cap ≤ 9223372036854775807 := hm
    refine ⟨some a, cap, zs.take len, ?_, sl_open hlz hcell, ?_⟩
    · rw [List.length_take, Nat.min_eq_left hlz]; exact hcs
    · rw [List.length_take]; omega

theorem cells_TSchema : Tryz.prog.cellsOf 55 = 2 := by kernel_rfl
theorem cells_TUpd : Tryz.prog.cellsOf 61 = 3 := by kernel_rfl
theorem cells_TAct16 : Tryz.prog.cellsOf 42 = 3 := by kernel_rfl

set_option maxRecDepth 100000 in
/-- One schema that reads. -/
theorem open_schema {cs : List Value} (h : DataW.trod enc Tryz.prog W 0 (fun _ => true) true n 55 cs = some x) :
    ∃ (s : ByteArray) (ks : List Int) (KA : Option Addr) (KC : Nat), cs = [.string s, .slice KA ks.length KC] ∧ SlI .i64 W.heap.size W KA ks ∧ s.size ≤ 9223372036854775807 ∧ ks.length ≤ 9223372036854775807 := by
  obtain ⟨ys, n', _, _, hlen, hyl, hf⟩ := DataW.trod_struct Tryz.underlying55 h
  rw [cells_TSchema] at hlen
  match cs, hlen with
  | [c0, c1], _ =>
    match ys, hyl with
    | [y0, y1], _ =>
      have h0 := hf 0 _ rfl
      have h1 := hf 1 _ rfl
      obtain ⟨a0, e0, _, hz⟩ := DataW.trod_string (by kernel_rfl) h0
      obtain ⟨KA, KC, ks, e1, hs, hk⟩ := open_cols h1
      have q0 : List.take (Tryz.prog.cellsOf 9) (List.drop 0 [c0, c1]) = [.string a0] := e0
      have q1 : List.take (Tryz.prog.cellsOf 53) (List.drop 1 [c0, c1]) = [.slice KA ks.length KC] := e1
      rw [show Tryz.prog.cellsOf 9 = 1 by kernel_rfl] at q0
      rw [show Tryz.prog.cellsOf 53 = 1 by kernel_rfl] at q1
      simp at q0 q1
      subst q0 q1
      exact ⟨a0, ks, KA, KC, rfl, hs, hz, hk⟩

/-- A list of schemas that reads. -/
theorem open_schemas {cs : List Value} (h : DataW.trod enc Tryz.prog W 0 (fun _ => true) true n 22 cs = some x) :
    ∃ A C X, cs = [.slice A X.length C] ∧ SchsM W.heap.size W A X ∧ SchsOk X ∧ X.length ≤ C ∧ C ≤ 9223372036854775807 := by
  rcases open_slice Tryz.underlying22 h with ⟨hcs, _⟩ | ⟨a, len, cap, m, n', D, Pl, hcs, _, hl, hm, hmm, hx, hel⟩
  · exact ⟨none, 0, [], hcs, fun h => absurd rfl h, fun p hp => (by cases hp), Nat.le_refl _, by simp⟩
  · rw [cells_TSchema] at hel
    simp only [if_true] at hmm
    subst hmm
    have hm' : m ≤ 9223372036854775807 := hm
    have hch : ∀ i, i < len → ∃ t : ByteArray × List Int, ∃ KA KC, W.cell? (a.add (i * 2)) = some (.string t.1) ∧ W.cell? (a.add (i * 2 + 1)) = some (.slice KA t.2.length KC) ∧ SlI .i64 W.heap.size W KA t.2 ∧ t.1.size ≤ 9223372036854775807 ∧ t.2.length ≤ 9223372036854775807 := by
      intro i hi
      obtain ⟨cs', h1, h2⟩ := hel i (by omega)
      obtain ⟨s, ks, KA, KC, rfl, hs, hz, hk⟩ := open_schema h2
      obtain ⟨_, _, h3⟩ := World.cells?_some h1
      refine ⟨(s, ks), KA, KC, ?_, ?_, hs, hz, hk⟩
      · have := h3 0 (by omega)
        rw [Go.Deep.add_add] at this
        exact this
      · have := h3 1 (by omega)
        rw [Go.Deep.add_add] at this
        exact this
    haveI : Inhabited (ByteArray × List Int) := ⟨⟨ByteArray.empty, []⟩⟩
    obtain ⟨f, hf⟩ := choose_lt hch
    refine ⟨some a, m, (List.range len).map f, by simpa using hcs, fun hne => ?_, ?_, by simpa using hl, hm'⟩
    · have hpos : 0 < len := by
        rcases Nat.eq_zero_or_pos len with h0 | h0
        · subst h0; exact absurd rfl hne
        · exact h0
      obtain ⟨_, _, h0, _⟩ := hf 0 hpos
      rw [show a.add (0 * 2) = a by unfold Addr.add; simp] at h0
      obtain ⟨ha, hb⟩ := cell_addr h0
      refine ⟨a.block, a.off, by rw [← ha], hb, fun i hi => ?_⟩
      have hi' : i < len := by simpa using hi
      obtain ⟨KA, KC, g0, g1, g2, _⟩ := hf i hi'
      rw [ha, add_addr] at g0 g1
      refine ⟨KA, KC, ?_, ?_, ?_⟩
      · simpa using g0
      · rw [← Nat.add_assoc] at g1
        simpa using g1
      · simpa using g2
    · intro p hp
      rw [List.mem_map] at hp
      obtain ⟨i, hi, rfl⟩ := hp
      obtain ⟨_, _, _, _, _, g⟩ := hf i (by simpa using hi)
      exact g

set_option maxRecDepth 100000 in
/-- One update that reads. -/
theorem open_upd {cs : List Value} (h : DataW.trod enc Tryz.prog W 0 (fun _ => true) true n 61 cs = some x) :
    ∃ (u : Upd) (RA : Option Addr) (RC : Nat), cs = [.bool u.del, .string u.rel, .slice RA u.row.length RC] ∧ SlR W.heap.size W RA u.row ∧ u.rel.size ≤ 9223372036854775807 ∧ u.row.length ≤ 9223372036854775807 ∧ BigW u.row := by
  obtain ⟨ys, n', _, _, hlen, hyl, hf⟩ := DataW.trod_struct Tryz.underlying61 h
  rw [cells_TUpd] at hlen
  match cs, hlen with
  | [c0, c1, c2], _ =>
    match ys, hyl with
    | [y0, y1, y2], _ =>
      have h0 := hf 0 _ rfl
      have h1 := hf 1 _ rfl
      have h2 := hf 2 _ rfl
      obtain ⟨a0, e0, _⟩ := DataW.trod_bool (by kernel_rfl) h0
      obtain ⟨a1, e1, _, hz⟩ := DataW.trod_string (by kernel_rfl) h1
      obtain ⟨RA, RC, y, e2, hs, hk, hk2, hbr⟩ := open_row h2
      have q0 : List.take (Tryz.prog.cellsOf 4) (List.drop 0 [c0, c1, c2]) = [.bool a0] := e0
      have q1 : List.take (Tryz.prog.cellsOf 9) (List.drop 1 [c0, c1, c2]) = [.string a1] := e1
      have q2 : List.take (Tryz.prog.cellsOf 59) (List.drop 2 [c0, c1, c2]) = [.slice RA y.length RC] := e2
      rw [show Tryz.prog.cellsOf 4 = 1 by kernel_rfl] at q0
      rw [show Tryz.prog.cellsOf 9 = 1 by kernel_rfl] at q1
      rw [cells_TRow] at q2
      simp at q0 q1 q2
      subst q0 q1 q2
      exact ⟨⟨a0, a1, y⟩, RA, RC, rfl, hs, hz, Nat.le_trans hk hk2, hbr⟩

/-- A list of updates that reads. -/
theorem open_upds {cs : List Value} (h : DataW.trod enc Tryz.prog W 0 (fun _ => true) true n 40 cs = some x) :
    ∃ A C X, cs = [.slice A X.length C] ∧ UpdsM W.heap.size W A X ∧ (∀ u ∈ X, u.rel.size ≤ 9223372036854775807 ∧ u.row.length ≤ 9223372036854775807 ∧ BigW u.row) ∧ X.length ≤ C ∧ C ≤ 9223372036854775807 := by
  rcases open_slice Tryz.underlying40 h with ⟨hcs, _⟩ | ⟨a, len, cap, m, n', D, Pl, hcs, _, hl, hm, hmm, hx, hel⟩
  · exact ⟨none, 0, [], hcs, fun h => absurd rfl h, fun p hp => (by cases hp), Nat.le_refl _, by simp⟩
  · rw [cells_TUpd] at hel
    simp only [if_true] at hmm
    subst hmm
    have hm' : m ≤ 9223372036854775807 := hm
    have hch : ∀ i, i < len → ∃ t : Upd, ∃ RA RC, W.cell? (a.add (i * 3)) = some (.bool t.del) ∧ W.cell? (a.add (i * 3 + 1)) = some (.string t.rel) ∧ W.cell? (a.add (i * 3 + 2)) = some (.slice RA t.row.length RC) ∧ SlR W.heap.size W RA t.row ∧ t.rel.size ≤ 9223372036854775807 ∧ t.row.length ≤ 9223372036854775807 ∧ BigW t.row := by
      intro i hi
      obtain ⟨cs', h1, h2⟩ := hel i (by omega)
      obtain ⟨u, RA, RC, rfl, hs, g⟩ := open_upd h2
      obtain ⟨_, _, h3⟩ := World.cells?_some h1
      refine ⟨u, RA, RC, ?_, ?_, ?_, hs, g⟩
      · have := h3 0 (by omega)
        rw [Go.Deep.add_add] at this
        exact this
      · have := h3 1 (by omega)
        rw [Go.Deep.add_add] at this
        exact this
      · have := h3 2 (by omega)
        rw [Go.Deep.add_add] at this
        exact this
    haveI : Inhabited Upd := ⟨⟨false, ByteArray.empty, []⟩⟩
    obtain ⟨f, hf⟩ := choose_lt hch
    refine ⟨some a, m, (List.range len).map f, by simpa using hcs, fun hne => ?_, ?_, by simpa using hl, hm'⟩
    · have hpos : 0 < len := by
        rcases Nat.eq_zero_or_pos len with h0 | h0
        · subst h0; exact absurd rfl hne
        · exact h0
      obtain ⟨_, _, h0, _⟩ := hf 0 hpos
      rw [show a.add (0 * 3) = a by unfold Addr.add; simp] at h0
      obtain ⟨ha, hb⟩ := cell_addr h0
      refine ⟨a.block, a.off, by rw [← ha], hb, fun i hi => ?_⟩
      have hi' : i < len := by simpa using hi
      obtain ⟨RA, RC, g0, g1, g2, g3, _⟩ := hf i hi'
      rw [ha, add_addr] at g0 g1 g2
      rw [← Nat.add_assoc] at g1 g2
      refine ⟨RA, RC, ?_, ?_, ?_, ?_⟩
      · simpa using g0
      · simpa using g1
      · simpa using g2
      · simpa using g3
    · intro p hp
      rw [List.mem_map] at hp
      obtain ⟨i, hi, rfl⟩ := hp
      obtain ⟨_, _, _, _, _, _, g⟩ := hf i (by simpa using hi)
      exact g

set_option maxRecDepth 100000 in
/-- One act that reads. -/
theorem open_act {cs : List Value} (h : DataW.trod enc Tryz.prog W 0 (fun _ => true) true n 42 cs = some x) :
    ∃ (a : ActR) (UA : Option Addr) (UC : Nat), cs = [.int .u8 (a.kind : Nat), .int .i64 a.num, .slice UA a.us.length UC] ∧ UpdsM W.heap.size W UA a.us ∧ a.us.length ≤ UC ∧ ActOk a := by
  obtain ⟨ys, n', _, _, hlen, hyl, hf⟩ := DataW.trod_struct Tryz.underlying42 h
  rw [cells_TAct16] at hlen
  match cs, hlen with
  | [c0, c1, c2], _ =>
    match ys, hyl with
    | [y0, y1, y2], _ =>
      have h0 := hf 0 _ rfl
      have h1 := hf 1 _ rfl
      have h2 := hf 2 _ rfl
      obtain ⟨a0, e0, _, w0⟩ := DataW.trod_int (k := .u8) (by kernel_rfl) h0
      obtain ⟨a1, e1, _, w1⟩ := DataW.trod_int (k := .i64) (by kernel_rfl) h1
      obtain ⟨UA, UC, us, e2, hs, ho, hc, hc2⟩ := open_upds h2
      have b0 := bounds_u8 w0
      obtain ⟨a0, rfl⟩ := Int.eq_ofNat_of_zero_le b0.1
      have q0 : List.take (Tryz.prog.cellsOf 5) (List.drop 0 [c0, c1, c2]) = [.int .u8 a0] := e0
      have q1 : List.take (Tryz.prog.cellsOf 3) (List.drop 1 [c0, c1, c2]) = [.int .i64 a1] := e1
      have q2 : List.take (Tryz.prog.cellsOf 40) (List.drop 2 [c0, c1, c2]) = [.slice UA us.length UC] := e2
      rw [show Tryz.prog.cellsOf 5 = 1 by kernel_rfl] at q0
      rw [show Tryz.prog.cellsOf 3 = 1 by kernel_rfl] at q1
      rw [show Tryz.prog.cellsOf 40 = 1 by kernel_rfl] at q2
      simp at q0 q1 q2
      subst q0 q1 q2
      exact ⟨⟨a0, a1, us⟩, UA, UC, rfl, hs, hc, by show a0 ≤ 255; omega, w1, Nat.le_trans hc hc2, ho⟩

set_option maxRecDepth 100000 in
/-- An act, as a value. -/
theorem open_act16V {r : Reach} {b0 : Nat} {v : Value} {d : DataW H} {p : List MemPlace} (hv : Value.okWide Tryz.prog W r b0 42 v) (h : DataW.Trod enc Tryz.prog W 0 (fun _ => true) true 42 v d p) :
    ∃ (a : ActR) (UA : Option Addr) (UC : Nat), v = .agg #[.int .u8 (a.kind : Nat), .int .i64 a.num, .slice UA a.us.length UC] ∧ UpdsM W.heap.size W UA a.us ∧ a.us.length ≤ UC ∧ ActOk a := by
  obtain ⟨cs, rfl, _⟩ := okWide_struct Tryz.underlying42 hv
  obtain ⟨fuel, hf⟩ := h
  obtain ⟨l⟩ := cs
  simp only [Value.cells] at hf
  obtain ⟨a, UA, UC, rfl, h1, h2, h3⟩ := open_act hf
  exact ⟨a, UA, UC, rfl, h1, h2, h3⟩

/-- A list of acts that reads. -/
theorem open_act16s {cs : List Value} (h : DataW.trod enc Tryz.prog W 0 (fun _ => true) true n 23 cs = some x) :
    ∃ A C X, cs = [.slice A X.length C] ∧ ActsM W.heap.size W A X ∧ (∀ a ∈ X, ActOk a) ∧ X.length ≤ C ∧ C ≤ 9223372036854775807 := by
  rcases open_slice Tryz.underlying23 h with ⟨hcs, _⟩ | ⟨a, len, cap, m, n', D, Pl, hcs, _, hl, hm, hmm, hx, hel⟩
  · exact ⟨none, 0, [], hcs, fun h => absurd rfl h, fun p hp => (by cases hp), Nat.le_refl _, by simp⟩
  · rw [cells_TAct16] at hel
    simp only [if_true] at hmm
    subst hmm
    have hm' : m ≤ 9223372036854775807 := hm
    have hch : ∀ i, i < len → ∃ t : ActR, ∃ UA UC, W.cell? (a.add (i * 3)) = some (.int .u8 (t.kind : Nat)) ∧ W.cell? (a.add (i * 3 + 1)) = some (.int .i64 t.num) ∧ W.cell? (a.add (i * 3 + 2)) = some (.slice UA t.us.length UC) ∧ t.us.length ≤ UC ∧ UpdsM W.heap.size W UA t.us ∧ ActOk t := by
      intro i hi
      obtain ⟨cs', h1, h2⟩ := hel i (by omega)
      obtain ⟨u, UA, UC, rfl, hs, g, go⟩ := open_act h2
      obtain ⟨_, _, h3⟩ := World.cells?_some h1
      refine ⟨u, UA, UC, ?_, ?_, ?_, g, hs, go⟩
      · have := h3 0 (by omega)
        rw [Go.Deep.add_add] at this
        exact this
      · have := h3 1 (by omega)
        rw [Go.Deep.add_add] at this
        exact this
      · have := h3 2 (by omega)
        rw [Go.Deep.add_add] at this
        exact this
    haveI : Inhabited ActR := ⟨⟨0, 0, []⟩⟩
    obtain ⟨f, hf⟩ := choose_lt hch
    refine ⟨some a, m, (List.range len).map f, by simpa using hcs, fun hne => ?_, ?_, by simpa using hl, hm'⟩
    · have hpos : 0 < len := by
        rcases Nat.eq_zero_or_pos len with h0 | h0
        · subst h0; exact absurd rfl hne
        · exact h0
      obtain ⟨_, _, h0, _⟩ := hf 0 hpos
      rw [show a.add (0 * 3) = a by unfold Addr.add; simp] at h0
      obtain ⟨ha, hb⟩ := cell_addr h0
      refine ⟨a.block, a.off, by rw [← ha], hb, fun i hi => ?_⟩
      have hi' : i < len := by simpa using hi
      obtain ⟨UA, UC, g0, g1, g2, g3, g4, _⟩ := hf i hi'
      rw [ha, add_addr] at g0 g1 g2
      rw [← Nat.add_assoc] at g1 g2
      refine ⟨UA, UC, ?_, ?_, ?_, ?_, ?_⟩
      · simpa using g0
      · simpa using g1
      · simpa using g2
      · simpa using g3
      · simpa using g4
    · intro p hp
      rw [List.mem_map] at hp
      obtain ⟨i, hi, rfl⟩ := hp
      obtain ⟨_, _, _, _, _, _, _, g⟩ := hf i (by simpa using hi)
      exact g
end
end Go.Proofs.YtgaffbdcpkbdhaaGreat
end

section
/- Opening the arguments of the laws of chapter 16: arrays of two and of three integers. -/
namespace Go.Proofs.YtgaffbdcpkbdhaaGreat
open Go.ChangeShapes Go.WideShapes Go.ChangeAt Go.RowKit Go.Joins Go.Deep

section
variable {H : Type} {enc : TypeId × Value → H} {W : World}
theorem int2Cells : Tryz.prog.cellsOf 24 = 2 := by kernel_rfl
theorem cells_i2 : Tryz.prog.cellsOf 3 = 1 := by kernel_rfl
theorem two_i {cs : Array Value} (h : cs.size = 2) : ∃ a b, cs = #[a, b] := by
  obtain ⟨l⟩ := cs
  match l, h with
  | [a, b], _ => exact ⟨a, b, rfl⟩
theorem three_i {cs : Array Value} (h : cs.size = 3) : ∃ a b c, cs = #[a, b, c] := by
  obtain ⟨l⟩ := cs
  match l, h with
  | [a, b, c], _ => exact ⟨a, b, c, rfl⟩
set_option maxRecDepth 100000 in
theorem open_int2 {r : Reach} {b0 : Nat} {v : Value} {d : DataW H} {p : List MemPlace} (hv : Value.okWide Tryz.prog W r b0 24 v) (h : DataW.Trod enc Tryz.prog W 0 (fun _ => true) true 24 v d p) :
    ∃ x y : Int, v = .agg #[.int .i64 x, .int .i64 y] ∧ (Lit.int .i64 x).wf = true ∧ (Lit.int .i64 y).wf = true := by
  simp only [Value.okWide, Tryz.underlying24] at hv
  obtain ⟨cs, rfl, hsz, _⟩ := hv
  obtain ⟨c0, c1, rfl⟩ := two_i (hsz.trans int2Cells)
  obtain ⟨fuel, hf⟩ := h
  obtain ⟨xs, m, _, _, _, hlen, hg⟩ := DataW.trod_array Tryz.underlying24 hf
  match xs, hlen with
  | [y0, y1], _ =>
    have h0 := hg 0 (by omega)
    have h1 := hg 1 (by omega)
    simp only [cells_i2, Value.cells] at h0 h1
    obtain ⟨n0, e0, _, w0⟩ := DataW.trod_int (k := .i64) Tryz.underlying3 h0
    obtain ⟨n1, e1, _, w1⟩ := DataW.trod_int (k := .i64) Tryz.underlying3 h1
    simp at e0 e1
    exact ⟨n0, n1, by rw [e0, e1], w0, w1⟩
theorem int3Cells : Tryz.prog.cellsOf 51 = 3 := by kernel_rfl
set_option maxRecDepth 100000 in
theorem open_int3 {r : Reach} {b0 : Nat} {v : Value} {d : DataW H} {p : List MemPlace} (hv : Value.okWide Tryz.prog W r b0 51 v) (h : DataW.Trod enc Tryz.prog W 0 (fun _ => true) true 51 v d p) :
    ∃ x y z : Int, v = .agg #[.int .i64 x, .int .i64 y, .int .i64 z] ∧ (Lit.int .i64 x).wf = true ∧ (Lit.int .i64 y).wf = true ∧ (Lit.int .i64 z).wf = true := by
  simp only [Value.okWide, Tryz.underlying51] at hv
  obtain ⟨cs, rfl, hsz, _⟩ := hv
  obtain ⟨c0, c1, c2, rfl⟩ := three_i (hsz.trans int3Cells)
  obtain ⟨fuel, hf⟩ := h
  obtain ⟨xs, m, _, _, _, hlen, hg⟩ := DataW.trod_array Tryz.underlying51 hf
  match xs, hlen with
  | [y0, y1, y2], _ =>
    have h0 := hg 0 (by omega)
    have h1 := hg 1 (by omega)
    have h2 := hg 2 (by omega)
    simp only [cells_i2, Value.cells] at h0 h1 h2
    obtain ⟨n0, e0, _, w0⟩ := DataW.trod_int (k := .i64) Tryz.underlying3 h0
    obtain ⟨n1, e1, _, w1⟩ := DataW.trod_int (k := .i64) Tryz.underlying3 h1
    obtain ⟨n2, e2, _, w2⟩ := DataW.trod_int (k := .i64) Tryz.underlying3 h2
    simp at e0 e1 e2
    exact ⟨n0, n1, n2, by rw [e0, e1, e2], w0, w1, w2⟩
end

end Go.Proofs.YtgaffbdcpkbdhaaGreat
end

/- Parts of the proof, merged: Z38. -/
import Derived.Test.YtgaffbdcpkbdhaaQ8

section
/- Walk: same (the laws of chapter 16): true where a store and the reference agree. -/
namespace Go.Proofs.Ytgaffbdcpkbdhaa
open Go.RowKit Go.Sort Go.ChangeMaps Go.WideShapes

section
variable {X : Sch} {V : List Ver} {l : Int} {vs : List RV} {bs : List (List Upd)} {B : Nat}
theorem RelR.findAt (h : RelR X V l vs bs B) {k : Nat} (hk : k < vs.length) : findR vs vs[k].num = some vs[k] ∧ Go.Proofs.Ytgaffbdcpkbdhaa.findV V vs[k].num = some (verR X bs vs[k]) := by
  have hp := h.facts.2.2.2.1
  have h1 : findR vs vs[k].num = some vs[k] := findR_at hk rfl fun r hr e => by
    obtain ⟨i, hi, rfl⟩ := List.mem_iff_getElem.1 hr
    rw [List.length_take] at hi
    rw [List.getElem_take] at e
    have := List.pairwise_iff_getElem.1 hp i k (by omega) hk (by omega)
    omega
  exact ⟨h1, by rw [h.findV, h1]; rfl⟩
theorem RelR.applyAt (h : RelR X V l vs bs B) (k : Nat) : (applyF X cont0 0 (bs.take k).flatten).1 = 0 := by
  have := h.ok
  rw [flatten_take bs k] at this
  exact applyF_left X _ _ _ _ this
theorem RelR.updLen (h : RelR X V l vs bs B) (k : Nat) : (bs.take k).flatten.length ≤ B * 12 := by
  have h1 := flatten_len (bs.take k) fun us hu => (h.us us (List.mem_of_mem_take hu)).1
  have h2 : (bs.take k).length ≤ B := by rw [List.length_take]; have := h.bl; omega
  omega
theorem RelR.updOk (h : RelR X V l vs bs B) (k : Nat) : ∀ u ∈ (bs.take k).flatten, UpdOk u := fun u hu => by
  obtain ⟨us, hus, hu⟩ := List.mem_flatten.1 hu
  exact (h.us us (List.mem_of_mem_take hus)).2 u hu
theorem RelR.off (h : RelR X V l vs bs B) : Go.Proofs.Ytgaffbdcpkbdhaa.findV V (l + 1) = none ∧ pinsV V (-1) = 0 := by
  have h1 : ∀ n, (∀ x ∈ V, x.num ≠ n) → Go.Proofs.Ytgaffbdcpkbdhaa.findV V n = none := fun n hn => List.find?_eq_none.2 fun x hx => by simpa using hn x hx
  refine ⟨h1 _ fun x hx => by have := (h.good.all x hx).1; omega, ?_⟩
  unfold pinsV
  rw [h1 (-1) fun x hx => by have := (h.good.all x hx).2.1; omega]
theorem StM.wf {P : Nat → Prop} {S : Sch} {w : World} {m : Value} {V : List Ver} (h : StM P S w m V) : ∀ x ∈ V, (Lit.int .i64 x.num).wf = true := fun x hx => by
  obtain ⟨_, _, _, _, _, _, _, h5, _⟩ := h
  exact (h5 x hx).1
end

set_option maxHeartbeats 16000000 in
set_option maxRecDepth 100000 in
theorem l16same_any (P : Nat → Prop) (X : Sch) (m rval m0 : Value) (l : Int) (V : List Ver) (vs : List RV) (bs : List (List Upd)) (B : Nat) (w : World) (hst : StM P X w m V) (hrs : RStP P w rval vs bs) (hd0 : DbM P X w m0 cont0) (hrel : RelR X V l vs bs B) (hB : B ≤ 60) (hXl : X.length ≤ 1000) (hnd : (X.map Prod.fst).Nodup) (hPn : ∀ b, w.heap.size ≤ b → P b) :
    Calls Try.prog 23 #[.agg #[m, .int .i64 l], rval, .agg #[m0]] w fun e w' => e = .returned (.bool true) ∧ Below w.heap.size w w' := by
  obtain ⟨b0, rfl⟩ := hst.form
  obtain ⟨bz, rfl⟩ := hd0.form
  obtain ⟨VA, VC, BA, BC, hds, rfl, hall⟩ := id hrs
  obtain ⟨W0, hW0⟩ : ∃ W0, W0 = ((w.alloc (.cells #[.map (some b0), .int .i64 l] 31)).alloc (.cells #[.slice VA vs.length VC, .slice BA bs.length BC] 66)).alloc (.cells #[.map (some bz)] 25) := ⟨_, rfl⟩
  have hx0 : Ext w W0 := by rw [hW0]; exact (((Ext.refl w).alloc _).alloc _).alloc _
  have HX0 := Lib.hid hx0
  have HR1 : Hid (Row W0 w.heap.size 31 [.map (some b0), .int .i64 l]) := by show Row _ _ _ _; rw [hW0]; exact ((Row.new w _ _).alloc _).alloc _
  have HR2 : Hid (Row W0 (w.heap.size + 1) 66 [.slice VA vs.length VC, .slice BA bs.length BC]) := by
    show Row _ _ _ _; rw [hW0]
    have h := Row.new (w.alloc (.cells #[.map (some b0), .int .i64 l] 31)) 66 [.slice VA vs.length VC, .slice BA bs.length BC]
    simp only [World.size_alloc] at h
    exact h.alloc _
  have HR3 : Hid (Row W0 (w.heap.size + 2) 25 [.map (some bz)]) := by
    show Row _ _ _ _; rw [hW0]
    have h := Row.new ((w.alloc (.cells #[.map (some b0), .int .i64 l] 31)).alloc (.cells #[.slice VA vs.length VC, .slice BA bs.length BC] 66)) 25 [.map (some bz)]
    simp only [World.size_alloc] at h
    exact h
  have HST := Lib.hid (hst.up hx0.below)
  have HRS := Lib.hid (hrs.up hx0.below)
  have HD0 := Lib.hid (hd0.up hx0.below)
  have HSL : Hid (Sl W0.heap.size W0 VA (vs.flatMap rvC)) := (hall W0 (Stay.of hx0.below)).1
  have HREL := Lib.hid hrel
  have HPN : Hid (∀ b, W0.heap.size ≤ b → P b) := fun b hb => hPn b (Nat.le_trans hx0.size hb)
  have HND := Lib.hid hnd
  have hfa := hrel.facts
  have hgd := hrel.good
  have hlo := hgd.low
  have hhi := hgd.high
  have hvl : vs.length ≤ 61 := by omega
  have HLEN : Hid (vs.length = V.length) := hfa.1
  have HVL : Hid (V.length ≤ 1000) := by show _ ≤ _; omega
  have HBL : Hid (bs.length ≤ 1000) := by show _ ≤ _; omega
  obtain ⟨l1, hl1⟩ : ∃ l1, l1 = l + 1 := ⟨_, rfl⟩
  have rl1 : IntKind.i64.wrap (l + 1) = l1 := by rw [IntWalk.i64_in _ (by omega)]; omega
  have HW1 : Hid ((Lit.int .i64 l1).wf = true) := by show _ = true; simp [Lit.wf, IntKind.min, IntKind.max, IntKind.signed, IntKind.bits]; omega
  have HF1 : Hid (findV V l1 = none) := by show _ = _; rw [hl1]; exact hrel.off.1
  have HPM : Hid (pinsV V (-1) = 0) := hrel.off.2
  have HLT : Hid (∀ W, Below W0.heap.size W0 W → Calls Try.prog 40 #[.agg #[.slice VA vs.length VC, .slice BA bs.length BC]] W fun e w' => e = .returned (.int .i64 l) ∧ Ext W w') := fun W hb => by
    obtain ⟨t, p, hvs⟩ := hrel.last
    have hsl := (Sl.below HSL.out hb (Nat.le_refl _)).more hb.size
    have hl3 : vs.length = t.length + 1 := by rw [hvs, List.length_append]; rfl
    rw [hvs] at hsl
    have := r16Latest_any VA BA VC BC bs.length t ⟨l, p, bs.length⟩ W hsl (by omega)
    rw [← hvs] at this
    exact this
  have HW0 := Lib.hid hW0
  have HKP : Hid (∀ W, Below W0.heap.size W0 W → W.cell? ⟨w.heap.size, 0, none⟩ = some (.map (some b0)) ∧ W.cell? ⟨w.heap.size, 1, none⟩ = some (.int .i64 l) ∧ W.cell? ⟨w.heap.size + 1, 0, none⟩ = some (.slice VA vs.length VC) ∧ W.cell? ⟨w.heap.size + 1, 1, none⟩ = some (.slice BA bs.length BC)) := fun W hb => ⟨(HR1.out.up hb).cell 0, (HR1.out.up hb).cell 1, (HR2.out.up hb).cell 0, (HR2.out.up hb).cell 1⟩
  clear hst hrs hd0 hall hrel hPn hx0 hfa hgd hW0 hnd hlo hhi hl1
  go_enter Try.func23, Try.ntmps23
  go_upto_region 1 with (fail)
  rw [← HW0.out]
  clear HW0
  refine wp_region_held_drew (S := (fun w' => w'.cell? ⟨w.heap.size, 0, none⟩ = some (.map (some b0)) ∧ w'.cell? ⟨w.heap.size, 1, none⟩ = some (.int .i64 l) ∧ w'.cell? ⟨w.heap.size + 1, 0, none⟩ = some (.slice VA vs.length VC) ∧ w'.cell? ⟨w.heap.size + 1, 1, none⟩ = some (.slice BA bs.length BC))) (by kernel_rfl) (HKP.out W0.drew (Below.refl _ _).drew) (fun hHeld => ?_)
  refine takeOp (i := 0) (v := ?_) (some 16) rfl rfl (by kernel_rfl) (by kernel_rfl) (by kernel_rfl) (fun _ _ _ h => h) (Or.inl ⟨by rfl, ?_⟩) (by assumption) ?_
  rotate_left 1
  · (intro w0 hSw; (try dsimp only at hSw); go_simp; try (with_reducible rfl))
  try simp only [Act.put]
  try simp only [List.setIfInBounds_toArray]
  try simp only [List.set_cons_succ]
  try simp only [List.set_cons_zero]
  refine takeOp (i := 2) (v := ?_) (some 18) rfl rfl (by kernel_rfl) (by kernel_rfl) (by kernel_rfl) (fun _ _ _ h => h) (Or.inl ⟨by rfl, ?_⟩) (by assumption) ?_
  rotate_left 1
  · (intro w0 hSw; (try dsimp only at hSw); go_simp; try (with_reducible rfl))
  try simp only [Act.put]
  try simp only [List.setIfInBounds_toArray]
  try simp only [List.set_cons_succ]
  try simp only [List.set_cons_zero]
  refine wpAnyH_ready (rs := [1]) (by kernel_rfl) (by simp) ?_
  refine AllReadyH.cons rfl (fun K hK => ?_) AllReadyH.nil
  go_simp
  refine (snLatest_any (.map (some b0)) l W0.drew).mono ?_
  rintro e V1 ⟨rfl, hx⟩
  have HV1 : Hid (Below W0.heap.size W0 V1) := Below.undrew hx.below
  clear hx
  go_wp2_with fail
  refine hK.out _ _ (HKP.out V1 HV1.out) (fun hHeld => ?_)
  clear hK K
  try simp only [Act.put]
  try simp only [List.setIfInBounds_toArray]
  try simp only [List.set_cons_succ]
  try simp only [List.set_cons_zero]
  refine wpAnyH_ready (rs := [3]) (by kernel_rfl) (by simp) ?_
  refine AllReadyH.cons rfl (fun K hK => ?_) AllReadyH.nil
  go_simp
  refine (HLT.out V1 HV1.out).mono ?_
  rintro e V2 ⟨rfl, hx⟩
  have HV2 : Hid (Below W0.heap.size W0 V2) := Below.then HV1.out hx.below HV1.out.size
  clear hx
  go_wp2_with fail
  refine hK.out _ _ (HKP.out V2 HV2.out) (fun hHeld => ?_)
  clear hK K
  try simp only [Act.put]
  try simp only [List.setIfInBounds_toArray]
  try simp only [List.set_cons_succ]
  try simp only [List.set_cons_zero]
  refine takeOp (i := 4) (v := ?_) (some 20) rfl rfl (by kernel_rfl) (by kernel_rfl) (by kernel_rfl) (fun _ _ _ h => h) (Or.inl ⟨by rfl, ?_⟩) (by assumption) ?_
  rotate_left 1
  · (intro w0 hSw; (try dsimp only at hSw); go_simp; try (with_reducible rfl))
  try simp only [Act.put]
  try simp only [List.setIfInBounds_toArray]
  try simp only [List.set_cons_succ]
  try simp only [List.set_cons_zero]
  refine takeOp (i := 5) (v := ?_) (some 21) rfl rfl (by kernel_rfl) (by kernel_rfl) (by kernel_rfl) (fun _ _ _ h => h) (Or.inl ⟨by rfl, ?_⟩) (by assumption) ?_
  rotate_left 1
  · (intro w0 hSw; (try dsimp only at hSw); go_simp; try (with_reducible rfl))
  try simp only [Act.put]
  try simp only [List.setIfInBounds_toArray]
  try simp only [List.set_cons_succ]
  try simp only [List.set_cons_zero]
  refine takeOp (i := 6) (v := ?_) (some 22) rfl rfl (by kernel_rfl) (by kernel_rfl) (by kernel_rfl) (fun _ _ _ h => h) (Or.inl ⟨by rfl, ?_⟩) (by assumption) ?_
  rotate_left 1
  · (intro w0 hSw; (try dsimp only at hSw); go_simp; try (with_reducible rfl))
  try simp only [Act.put]
  try simp only [List.setIfInBounds_toArray]
  try simp only [List.set_cons_succ]
  try simp only [List.set_cons_zero]
  refine takeOp (i := 9) (v := ?_) (some 25) rfl rfl (by kernel_rfl) (by kernel_rfl) (by kernel_rfl) (fun _ _ _ h => h) (Or.inl ⟨by rfl, ?_⟩) (by assumption) ?_
  rotate_left 1
  · (intro w0 hSw; (try dsimp only at hSw); go_simp; try (with_reducible rfl))
  try simp only [Act.put]
  try simp only [List.setIfInBounds_toArray]
  try simp only [List.set_cons_succ]
  try simp only [List.set_cons_zero]
  refine takeOp (i := 10) (v := ?_) (some 26) rfl rfl (by kernel_rfl) (by kernel_rfl) (by kernel_rfl) (fun _ _ _ h => h) (Or.inl ⟨by rfl, ?_⟩) (by assumption) ?_
  rotate_left 1
  · (intro w0 hSw; (try dsimp only at hSw); go_simp; try (with_reducible rfl))
  try simp only [Act.put]
  try simp only [List.setIfInBounds_toArray]
  try simp only [List.set_cons_succ]
  try simp only [List.set_cons_zero]
  refine takeOp (i := 11) (v := ?_) (some 27) rfl rfl (by kernel_rfl) (by kernel_rfl) (by kernel_rfl) (fun _ _ _ h => h) (Or.inl ⟨by rfl, ?_⟩) (by assumption) ?_
  rotate_left 1
  · (intro w0 hSw; (try dsimp only at hSw); go_simp; try (with_reducible rfl))
  try simp only [Act.put]
  try simp only [List.setIfInBounds_toArray]
  try simp only [List.set_cons_succ]
  try simp only [List.set_cons_zero]
  refine wpAnyH_ready (rs := [7]) (by kernel_rfl) (by simp) ?_
  refine AllReadyH.cons rfl (fun K hK => ?_) AllReadyH.nil
  go_simp
  refine (snVersions_sl (l := l) (HST.out.up HV2.out) HVL.out).mono ?_
  rintro e V3 ⟨A3, C3, rfl, -, hb⟩
  have HV3 : Hid (Below W0.heap.size W0 V3) := Below.then HV2.out hb HV2.out.size
  rw [← HLEN.out]
  clear hb
  go_wp2_with fail
  refine hK.out _ _ (HKP.out V3 HV3.out) (fun hHeld => ?_)
  clear hK K
  try simp only [Act.put]
  try simp only [List.setIfInBounds_toArray]
  try simp only [List.set_cons_succ]
  try simp only [List.set_cons_zero]
  refine takeOp (i := 8) (v := ?_) (some 24) rfl rfl (by kernel_rfl) (by kernel_rfl) (by kernel_rfl) (fun _ _ _ h => h) (Or.inl ⟨by rfl, ?_⟩) (by assumption) ?_
  rotate_left 1
  · (intro w0 hSw; (try dsimp only at hSw); go_simp; try (with_reducible rfl))
  try simp only [Act.put]
  try simp only [List.setIfInBounds_toArray]
  try simp only [List.set_cons_succ]
  try simp only [List.set_cons_zero]
  refine takeOp (i := 12) (v := ?_) (some 28) rfl rfl (by kernel_rfl) (by kernel_rfl) (by kernel_rfl) (fun _ _ _ h => h) (Or.inl ⟨by rfl, ?_⟩) (by assumption) ?_
  rotate_left 1
  · (intro w0 hSw; (try dsimp only at hSw); go_simp; try (with_reducible rfl))
  try simp only [Act.put]
  try simp only [List.setIfInBounds_toArray]
  try simp only [List.set_cons_succ]
  try simp only [List.set_cons_zero]
  refine takeOp (i := 13) (v := ?_) (some 29) rfl rfl (by kernel_rfl) (by kernel_rfl) (by kernel_rfl) (fun _ _ _ h => h) (Or.inl ⟨by rfl, ?_⟩) (by assumption) ?_
  rotate_left 1
  · (intro w0 hSw; (try dsimp only at hSw); go_simp; try (with_reducible rfl))
  try simp only [Act.put]
  try simp only [List.setIfInBounds_toArray]
  try simp only [List.set_cons_succ]
  try simp only [List.set_cons_zero]
  refine wpAnyH_done (by kernel_rfl) ?_ _
  clear HV1 HV2 hHeld
  go_wp2_with fail
  go_loopw [7] (fun c wx => ∃ k : Nat, k ≤ vs.length ∧ c = .int .i64 k ∧ Below W0.heap.size W0 wx) (fun c _ => vs.length - (intOf c).toNat)
  case atStart => exact ⟨0, Nat.zero_le _, rfl, HV3.out⟩
  case round =>
    obtain ⟨k, hk, rfl, hbr⟩ := hrel
    have HBR := Lib.hid hbr
    have hkp := HKP.out wr hbr
    have t0 := hkp.2.2.1
    have t1 := (HR2.out.up hbr).lt
    have s0 := hkp.1
    have s1 := hkp.2.1
    have s2 := (HR1.out.up hbr).lt
    clear hbr hkp
    by_cases hkl : k < vs.length
    · have r0 : (0 : Int) ≤ (k : Int) := by omega
      have r1 : (k : Int) < (vs.length : Int) := by omega
      have r3 : IntKind.i64.wrap ((k : Int) + 1) = ((k + 1 : Nat) : Int) := by rw [IntWalk.i64_in _ (by omega)]; omega
      have HVK : Hid (vs[k] ∈ vs) := List.getElem_mem hkl
      have HFV := Lib.hid (HREL.out.findAt hkl)
      have HVN : Hid ((V.map (·.num))[k]? = some vs[k].num) := by
        show _ = _
        rw [HREL.out.ver, List.map_map, List.getElem?_map, List.getElem?_eq_getElem hkl]
        rfl
      have HWF : Hid ((Lit.int .i64 vs[k].num).wf = true) := by
        have hmem : verR X bs vs[k] ∈ V := by rw [HREL.out.ver]; exact List.mem_map.2 ⟨vs[k], HVK.out, rfl⟩
        exact HST.out.wf (verR X bs vs[k]) hmem
      have hbat : vs[k].bat ≤ bs.length := HREL.out.bat _ HVK.out
      obtain ⟨b, o, rfl, hb, c0, c1, c2⟩ := rvs_at HSL.out hkl
      have HUPD : Hid (∀ W, Below W0.heap.size W0 W → Calls Try.prog 41 #[.agg #[.slice (some ⟨b, o, none⟩) vs.length VC, .slice BA bs.length BC], .int .i64 vs[k].num] W (UpsPost (bs.take vs[k].bat).flatten W)) := fun W hW =>
        r16Updates_any _ vs bs _ W (HRS.out.up hW).plain (by omega) HBL.out (fun us hu => (HREL.out.us us hu).1) vs[k] HFV.out.1 hbat
      have HAZ := Lib.hid (HREL.out.applyAt vs[k].bat)
      have HULE := Lib.hid (HREL.out.updLen vs[k].bat)
      have HUO := Lib.hid (HREL.out.updOk vs[k].bat)
      have HUD : Hid ((applyF X cont0 0 (bs.take vs[k].bat).flatten).2.1 = dbR X bs vs[k].bat) := rfl
      clear hbat HVK
      generalize vs[k] = r at *
      obtain ⟨rn, rp, rb⟩ := r
      obtain ⟨U, hU⟩ : ∃ U, U = (bs.take rb).flatten := ⟨_, rfl⟩
      have c0 : W0.cell? ⟨b, o + k * 3, none⟩ = some (.int .i64 rn) := c0
      have c1 : W0.cell? ⟨b, o + k * 3 + 1, none⟩ = some (.int .i64 rp) := c1
      have HFV : Hid (findV V rn = some ⟨rn, dbR X bs rb, rp⟩) := HFV.out.2
      have HVN : Hid ((V.map (·.num))[k]? = some rn) := HVN.out
      have HWF : Hid ((Lit.int .i64 rn).wf = true) := HWF.out
      have HUPD : Hid (∀ W, Below W0.heap.size W0 W → Calls Try.prog 41 #[.agg #[.slice (some ⟨b, o, none⟩) vs.length VC, .slice BA bs.length BC], .int .i64 rn] W (UpsPost (bs.take rb).flatten W)) := HUPD.out
      have HAZ : Hid ((applyF X cont0 0 (bs.take rb).flatten).1 = 0) := HAZ.out
      have HULE : Hid ((bs.take rb).flatten.length ≤ 1000000) := by
        have := HULE.out
        have h2 : B * 12 ≤ 720 := by omega
        have h3 : (bs.take rb).flatten.length ≤ B * 12 := this
        show _ ≤ _
        omega
      have HUO : Hid (∀ u ∈ (bs.take rb).flatten, UpdOk u) := HUO.out
      have HUD : Hid ((applyF X cont0 0 (bs.take rb).flatten).2.1 = dbR X bs rb) := HUD.out
      rw [← hU] at HUPD HAZ HULE HUO HUD
      clear hU
      have HPV : Hid (pinsV V rn = rp) := by show _ = _; unfold pinsV; rw [HFV.out]
      have HCC := Lib.hid (fun W (hW : Below W0.heap.size W0 W) => (hW.cell (p := ⟨b, o + k * 3 + 1, none⟩) hb).trans c1)
      have c0 := (HBR.out.cell (p := ⟨b, o + k * 3, none⟩) hb).trans c0
      have hbz : b < wr.heap.size := Nat.lt_of_lt_of_le hb HBR.out.size
      have HBZ := Lib.hid hb
      clear c1 c2 hb
      go_wp2_with fail
      refine (snAt_all (l := l) (n := rn) (HST.out.up HBR.out) HWF.out).mono ?_
      rintro e w6 ⟨-, hat, hx6⟩
      obtain ⟨bd, rfl, hd6⟩ := hat _ HFV.out
      obtain ⟨g9, hg9⟩ : ∃ g, g = w6.heap.size := ⟨_, rfl⟩
      obtain ⟨wk, hwk⟩ : ∃ W, W = w6.alloc (.cells #[.map (some bd)] 25) := ⟨_, rfl⟩
      have hx7 : Ext w6 wk := by rw [hwk]; exact (Ext.refl w6).alloc _
      have HG9R : Hid (Row wk g9 25 [.map (some bd)]) := by show Row _ _ _ _; rw [hwk, hg9]; exact Row.new w6 25 _
      have hb6 := Below.then hx6.below hx7.below hx6.size
      have HD6 : Hid (DbM P X wk (.map (some bd)) (dbR X bs rb)) := hd6.up hb6
      have HBK := Lib.hid (Below.then HBR.out hb6 HBR.out.size)
      have HSS : Hid (∀ W, Below wk.heap.size wk W → W.cell? ⟨w.heap.size + 2, 0, none⟩ = some (.map (some bz)) ∧ W.cell? ⟨w.heap.size + 1, 0, none⟩ = some (.slice (some ⟨b, o, none⟩) vs.length VC) ∧ W.cell? ⟨w.heap.size + 1, 1, none⟩ = some (.slice BA bs.length BC)) := fun W hW => by
        have h := Below.then HBK.out hW HBK.out.size
        exact ⟨(HR3.out.up h).cell 0, (HR2.out.up h).cell 0, (HR2.out.up h).cell 1⟩
      have HWK := Lib.hid hwk
      have HG9 := Lib.hid hg9
      clear hat hx6 hd6 hg9 hwk hx7 hb6 t0 t1 s0 s1 s2 c0 hbz
      go_upto_region 8 with (fail)
      rw [← HWK.out, ← HG9.out]
      clear HWK HG9
      go_cut [11, 12, 13] from 49 to 57 (fun vp vc ve wx => ∃ g be cn, vp = .pointer (some ⟨g, 0, none⟩) ∧ vc = .int .i64 cn ∧ ve = .int .i64 0 ∧ wk.heap.size ≤ g ∧ Row wx g 25 [.map (some be)] ∧ DbM P X wx (.map (some be)) (dbR X bs rb) ∧ Below wk.heap.size wk wx)
      case first =>
          refine wp_region_held_drew (S := (fun w' => w'.cell? ⟨w.heap.size + 2, 0, none⟩ = some (.map (some bz)) ∧ w'.cell? ⟨w.heap.size + 1, 0, none⟩ = some (.slice (some ⟨b, o, none⟩) vs.length VC) ∧ w'.cell? ⟨w.heap.size + 1, 1, none⟩ = some (.slice BA bs.length BC))) (by kernel_rfl) (HSS.out wk.drew (Below.refl _ _).drew) (fun hHeld => ?_)
          obtain ⟨V0, hV0⟩ : ∃ V, V = wk.drew := ⟨_, rfl⟩
          have HV : Hid (Below wk.heap.size wk V0) := by show Below _ _ _; rw [hV0]; exact ((Ext.refl wk).drew).below
          rw [← hV0]
          clear hV0
          have hHeld0 : V0.cell? ⟨w.heap.size + 2, 0, none⟩ = some (.map (some bz)) ∧ V0.cell? ⟨w.heap.size + 1, 0, none⟩ = some (.slice (some ⟨b, o, none⟩) vs.length VC) ∧ V0.cell? ⟨w.heap.size + 1, 1, none⟩ = some (.slice BA bs.length BC) := HSS.out V0 HV.out
          refine takeOp (i := 0) (v := ?_) (some 50) rfl rfl (by kernel_rfl) (by kernel_rfl) (by kernel_rfl) (fun _ _ _ h => h) (Or.inl ⟨by rfl, ?_⟩) (by assumption) ?_
          rotate_left 1
          · (intro w0 hSw; (try dsimp only at hSw); go_simp; try (with_reducible rfl))
          try simp only [Act.put]
          try simp only [List.setIfInBounds_toArray]
          try simp only [List.set_cons_succ]
          try simp only [List.set_cons_zero]
          refine takeOp (i := 1) (v := ?_) (some 51) rfl rfl (by kernel_rfl) (by kernel_rfl) (by kernel_rfl) (fun _ _ _ h => h) (Or.inl ⟨by rfl, ?_⟩) (by assumption) ?_
          rotate_left 1
          · (intro w0 hSw; (try dsimp only at hSw); go_simp; try (with_reducible rfl))
          try simp only [Act.put]
          try simp only [List.setIfInBounds_toArray]
          try simp only [List.set_cons_succ]
          try simp only [List.set_cons_zero]
          refine takeOp (i := 2) (v := ?_) (some 52) rfl rfl (by kernel_rfl) (by kernel_rfl) (by kernel_rfl) (fun _ _ _ h => h) (Or.inl ⟨by rfl, ?_⟩) (by assumption) ?_
          rotate_left 1
          · (intro w0 hSw; (try dsimp only at hSw); go_simp; try (with_reducible rfl))
          try simp only [Act.put]
          try simp only [List.setIfInBounds_toArray]
          try simp only [List.set_cons_succ]
          try simp only [List.set_cons_zero]
          refine wpAnyH_ready (rs := [3, 9]) (by kernel_rfl) (by simp) ?_
          refine (AllReadyH.cons rfl (fun K hK => ?_) (AllReadyH.cons rfl (fun K hK => ?_) AllReadyH.nil))
          · go_simp
            refine (HUPD.out V0 (Below.then HBK.out HV.out HBK.out.size)).mono ?_
            rintro e V1 ⟨A3, C3, rfl, hu, hb⟩
            have HU := Lib.hid hu
            have HV := Lib.hid (Below.then HV.out hb HV.out.size)
            clear hu hb
            go_wp2_with fail
            refine hK.out _ _ (HSS.out V1 HV.out) (fun hHeld => ?_)
            clear hK K
            try simp only [Act.put]
            try simp only [List.setIfInBounds_toArray]
            try simp only [List.set_cons_succ]
            try simp only [List.set_cons_zero]
            refine wpAnyH_ready (rs := [4, 9]) (by kernel_rfl) (by simp) ?_
            refine (AllReadyH.cons rfl (fun K hK => ?_) (AllReadyH.cons rfl (fun K hK => ?_) AllReadyH.nil))
            · go_simp
              refine (ctApply_any P X _ cont0 A3 C3 U V1 (HD0.out.up (Below.then HBK.out HV.out HBK.out.size)) (fun b hb => HPN.out b (by have h1 := HV.out.size; have h2 := HBK.out.size; omega)) HU.out HUO.out (Nat.le_trans HULE.out (by decide)) (Nat.le_trans hXl (by decide))).mono ?_
              rintro e V2 ⟨h1, -, hb⟩
              obtain ⟨mm, rfl, hd⟩ := h1 HAZ.out
              obtain ⟨be, rfl⟩ := hd.form
              rw [HUD.out] at hd
              have HD := Lib.hid hd
              have HV := Lib.hid (Below.then HV.out hb HV.out.size)
              clear h1 hb hd
              go_wp2_with fail
              refine hK.out _ _ (HSS.out V2 HV.out) (fun hHeld => ?_)
              clear hK K
              try simp only [Act.put]
              try simp only [List.setIfInBounds_toArray]
              try simp only [List.set_cons_succ]
              try simp only [List.set_cons_zero]
              refine takeOp (i := 5) (v := ?_) (some 49) rfl rfl (by kernel_rfl) (by kernel_rfl) (by kernel_rfl) (fun _ _ _ h => h) (Or.inl ⟨by rfl, ?_⟩) (by assumption) ?_
              rotate_left 1
              · (intro w0 hSw; (try dsimp only at hSw); go_simp; try (with_reducible rfl))
              try simp only [Act.put]
              try simp only [List.setIfInBounds_toArray]
              try simp only [List.set_cons_succ]
              try simp only [List.set_cons_zero]
              refine takeOp (i := 6) (v := ?_) (some 55) rfl rfl (by kernel_rfl) (by kernel_rfl) (by kernel_rfl) (fun _ _ _ h => h) (Or.inl ⟨by rfl, ?_⟩) (by assumption) ?_
              rotate_left 1
              · (intro w0 hSw; (try dsimp only at hSw); go_simp; try (with_reducible rfl))
              try simp only [Act.put]
              try simp only [List.setIfInBounds_toArray]
              try simp only [List.set_cons_succ]
              try simp only [List.set_cons_zero]
              refine takeOp (i := 7) (v := ?_) (some 56) rfl rfl (by kernel_rfl) (by kernel_rfl) (by kernel_rfl) (fun _ _ _ h => h) (Or.inl ⟨by rfl, ?_⟩) (by assumption) ?_
              rotate_left 1
              · (intro w0 hSw; (try dsimp only at hSw); go_simp; try (with_reducible rfl))
              try simp only [Act.put]
              try simp only [List.setIfInBounds_toArray]
              try simp only [List.set_cons_succ]
              try simp only [List.set_cons_zero]
              refine takeOp (i := 8) (v := ?_) (some 57) rfl rfl (by kernel_rfl) (by kernel_rfl) (by kernel_rfl) (fun _ _ _ h => h) (Or.inl ⟨by rfl, ?_⟩) (by assumption) ?_
              rotate_left 1
              · (intro w0 hSw; (try dsimp only at hSw); go_simp; try (with_reducible rfl))
              try simp only [Act.put]
              try simp only [List.setIfInBounds_toArray]
              try simp only [List.set_cons_succ]
              try simp only [List.set_cons_zero]
              refine wpAnyH_ready (rs := [9]) (by kernel_rfl) (by simp) ?_
              refine (AllReadyH.cons rfl (fun K hK => ?_) AllReadyH.nil)
              go_simp
              obtain ⟨V3, hV⟩ : ∃ V', V' = V2.alloc (.cells #[.map none] 25) := ⟨_, rfl⟩
              rw [← hV]
              have hx : Ext V2 V3 := by rw [hV]; exact (Ext.refl V2).alloc _
              have HGR : Hid (Row V3 V2.heap.size 25 [.map none]) := by show Row _ _ _ _; rw [hV]; exact Row.new V2 25 _
              have HGZ := Lib.hid HV.out.size
              have HD := Lib.hid (HD.out.but (Nat.le_refl _))
              have HD := Lib.hid (HD.out.up hx.below)
              have HG := HGR
              have HV := Lib.hid (Below.then HV.out hx.below HV.out.size)
              clear hx hV HGR
              refine hK.out _ _ (HSS.out V3 HV.out) (fun hHeld => ?_)
              clear hK K
              try simp only [Act.put]
              try simp only [List.setIfInBounds_toArray]
              try simp only [List.set_cons_succ]
              try simp only [List.set_cons_zero]
              refine wpAnyH_ready (rs := [10]) (by kernel_rfl) (by simp) ?_
              refine (AllReadyH.cons rfl (fun K hK => ?_) AllReadyH.nil)
              have m0 : V3.cell? ⟨V2.heap.size, 0, none⟩ = some (.map none) := HG.out.cell 0
              have m2 := HG.out.frozen 0
              have m4 := HG.out.lt
              go_simp
              obtain ⟨V4, hV⟩ : ∃ V', V' = V3.setCell ⟨V2.heap.size, 0, none⟩ (.map (some be)) := ⟨_, rfl⟩
              rw [← hV]
              have HG : Hid (Row V4 V2.heap.size 25 [(.map (some be))]) := by show Row _ _ _ _; rw [hV]; exact HG.out.set 0 _
              have HD : Hid (DbM (fun b => P b ∧ b ≠ V2.heap.size) X V4 (.map (some be)) (dbR X bs rb)) := by show DbM _ _ _ _ _; rw [hV]; exact HD.out.keep (Stay.set (fun h => h.2 rfl) _ _)
              have HV : Hid (Below wk.heap.size wk V4) := by show Below _ _ _; rw [hV]; exact HV.out.setCell HGZ.out _
              clear m0 m2 m4 hV
              refine hK.out _ _ (HSS.out V4 HV.out) (fun hHeld => ?_)
              clear hK K
              try simp only [Act.put]
              try simp only [List.setIfInBounds_toArray]
              try simp only [List.set_cons_succ]
              try simp only [List.set_cons_zero]
              refine takeOp (i := 11) (v := ?_) (some 12) rfl rfl (by kernel_rfl) (by kernel_rfl) (by kernel_rfl) (fun _ _ _ h => h) (Or.inl ⟨by rfl, ?_⟩) (by assumption) ?_
              rotate_left 1
              · (intro w0 hSw; (try dsimp only at hSw); go_simp; try (with_reducible rfl))
              try simp only [Act.put]
              try simp only [List.setIfInBounds_toArray]
              try simp only [List.set_cons_succ]
              try simp only [List.set_cons_zero]
              refine takeOp (i := 12) (v := ?_) (some 13) rfl rfl (by kernel_rfl) (by kernel_rfl) (by kernel_rfl) (fun _ _ _ h => h) (Or.inl ⟨by rfl, ?_⟩) (by assumption) ?_
              rotate_left 1
              · (intro w0 hSw; (try dsimp only at hSw); go_simp; try (with_reducible rfl))
              try simp only [Act.put]
              try simp only [List.setIfInBounds_toArray]
              try simp only [List.set_cons_succ]
              try simp only [List.set_cons_zero]
              refine wpAnyH_done (by kernel_rfl) ?_ _
              go_wp2_with fail
              go_meet
              case rel => exact ⟨V2.heap.size, be, _, rfl, rfl, rfl, HGZ.out, HG.out, HD.out.weak (fun b _ hp => hp.1), HV.out⟩
            · go_simp
              obtain ⟨V2, hV⟩ : ∃ V', V' = V1.alloc (.cells #[.map none] 25) := ⟨_, rfl⟩
              rw [← hV]
              have hx : Ext V1 V2 := by rw [hV]; exact (Ext.refl V1).alloc _
              have HGR : Hid (Row V2 V1.heap.size 25 [.map none]) := by show Row _ _ _ _; rw [hV]; exact Row.new V1 25 _
              have HGZ := Lib.hid HV.out.size
              have HU := Lib.hid ((HU.out.below hx.below (Nat.le_refl _)).more hx.below.size)
              have HG := HGR
              have HV := Lib.hid (Below.then HV.out hx.below HV.out.size)
              clear hx hV HGR
              refine hK.out _ _ (HSS.out V2 HV.out) (fun hHeld => ?_)
              clear hK K
              try simp only [Act.put]
              try simp only [List.setIfInBounds_toArray]
              try simp only [List.set_cons_succ]
              try simp only [List.set_cons_zero]
              refine wpAnyH_ready (rs := [4]) (by kernel_rfl) (by simp) ?_
              refine (AllReadyH.cons rfl (fun K hK => ?_) AllReadyH.nil)
              go_simp
              refine (ctApply_any (fun b => P b ∧ b ≠ V1.heap.size) X _ cont0 A3 C3 U V2 ((HD0.out.weak (P' := (fun b => P b ∧ b ≠ V1.heap.size)) fun b hb hp => ⟨hp, by have h1 := HGZ.out; have h2 := HBK.out.size; omega⟩).up (Below.then HBK.out HV.out HBK.out.size)) (fun b hb => ⟨HPN.out b (by have h1 := HV.out.size; have h2 := HBK.out.size; omega), by have := HG.out.lt; omega⟩) HU.out HUO.out (Nat.le_trans HULE.out (by decide)) (Nat.le_trans hXl (by decide))).mono ?_
              rintro e V3 ⟨h1, -, hb⟩
              obtain ⟨mm, rfl, hd⟩ := h1 HAZ.out
              obtain ⟨be, rfl⟩ := hd.form
              rw [HUD.out] at hd
              have HD := Lib.hid hd
              have HG := Lib.hid (HG.out.up hb)
              have HV := Lib.hid (Below.then HV.out hb HV.out.size)
              clear h1 hb hd
              go_wp2_with fail
              refine hK.out _ _ (HSS.out V3 HV.out) (fun hHeld => ?_)
              clear hK K
              try simp only [Act.put]
              try simp only [List.setIfInBounds_toArray]
              try simp only [List.set_cons_succ]
              try simp only [List.set_cons_zero]
              refine takeOp (i := 5) (v := ?_) (some 49) rfl rfl (by kernel_rfl) (by kernel_rfl) (by kernel_rfl) (fun _ _ _ h => h) (Or.inl ⟨by rfl, ?_⟩) (by assumption) ?_
              rotate_left 1
              · (intro w0 hSw; (try dsimp only at hSw); go_simp; try (with_reducible rfl))
              try simp only [Act.put]
              try simp only [List.setIfInBounds_toArray]
              try simp only [List.set_cons_succ]
              try simp only [List.set_cons_zero]
              refine takeOp (i := 6) (v := ?_) (some 55) rfl rfl (by kernel_rfl) (by kernel_rfl) (by kernel_rfl) (fun _ _ _ h => h) (Or.inl ⟨by rfl, ?_⟩) (by assumption) ?_
              rotate_left 1
              · (intro w0 hSw; (try dsimp only at hSw); go_simp; try (with_reducible rfl))
              try simp only [Act.put]
              try simp only [List.setIfInBounds_toArray]
              try simp only [List.set_cons_succ]
              try simp only [List.set_cons_zero]
              refine takeOp (i := 7) (v := ?_) (some 56) rfl rfl (by kernel_rfl) (by kernel_rfl) (by kernel_rfl) (fun _ _ _ h => h) (Or.inl ⟨by rfl, ?_⟩) (by assumption) ?_
              rotate_left 1
              · (intro w0 hSw; (try dsimp only at hSw); go_simp; try (with_reducible rfl))
              try simp only [Act.put]
              try simp only [List.setIfInBounds_toArray]
              try simp only [List.set_cons_succ]
              try simp only [List.set_cons_zero]
              refine takeOp (i := 8) (v := ?_) (some 57) rfl rfl (by kernel_rfl) (by kernel_rfl) (by kernel_rfl) (fun _ _ _ h => h) (Or.inl ⟨by rfl, ?_⟩) (by assumption) ?_
              rotate_left 1
              · (intro w0 hSw; (try dsimp only at hSw); go_simp; try (with_reducible rfl))
              try simp only [Act.put]
              try simp only [List.setIfInBounds_toArray]
              try simp only [List.set_cons_succ]
              try simp only [List.set_cons_zero]
              refine wpAnyH_ready (rs := [10]) (by kernel_rfl) (by simp) ?_
              refine (AllReadyH.cons rfl (fun K hK => ?_) AllReadyH.nil)
              have m0 : V3.cell? ⟨V1.heap.size, 0, none⟩ = some (.map none) := HG.out.cell 0
              have m2 := HG.out.frozen 0
              have m4 := HG.out.lt
              go_simp
              obtain ⟨V4, hV⟩ : ∃ V', V' = V3.setCell ⟨V1.heap.size, 0, none⟩ (.map (some be)) := ⟨_, rfl⟩
              rw [← hV]
              have HG : Hid (Row V4 V1.heap.size 25 [(.map (some be))]) := by show Row _ _ _ _; rw [hV]; exact HG.out.set 0 _
              have HD : Hid (DbM (fun b => P b ∧ b ≠ V1.heap.size) X V4 (.map (some be)) (dbR X bs rb)) := by show DbM _ _ _ _ _; rw [hV]; exact HD.out.keep (Stay.set (fun h => h.2 rfl) _ _)
              have HV : Hid (Below wk.heap.size wk V4) := by show Below _ _ _; rw [hV]; exact HV.out.setCell HGZ.out _
              clear m0 m2 m4 hV
              refine hK.out _ _ (HSS.out V4 HV.out) (fun hHeld => ?_)
              clear hK K
              try simp only [Act.put]
              try simp only [List.setIfInBounds_toArray]
              try simp only [List.set_cons_succ]
              try simp only [List.set_cons_zero]
              refine takeOp (i := 11) (v := ?_) (some 12) rfl rfl (by kernel_rfl) (by kernel_rfl) (by kernel_rfl) (fun _ _ _ h => h) (Or.inl ⟨by rfl, ?_⟩) (by assumption) ?_
              rotate_left 1
              · (intro w0 hSw; (try dsimp only at hSw); go_simp; try (with_reducible rfl))
              try simp only [Act.put]
              try simp only [List.setIfInBounds_toArray]
              try simp only [List.set_cons_succ]
              try simp only [List.set_cons_zero]
              refine takeOp (i := 12) (v := ?_) (some 13) rfl rfl (by kernel_rfl) (by kernel_rfl) (by kernel_rfl) (fun _ _ _ h => h) (Or.inl ⟨by rfl, ?_⟩) (by assumption) ?_
              rotate_left 1
              · (intro w0 hSw; (try dsimp only at hSw); go_simp; try (with_reducible rfl))
              try simp only [Act.put]
              try simp only [List.setIfInBounds_toArray]
              try simp only [List.set_cons_succ]
              try simp only [List.set_cons_zero]
              refine wpAnyH_done (by kernel_rfl) ?_ _
              go_wp2_with fail
              go_meet
              case rel => exact ⟨V1.heap.size, be, _, rfl, rfl, rfl, HGZ.out, HG.out, HD.out.weak (fun b _ hp => hp.1), HV.out⟩
          · go_simp
            obtain ⟨V1, hV⟩ : ∃ V', V' = V0.alloc (.cells #[.map none] 25) := ⟨_, rfl⟩
            rw [← hV]
            have hx : Ext V0 V1 := by rw [hV]; exact (Ext.refl V0).alloc _
            have HGR : Hid (Row V1 V0.heap.size 25 [.map none]) := by show Row _ _ _ _; rw [hV]; exact Row.new V0 25 _
            have HGZ := Lib.hid HV.out.size
            have HG := HGR
            have HV := Lib.hid (Below.then HV.out hx.below HV.out.size)
            clear hx hV HGR
            refine hK.out _ _ (HSS.out V1 HV.out) (fun hHeld => ?_)
            clear hK K
            try simp only [Act.put]
            try simp only [List.setIfInBounds_toArray]
            try simp only [List.set_cons_succ]
            try simp only [List.set_cons_zero]
            refine wpAnyH_ready (rs := [3]) (by kernel_rfl) (by simp) ?_
            refine (AllReadyH.cons rfl (fun K hK => ?_) AllReadyH.nil)
            go_simp
            refine (HUPD.out V1 (Below.then HBK.out HV.out HBK.out.size)).mono ?_
            rintro e V2 ⟨A3, C3, rfl, hu, hb⟩
            have HU := Lib.hid hu
            have HG := Lib.hid (HG.out.up hb)
            have HV := Lib.hid (Below.then HV.out hb HV.out.size)
            clear hu hb
            go_wp2_with fail
            refine hK.out _ _ (HSS.out V2 HV.out) (fun hHeld => ?_)
            clear hK K
            try simp only [Act.put]
            try simp only [List.setIfInBounds_toArray]
            try simp only [List.set_cons_succ]
            try simp only [List.set_cons_zero]
            refine wpAnyH_ready (rs := [4]) (by kernel_rfl) (by simp) ?_
            refine (AllReadyH.cons rfl (fun K hK => ?_) AllReadyH.nil)
            go_simp
            refine (ctApply_any (fun b => P b ∧ b ≠ V0.heap.size) X _ cont0 A3 C3 U V2 ((HD0.out.weak (P' := (fun b => P b ∧ b ≠ V0.heap.size)) fun b hb hp => ⟨hp, by have h1 := HGZ.out; have h2 := HBK.out.size; omega⟩).up (Below.then HBK.out HV.out HBK.out.size)) (fun b hb => ⟨HPN.out b (by have h1 := HV.out.size; have h2 := HBK.out.size; omega), by have := HG.out.lt; omega⟩) HU.out HUO.out (Nat.le_trans HULE.out (by decide)) (Nat.le_trans hXl (by decide))).mono ?_
            rintro e V3 ⟨h1, -, hb⟩
            obtain ⟨mm, rfl, hd⟩ := h1 HAZ.out
            obtain ⟨be, rfl⟩ := hd.form
            rw [HUD.out] at hd
            have HD := Lib.hid hd
            have HG := Lib.hid (HG.out.up hb)
            have HV := Lib.hid (Below.then HV.out hb HV.out.size)
            clear h1 hb hd
            go_wp2_with fail
            refine hK.out _ _ (HSS.out V3 HV.out) (fun hHeld => ?_)
            clear hK K
            try simp only [Act.put]
            try simp only [List.setIfInBounds_toArray]
            try simp only [List.set_cons_succ]
            try simp only [List.set_cons_zero]
            refine takeOp (i := 5) (v := ?_) (some 49) rfl rfl (by kernel_rfl) (by kernel_rfl) (by kernel_rfl) (fun _ _ _ h => h) (Or.inl ⟨by rfl, ?_⟩) (by assumption) ?_
            rotate_left 1
            · (intro w0 hSw; (try dsimp only at hSw); go_simp; try (with_reducible rfl))
            try simp only [Act.put]
            try simp only [List.setIfInBounds_toArray]
            try simp only [List.set_cons_succ]
            try simp only [List.set_cons_zero]
            refine takeOp (i := 6) (v := ?_) (some 55) rfl rfl (by kernel_rfl) (by kernel_rfl) (by kernel_rfl) (fun _ _ _ h => h) (Or.inl ⟨by rfl, ?_⟩) (by assumption) ?_
            rotate_left 1
            · (intro w0 hSw; (try dsimp only at hSw); go_simp; try (with_reducible rfl))
            try simp only [Act.put]
            try simp only [List.setIfInBounds_toArray]
            try simp only [List.set_cons_succ]
            try simp only [List.set_cons_zero]
            refine takeOp (i := 7) (v := ?_) (some 56) rfl rfl (by kernel_rfl) (by kernel_rfl) (by kernel_rfl) (fun _ _ _ h => h) (Or.inl ⟨by rfl, ?_⟩) (by assumption) ?_
            rotate_left 1
            · (intro w0 hSw; (try dsimp only at hSw); go_simp; try (with_reducible rfl))
            try simp only [Act.put]
            try simp only [List.setIfInBounds_toArray]
            try simp only [List.set_cons_succ]
            try simp only [List.set_cons_zero]
            refine takeOp (i := 8) (v := ?_) (some 57) rfl rfl (by kernel_rfl) (by kernel_rfl) (by kernel_rfl) (fun _ _ _ h => h) (Or.inl ⟨by rfl, ?_⟩) (by assumption) ?_
            rotate_left 1
            · (intro w0 hSw; (try dsimp only at hSw); go_simp; try (with_reducible rfl))
            try simp only [Act.put]
            try simp only [List.setIfInBounds_toArray]
            try simp only [List.set_cons_succ]
            try simp only [List.set_cons_zero]
            refine wpAnyH_ready (rs := [10]) (by kernel_rfl) (by simp) ?_
            refine (AllReadyH.cons rfl (fun K hK => ?_) AllReadyH.nil)
            have m0 : V3.cell? ⟨V0.heap.size, 0, none⟩ = some (.map none) := HG.out.cell 0
            have m2 := HG.out.frozen 0
            have m4 := HG.out.lt
            go_simp
            obtain ⟨V4, hV⟩ : ∃ V', V' = V3.setCell ⟨V0.heap.size, 0, none⟩ (.map (some be)) := ⟨_, rfl⟩
            rw [← hV]
            have HG : Hid (Row V4 V0.heap.size 25 [(.map (some be))]) := by show Row _ _ _ _; rw [hV]; exact HG.out.set 0 _
            have HD : Hid (DbM (fun b => P b ∧ b ≠ V0.heap.size) X V4 (.map (some be)) (dbR X bs rb)) := by show DbM _ _ _ _ _; rw [hV]; exact HD.out.keep (Stay.set (fun h => h.2 rfl) _ _)
            have HV : Hid (Below wk.heap.size wk V4) := by show Below _ _ _; rw [hV]; exact HV.out.setCell HGZ.out _
            clear m0 m2 m4 hV
            refine hK.out _ _ (HSS.out V4 HV.out) (fun hHeld => ?_)
            clear hK K
            try simp only [Act.put]
            try simp only [List.setIfInBounds_toArray]
            try simp only [List.set_cons_succ]
            try simp only [List.set_cons_zero]
            refine takeOp (i := 11) (v := ?_) (some 12) rfl rfl (by kernel_rfl) (by kernel_rfl) (by kernel_rfl) (fun _ _ _ h => h) (Or.inl ⟨by rfl, ?_⟩) (by assumption) ?_
            rotate_left 1
            · (intro w0 hSw; (try dsimp only at hSw); go_simp; try (with_reducible rfl))
            try simp only [Act.put]
            try simp only [List.setIfInBounds_toArray]
            try simp only [List.set_cons_succ]
            try simp only [List.set_cons_zero]
            refine takeOp (i := 12) (v := ?_) (some 13) rfl rfl (by kernel_rfl) (by kernel_rfl) (by kernel_rfl) (fun _ _ _ h => h) (Or.inl ⟨by rfl, ?_⟩) (by assumption) ?_
            rotate_left 1
            · (intro w0 hSw; (try dsimp only at hSw); go_simp; try (with_reducible rfl))
            try simp only [Act.put]
            try simp only [List.setIfInBounds_toArray]
            try simp only [List.set_cons_succ]
            try simp only [List.set_cons_zero]
            refine wpAnyH_done (by kernel_rfl) ?_ _
            go_wp2_with fail
            go_meet
            case rel => exact ⟨V0.heap.size, be, _, rfl, rfl, rfl, HGZ.out, HG.out, HD.out.weak (fun b _ hp => hp.1), HV.out⟩
      case rest =>
      obtain ⟨g11, be, cn, rfl, rfl, rfl, -, hg11, hd11, hbc⟩ := hcut
      have HD11 := Lib.hid hd11
      have HG11R := Lib.hid hg11
      have HG9C := Lib.hid (HG9R.out.up hbc)
      have HD9 := Lib.hid (HD6.out.up hbc)
      have HBC := Lib.hid (Below.then HBK.out hbc HBK.out.size)
      have HKP9 : Hid (∀ W, Below wc.heap.size wc W → W.cell? ⟨w.heap.size, 0, none⟩ = some (.map (some b0)) ∧ W.cell? ⟨w.heap.size, 1, none⟩ = some (.int .i64 l) ∧ W.cell? ⟨w.heap.size + 1, 0, none⟩ = some (.slice (some ⟨b, o, none⟩) vs.length VC) ∧ W.cell? ⟨b, o + k * 3 + 1, none⟩ = some (.int .i64 rp) ∧ W.cell? ⟨g9, 0, none⟩ = some (.map (some bd)) ∧ W.cell? ⟨g11, 0, none⟩ = some (.map (some be))) := fun W hW => by
        have h := Below.then HBC.out hW HBC.out.size
        exact ⟨(HR1.out.up h).cell 0, (HR1.out.up h).cell 1, (HR2.out.up h).cell 0, HCC.out W h, (HG9C.out.up hW).cell 0, (HG11R.out.up hW).cell 0⟩
      clear hg11 hd11 hbc HSS
      go_upto_region 9 with (fail)
      refine wp_region_held_drew (S := (fun w' => w'.cell? ⟨w.heap.size, 0, none⟩ = some (.map (some b0)) ∧ w'.cell? ⟨w.heap.size, 1, none⟩ = some (.int .i64 l) ∧ w'.cell? ⟨w.heap.size + 1, 0, none⟩ = some (.slice (some ⟨b, o, none⟩) vs.length VC) ∧ w'.cell? ⟨b, o + k * 3 + 1, none⟩ = some (.int .i64 rp) ∧ w'.cell? ⟨g9, 0, none⟩ = some (.map (some bd)) ∧ w'.cell? ⟨g11, 0, none⟩ = some (.map (some be)))) (by kernel_rfl) (HKP9.out wc.drew (Below.refl _ _).drew) (fun hHeld => ?_)
      refine takeOp (i := 0) (v := ?_) (some 58) rfl rfl (by kernel_rfl) (by kernel_rfl) (by kernel_rfl) (fun _ _ _ h => h) (Or.inl ⟨by rfl, ?_⟩) (by assumption) ?_
      rotate_left 1
      · (intro w0 hSw; (try dsimp only at hSw); go_simp; try (with_reducible rfl))
      try simp only [Act.put]
      try simp only [List.setIfInBounds_toArray]
      try simp only [List.set_cons_succ]
      try simp only [List.set_cons_zero]
      refine takeOp (i := 2) (v := ?_) (some 60) rfl rfl (by kernel_rfl) (by kernel_rfl) (by kernel_rfl) (fun _ _ _ h => h) (Or.inl ⟨by rfl, ?_⟩) (by assumption) ?_
      rotate_left 1
      · (intro w0 hSw; (try dsimp only at hSw); go_simp; try (with_reducible rfl))
      try simp only [Act.put]
      try simp only [List.setIfInBounds_toArray]
      try simp only [List.set_cons_succ]
      try simp only [List.set_cons_zero]
      refine takeOp (i := 5) (v := ?_) (some 63) rfl rfl (by kernel_rfl) (by kernel_rfl) (by kernel_rfl) (fun _ _ _ h => h) (Or.inl ⟨by rfl, ?_⟩) (by assumption) ?_
      rotate_left 1
      · (intro w0 hSw; (try dsimp only at hSw); go_simp; try (with_reducible rfl))
      try simp only [Act.put]
      try simp only [List.setIfInBounds_toArray]
      try simp only [List.set_cons_succ]
      try simp only [List.set_cons_zero]
      refine wpAnyH_ready (rs := [1]) (by kernel_rfl) (by simp) ?_
      refine AllReadyH.cons rfl (fun K hK => ?_) AllReadyH.nil
      go_simp
      refine (snVersions_sl (l := l) (HST.out.up (Below.then HBC.out (Below.refl wc.heap.size wc).drew HBC.out.size)) HVL.out).mono ?_
      rintro e V3 ⟨A3, C3, rfl, hs, hb⟩
      have HV3 : Hid (Below wc.heap.size wc V3) := Below.undrew hb
      obtain ⟨b3, o3, rfl, hb3, hc3⟩ := hs (by intro h0; have := HVN.out; rw [List.map_eq_nil_iff.1 h0] at this; cases this)
      have e3 : V3.cell? ⟨b3, o3 + k, none⟩ = some (.int .i64 rn) := hc3 k _ (by rw [List.getElem?_map, HVN.out]; rfl)
      rw [← HLEN.out]
      have E3 := Lib.hid e3
      have E4 := Lib.hid hb3
      clear hs hb e3 hb3 hc3
      go_wp2_with fail
      refine hK.out _ _ (HKP9.out V3 HV3.out) (fun hHeld => ?_)
      clear hK K
      try simp only [Act.put]
      try simp only [List.setIfInBounds_toArray]
      try simp only [List.set_cons_succ]
      try simp only [List.set_cons_zero]
      refine takeOp (i := 3) (v := ?_) (some 61) rfl rfl (by kernel_rfl) (by kernel_rfl) (by kernel_rfl) (fun _ _ _ h => h) (Or.inl ⟨by rfl, ?_⟩) (by assumption) ?_
      rotate_left 1
      · (intro w0 hSw; (try dsimp only at hSw); go_simp; try (with_reducible rfl))
      try simp only [Act.put]
      try simp only [List.setIfInBounds_toArray]
      try simp only [List.set_cons_succ]
      try simp only [List.set_cons_zero]
      refine wpAnyH_ready (rs := [4]) (by kernel_rfl) (by simp) ?_
      refine AllReadyH.cons rfl (fun K hK => ?_) AllReadyH.nil
      have e3 := E3.out
      have e4 := E4.out
      go_simp
      clear e3 e4 E3 E4
      refine hK.out _ _ (HKP9.out V3 HV3.out) (fun hHeld => ?_)
      clear hK K
      try simp only [Act.put]
      try simp only [List.setIfInBounds_toArray]
      try simp only [List.set_cons_succ]
      try simp only [List.set_cons_zero]
      refine takeOp (i := 6) (v := ?_) (some 64) rfl rfl (by kernel_rfl) (by kernel_rfl) (by kernel_rfl) (fun _ _ _ h => h) (Or.inl ⟨by rfl, ?_⟩) (by assumption) ?_
      rotate_left 1
      · (intro w0 hSw; (try dsimp only at hSw); go_simp; try (with_reducible rfl))
      try simp only [Act.put]
      try simp only [List.setIfInBounds_toArray]
      try simp only [List.set_cons_succ]
      try simp only [List.set_cons_zero]
      refine takeOp (i := 7) (v := ?_) (some 65) rfl rfl (by kernel_rfl) (by kernel_rfl) (by kernel_rfl) (fun _ _ _ h => h) (Or.inl ⟨by rfl, ?_⟩) (by assumption) ?_
      rotate_left 1
      · (intro w0 hSw; (try dsimp only at hSw); go_simp; try (with_reducible rfl))
      try simp only [Act.put]
      try simp only [List.setIfInBounds_toArray]
      try simp only [List.set_cons_succ]
      try simp only [List.set_cons_zero]
      refine takeOp (i := 8) (v := ?_) (some 66) rfl rfl (by kernel_rfl) (by kernel_rfl) (by kernel_rfl) (fun _ _ _ h => h) (Or.inl ⟨by rfl, ?_⟩) (by assumption) ?_
      rotate_left 1
      · (intro w0 hSw; (try dsimp only at hSw); go_simp; try (with_reducible rfl))
      try simp only [Act.put]
      try simp only [List.setIfInBounds_toArray]
      try simp only [List.set_cons_succ]
      try simp only [List.set_cons_zero]
      refine takeOp (i := 9) (v := ?_) (some 67) rfl rfl (by kernel_rfl) (by kernel_rfl) (by kernel_rfl) (fun _ _ _ h => h) (Or.inl ⟨by rfl, ?_⟩) (by assumption) ?_
      rotate_left 1
      · (intro w0 hSw; (try dsimp only at hSw); go_simp; try (with_reducible rfl))
      try simp only [Act.put]
      try simp only [List.setIfInBounds_toArray]
      try simp only [List.set_cons_succ]
      try simp only [List.set_cons_zero]
      refine takeOp (i := 11) (v := ?_) (some 69) rfl rfl (by kernel_rfl) (by kernel_rfl) (by kernel_rfl) (fun _ _ _ h => h) (Or.inl ⟨by rfl, ?_⟩) (by assumption) ?_
      rotate_left 1
      · (intro w0 hSw; (try dsimp only at hSw); go_simp; try (with_reducible rfl))
      try simp only [Act.put]
      try simp only [List.setIfInBounds_toArray]
      try simp only [List.set_cons_succ]
      try simp only [List.set_cons_zero]
      refine takeOp (i := 12) (v := ?_) (some 70) rfl rfl (by kernel_rfl) (by kernel_rfl) (by kernel_rfl) (fun _ _ _ h => h) (Or.inl ⟨by rfl, ?_⟩) (by assumption) ?_
      rotate_left 1
      · (intro w0 hSw; (try dsimp only at hSw); go_simp; try (with_reducible rfl))
      try simp only [Act.put]
      try simp only [List.setIfInBounds_toArray]
      try simp only [List.set_cons_succ]
      try simp only [List.set_cons_zero]
      refine takeOp (i := 13) (v := ?_) (some 71) rfl rfl (by kernel_rfl) (by kernel_rfl) (by kernel_rfl) (fun _ _ _ h => h) (Or.inl ⟨by rfl, ?_⟩) (by assumption) ?_
      rotate_left 1
      · (intro w0 hSw; (try dsimp only at hSw); go_simp; try (with_reducible rfl))
      try simp only [Act.put]
      try simp only [List.setIfInBounds_toArray]
      try simp only [List.set_cons_succ]
      try simp only [List.set_cons_zero]
      refine takeOp (i := 14) (v := ?_) (some 72) rfl rfl (by kernel_rfl) (by kernel_rfl) (by kernel_rfl) (fun _ _ _ h => h) (Or.inl ⟨by rfl, ?_⟩) (by assumption) ?_
      rotate_left 1
      · (intro w0 hSw; (try dsimp only at hSw); go_simp; try (with_reducible rfl))
      try simp only [Act.put]
      try simp only [List.setIfInBounds_toArray]
      try simp only [List.set_cons_succ]
      try simp only [List.set_cons_zero]
      refine takeOp (i := 15) (v := ?_) (some 73) rfl rfl (by kernel_rfl) (by kernel_rfl) (by kernel_rfl) (fun _ _ _ h => h) (Or.inl ⟨by rfl, ?_⟩) (by assumption) ?_
      rotate_left 1
      · (intro w0 hSw; (try dsimp only at hSw); go_simp; try (with_reducible rfl))
      try simp only [Act.put]
      try simp only [List.setIfInBounds_toArray]
      try simp only [List.set_cons_succ]
      try simp only [List.set_cons_zero]
      refine takeOp (i := 16) (v := ?_) (some 74) rfl rfl (by kernel_rfl) (by kernel_rfl) (by kernel_rfl) (fun _ _ _ h => h) (Or.inl ⟨by rfl, ?_⟩) (by assumption) ?_
      rotate_left 1
      · (intro w0 hSw; (try dsimp only at hSw); go_simp; try (with_reducible rfl))
      try simp only [Act.put]
      try simp only [List.setIfInBounds_toArray]
      try simp only [List.set_cons_succ]
      try simp only [List.set_cons_zero]
      refine wpAnyH_ready (rs := [10]) (by kernel_rfl) (by simp) ?_
      refine AllReadyH.cons rfl (fun K hK => ?_) AllReadyH.nil
      go_simp
      refine (snPins_all (l := l) (n := rn) (HST.out.up (Below.then HBC.out HV3.out HBC.out.size)) HWF.out).mono ?_
      rintro e V4 ⟨rfl, hx⟩
      have HV4 : Hid (Below wc.heap.size wc V4) := Below.then HV3.out hx.below HV3.out.size
      rw [HPV.out]
      clear hx
      go_wp2_with fail
      refine hK.out _ _ (HKP9.out V4 HV4.out) (fun hHeld => ?_)
      clear hK K
      try simp only [Act.put]
      try simp only [List.setIfInBounds_toArray]
      try simp only [List.set_cons_succ]
      try simp only [List.set_cons_zero]
      refine takeOp (i := 17) (v := ?_) (some 75) rfl rfl (by kernel_rfl) (by kernel_rfl) (by kernel_rfl) (fun _ _ _ h => h) (Or.inl ⟨by rfl, ?_⟩) (by assumption) ?_
      rotate_left 1
      · (intro w0 hSw; (try dsimp only at hSw); go_simp; try (with_reducible rfl))
      try simp only [Act.put]
      try simp only [List.setIfInBounds_toArray]
      try simp only [List.set_cons_succ]
      try simp only [List.set_cons_zero]
      refine takeOp (i := 18) (v := ?_) (some 76) rfl rfl (by kernel_rfl) (by kernel_rfl) (by kernel_rfl) (fun _ _ _ h => h) (Or.inl ⟨by rfl, ?_⟩) (by assumption) ?_
      rotate_left 1
      · (intro w0 hSw; (try dsimp only at hSw); go_simp; try (with_reducible rfl))
      try simp only [Act.put]
      try simp only [List.setIfInBounds_toArray]
      try simp only [List.set_cons_succ]
      try simp only [List.set_cons_zero]
      refine takeOp (i := 19) (v := ?_) (some 77) rfl rfl (by kernel_rfl) (by kernel_rfl) (by kernel_rfl) (fun _ _ _ h => h) (Or.inl ⟨by rfl, ?_⟩) (by assumption) ?_
      rotate_left 1
      · (intro w0 hSw; (try dsimp only at hSw); go_simp; try (with_reducible rfl))
      try simp only [Act.put]
      try simp only [List.setIfInBounds_toArray]
      try simp only [List.set_cons_succ]
      try simp only [List.set_cons_zero]
      refine takeOp (i := 20) (v := ?_) (some 78) rfl rfl (by kernel_rfl) (by kernel_rfl) (by kernel_rfl) (fun _ _ _ h => h) (Or.inl ⟨by rfl, ?_⟩) (by assumption) ?_
      rotate_left 1
      · (intro w0 hSw; (try dsimp only at hSw); go_simp; try (with_reducible rfl))
      try simp only [Act.put]
      try simp only [List.setIfInBounds_toArray]
      try simp only [List.set_cons_succ]
      try simp only [List.set_cons_zero]
      refine takeOp (i := 21) (v := ?_) (some 79) rfl rfl (by kernel_rfl) (by kernel_rfl) (by kernel_rfl) (fun _ _ _ h => h) (Or.inl ⟨by rfl, ?_⟩) (by assumption) ?_
      rotate_left 1
      · (intro w0 hSw; (try dsimp only at hSw); go_simp; try (with_reducible rfl))
      try simp only [Act.put]
      try simp only [List.setIfInBounds_toArray]
      try simp only [List.set_cons_succ]
      try simp only [List.set_cons_zero]
      refine takeOp (i := 22) (v := ?_) (some 80) rfl rfl (by kernel_rfl) (by kernel_rfl) (by kernel_rfl) (fun _ _ _ h => h) (Or.inl ⟨by rfl, ?_⟩) (by assumption) ?_
      rotate_left 1
      · (intro w0 hSw; (try dsimp only at hSw); go_simp; try (with_reducible rfl))
      try simp only [Act.put]
      try simp only [List.setIfInBounds_toArray]
      try simp only [List.set_cons_succ]
      try simp only [List.set_cons_zero]
      refine takeOp (i := 23) (v := ?_) (some 81) rfl rfl (by kernel_rfl) (by kernel_rfl) (by kernel_rfl) (fun _ _ _ h => h) (Or.inl ⟨by rfl, ?_⟩) (by assumption) ?_
      rotate_left 1
      · (intro w0 hSw; (try dsimp only at hSw); go_simp; try (with_reducible rfl))
      try simp only [Act.put]
      try simp only [List.setIfInBounds_toArray]
      try simp only [List.set_cons_succ]
      try simp only [List.set_cons_zero]
      refine takeOp (i := 24) (v := ?_) (some 82) rfl rfl (by kernel_rfl) (by kernel_rfl) (by kernel_rfl) (fun _ _ _ h => h) (Or.inl ⟨by rfl, ?_⟩) (by assumption) ?_
      rotate_left 1
      · (intro w0 hSw; (try dsimp only at hSw); go_simp; try (with_reducible rfl))
      try simp only [Act.put]
      try simp only [List.setIfInBounds_toArray]
      try simp only [List.set_cons_succ]
      try simp only [List.set_cons_zero]
      refine takeOp (i := 25) (v := ?_) (some 83) rfl rfl (by kernel_rfl) (by kernel_rfl) (by kernel_rfl) (fun _ _ _ h => h) (Or.inl ⟨by rfl, ?_⟩) (by assumption) ?_
      rotate_left 1
      · (intro w0 hSw; (try dsimp only at hSw); go_simp; try (with_reducible rfl))
      try simp only [Act.put]
      try simp only [List.setIfInBounds_toArray]
      try simp only [List.set_cons_succ]
      try simp only [List.set_cons_zero]
      refine takeOp (i := 26) (v := ?_) (some 84) rfl rfl (by kernel_rfl) (by kernel_rfl) (by kernel_rfl) (fun _ _ _ h => h) (Or.inl ⟨by rfl, ?_⟩) (by assumption) ?_
      rotate_left 1
      · (intro w0 hSw; (try dsimp only at hSw); go_simp; try (with_reducible rfl))
      try simp only [Act.put]
      try simp only [List.setIfInBounds_toArray]
      try simp only [List.set_cons_succ]
      try simp only [List.set_cons_zero]
      refine takeOp (i := 27) (v := ?_) (some 85) rfl rfl (by kernel_rfl) (by kernel_rfl) (by kernel_rfl) (fun _ _ _ h => h) (Or.inl ⟨by rfl, ?_⟩) (by assumption) ?_
      rotate_left 1
      · (intro w0 hSw; (try dsimp only at hSw); go_simp; try (with_reducible rfl))
      try simp only [Act.put]
      try simp only [List.setIfInBounds_toArray]
      try simp only [List.set_cons_succ]
      try simp only [List.set_cons_zero]
      refine takeOp (i := 28) (v := ?_) (some 86) rfl rfl (by kernel_rfl) (by kernel_rfl) (by kernel_rfl) (fun _ _ _ h => h) (Or.inl ⟨by rfl, ?_⟩) (by assumption) ?_
      rotate_left 1
      · (intro w0 hSw; (try dsimp only at hSw); go_simp; try (with_reducible rfl))
      try simp only [Act.put]
      try simp only [List.setIfInBounds_toArray]
      try simp only [List.set_cons_succ]
      try simp only [List.set_cons_zero]
      refine takeOp (i := 29) (v := ?_) (some 87) rfl rfl (by kernel_rfl) (by kernel_rfl) (by kernel_rfl) (fun _ _ _ h => h) (Or.inl ⟨by rfl, ?_⟩) (by assumption) ?_
      rotate_left 1
      · (intro w0 hSw; (try dsimp only at hSw); go_simp; try (with_reducible rfl))
      try simp only [Act.put]
      try simp only [List.setIfInBounds_toArray]
      try simp only [List.set_cons_succ]
      try simp only [List.set_cons_zero]
      refine wpAnyH_ready (rs := [30]) (by kernel_rfl) (by simp) ?_
      refine AllReadyH.cons rfl (fun K hK => ?_) AllReadyH.nil
      go_simp
      refine (ctEqual_any V4 (HD9.out.up HV4.out) (HD11.out.up HV4.out) HND.out).mono ?_
      rintro e V5 ⟨rfl, hb⟩
      have HV5 : Hid (Below wc.heap.size wc V5) := Below.then HV4.out hb HV4.out.size
      rw [sameC_refl]
      clear hb
      go_wp2_with fail
      refine hK.out _ _ (HKP9.out V5 HV5.out) (fun hHeld => ?_)
      clear hK K
      try simp only [Act.put]
      try simp only [List.setIfInBounds_toArray]
      try simp only [List.set_cons_succ]
      try simp only [List.set_cons_zero]
      refine takeOp (i := 31) (v := ?_) (some 89) rfl rfl (by kernel_rfl) (by kernel_rfl) (by kernel_rfl) (fun _ _ _ h => h) (Or.inl ⟨by rfl, ?_⟩) (by assumption) ?_
      rotate_left 1
      · (intro w0 hSw; (try dsimp only at hSw); go_simp; try (with_reducible rfl))
      try simp only [Act.put]
      try simp only [List.setIfInBounds_toArray]
      try simp only [List.set_cons_succ]
      try simp only [List.set_cons_zero]
      refine takeOp (i := 32) (v := ?_) (some 90) rfl rfl (by kernel_rfl) (by kernel_rfl) (by kernel_rfl) (fun _ _ _ h => h) (Or.inl ⟨by rfl, ?_⟩) (by assumption) ?_
      rotate_left 1
      · (intro w0 hSw; (try dsimp only at hSw); go_simp; try (with_reducible rfl))
      try simp only [Act.put]
      try simp only [List.setIfInBounds_toArray]
      try simp only [List.set_cons_succ]
      try simp only [List.set_cons_zero]
      refine wpAnyH_done (by kernel_rfl) ?_ _
      have HB5 := Lib.hid (Below.then HBC.out HV5.out HBC.out.size)
      clear HV3 HV4 HV5 hHeld
      go_wp2_with fail
      go_roundw
      case rel => exact ⟨k + 1, hkl, by go_num, HB5.out⟩
      case measure => simp [intOf]; omega
    · obtain rfl : k = vs.length := by omega
      have r1 : ¬ (vs.length : Int) < (vs.length : Int) := by omega
      obtain ⟨wk, hwk⟩ : ∃ W, W = wr := ⟨_, rfl⟩
      subst hwk
      have HBK := HBR
      have HSS : Hid (∀ W, Below wk.heap.size wk W → W.cell? ⟨w.heap.size, 0, none⟩ = some (.map (some b0)) ∧ W.cell? ⟨w.heap.size, 1, none⟩ = some (.int .i64 l) ∧ W.cell? ⟨w.heap.size + 1, 0, none⟩ = some (.slice VA vs.length VC) ∧ W.cell? ⟨w.heap.size + 1, 1, none⟩ = some (.slice BA bs.length BC)) := fun W hW => HKP.out W (Below.then HBK.out hW HBK.out.size)
      go_upto_region 11 with (fail)
      clear t0 t1 s0 s1 s2
      go_cut [14, 15] from 91 to 98 (fun _ ve wx => ve = .int .i64 31 ∧ Below wk.heap.size wk wx)
      case first =>
        refine wp_region_held_drew (S := (fun w' => w'.cell? ⟨w.heap.size, 0, none⟩ = some (.map (some b0)) ∧ w'.cell? ⟨w.heap.size, 1, none⟩ = some (.int .i64 l) ∧ w'.cell? ⟨w.heap.size + 1, 0, none⟩ = some (.slice VA vs.length VC) ∧ w'.cell? ⟨w.heap.size + 1, 1, none⟩ = some (.slice BA bs.length BC))) (by kernel_rfl) (HSS.out wk.drew (Below.refl _ _).drew) (fun hHeld => ?_)
        obtain ⟨V0, hV0⟩ : ∃ V, V = wk.drew := ⟨_, rfl⟩
        have HV : Hid (Below wk.heap.size wk V0) := by show Below _ _ _; rw [hV0]; exact ((Ext.refl wk).drew).below
        rw [← hV0]
        clear hV0
        have hHeld0 : V0.cell? ⟨w.heap.size, 0, none⟩ = some (.map (some b0)) ∧ V0.cell? ⟨w.heap.size, 1, none⟩ = some (.int .i64 l) ∧ V0.cell? ⟨w.heap.size + 1, 0, none⟩ = some (.slice VA vs.length VC) ∧ V0.cell? ⟨w.heap.size + 1, 1, none⟩ = some (.slice BA bs.length BC) := HSS.out V0 HV.out
        refine takeOp (i := 0) (v := ?_) (some 92) rfl rfl (by kernel_rfl) (by kernel_rfl) (by kernel_rfl) (fun _ _ _ h => h) (Or.inl ⟨by rfl, ?_⟩) (by assumption) ?_
        rotate_left 1
        · (intro w0 hSw; (try dsimp only at hSw); go_simp; try (with_reducible rfl))
        try simp only [Act.put]
        try simp only [List.setIfInBounds_toArray]
        try simp only [List.set_cons_succ]
        try simp only [List.set_cons_zero]
        refine takeOp (i := 1) (v := ?_) (some 93) rfl rfl (by kernel_rfl) (by kernel_rfl) (by kernel_rfl) (fun _ _ _ h => h) (Or.inl ⟨by rfl, ?_⟩) (by assumption) ?_
        rotate_left 1
        · (intro w0 hSw; (try dsimp only at hSw); go_simp; try (with_reducible rfl))
        try simp only [Act.put]
        try simp only [List.setIfInBounds_toArray]
        try simp only [List.set_cons_succ]
        try simp only [List.set_cons_zero]
        refine wpAnyH_ready (rs := [2, 8]) (by kernel_rfl) (by simp) ?_
        refine (AllReadyH.cons rfl (fun K hK => ?_) (AllReadyH.cons rfl (fun K hK => ?_) AllReadyH.nil))
        · go_simp
          refine (HLT.out V0 (Below.then HBK.out HV.out HBK.out.size)).mono ?_
          rintro e V1 ⟨rfl, hx⟩
          have HV := Lib.hid (Below.then HV.out hx.below HV.out.size)
          clear hx
          go_wp2_with fail
          refine hK.out _ _ (HSS.out V1 HV.out) (fun hHeld => ?_)
          clear hK K
          try simp only [Act.put]
          try simp only [List.setIfInBounds_toArray]
          try simp only [List.set_cons_succ]
          try simp only [List.set_cons_zero]
          refine takeOp (i := 3) (v := ?_) (some 95) rfl rfl (by kernel_rfl) (by kernel_rfl) (by kernel_rfl) (fun _ _ _ h => h) (Or.inl ⟨by rfl, ?_⟩) (by assumption) ?_
          rotate_left 1
          · (intro w0 hSw; (try dsimp only at hSw); go_simp; try (with_reducible rfl))
          try simp only [Act.put]
          try simp only [List.setIfInBounds_toArray]
          try simp only [List.set_cons_succ]
          try simp only [List.set_cons_zero]
          refine wpAnyH_ready (rs := [4, 8]) (by kernel_rfl) (by simp) ?_
          refine (AllReadyH.cons rfl (fun K hK => ?_) (AllReadyH.cons rfl (fun K hK => ?_) AllReadyH.nil))
          · go_simp
            refine (snAt_all (l := l) (n := l1) (HST.out.up (Below.then HBK.out HV.out HBK.out.size)) HW1.out).mono ?_
            rintro e V2 ⟨hat, -, hx⟩
            obtain rfl := hat HF1.out
            have HV := Lib.hid (Below.then HV.out hx.below HV.out.size)
            clear hx hat
            go_wp2_with fail
            refine hK.out _ _ (HSS.out V2 HV.out) (fun hHeld => ?_)
            clear hK K
            try simp only [Act.put]
            try simp only [List.setIfInBounds_toArray]
            try simp only [List.set_cons_succ]
            try simp only [List.set_cons_zero]
            refine takeOp (i := 5) (v := ?_) (some 91) rfl rfl (by kernel_rfl) (by kernel_rfl) (by kernel_rfl) (fun _ _ _ h => h) (Or.inl ⟨by rfl, ?_⟩) (by assumption) ?_
            rotate_left 1
            · (intro w0 hSw; (try dsimp only at hSw); go_simp; try (with_reducible rfl))
            try simp only [Act.put]
            try simp only [List.setIfInBounds_toArray]
            try simp only [List.set_cons_succ]
            try simp only [List.set_cons_zero]
            refine takeOp (i := 6) (v := ?_) (some 97) rfl rfl (by kernel_rfl) (by kernel_rfl) (by kernel_rfl) (fun _ _ _ h => h) (Or.inl ⟨by rfl, ?_⟩) (by assumption) ?_
            rotate_left 1
            · (intro w0 hSw; (try dsimp only at hSw); go_simp; try (with_reducible rfl))
            try simp only [Act.put]
            try simp only [List.setIfInBounds_toArray]
            try simp only [List.set_cons_succ]
            try simp only [List.set_cons_zero]
            refine takeOp (i := 7) (v := ?_) (some 98) rfl rfl (by kernel_rfl) (by kernel_rfl) (by kernel_rfl) (fun _ _ _ h => h) (Or.inl ⟨by rfl, ?_⟩) (by assumption) ?_
            rotate_left 1
            · (intro w0 hSw; (try dsimp only at hSw); go_simp; try (with_reducible rfl))
            try simp only [Act.put]
            try simp only [List.setIfInBounds_toArray]
            try simp only [List.set_cons_succ]
            try simp only [List.set_cons_zero]
            refine wpAnyH_ready (rs := [8]) (by kernel_rfl) (by simp) ?_
            refine (AllReadyH.cons rfl (fun K hK => ?_) AllReadyH.nil)
            go_simp
            obtain ⟨V3, hV⟩ : ∃ V', V' = V2.alloc (.cells #[.map none] 25) := ⟨_, rfl⟩
            rw [← hV]
            have hx : Ext V2 V3 := by rw [hV]; exact (Ext.refl V2).alloc _
            have HGR : Hid (Row V3 V2.heap.size 25 [.map none]) := by show Row _ _ _ _; rw [hV]; exact Row.new V2 25 _
            have HGZ := Lib.hid HV.out.size
            have HG := HGR
            have HV := Lib.hid (Below.then HV.out hx.below HV.out.size)
            clear hx hV HGR
            refine hK.out _ _ (HSS.out V3 HV.out) (fun hHeld => ?_)
            clear hK K
            try simp only [Act.put]
            try simp only [List.setIfInBounds_toArray]
            try simp only [List.set_cons_succ]
            try simp only [List.set_cons_zero]
            refine wpAnyH_ready (rs := [9]) (by kernel_rfl) (by simp) ?_
            refine (AllReadyH.cons rfl (fun K hK => ?_) AllReadyH.nil)
            have m0 : V3.cell? ⟨V2.heap.size, 0, none⟩ = some (.map none) := HG.out.cell 0
            have m2 := HG.out.frozen 0
            have m4 := HG.out.lt
            go_simp
            obtain ⟨V4, hV⟩ : ∃ V', V' = V3.setCell ⟨V2.heap.size, 0, none⟩ (.map none) := ⟨_, rfl⟩
            rw [← hV]
            have HG : Hid (Row V4 V2.heap.size 25 [(.map none)]) := by show Row _ _ _ _; rw [hV]; exact HG.out.set 0 _
            have HV : Hid (Below wk.heap.size wk V4) := by show Below _ _ _; rw [hV]; exact HV.out.setCell HGZ.out _
            clear m0 m2 m4 hV
            refine hK.out _ _ (HSS.out V4 HV.out) (fun hHeld => ?_)
            clear hK K
            try simp only [Act.put]
            try simp only [List.setIfInBounds_toArray]
            try simp only [List.set_cons_succ]
            try simp only [List.set_cons_zero]
            refine takeOp (i := 10) (v := ?_) (some 15) rfl rfl (by kernel_rfl) (by kernel_rfl) (by kernel_rfl) (fun _ _ _ h => h) (Or.inl ⟨by rfl, ?_⟩) (by assumption) ?_
            rotate_left 1
            · (intro w0 hSw; (try dsimp only at hSw); go_simp; try (with_reducible rfl))
            try simp only [Act.put]
            try simp only [List.setIfInBounds_toArray]
            try simp only [List.set_cons_succ]
            try simp only [List.set_cons_zero]
            refine wpAnyH_done (by kernel_rfl) ?_ _
            go_wp2_with fail
            go_meet
            case rel => exact ⟨rfl, HV.out⟩
          · go_simp
            obtain ⟨V2, hV⟩ : ∃ V', V' = V1.alloc (.cells #[.map none] 25) := ⟨_, rfl⟩
            rw [← hV]
            have hx : Ext V1 V2 := by rw [hV]; exact (Ext.refl V1).alloc _
            have HGR : Hid (Row V2 V1.heap.size 25 [.map none]) := by show Row _ _ _ _; rw [hV]; exact Row.new V1 25 _
            have HGZ := Lib.hid HV.out.size
            have HG := HGR
            have HV := Lib.hid (Below.then HV.out hx.below HV.out.size)
            clear hx hV HGR
            refine hK.out _ _ (HSS.out V2 HV.out) (fun hHeld => ?_)
            clear hK K
            try simp only [Act.put]
            try simp only [List.setIfInBounds_toArray]
            try simp only [List.set_cons_succ]
            try simp only [List.set_cons_zero]
            refine wpAnyH_ready (rs := [4]) (by kernel_rfl) (by simp) ?_
            refine (AllReadyH.cons rfl (fun K hK => ?_) AllReadyH.nil)
            go_simp
            refine (snAt_all (l := l) (n := l1) (HST.out.up (Below.then HBK.out HV.out HBK.out.size)) HW1.out).mono ?_
            rintro e V3 ⟨hat, -, hx⟩
            obtain rfl := hat HF1.out
            have HG := Lib.hid (HG.out.up hx.below)
            have HV := Lib.hid (Below.then HV.out hx.below HV.out.size)
            clear hx hat
            go_wp2_with fail
            refine hK.out _ _ (HSS.out V3 HV.out) (fun hHeld => ?_)
            clear hK K
            try simp only [Act.put]
            try simp only [List.setIfInBounds_toArray]
            try simp only [List.set_cons_succ]
            try simp only [List.set_cons_zero]
            refine takeOp (i := 5) (v := ?_) (some 91) rfl rfl (by kernel_rfl) (by kernel_rfl) (by kernel_rfl) (fun _ _ _ h => h) (Or.inl ⟨by rfl, ?_⟩) (by assumption) ?_
            rotate_left 1
            · (intro w0 hSw; (try dsimp only at hSw); go_simp; try (with_reducible rfl))
            try simp only [Act.put]
            try simp only [List.setIfInBounds_toArray]
            try simp only [List.set_cons_succ]
            try simp only [List.set_cons_zero]
            refine takeOp (i := 6) (v := ?_) (some 97) rfl rfl (by kernel_rfl) (by kernel_rfl) (by kernel_rfl) (fun _ _ _ h => h) (Or.inl ⟨by rfl, ?_⟩) (by assumption) ?_
            rotate_left 1
            · (intro w0 hSw; (try dsimp only at hSw); go_simp; try (with_reducible rfl))
            try simp only [Act.put]
            try simp only [List.setIfInBounds_toArray]
            try simp only [List.set_cons_succ]
            try simp only [List.set_cons_zero]
            refine takeOp (i := 7) (v := ?_) (some 98) rfl rfl (by kernel_rfl) (by kernel_rfl) (by kernel_rfl) (fun _ _ _ h => h) (Or.inl ⟨by rfl, ?_⟩) (by assumption) ?_
            rotate_left 1
            · (intro w0 hSw; (try dsimp only at hSw); go_simp; try (with_reducible rfl))
            try simp only [Act.put]
            try simp only [List.setIfInBounds_toArray]
            try simp only [List.set_cons_succ]
            try simp only [List.set_cons_zero]
            refine wpAnyH_ready (rs := [9]) (by kernel_rfl) (by simp) ?_
            refine (AllReadyH.cons rfl (fun K hK => ?_) AllReadyH.nil)
            have m0 : V3.cell? ⟨V1.heap.size, 0, none⟩ = some (.map none) := HG.out.cell 0
            have m2 := HG.out.frozen 0
            have m4 := HG.out.lt
            go_simp
            obtain ⟨V4, hV⟩ : ∃ V', V' = V3.setCell ⟨V1.heap.size, 0, none⟩ (.map none) := ⟨_, rfl⟩
            rw [← hV]
            have HG : Hid (Row V4 V1.heap.size 25 [(.map none)]) := by show Row _ _ _ _; rw [hV]; exact HG.out.set 0 _
            have HV : Hid (Below wk.heap.size wk V4) := by show Below _ _ _; rw [hV]; exact HV.out.setCell HGZ.out _
            clear m0 m2 m4 hV
            refine hK.out _ _ (HSS.out V4 HV.out) (fun hHeld => ?_)
            clear hK K
            try simp only [Act.put]
            try simp only [List.setIfInBounds_toArray]
            try simp only [List.set_cons_succ]
            try simp only [List.set_cons_zero]
            refine takeOp (i := 10) (v := ?_) (some 15) rfl rfl (by kernel_rfl) (by kernel_rfl) (by kernel_rfl) (fun _ _ _ h => h) (Or.inl ⟨by rfl, ?_⟩) (by assumption) ?_
            rotate_left 1
            · (intro w0 hSw; (try dsimp only at hSw); go_simp; try (with_reducible rfl))
            try simp only [Act.put]
            try simp only [List.setIfInBounds_toArray]
            try simp only [List.set_cons_succ]
            try simp only [List.set_cons_zero]
            refine wpAnyH_done (by kernel_rfl) ?_ _
            go_wp2_with fail
            go_meet
            case rel => exact ⟨rfl, HV.out⟩
        · go_simp
          obtain ⟨V1, hV⟩ : ∃ V', V' = V0.alloc (.cells #[.map none] 25) := ⟨_, rfl⟩
          rw [← hV]
          have hx : Ext V0 V1 := by rw [hV]; exact (Ext.refl V0).alloc _
          have HGR : Hid (Row V1 V0.heap.size 25 [.map none]) := by show Row _ _ _ _; rw [hV]; exact Row.new V0 25 _
          have HGZ := Lib.hid HV.out.size
          have HG := HGR
          have HV := Lib.hid (Below.then HV.out hx.below HV.out.size)
          clear hx hV HGR
          refine hK.out _ _ (HSS.out V1 HV.out) (fun hHeld => ?_)
          clear hK K
          try simp only [Act.put]
          try simp only [List.setIfInBounds_toArray]
          try simp only [List.set_cons_succ]
          try simp only [List.set_cons_zero]
          refine wpAnyH_ready (rs := [2]) (by kernel_rfl) (by simp) ?_
          refine (AllReadyH.cons rfl (fun K hK => ?_) AllReadyH.nil)
          go_simp
          refine (HLT.out V1 (Below.then HBK.out HV.out HBK.out.size)).mono ?_
          rintro e V2 ⟨rfl, hx⟩
          have HG := Lib.hid (HG.out.up hx.below)
          have HV := Lib.hid (Below.then HV.out hx.below HV.out.size)
          clear hx
          go_wp2_with fail
          refine hK.out _ _ (HSS.out V2 HV.out) (fun hHeld => ?_)
          clear hK K
          try simp only [Act.put]
          try simp only [List.setIfInBounds_toArray]
          try simp only [List.set_cons_succ]
          try simp only [List.set_cons_zero]
          refine takeOp (i := 3) (v := ?_) (some 95) rfl rfl (by kernel_rfl) (by kernel_rfl) (by kernel_rfl) (fun _ _ _ h => h) (Or.inl ⟨by rfl, ?_⟩) (by assumption) ?_
          rotate_left 1
          · (intro w0 hSw; (try dsimp only at hSw); go_simp; try (with_reducible rfl))
          try simp only [Act.put]
          try simp only [List.setIfInBounds_toArray]
          try simp only [List.set_cons_succ]
          try simp only [List.set_cons_zero]
          refine wpAnyH_ready (rs := [4]) (by kernel_rfl) (by simp) ?_
          refine (AllReadyH.cons rfl (fun K hK => ?_) AllReadyH.nil)
          go_simp
          refine (snAt_all (l := l) (n := l1) (HST.out.up (Below.then HBK.out HV.out HBK.out.size)) HW1.out).mono ?_
          rintro e V3 ⟨hat, -, hx⟩
          obtain rfl := hat HF1.out
          have HG := Lib.hid (HG.out.up hx.below)
          have HV := Lib.hid (Below.then HV.out hx.below HV.out.size)
          clear hx hat
          go_wp2_with fail
          refine hK.out _ _ (HSS.out V3 HV.out) (fun hHeld => ?_)
          clear hK K
          try simp only [Act.put]
          try simp only [List.setIfInBounds_toArray]
          try simp only [List.set_cons_succ]
          try simp only [List.set_cons_zero]
          refine takeOp (i := 5) (v := ?_) (some 91) rfl rfl (by kernel_rfl) (by kernel_rfl) (by kernel_rfl) (fun _ _ _ h => h) (Or.inl ⟨by rfl, ?_⟩) (by assumption) ?_
          rotate_left 1
          · (intro w0 hSw; (try dsimp only at hSw); go_simp; try (with_reducible rfl))
          try simp only [Act.put]
          try simp only [List.setIfInBounds_toArray]
          try simp only [List.set_cons_succ]
          try simp only [List.set_cons_zero]
          refine takeOp (i := 6) (v := ?_) (some 97) rfl rfl (by kernel_rfl) (by kernel_rfl) (by kernel_rfl) (fun _ _ _ h => h) (Or.inl ⟨by rfl, ?_⟩) (by assumption) ?_
          rotate_left 1
          · (intro w0 hSw; (try dsimp only at hSw); go_simp; try (with_reducible rfl))
          try simp only [Act.put]
          try simp only [List.setIfInBounds_toArray]
          try simp only [List.set_cons_succ]
          try simp only [List.set_cons_zero]
          refine takeOp (i := 7) (v := ?_) (some 98) rfl rfl (by kernel_rfl) (by kernel_rfl) (by kernel_rfl) (fun _ _ _ h => h) (Or.inl ⟨by rfl, ?_⟩) (by assumption) ?_
          rotate_left 1
          · (intro w0 hSw; (try dsimp only at hSw); go_simp; try (with_reducible rfl))
          try simp only [Act.put]
          try simp only [List.setIfInBounds_toArray]
          try simp only [List.set_cons_succ]
          try simp only [List.set_cons_zero]
          refine wpAnyH_ready (rs := [9]) (by kernel_rfl) (by simp) ?_
          refine (AllReadyH.cons rfl (fun K hK => ?_) AllReadyH.nil)
          have m0 : V3.cell? ⟨V0.heap.size, 0, none⟩ = some (.map none) := HG.out.cell 0
          have m2 := HG.out.frozen 0
          have m4 := HG.out.lt
          go_simp
          obtain ⟨V4, hV⟩ : ∃ V', V' = V3.setCell ⟨V0.heap.size, 0, none⟩ (.map none) := ⟨_, rfl⟩
          rw [← hV]
          have HG : Hid (Row V4 V0.heap.size 25 [(.map none)]) := by show Row _ _ _ _; rw [hV]; exact HG.out.set 0 _
          have HV : Hid (Below wk.heap.size wk V4) := by show Below _ _ _; rw [hV]; exact HV.out.setCell HGZ.out _
          clear m0 m2 m4 hV
          refine hK.out _ _ (HSS.out V4 HV.out) (fun hHeld => ?_)
          clear hK K
          try simp only [Act.put]
          try simp only [List.setIfInBounds_toArray]
          try simp only [List.set_cons_succ]
          try simp only [List.set_cons_zero]
          refine takeOp (i := 10) (v := ?_) (some 15) rfl rfl (by kernel_rfl) (by kernel_rfl) (by kernel_rfl) (fun _ _ _ h => h) (Or.inl ⟨by rfl, ?_⟩) (by assumption) ?_
          rotate_left 1
          · (intro w0 hSw; (try dsimp only at hSw); go_simp; try (with_reducible rfl))
          try simp only [Act.put]
          try simp only [List.setIfInBounds_toArray]
          try simp only [List.set_cons_succ]
          try simp only [List.set_cons_zero]
          refine wpAnyH_done (by kernel_rfl) ?_ _
          go_wp2_with fail
          go_meet
          case rel => exact ⟨rfl, HV.out⟩
      case rest =>
      obtain ⟨rfl, hbc⟩ := hcut
      have HBC := Lib.hid (Below.then HBK.out hbc HBK.out.size)
      have hkp := HKP.out wc HBC.out
      have s0 := hkp.1
      have s1 := hkp.2.1
      have s2 := (HR1.out.up HBC.out).lt
      clear hbc hkp
      have HPP := Lib.hid (snPins_all (l := l) (n := -1) (HST.out.up HBC.out) (by decide))
      go_wp2_with fail
      refine HPP.out.mono ?_
      rintro e w9 ⟨rfl, hx⟩
      rw [HPM.out]
      have HB9 := Lib.hid (Below.then HX0.out.below (Below.then HBC.out hx.below HBC.out.size) HX0.out.size)
      clear hx HPP s0 s1 s2
      go_wp2_with fail
      exact bodyPost_ret (v := .bool true) (by simp [results, Try.results23, go_sem]) rfl ⟨rfl, HB9.out⟩

end Go.Proofs.Ytgaffbdcpkbdhaa
end

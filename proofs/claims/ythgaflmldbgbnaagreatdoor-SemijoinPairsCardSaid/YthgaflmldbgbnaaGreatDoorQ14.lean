/- Parts of the proof, merged: G42. -/
import Derived.Test.YthgaflmldbgbnaaGreatDoorQ13
import Derived.Test.YthgaflmldbgbnaaGreatDoorRows
import Derived.Test.YthgaflmldbgbnaaGreatDoorQ1
import Derived.Test.YthgaflmldbgbnaaGreatDoorQ8
import Derived.Test.YthgaflmldbgbnaaGreatDoorQ3
import Derived.Test.YthgaflmldbgbnaaGreatDoorQ9
import Derived.Test.YthgaflmldbgbnaaGreatDoorQ7
import Derived.Deep.CutRange
import Derived.Deep.DeepCutAuto
import Derived.Deep.RegionHeld3

set_option maxRecDepth 100000
namespace Go.Proofs.YthgaflmldbgbnaaGreatDoor
section
open Go.RowKit Go.Sort

theorem BoxA.res {w : World} {g : Nat} {c : At} (h : BoxA w g (resA 0 c)) : BoxA w g c := by rw [show resA 0 c = c from if_pos rfl] at h; exact h
theorem BoxA.nil {w : World} {g : Nat} {code : Int} (h : BoxA w g (resA code ⟨[], []⟩)) : ∃ VA VC PA PC, Row w g 36 [.slice VA 0 VC, .int .i64 0, .slice PA 0 PC] := by
  have e : resA code ⟨[], []⟩ = ⟨[], []⟩ := by unfold resA; split <;> rfl
  rw [e] at h
  obtain ⟨VA, VC, PA, PC, hr, -⟩ := h
  exact ⟨VA, VC, PA, PC, hr⟩
theorem two_raM {w : World} {A : Option Addr} {a b : RA} (h : AtsM w.heap.size w A [a, b]) : ∃ bk o VA VC PA PC UA UC QA QC, A = some ⟨bk, o, none⟩ ∧ bk < w.heap.size ∧
    ((w.cell? ⟨bk, o, none⟩ = some (.slice VA a.vs.length VC) ∧ w.cell? ⟨bk, o + 1, none⟩ = some (.int .i64 a.ar) ∧ w.cell? ⟨bk, o + 2, none⟩ = some (.slice PA a.P.length PC)) ∧
      w.cell? ⟨bk, o + 3, none⟩ = some (.slice UA b.vs.length UC) ∧ w.cell? ⟨bk, o + 3 + 1, none⟩ = some (.int .i64 b.ar) ∧ w.cell? ⟨bk, o + 3 + 2, none⟩ = some (.slice QA b.P.length QC)) ∧
    RaV w (.agg #[.slice VA a.vs.length VC, .int .i64 a.ar, .slice PA a.P.length PC]) a ∧ RaV w (.agg #[.slice UA b.vs.length UC, .int .i64 b.ar, .slice QA b.P.length QC]) b := by
  obtain ⟨bk, o, e, hb, hc⟩ := h (by simp)
  obtain ⟨VA, VC, PA, PC, h1, h2, h3, d1, d2, d3, d4, h4, h5⟩ := hc 0 (by simp)
  obtain ⟨UA, UC, QA, QC, k1, k2, k3, f1, f2, f3, f4, k4, k5⟩ := hc 1 (by simp)
  simp only [List.getElem_cons_zero, List.getElem_cons_succ, Nat.zero_mul, Nat.add_zero, Nat.one_mul] at h1 h2 h3 k1 k2 k3 d1 f1
  exact ⟨bk, o, VA, VC, PA, PC, UA, UC, QA, QC, e, hb, ⟨⟨h1, h2, h3⟩, k1, k2, k3⟩, ⟨VA, VC, PA, PC, rfl, d1, d2, d3, d4, h4, h5⟩, UA, UC, QA, QC, rfl, f1, f2, f3, f4, k4, k5⟩
theorem two_refM {w : World} {A : Option Addr} {a b : At} (h : AtsR w.heap.size w A [a.ra, b.ra]) : ∃ bk o VA VC PA PC UA UC QA QC, A = some ⟨bk, o, none⟩ ∧ bk < w.heap.size ∧
    ((w.cell? ⟨bk, o, none⟩ = some (.slice VA a.vs.length VC) ∧ w.cell? ⟨bk, o + 1, none⟩ = some (.slice PA a.P.length PC)) ∧ w.cell? ⟨bk, o + 2, none⟩ = some (.slice UA b.vs.length UC) ∧ w.cell? ⟨bk, o + 2 + 1, none⟩ = some (.slice QA b.P.length QC)) ∧
    RefV w (.agg #[.slice VA a.vs.length VC, .slice PA a.P.length PC]) (a.vs.map Int.ofNat) a.P ∧ RefV w (.agg #[.slice UA b.vs.length UC, .slice QA b.P.length QC]) (b.vs.map Int.ofNat) b.P := by
  obtain ⟨bk, o, e, hb, hc⟩ := h (by simp)
  have hl : ∀ c : At, c.ra.vs.length = c.vs.length := fun c => by unfold At.ra; simp
  obtain ⟨VA, VC, PA, PC, h1, h2, d1, d2, d3, d4, h4, h5⟩ := hc 0 (by simp)
  obtain ⟨UA, UC, QA, QC, k1, k2, f1, f2, f3, f4, k4, k5⟩ := hc 1 (by simp)
  simp only [List.getElem_cons_zero, List.getElem_cons_succ, hl, Nat.zero_mul, Nat.add_zero, Nat.one_mul] at h1 h2 k1 k2 d1 f1
  exact ⟨bk, o, VA, VC, PA, PC, UA, UC, QA, QC, e, hb, ⟨⟨h1, h2⟩, k1, k2⟩, ⟨VA, VC, PA, PC, by rw [List.length_map], by rw [List.length_map]; exact d1, d2, d3, d4, h4, h5⟩, UA, UC, QA, QC, by rw [List.length_map], by rw [List.length_map]; exact f1, f2, f3, f4, k4, k5⟩

set_option maxHeartbeats 64000000 in
theorem l36Pairs_any (x y : LA) (R1 R2 : Option Addr) (D1 D2 : Nat) (w : World) (hA : SlA 4 w.heap.size w R1 x.R) (hB : SlA 4 w.heap.size w R2 y.R) (hx : x.v < 256 ∧ x.b < 256 ∧ Bytes x.R) (hy : y.v < 256 ∧ y.b < 256 ∧ Bytes y.R) :
    Calls Tryz.prog 3 #[.agg #[.int .u8 (x.v : Nat), .slice R1 x.R.length D1, .int .u8 (x.b : Nat)], .agg #[.int .u8 (y.v : Nat), .slice R2 y.R.length D2, .int .u8 (y.b : Nat)]] w fun e w' => e = .returned (.bool true) ∧ Below w.heap.size w w' := by
  obtain ⟨W0, hW0⟩ : ∃ W0, W0 = (w.alloc (.cells #[.int .u8 (x.v : Nat), .slice R1 x.R.length D1, .int .u8 (x.b : Nat)] 24)).alloc (.cells #[.int .u8 (y.v : Nat), .slice R2 y.R.length D2, .int .u8 (y.b : Nat)] 24) := ⟨_, rfl⟩
  have hr0 : Row W0 w.heap.size 24 [.int .u8 (x.v : Nat), .slice R1 x.R.length D1, .int .u8 (x.b : Nat)] := by rw [hW0]; exact (Row.new w 24 _).alloc _
  have hr1 : Row W0 (w.heap.size + 1) 24 [.int .u8 (y.v : Nat), .slice R2 y.R.length D2, .int .u8 (y.b : Nat)] := by
    have h := Row.new (w.alloc (.cells #[.int .u8 (x.v : Nat), .slice R1 x.R.length D1, .int .u8 (x.b : Nat)] 24)) 24 [.int .u8 (y.v : Nat), .slice R2 y.R.length D2, .int .u8 (y.b : Nat)]
    rw [World.size_alloc] at h
    rw [hW0]; exact h
  obtain ⟨W1, hW1⟩ : ∃ W1, W1 = W0.alloc (.cells #[.int .u8 (x.v : Nat), .slice R1 x.R.length D1, .int .u8 (x.b : Nat), .int .u8 (y.v : Nat), .slice R2 y.R.length D2, .int .u8 (y.b : Nat)] 24) := ⟨_, rfl⟩
  have HMK := Lib.hid (made37_any x y R1 R2 D1 D2 w W1 hA hB hx hy (by rw [hW1, hW0]))
  have HW0E := Lib.hid hW0
  have HW1E := Lib.hid hW1
  have HZ0 : Hid (W0.heap.size = w.heap.size + 1 + 1) := by show _ = _; rw [hW0]; simp
  have f0 : W0.cell? ⟨w.heap.size, 0, none⟩ = some (.int .u8 (x.v : Nat)) := hr0.cell 0
  have f1 : W0.cell? ⟨w.heap.size, 1, none⟩ = some (.slice R1 x.R.length D1) := hr0.cell 1
  have f2 : W0.cell? ⟨w.heap.size, 2, none⟩ = some (.int .u8 (x.b : Nat)) := hr0.cell 2
  have f3 : W0.cell? ⟨w.heap.size + 1, 0, none⟩ = some (.int .u8 (y.v : Nat)) := hr1.cell 0
  have f4 : W0.cell? ⟨w.heap.size + 1, 1, none⟩ = some (.slice R2 y.R.length D2) := hr1.cell 1
  have f5 : W0.cell? ⟨w.heap.size + 1, 2, none⟩ = some (.int .u8 (y.b : Nat)) := hr1.cell 2
  have f6 := hr0.lt
  have f7 := hr1.lt
  clear hA hB hx hy hW0 hW1 hr0 hr1
  go_enter Tryz.func3, Tryz.ntmps3
  go_upto_region 1 with (fail)
  rw [← HW0E.out]
  clear HW0E
  go_wp2_with fail
  rw [← HW1E.out, HZ0.out]
  clear HW1E HZ0 f0 f1 f2 f3 f4 f5 f6 f7
  refine HMK.out.mono ?_
  rintro e w2 ⟨hb1, rfl | ⟨A1, A2, A3, C1, C2, C3, rfl, hok, ha, hr, hz⟩⟩
  · clear HMK
    go_wp2_with fail
    refine (l36awake_any _).mono ?_
    rintro e w2 ⟨rfl, hb2⟩
    have hbw := Below.then hb1 hb2 hb1.size
    clear hb1 hb2
    go_wp2
    go_ret
    exact ⟨rfl, hbw⟩
  have HB2 := Lib.hid hb1
  have HWR : Hid (∀ W, Below w2.heap.size w2 W → Calls Tryz.prog 11 #[.slice A2 2 C2, .slice A3 2 C3] W fun e w' => e = .returned (.int .i64 (errC [x.ra, y.ra])) ∧ Below W.heap.size W w') := fun W h => r36Wrong_any A2 A3 C2 C3 [x.ra, y.ra] W (hr.upB h) ((Sl.below hz h (Nat.le_refl _)).more h.size) (by simp) (fun a ha => Nat.le_trans (LA.smalls (l := [x, y]) (fun c hc => by
    rcases List.mem_cons.1 hc with rfl | hc
    · exact hok.1
    · rw [List.mem_singleton.1 hc]; exact hok.2) a ha).vl (by omega))
  have HSM : Hid (∀ r ∈ [x.ra, y.ra], r.vs.length ≤ 1000000) := fun r hr => Nat.le_trans (LA.smalls (l := [x, y]) (fun c hc => by
    rcases List.mem_cons.1 hc with rfl | hc
    · exact hok.1
    · rw [List.mem_singleton.1 hc]; exact hok.2) r hr).vl (by omega)
  have HOK := Lib.hid hok
  clear HMK hb1
  by_cases he : errC [x.ra, y.ra] = 0
  rotate_left
  · obtain ⟨xr, hxr⟩ : ∃ xr, xr = x.ra := ⟨_, rfl⟩
    obtain ⟨yr, hyr⟩ : ∃ yr, yr = y.ra := ⟨_, rfl⟩
    rw [← hxr, ← hyr] at HWR HSM ha he
    obtain ⟨b, o, VA, VC, PA, PC, UA, UC, QA, QC, rfl, hbl, hcs, hv0, hv1⟩ := two_raM ha
    have HS : Hid (∀ W, Below w2.heap.size w2 W → (W.cell? ⟨b, o, none⟩ = some (.slice VA xr.vs.length VC) ∧ W.cell? ⟨b, o + 1, none⟩ = some (.int .i64 xr.ar) ∧ W.cell? ⟨b, o + 2, none⟩ = some (.slice PA xr.P.length PC)) ∧ W.cell? ⟨b, o + 3, none⟩ = some (.slice UA yr.vs.length UC) ∧ W.cell? ⟨b, o + 3 + 1, none⟩ = some (.int .i64 yr.ar) ∧ W.cell? ⟨b, o + 3 + 2, none⟩ = some (.slice QA yr.P.length QC)) := fun W h => by
      have hc : ∀ i, W.cell? ⟨b, i, none⟩ = w2.cell? ⟨b, i, none⟩ := fun i => h.cell (p := ⟨b, i, none⟩) hbl
      rw [hc, hc, hc, hc, hc, hc]
      exact hcs
    have HJ1 : Hid (∀ W, Below w2.heap.size w2 W → Calls Tryz.prog 9 #[(.agg #[.slice VA xr.vs.length VC, .int .i64 xr.ar, .slice PA xr.P.length PC]), (.agg #[.slice UA yr.vs.length UC, .int .i64 yr.ar, .slice QA yr.P.length QC])] W (XPost W (errC [xr, yr]) ⟨[], []⟩)) := fun W h => sjSemiX_any _ _ xr yr W (hv0.up h) (hv1.up h) ⟨HSM.out xr (by simp), HSM.out yr (by simp)⟩ _ fun _ _ _ h0 => absurd h0 he
    have HJ2 : Hid (∀ W, Below w2.heap.size w2 W → Calls Tryz.prog 10 #[(.agg #[.slice VA xr.vs.length VC, .int .i64 xr.ar, .slice PA xr.P.length PC]), (.agg #[.slice UA yr.vs.length UC, .int .i64 yr.ar, .slice QA yr.P.length QC])] W (XPost W (errC [xr, yr]) ⟨[], []⟩)) := fun W h => sjJoinX_any _ _ xr yr W (hv0.up h) (hv1.up h) ⟨HSM.out xr (by simp), HSM.out yr (by simp)⟩ _ fun _ _ _ h0 => absurd h0 he
    have HBL := Lib.hid hbl
    have hne : (errC [xr, yr] != 0) = true := by simpa using he
    generalize errC [xr, yr] = code at *
    clear hcs hv0 hv1 he HOK ha hr hz hxr hyr HSM
    go_wp2_with fail
    go_upto_region 4 with (fail)
    go_cut [9, 10] from 28 to 37 (fun r e wx => ∃ g : Nat, r = .pointer (some ⟨g, 0, none⟩) ∧ e = .int .i64 (code) ∧ BoxA wx g (resA code ⟨[], []⟩) ∧ Below w2.heap.size w2 wx)
    case first =>
      refine wp_region_held_drew (S := (fun w' => (w'.cell? ⟨b, o, none⟩ = some (.slice VA xr.vs.length VC) ∧ w'.cell? ⟨b, o + 1, none⟩ = some (.int .i64 xr.ar) ∧ w'.cell? ⟨b, o + 2, none⟩ = some (.slice PA xr.P.length PC)) ∧ w'.cell? ⟨b, o + 3, none⟩ = some (.slice UA yr.vs.length UC) ∧ w'.cell? ⟨b, o + 3 + 1, none⟩ = some (.int .i64 yr.ar) ∧ w'.cell? ⟨b, o + 3 + 2, none⟩ = some (.slice QA yr.P.length QC))) (by kernel_rfl) (HS.out w2.drew (Below.refl _ _).drew) (fun hHeld => ?_)
      obtain ⟨V0, hV0⟩ : ∃ V, V = w2.drew := ⟨_, rfl⟩
      have HV : Hid (Below w2.heap.size w2 V0) := by show Below _ _ _; rw [hV0]; exact (Below.refl _ _).drew
      rw [← hV0] at hHeld ⊢
      clear hV0
      refine takeOp (i := 0) (v := ?_) (some 29) rfl rfl (by kernel_rfl) (by kernel_rfl) (by kernel_rfl) (fun _ _ _ h => h) (Or.inl ⟨by rfl, ?_⟩) (by assumption) ?_
      rotate_left 1
      · (intro w0 hSw; (try dsimp only at hSw); go_simp; try (with_reducible rfl))
      try simp only [Act.put, List.setIfInBounds_toArray, List.set_cons_succ, List.set_cons_zero]
      refine takeOp (i := 1) (v := ?_) (some 30) rfl rfl (by kernel_rfl) (by kernel_rfl) (by kernel_rfl) (fun _ _ _ h => h) (Or.inl ⟨by rfl, ?_⟩) (by assumption) ?_
      rotate_left 1
      · (intro w0 hSw; (try dsimp only at hSw); go_simp; try (with_reducible rfl))
      try simp only [Act.put, List.setIfInBounds_toArray, List.set_cons_succ, List.set_cons_zero]
      refine takeOp (i := 2) (v := ?_) (some 31) rfl rfl (by kernel_rfl) (by kernel_rfl) (by kernel_rfl) (fun _ _ _ h => h) (Or.inl ⟨by rfl, ?_⟩) (by assumption) ?_
      rotate_left 1
      · (intro w0 hSw; (try dsimp only at hSw); go_simp; try (with_reducible rfl))
      try simp only [Act.put, List.setIfInBounds_toArray, List.set_cons_succ, List.set_cons_zero]
      refine takeOp (i := 3) (v := ?_) (some 32) rfl rfl (by kernel_rfl) (by kernel_rfl) (by kernel_rfl) (fun _ _ _ h => h) (Or.inl ⟨by rfl, ?_⟩) (by assumption) ?_
      rotate_left 1
      · (intro w0 hSw; (try dsimp only at hSw); go_simp; try (with_reducible rfl))
      try simp only [Act.put, List.setIfInBounds_toArray, List.set_cons_succ, List.set_cons_zero]
      refine takeOp (i := 4) (v := ?_) (some 33) rfl rfl (by kernel_rfl) (by kernel_rfl) (by kernel_rfl) (fun _ _ _ h => h) (Or.inl ⟨by rfl, ?_⟩) (by assumption) ?_
      rotate_left 1
      · (intro w0 hSw; (try dsimp only at hSw); go_simp; try (with_reducible rfl))
      try simp only [Act.put, List.setIfInBounds_toArray, List.set_cons_succ, List.set_cons_zero]
      refine takeOp (i := 5) (v := ?_) (some 34) rfl rfl (by kernel_rfl) (by kernel_rfl) (by kernel_rfl) (fun _ _ _ h => h) (Or.inl ⟨by rfl, ?_⟩) (by assumption) ?_
      rotate_left 1
      · (intro w0 hSw; (try dsimp only at hSw); go_simp; try (with_reducible rfl))
      try simp only [Act.put, List.setIfInBounds_toArray, List.set_cons_succ, List.set_cons_zero]
      refine wpAnyH_ready (rs := [6, 10]) (by kernel_rfl) (by simp) ?_
      refine (AllReadyH.cons rfl (fun K hK => ?_) (AllReadyH.cons rfl (fun K hK => ?_) AllReadyH.nil))
      · go_simp
        refine (HJ1.out V0 HV.out).mono ?_
        rintro e V1 hp
        obtain ⟨SA, SC, TA, TC, rfl, hat, hb⟩ := hp.one
        have HAT := Lib.hid hat
        have HVS : Hid (w2.heap.size ≤ V0.heap.size) := HV.out.size
        have HV := Lib.hid (Below.then HV.out hb HV.out.size)
        clear hat hb hp
        go_wp2_with fail
        refine hK.out _ _ (HS.out V1 HV.out) (fun hHeld => ?_)
        clear hK K
        try simp only [Act.put, List.setIfInBounds_toArray, List.set_cons_succ, List.set_cons_zero]
        refine takeOp (i := 7) (v := ?_) (some 28) rfl rfl (by kernel_rfl) (by kernel_rfl) (by kernel_rfl) (fun _ _ _ h => h) (Or.inl ⟨by rfl, ?_⟩) (by assumption) ?_
        rotate_left 1
        · (intro w0 hSw; (try dsimp only at hSw); go_simp; try (with_reducible rfl))
        try simp only [Act.put, List.setIfInBounds_toArray, List.set_cons_succ, List.set_cons_zero]
        refine takeOp (i := 8) (v := ?_) (some 36) rfl rfl (by kernel_rfl) (by kernel_rfl) (by kernel_rfl) (fun _ _ _ h => h) (Or.inl ⟨by rfl, ?_⟩) (by assumption) ?_
        rotate_left 1
        · (intro w0 hSw; (try dsimp only at hSw); go_simp; try (with_reducible rfl))
        try simp only [Act.put, List.setIfInBounds_toArray, List.set_cons_succ, List.set_cons_zero]
        refine takeOp (i := 9) (v := ?_) (some 37) rfl rfl (by kernel_rfl) (by kernel_rfl) (by kernel_rfl) (fun _ _ _ h => h) (Or.inl ⟨by rfl, ?_⟩) (by assumption) ?_
        rotate_left 1
        · (intro w0 hSw; (try dsimp only at hSw); go_simp; try (with_reducible rfl))
        try simp only [Act.put, List.setIfInBounds_toArray, List.set_cons_succ, List.set_cons_zero]
        refine wpAnyH_ready (rs := [10]) (by kernel_rfl) (by simp) ?_
        refine (AllReadyH.cons rfl (fun K hK => ?_) AllReadyH.nil)
        go_simp
        obtain ⟨V2, hV⟩ : ∃ V', V' = V1.alloc (.cells #[.slice none 0 0, .int .i64 0, .slice none 0 0] 36) := ⟨_, rfl⟩
        rw [← hV]
        have hx : Ext V1 V2 := by rw [hV]; exact (Ext.refl V1).alloc _
        obtain ⟨gb, hgb⟩ : ∃ gb, gb = V1.heap.size := ⟨_, rfl⟩
        have HG : Hid (Row V2 gb 36 [.slice none 0 0, .int .i64 0, .slice none 0 0]) := by show Row _ _ _ _; rw [hV, hgb]; exact Row.new V1 _ _
        have HGZ : Hid (w2.heap.size ≤ gb ∧ gb + 1 = V2.heap.size ∧ gb = V1.heap.size) := ⟨by rw [hgb]; exact HV.out.size, by rw [hV, hgb]; simp, hgb⟩
        have HAT := Lib.hid (HAT.out.keep (P' := fun c => c < gb) (fun p hp _ => hx.below.cell hp) hx.size fun b hb _ => by rw [hgb]; exact hb)
        have HV := Lib.hid (Below.then HV.out hx.below HV.out.size)
        rw [← hgb]
        clear hx hV hgb
        refine hK.out _ _ (HS.out V2 HV.out) (fun hHeld => ?_)
        clear hK K
        try simp only [Act.put, List.setIfInBounds_toArray, List.set_cons_succ, List.set_cons_zero]
        refine wpAnyH_ready (rs := [11]) (by kernel_rfl) (by simp) ?_
        refine (AllReadyH.cons rfl (fun K hK => ?_) AllReadyH.nil)
        have m0 := HG.out.frozen 0
        have m1 := HG.out.frozen 1
        have m2 := HG.out.frozen 2
        have m3 := HG.out.lt
        have n0 : V2.cell? ⟨gb, 0, none⟩ = some (.slice none 0 0) := HG.out.cell 0
        have n1 : V2.cell? ⟨gb, 1, none⟩ = some (.int .i64 0) := HG.out.cell 1
        have n2 : V2.cell? ⟨gb, 2, none⟩ = some (.slice none 0 0) := HG.out.cell 2
        go_simp
        go_wp2_with fail
        obtain ⟨V3, hV⟩ : ∃ V', V' = ((V2.setCell ⟨gb, 0, none⟩ (.slice SA (resA code ⟨[], []⟩).vs.length SC)).setCell ⟨gb, 1, none⟩ (.int .i64 ((resA code ⟨[], []⟩).vs.length : Nat))).setCell ⟨gb, 2, none⟩ (.slice TA (resA code ⟨[], []⟩).P.length TC) := ⟨_, rfl⟩
        rw [← hV]
        have HBX := Lib.hid (BoxA.put HG.out HAT.out (by show ¬ gb < gb; omega) hV)
        have hz := HGZ.out.1
        have HV : Hid (Below w2.heap.size w2 V3) := by show Below _ _ _; rw [hV]; exact ((HV.out.setCell (by show w2.heap.size ≤ gb; omega) _).setCell (by show w2.heap.size ≤ gb; omega) _).setCell (by show w2.heap.size ≤ gb; omega) _
        clear hV m0 m1 m2 m3 n0 n1 n2 hz
        refine hK.out _ _ (HS.out V3 HV.out) (fun hHeld => ?_)
        clear hK K
        try simp only [Act.put, List.setIfInBounds_toArray, List.set_cons_succ, List.set_cons_zero]
        refine takeOp (i := 12) (v := ?_) (some 10) rfl rfl (by kernel_rfl) (by kernel_rfl) (by kernel_rfl) (fun _ _ _ h => h) (Or.inl ⟨by rfl, ?_⟩) (by assumption) ?_
        rotate_left 1
        · (intro w0 hSw; (try dsimp only at hSw); go_simp; try (with_reducible rfl))
        try simp only [Act.put, List.setIfInBounds_toArray, List.set_cons_succ, List.set_cons_zero]
        refine wpAnyH_done (by kernel_rfl) ?_ _
        go_wp2_with fail
        go_meet
        case rel => exact ⟨gb, rfl, rfl, HBX.out, HV.out⟩
      · go_simp
        obtain ⟨V1, hV⟩ : ∃ V', V' = V0.alloc (.cells #[.slice none 0 0, .int .i64 0, .slice none 0 0] 36) := ⟨_, rfl⟩
        rw [← hV]
        have hx : Ext V0 V1 := by rw [hV]; exact (Ext.refl V0).alloc _
        obtain ⟨gb, hgb⟩ : ∃ gb, gb = V0.heap.size := ⟨_, rfl⟩
        have HG : Hid (Row V1 gb 36 [.slice none 0 0, .int .i64 0, .slice none 0 0]) := by show Row _ _ _ _; rw [hV, hgb]; exact Row.new V0 _ _
        have HGZ : Hid (w2.heap.size ≤ gb ∧ gb + 1 = V1.heap.size ∧ gb = V0.heap.size) := ⟨by rw [hgb]; exact HV.out.size, by rw [hV, hgb]; simp, hgb⟩
        have HV := Lib.hid (Below.then HV.out hx.below HV.out.size)
        rw [← hgb]
        clear hx hV hgb
        refine hK.out _ _ (HS.out V1 HV.out) (fun hHeld => ?_)
        clear hK K
        try simp only [Act.put, List.setIfInBounds_toArray, List.set_cons_succ, List.set_cons_zero]
        refine wpAnyH_ready (rs := [6]) (by kernel_rfl) (by simp) ?_
        refine (AllReadyH.cons rfl (fun K hK => ?_) AllReadyH.nil)
        go_simp
        refine (HJ1.out V1 HV.out).mono ?_
        rintro e V2 hp
        obtain ⟨SA, SC, TA, TC, rfl, hat, hb⟩ := hp.one
        have HAT := Lib.hid hat
        have HVS : Hid (w2.heap.size ≤ V1.heap.size) := HV.out.size
        have HG := Lib.hid (HG.out.up hb)
        have HV := Lib.hid (Below.then HV.out hb HV.out.size)
        clear hat hb hp
        go_wp2_with fail
        refine hK.out _ _ (HS.out V2 HV.out) (fun hHeld => ?_)
        clear hK K
        try simp only [Act.put, List.setIfInBounds_toArray, List.set_cons_succ, List.set_cons_zero]
        refine takeOp (i := 7) (v := ?_) (some 28) rfl rfl (by kernel_rfl) (by kernel_rfl) (by kernel_rfl) (fun _ _ _ h => h) (Or.inl ⟨by rfl, ?_⟩) (by assumption) ?_
        rotate_left 1
        · (intro w0 hSw; (try dsimp only at hSw); go_simp; try (with_reducible rfl))
        try simp only [Act.put, List.setIfInBounds_toArray, List.set_cons_succ, List.set_cons_zero]
        refine takeOp (i := 8) (v := ?_) (some 36) rfl rfl (by kernel_rfl) (by kernel_rfl) (by kernel_rfl) (fun _ _ _ h => h) (Or.inl ⟨by rfl, ?_⟩) (by assumption) ?_
        rotate_left 1
        · (intro w0 hSw; (try dsimp only at hSw); go_simp; try (with_reducible rfl))
        try simp only [Act.put, List.setIfInBounds_toArray, List.set_cons_succ, List.set_cons_zero]
        refine takeOp (i := 9) (v := ?_) (some 37) rfl rfl (by kernel_rfl) (by kernel_rfl) (by kernel_rfl) (fun _ _ _ h => h) (Or.inl ⟨by rfl, ?_⟩) (by assumption) ?_
        rotate_left 1
        · (intro w0 hSw; (try dsimp only at hSw); go_simp; try (with_reducible rfl))
        try simp only [Act.put, List.setIfInBounds_toArray, List.set_cons_succ, List.set_cons_zero]
        refine wpAnyH_ready (rs := [11]) (by kernel_rfl) (by simp) ?_
        refine (AllReadyH.cons rfl (fun K hK => ?_) AllReadyH.nil)
        have m0 := HG.out.frozen 0
        have m1 := HG.out.frozen 1
        have m2 := HG.out.frozen 2
        have m3 := HG.out.lt
        have n0 : V2.cell? ⟨gb, 0, none⟩ = some (.slice none 0 0) := HG.out.cell 0
        have n1 : V2.cell? ⟨gb, 1, none⟩ = some (.int .i64 0) := HG.out.cell 1
        have n2 : V2.cell? ⟨gb, 2, none⟩ = some (.slice none 0 0) := HG.out.cell 2
        go_simp
        go_wp2_with fail
        obtain ⟨V3, hV⟩ : ∃ V', V' = ((V2.setCell ⟨gb, 0, none⟩ (.slice SA (resA code ⟨[], []⟩).vs.length SC)).setCell ⟨gb, 1, none⟩ (.int .i64 ((resA code ⟨[], []⟩).vs.length : Nat))).setCell ⟨gb, 2, none⟩ (.slice TA (resA code ⟨[], []⟩).P.length TC) := ⟨_, rfl⟩
        rw [← hV]
        have HBX := Lib.hid (BoxA.put HG.out HAT.out (by have := HGZ.out; show ¬ _ + 3 ≤ gb; omega) hV)
        have hz := HGZ.out.1
        have HV : Hid (Below w2.heap.size w2 V3) := by show Below _ _ _; rw [hV]; exact ((HV.out.setCell (by show w2.heap.size ≤ gb; omega) _).setCell (by show w2.heap.size ≤ gb; omega) _).setCell (by show w2.heap.size ≤ gb; omega) _
        clear hV m0 m1 m2 m3 n0 n1 n2 hz
        refine hK.out _ _ (HS.out V3 HV.out) (fun hHeld => ?_)
        clear hK K
        try simp only [Act.put, List.setIfInBounds_toArray, List.set_cons_succ, List.set_cons_zero]
        refine takeOp (i := 12) (v := ?_) (some 10) rfl rfl (by kernel_rfl) (by kernel_rfl) (by kernel_rfl) (fun _ _ _ h => h) (Or.inl ⟨by rfl, ?_⟩) (by assumption) ?_
        rotate_left 1
        · (intro w0 hSw; (try dsimp only at hSw); go_simp; try (with_reducible rfl))
        try simp only [Act.put, List.setIfInBounds_toArray, List.set_cons_succ, List.set_cons_zero]
        refine wpAnyH_done (by kernel_rfl) ?_ _
        go_wp2_with fail
        go_meet
        case rel => exact ⟨gb, rfl, rfl, HBX.out, HV.out⟩
    case rest =>
      obtain ⟨g9, rfl, rfl, hbx, hbw⟩ := hcut
      generalize wc = wA at *
      obtain ⟨Aj, Cj, Pj, Dj, hrj⟩ := hbx.nil
      have HRJ := Lib.hid hrj
      have HBA := Lib.hid hbw
      have HSA : Hid (∀ W, Below wA.heap.size wA W → (W.cell? ⟨b, o, none⟩ = some (.slice VA xr.vs.length VC) ∧ W.cell? ⟨b, o + 1, none⟩ = some (.int .i64 xr.ar) ∧ W.cell? ⟨b, o + 2, none⟩ = some (.slice PA xr.P.length PC)) ∧ W.cell? ⟨b, o + 3, none⟩ = some (.slice UA yr.vs.length UC) ∧ W.cell? ⟨b, o + 3 + 1, none⟩ = some (.int .i64 yr.ar) ∧ W.cell? ⟨b, o + 3 + 2, none⟩ = some (.slice QA yr.P.length QC)) := fun W h => HS.out W (Below.then HBA.out h HBA.out.size)
      have HJA := Lib.hid (fun W (h : Below wA.heap.size wA W) => HJ2.out W (Below.then HBA.out h HBA.out.size))
      have hbl : b < wA.heap.size := Nat.lt_of_lt_of_le HBL.out HBA.out.size
      clear hbx hbw hrj
      go_wp2_with fail
      go_upto_region 5 with (fail)
      go_cut [11, 12] from 38 to 47 (fun r e wx => ∃ g : Nat, r = .pointer (some ⟨g, 0, none⟩) ∧ e = .int .i64 (code) ∧ BoxA wx g (resA code ⟨[], []⟩) ∧ Below wA.heap.size wA wx)
      case first =>
        refine wp_region_held_drew (S := (fun w' => (w'.cell? ⟨b, o, none⟩ = some (.slice VA xr.vs.length VC) ∧ w'.cell? ⟨b, o + 1, none⟩ = some (.int .i64 xr.ar) ∧ w'.cell? ⟨b, o + 2, none⟩ = some (.slice PA xr.P.length PC)) ∧ w'.cell? ⟨b, o + 3, none⟩ = some (.slice UA yr.vs.length UC) ∧ w'.cell? ⟨b, o + 3 + 1, none⟩ = some (.int .i64 yr.ar) ∧ w'.cell? ⟨b, o + 3 + 2, none⟩ = some (.slice QA yr.P.length QC))) (by kernel_rfl) (HSA.out wA.drew (Below.refl _ _).drew) (fun hHeld => ?_)
        obtain ⟨V0, hV0⟩ : ∃ V, V = wA.drew := ⟨_, rfl⟩
        have HV : Hid (Below wA.heap.size wA V0) := by show Below _ _ _; rw [hV0]; exact (Below.refl _ _).drew
        rw [← hV0] at hHeld ⊢
        clear hV0
        refine takeOp (i := 0) (v := ?_) (some 39) rfl rfl (by kernel_rfl) (by kernel_rfl) (by kernel_rfl) (fun _ _ _ h => h) (Or.inl ⟨by rfl, ?_⟩) (by assumption) ?_
        rotate_left 1
        · (intro w0 hSw; (try dsimp only at hSw); go_simp; try (with_reducible rfl))
        try simp only [Act.put, List.setIfInBounds_toArray, List.set_cons_succ, List.set_cons_zero]
        refine takeOp (i := 1) (v := ?_) (some 40) rfl rfl (by kernel_rfl) (by kernel_rfl) (by kernel_rfl) (fun _ _ _ h => h) (Or.inl ⟨by rfl, ?_⟩) (by assumption) ?_
        rotate_left 1
        · (intro w0 hSw; (try dsimp only at hSw); go_simp; try (with_reducible rfl))
        try simp only [Act.put, List.setIfInBounds_toArray, List.set_cons_succ, List.set_cons_zero]
        refine takeOp (i := 2) (v := ?_) (some 41) rfl rfl (by kernel_rfl) (by kernel_rfl) (by kernel_rfl) (fun _ _ _ h => h) (Or.inl ⟨by rfl, ?_⟩) (by assumption) ?_
        rotate_left 1
        · (intro w0 hSw; (try dsimp only at hSw); go_simp; try (with_reducible rfl))
        try simp only [Act.put, List.setIfInBounds_toArray, List.set_cons_succ, List.set_cons_zero]
        refine takeOp (i := 3) (v := ?_) (some 42) rfl rfl (by kernel_rfl) (by kernel_rfl) (by kernel_rfl) (fun _ _ _ h => h) (Or.inl ⟨by rfl, ?_⟩) (by assumption) ?_
        rotate_left 1
        · (intro w0 hSw; (try dsimp only at hSw); go_simp; try (with_reducible rfl))
        try simp only [Act.put, List.setIfInBounds_toArray, List.set_cons_succ, List.set_cons_zero]
        refine takeOp (i := 4) (v := ?_) (some 43) rfl rfl (by kernel_rfl) (by kernel_rfl) (by kernel_rfl) (fun _ _ _ h => h) (Or.inl ⟨by rfl, ?_⟩) (by assumption) ?_
        rotate_left 1
        · (intro w0 hSw; (try dsimp only at hSw); go_simp; try (with_reducible rfl))
        try simp only [Act.put, List.setIfInBounds_toArray, List.set_cons_succ, List.set_cons_zero]
        refine takeOp (i := 5) (v := ?_) (some 44) rfl rfl (by kernel_rfl) (by kernel_rfl) (by kernel_rfl) (fun _ _ _ h => h) (Or.inl ⟨by rfl, ?_⟩) (by assumption) ?_
        rotate_left 1
        · (intro w0 hSw; (try dsimp only at hSw); go_simp; try (with_reducible rfl))
        try simp only [Act.put, List.setIfInBounds_toArray, List.set_cons_succ, List.set_cons_zero]
        refine wpAnyH_ready (rs := [6, 10]) (by kernel_rfl) (by simp) ?_
        refine (AllReadyH.cons rfl (fun K hK => ?_) (AllReadyH.cons rfl (fun K hK => ?_) AllReadyH.nil))
        · go_simp
          refine (HJA.out V0 HV.out).mono ?_
          rintro e V1 hp
          obtain ⟨SA, SC, TA, TC, rfl, hat, hb⟩ := hp.one
          have HAT := Lib.hid hat
          have HVS : Hid (wA.heap.size ≤ V0.heap.size) := HV.out.size
          have HV := Lib.hid (Below.then HV.out hb HV.out.size)
          clear hat hb hp
          go_wp2_with fail
          refine hK.out _ _ (HSA.out V1 HV.out) (fun hHeld => ?_)
          clear hK K
          try simp only [Act.put, List.setIfInBounds_toArray, List.set_cons_succ, List.set_cons_zero]
          refine takeOp (i := 7) (v := ?_) (some 38) rfl rfl (by kernel_rfl) (by kernel_rfl) (by kernel_rfl) (fun _ _ _ h => h) (Or.inl ⟨by rfl, ?_⟩) (by assumption) ?_
          rotate_left 1
          · (intro w0 hSw; (try dsimp only at hSw); go_simp; try (with_reducible rfl))
          try simp only [Act.put, List.setIfInBounds_toArray, List.set_cons_succ, List.set_cons_zero]
          refine takeOp (i := 8) (v := ?_) (some 46) rfl rfl (by kernel_rfl) (by kernel_rfl) (by kernel_rfl) (fun _ _ _ h => h) (Or.inl ⟨by rfl, ?_⟩) (by assumption) ?_
          rotate_left 1
          · (intro w0 hSw; (try dsimp only at hSw); go_simp; try (with_reducible rfl))
          try simp only [Act.put, List.setIfInBounds_toArray, List.set_cons_succ, List.set_cons_zero]
          refine takeOp (i := 9) (v := ?_) (some 47) rfl rfl (by kernel_rfl) (by kernel_rfl) (by kernel_rfl) (fun _ _ _ h => h) (Or.inl ⟨by rfl, ?_⟩) (by assumption) ?_
          rotate_left 1
          · (intro w0 hSw; (try dsimp only at hSw); go_simp; try (with_reducible rfl))
          try simp only [Act.put, List.setIfInBounds_toArray, List.set_cons_succ, List.set_cons_zero]
          refine wpAnyH_ready (rs := [10]) (by kernel_rfl) (by simp) ?_
          refine (AllReadyH.cons rfl (fun K hK => ?_) AllReadyH.nil)
          go_simp
          obtain ⟨V2, hV⟩ : ∃ V', V' = V1.alloc (.cells #[.slice none 0 0, .int .i64 0, .slice none 0 0] 36) := ⟨_, rfl⟩
          rw [← hV]
          have hx : Ext V1 V2 := by rw [hV]; exact (Ext.refl V1).alloc _
          obtain ⟨gb, hgb⟩ : ∃ gb, gb = V1.heap.size := ⟨_, rfl⟩
          have HG : Hid (Row V2 gb 36 [.slice none 0 0, .int .i64 0, .slice none 0 0]) := by show Row _ _ _ _; rw [hV, hgb]; exact Row.new V1 _ _
          have HGZ : Hid (wA.heap.size ≤ gb ∧ gb + 1 = V2.heap.size ∧ gb = V1.heap.size) := ⟨by rw [hgb]; exact HV.out.size, by rw [hV, hgb]; simp, hgb⟩
          have HAT := Lib.hid (HAT.out.keep (P' := fun c => c < gb) (fun p hp _ => hx.below.cell hp) hx.size fun b hb _ => by rw [hgb]; exact hb)
          have HV := Lib.hid (Below.then HV.out hx.below HV.out.size)
          rw [← hgb]
          clear hx hV hgb
          refine hK.out _ _ (HSA.out V2 HV.out) (fun hHeld => ?_)
          clear hK K
          try simp only [Act.put, List.setIfInBounds_toArray, List.set_cons_succ, List.set_cons_zero]
          refine wpAnyH_ready (rs := [11]) (by kernel_rfl) (by simp) ?_
          refine (AllReadyH.cons rfl (fun K hK => ?_) AllReadyH.nil)
          have m0 := HG.out.frozen 0
          have m1 := HG.out.frozen 1
          have m2 := HG.out.frozen 2
          have m3 := HG.out.lt
          have n0 : V2.cell? ⟨gb, 0, none⟩ = some (.slice none 0 0) := HG.out.cell 0
          have n1 : V2.cell? ⟨gb, 1, none⟩ = some (.int .i64 0) := HG.out.cell 1
          have n2 : V2.cell? ⟨gb, 2, none⟩ = some (.slice none 0 0) := HG.out.cell 2
          go_simp
          go_wp2_with fail
          obtain ⟨V3, hV⟩ : ∃ V', V' = ((V2.setCell ⟨gb, 0, none⟩ (.slice SA (resA code ⟨[], []⟩).vs.length SC)).setCell ⟨gb, 1, none⟩ (.int .i64 ((resA code ⟨[], []⟩).vs.length : Nat))).setCell ⟨gb, 2, none⟩ (.slice TA (resA code ⟨[], []⟩).P.length TC) := ⟨_, rfl⟩
          rw [← hV]
          have HBX := Lib.hid (BoxA.put HG.out HAT.out (by show ¬ gb < gb; omega) hV)
          have hz := HGZ.out.1
          have HV : Hid (Below wA.heap.size wA V3) := by show Below _ _ _; rw [hV]; exact ((HV.out.setCell (by show wA.heap.size ≤ gb; omega) _).setCell (by show wA.heap.size ≤ gb; omega) _).setCell (by show wA.heap.size ≤ gb; omega) _
          clear hV m0 m1 m2 m3 n0 n1 n2 hz
          refine hK.out _ _ (HSA.out V3 HV.out) (fun hHeld => ?_)
          clear hK K
          try simp only [Act.put, List.setIfInBounds_toArray, List.set_cons_succ, List.set_cons_zero]
          refine takeOp (i := 12) (v := ?_) (some 12) rfl rfl (by kernel_rfl) (by kernel_rfl) (by kernel_rfl) (fun _ _ _ h => h) (Or.inl ⟨by rfl, ?_⟩) (by assumption) ?_
          rotate_left 1
          · (intro w0 hSw; (try dsimp only at hSw); go_simp; try (with_reducible rfl))
          try simp only [Act.put, List.setIfInBounds_toArray, List.set_cons_succ, List.set_cons_zero]
          refine wpAnyH_done (by kernel_rfl) ?_ _
          go_wp2_with fail
          go_meet
          case rel => exact ⟨gb, rfl, rfl, HBX.out, HV.out⟩
        · go_simp
          obtain ⟨V1, hV⟩ : ∃ V', V' = V0.alloc (.cells #[.slice none 0 0, .int .i64 0, .slice none 0 0] 36) := ⟨_, rfl⟩
          rw [← hV]
          have hx : Ext V0 V1 := by rw [hV]; exact (Ext.refl V0).alloc _
          obtain ⟨gb, hgb⟩ : ∃ gb, gb = V0.heap.size := ⟨_, rfl⟩
          have HG : Hid (Row V1 gb 36 [.slice none 0 0, .int .i64 0, .slice none 0 0]) := by show Row _ _ _ _; rw [hV, hgb]; exact Row.new V0 _ _
          have HGZ : Hid (wA.heap.size ≤ gb ∧ gb + 1 = V1.heap.size ∧ gb = V0.heap.size) := ⟨by rw [hgb]; exact HV.out.size, by rw [hV, hgb]; simp, hgb⟩
          have HV := Lib.hid (Below.then HV.out hx.below HV.out.size)
          rw [← hgb]
          clear hx hV hgb
          refine hK.out _ _ (HSA.out V1 HV.out) (fun hHeld => ?_)
          clear hK K
          try simp only [Act.put, List.setIfInBounds_toArray, List.set_cons_succ, List.set_cons_zero]
          refine wpAnyH_ready (rs := [6]) (by kernel_rfl) (by simp) ?_
          refine (AllReadyH.cons rfl (fun K hK => ?_) AllReadyH.nil)
          go_simp
          refine (HJA.out V1 HV.out).mono ?_
          rintro e V2 hp
          obtain ⟨SA, SC, TA, TC, rfl, hat, hb⟩ := hp.one
          have HAT := Lib.hid hat
          have HVS : Hid (wA.heap.size ≤ V1.heap.size) := HV.out.size
          have HG := Lib.hid (HG.out.up hb)
          have HV := Lib.hid (Below.then HV.out hb HV.out.size)
          clear hat hb hp
          go_wp2_with fail
          refine hK.out _ _ (HSA.out V2 HV.out) (fun hHeld => ?_)
          clear hK K
          try simp only [Act.put, List.setIfInBounds_toArray, List.set_cons_succ, List.set_cons_zero]
          refine takeOp (i := 7) (v := ?_) (some 38) rfl rfl (by kernel_rfl) (by kernel_rfl) (by kernel_rfl) (fun _ _ _ h => h) (Or.inl ⟨by rfl, ?_⟩) (by assumption) ?_
          rotate_left 1
          · (intro w0 hSw; (try dsimp only at hSw); go_simp; try (with_reducible rfl))
          try simp only [Act.put, List.setIfInBounds_toArray, List.set_cons_succ, List.set_cons_zero]
          refine takeOp (i := 8) (v := ?_) (some 46) rfl rfl (by kernel_rfl) (by kernel_rfl) (by kernel_rfl) (fun _ _ _ h => h) (Or.inl ⟨by rfl, ?_⟩) (by assumption) ?_
          rotate_left 1
          · (intro w0 hSw; (try dsimp only at hSw); go_simp; try (with_reducible rfl))
          try simp only [Act.put, List.setIfInBounds_toArray, List.set_cons_succ, List.set_cons_zero]
          refine takeOp (i := 9) (v := ?_) (some 47) rfl rfl (by kernel_rfl) (by kernel_rfl) (by kernel_rfl) (fun _ _ _ h => h) (Or.inl ⟨by rfl, ?_⟩) (by assumption) ?_
          rotate_left 1
          · (intro w0 hSw; (try dsimp only at hSw); go_simp; try (with_reducible rfl))
          try simp only [Act.put, List.setIfInBounds_toArray, List.set_cons_succ, List.set_cons_zero]
          refine wpAnyH_ready (rs := [11]) (by kernel_rfl) (by simp) ?_
          refine (AllReadyH.cons rfl (fun K hK => ?_) AllReadyH.nil)
          have m0 := HG.out.frozen 0
          have m1 := HG.out.frozen 1
          have m2 := HG.out.frozen 2
          have m3 := HG.out.lt
          have n0 : V2.cell? ⟨gb, 0, none⟩ = some (.slice none 0 0) := HG.out.cell 0
          have n1 : V2.cell? ⟨gb, 1, none⟩ = some (.int .i64 0) := HG.out.cell 1
          have n2 : V2.cell? ⟨gb, 2, none⟩ = some (.slice none 0 0) := HG.out.cell 2
          go_simp
          go_wp2_with fail
          obtain ⟨V3, hV⟩ : ∃ V', V' = ((V2.setCell ⟨gb, 0, none⟩ (.slice SA (resA code ⟨[], []⟩).vs.length SC)).setCell ⟨gb, 1, none⟩ (.int .i64 ((resA code ⟨[], []⟩).vs.length : Nat))).setCell ⟨gb, 2, none⟩ (.slice TA (resA code ⟨[], []⟩).P.length TC) := ⟨_, rfl⟩
          rw [← hV]
          have HBX := Lib.hid (BoxA.put HG.out HAT.out (by have := HGZ.out; show ¬ _ + 3 ≤ gb; omega) hV)
          have hz := HGZ.out.1
          have HV : Hid (Below wA.heap.size wA V3) := by show Below _ _ _; rw [hV]; exact ((HV.out.setCell (by show wA.heap.size ≤ gb; omega) _).setCell (by show wA.heap.size ≤ gb; omega) _).setCell (by show wA.heap.size ≤ gb; omega) _
          clear hV m0 m1 m2 m3 n0 n1 n2 hz
          refine hK.out _ _ (HSA.out V3 HV.out) (fun hHeld => ?_)
          clear hK K
          try simp only [Act.put, List.setIfInBounds_toArray, List.set_cons_succ, List.set_cons_zero]
          refine takeOp (i := 12) (v := ?_) (some 12) rfl rfl (by kernel_rfl) (by kernel_rfl) (by kernel_rfl) (fun _ _ _ h => h) (Or.inl ⟨by rfl, ?_⟩) (by assumption) ?_
          rotate_left 1
          · (intro w0 hSw; (try dsimp only at hSw); go_simp; try (with_reducible rfl))
          try simp only [Act.put, List.setIfInBounds_toArray, List.set_cons_succ, List.set_cons_zero]
          refine wpAnyH_done (by kernel_rfl) ?_ _
          go_wp2_with fail
          go_meet
          case rel => exact ⟨gb, rfl, rfl, HBX.out, HV.out⟩
      case rest =>
        obtain ⟨g11, rfl, rfl, hbx, hbw⟩ := hcut
        generalize wc = wB at *
        obtain ⟨Ak, Ck, Pk, Dk, hrk⟩ := hbx.nil
        have hrj := HRJ.out.up hbw
        have HBB : Hid (Below w2.heap.size w2 wB) := Below.then HBA.out hbw HBA.out.size
        have HS8 : Hid (∀ W, Below wB.heap.size wB W → (W.cell? ⟨g9, 0, none⟩ = some (.slice Aj 0 Cj) ∧ W.cell? ⟨g9, 1, none⟩ = some (.int .i64 0) ∧ W.cell? ⟨g9, 2, none⟩ = some (.slice Pj 0 Dj)) ∧ W.cell? ⟨g11, 0, none⟩ = some (.slice Ak 0 Ck) ∧ W.cell? ⟨g11, 1, none⟩ = some (.int .i64 0) ∧ W.cell? ⟨g11, 2, none⟩ = some (.slice Pk 0 Dk)) := fun W h => ⟨⟨(hrj.up h).cell 0, (hrj.up h).cell 1, (hrj.up h).cell 2⟩, (hrk.up h).cell 0, (hrk.up h).cell 1, (hrk.up h).cell 2⟩
        clear hbx hbw hrj hrk HSA HJA HRJ hbl HS HJ1 HJ2
        go_wp2_with fail
        refine (HWR.out wB HBB.out).mono ?_
        rintro e wC ⟨rfl, hb3⟩
        have HBC : Hid (Below wB.heap.size wB wC) := hb3
        have HBD : Hid (Below w.heap.size w wC) := Below.then HB2.out (Below.then HBB.out hb3 HBB.out.size) HB2.out.size
        have HS9 : Hid (∀ W, Below wC.heap.size wC W → (W.cell? ⟨g9, 0, none⟩ = some (.slice Aj 0 Cj) ∧ W.cell? ⟨g9, 1, none⟩ = some (.int .i64 0) ∧ W.cell? ⟨g9, 2, none⟩ = some (.slice Pj 0 Dj)) ∧ W.cell? ⟨g11, 0, none⟩ = some (.slice Ak 0 Ck) ∧ W.cell? ⟨g11, 1, none⟩ = some (.int .i64 0) ∧ W.cell? ⟨g11, 2, none⟩ = some (.slice Pk 0 Dk)) := fun W h => HS8.out W (Below.then HBC.out h HBC.out.size)
        have hee : (code == code) = true := by simp
        clear hb3 HS8 HWR HBA HBB HB2
        go_upto_region 8 with (fail)
        refine wp_region_held_drew (S := (fun w' => (w'.cell? ⟨g9, 0, none⟩ = some (.slice Aj 0 Cj) ∧ w'.cell? ⟨g9, 1, none⟩ = some (.int .i64 0) ∧ w'.cell? ⟨g9, 2, none⟩ = some (.slice Pj 0 Dj)) ∧ w'.cell? ⟨g11, 0, none⟩ = some (.slice Ak 0 Ck) ∧ w'.cell? ⟨g11, 1, none⟩ = some (.int .i64 0) ∧ w'.cell? ⟨g11, 2, none⟩ = some (.slice Pk 0 Dk))) (by kernel_rfl) (HS9.out wC.drew (Below.refl _ _).drew) (fun hHeld => ?_)
        refine wpAnyH_ready (rs := [0]) (by kernel_rfl) (by simp) ?_
        refine AllReadyH.cons rfl (fun K hK => ?_) AllReadyH.nil
        go_simp
        refine (l36awake_any wC.drew).mono ?_
        rintro e V1 ⟨rfl, hb⟩
        have HV1 : Hid (Below wC.heap.size wC V1) := Below.undrew hb
        clear hb
        go_wp2_with fail
        refine hK.out _ _ (HS9.out V1 HV1.out) (fun hHeld => ?_)
        clear hK K
        try simp only [Act.put, List.setIfInBounds_toArray, List.set_cons_succ, List.set_cons_zero]
        refine takeOp (i := 1) (v := ?_) (some 54) rfl rfl (by kernel_rfl) (by kernel_rfl) (by kernel_rfl) (fun _ _ _ h => h) (Or.inl ⟨by rfl, ?_⟩) (by assumption) ?_
        rotate_left 1
        · (intro w0 hSw; (try dsimp only at hSw); go_simp; try (with_reducible rfl))
        try simp only [Act.put, List.setIfInBounds_toArray, List.set_cons_succ, List.set_cons_zero]
        refine takeOp (i := 2) (v := ?_) (some 55) rfl rfl (by kernel_rfl) (by kernel_rfl) (by kernel_rfl) (fun _ _ _ h => h) (Or.inl ⟨by rfl, ?_⟩) (by assumption) ?_
        rotate_left 1
        · (intro w0 hSw; (try dsimp only at hSw); go_simp; try (with_reducible rfl))
        try simp only [Act.put, List.setIfInBounds_toArray, List.set_cons_succ, List.set_cons_zero]
        refine takeOp (i := 3) (v := ?_) (some 56) rfl rfl (by kernel_rfl) (by kernel_rfl) (by kernel_rfl) (fun _ _ _ h => h) (Or.inl ⟨by rfl, ?_⟩) (by assumption) ?_
        rotate_left 1
        · (intro w0 hSw; (try dsimp only at hSw); go_simp; try (with_reducible rfl))
        try simp only [Act.put, List.setIfInBounds_toArray, List.set_cons_succ, List.set_cons_zero]
        refine takeOp (i := 4) (v := ?_) (some 57) rfl rfl (by kernel_rfl) (by kernel_rfl) (by kernel_rfl) (fun _ _ _ h => h) (Or.inl ⟨by rfl, ?_⟩) (by assumption) ?_
        rotate_left 1
        · (intro w0 hSw; (try dsimp only at hSw); go_simp; try (with_reducible rfl))
        try simp only [Act.put, List.setIfInBounds_toArray, List.set_cons_succ, List.set_cons_zero]
        refine takeOp (i := 5) (v := ?_) (some 58) rfl rfl (by kernel_rfl) (by kernel_rfl) (by kernel_rfl) (fun _ _ _ h => h) (Or.inl ⟨by rfl, ?_⟩) (by assumption) ?_
        rotate_left 1
        · (intro w0 hSw; (try dsimp only at hSw); go_simp; try (with_reducible rfl))
        try simp only [Act.put, List.setIfInBounds_toArray, List.set_cons_succ, List.set_cons_zero]
        refine takeOp (i := 6) (v := ?_) (some 59) rfl rfl (by kernel_rfl) (by kernel_rfl) (by kernel_rfl) (fun _ _ _ h => h) (Or.inl ⟨by rfl, ?_⟩) (by assumption) ?_
        rotate_left 1
        · (intro w0 hSw; (try dsimp only at hSw); go_simp; try (with_reducible rfl))
        try simp only [Act.put, List.setIfInBounds_toArray, List.set_cons_succ, List.set_cons_zero]
        refine takeOp (i := 7) (v := ?_) (some 60) rfl rfl (by kernel_rfl) (by kernel_rfl) (by kernel_rfl) (fun _ _ _ h => h) (Or.inl ⟨by rfl, ?_⟩) (by assumption) ?_
        rotate_left 1
        · (intro w0 hSw; (try dsimp only at hSw); go_simp; try (with_reducible rfl))
        try simp only [Act.put, List.setIfInBounds_toArray, List.set_cons_succ, List.set_cons_zero]
        refine takeOp (i := 8) (v := ?_) (some 61) rfl rfl (by kernel_rfl) (by kernel_rfl) (by kernel_rfl) (fun _ _ _ h => h) (Or.inl ⟨by rfl, ?_⟩) (by assumption) ?_
        rotate_left 1
        · (intro w0 hSw; (try dsimp only at hSw); go_simp; try (with_reducible rfl))
        try simp only [Act.put, List.setIfInBounds_toArray, List.set_cons_succ, List.set_cons_zero]
        refine takeOp (i := 9) (v := ?_) (some 62) rfl rfl (by kernel_rfl) (by kernel_rfl) (by kernel_rfl) (fun _ _ _ h => h) (Or.inl ⟨by rfl, ?_⟩) (by assumption) ?_
        rotate_left 1
        · (intro w0 hSw; (try dsimp only at hSw); go_simp; try (with_reducible rfl))
        try simp only [Act.put, List.setIfInBounds_toArray, List.set_cons_succ, List.set_cons_zero]
        refine takeOp (i := 10) (v := ?_) (some 63) rfl rfl (by kernel_rfl) (by kernel_rfl) (by kernel_rfl) (fun _ _ _ h => h) (Or.inl ⟨by rfl, ?_⟩) (by assumption) ?_
        rotate_left 1
        · (intro w0 hSw; (try dsimp only at hSw); go_simp; try (with_reducible rfl))
        try simp only [Act.put, List.setIfInBounds_toArray, List.set_cons_succ, List.set_cons_zero]
        refine takeOp (i := 11) (v := ?_) (some 64) rfl rfl (by kernel_rfl) (by kernel_rfl) (by kernel_rfl) (fun _ _ _ h => h) (Or.inl ⟨by rfl, ?_⟩) (by assumption) ?_
        rotate_left 1
        · (intro w0 hSw; (try dsimp only at hSw); go_simp; try (with_reducible rfl))
        try simp only [Act.put, List.setIfInBounds_toArray, List.set_cons_succ, List.set_cons_zero]
        refine takeOp (i := 12) (v := ?_) (some 65) rfl rfl (by kernel_rfl) (by kernel_rfl) (by kernel_rfl) (fun _ _ _ h => h) (Or.inl ⟨by rfl, ?_⟩) (by assumption) ?_
        rotate_left 1
        · (intro w0 hSw; (try dsimp only at hSw); go_simp; try (with_reducible rfl))
        try simp only [Act.put, List.setIfInBounds_toArray, List.set_cons_succ, List.set_cons_zero]
        refine takeOp (i := 13) (v := ?_) (some 66) rfl rfl (by kernel_rfl) (by kernel_rfl) (by kernel_rfl) (fun _ _ _ h => h) (Or.inl ⟨by rfl, ?_⟩) (by assumption) ?_
        rotate_left 1
        · (intro w0 hSw; (try dsimp only at hSw); go_simp; try (with_reducible rfl))
        try simp only [Act.put, List.setIfInBounds_toArray, List.set_cons_succ, List.set_cons_zero]
        refine takeOp (i := 14) (v := ?_) (some 67) rfl rfl (by kernel_rfl) (by kernel_rfl) (by kernel_rfl) (fun _ _ _ h => h) (Or.inl ⟨by rfl, ?_⟩) (by assumption) ?_
        rotate_left 1
        · (intro w0 hSw; (try dsimp only at hSw); go_simp; try (with_reducible rfl))
        try simp only [Act.put, List.setIfInBounds_toArray, List.set_cons_succ, List.set_cons_zero]
        refine takeOp (i := 15) (v := ?_) (some 68) rfl rfl (by kernel_rfl) (by kernel_rfl) (by kernel_rfl) (fun _ _ _ h => h) (Or.inl ⟨by rfl, ?_⟩) (by assumption) ?_
        rotate_left 1
        · (intro w0 hSw; (try dsimp only at hSw); go_simp; try (with_reducible rfl))
        try simp only [Act.put, List.setIfInBounds_toArray, List.set_cons_succ, List.set_cons_zero]
        refine takeOp (i := 16) (v := ?_) (some 69) rfl rfl (by kernel_rfl) (by kernel_rfl) (by kernel_rfl) (fun _ _ _ h => h) (Or.inl ⟨by rfl, ?_⟩) (by assumption) ?_
        rotate_left 1
        · (intro w0 hSw; (try dsimp only at hSw); go_simp; try (with_reducible rfl))
        try simp only [Act.put, List.setIfInBounds_toArray, List.set_cons_succ, List.set_cons_zero]
        refine takeOp (i := 17) (v := ?_) (some 70) rfl rfl (by kernel_rfl) (by kernel_rfl) (by kernel_rfl) (fun _ _ _ h => h) (Or.inl ⟨by rfl, ?_⟩) (by assumption) ?_
        rotate_left 1
        · (intro w0 hSw; (try dsimp only at hSw); go_simp; try (with_reducible rfl))
        try simp only [Act.put, List.setIfInBounds_toArray, List.set_cons_succ, List.set_cons_zero]
        refine takeOp (i := 18) (v := ?_) (some 71) rfl rfl (by kernel_rfl) (by kernel_rfl) (by kernel_rfl) (fun _ _ _ h => h) (Or.inl ⟨by rfl, ?_⟩) (by assumption) ?_
        rotate_left 1
        · (intro w0 hSw; (try dsimp only at hSw); go_simp; try (with_reducible rfl))
        try simp only [Act.put, List.setIfInBounds_toArray, List.set_cons_succ, List.set_cons_zero]
        refine takeOp (i := 19) (v := ?_) (some 72) rfl rfl (by kernel_rfl) (by kernel_rfl) (by kernel_rfl) (fun _ _ _ h => h) (Or.inl ⟨by rfl, ?_⟩) (by assumption) ?_
        rotate_left 1
        · (intro w0 hSw; (try dsimp only at hSw); go_simp; try (with_reducible rfl))
        try simp only [Act.put, List.setIfInBounds_toArray, List.set_cons_succ, List.set_cons_zero]
        refine takeOp (i := 20) (v := ?_) (some 73) rfl rfl (by kernel_rfl) (by kernel_rfl) (by kernel_rfl) (fun _ _ _ h => h) (Or.inl ⟨by rfl, ?_⟩) (by assumption) ?_
        rotate_left 1
        · (intro w0 hSw; (try dsimp only at hSw); go_simp; try (with_reducible rfl))
        try simp only [Act.put, List.setIfInBounds_toArray, List.set_cons_succ, List.set_cons_zero]
        refine takeOp (i := 21) (v := ?_) (some 74) rfl rfl (by kernel_rfl) (by kernel_rfl) (by kernel_rfl) (fun _ _ _ h => h) (Or.inl ⟨by rfl, ?_⟩) (by assumption) ?_
        rotate_left 1
        · (intro w0 hSw; (try dsimp only at hSw); go_simp; try (with_reducible rfl))
        try simp only [Act.put, List.setIfInBounds_toArray, List.set_cons_succ, List.set_cons_zero]
        refine takeOp (i := 22) (v := ?_) (some 75) rfl rfl (by kernel_rfl) (by kernel_rfl) (by kernel_rfl) (fun _ _ _ h => h) (Or.inl ⟨by rfl, ?_⟩) (by assumption) ?_
        rotate_left 1
        · (intro w0 hSw; (try dsimp only at hSw); go_simp; try (with_reducible rfl))
        try simp only [Act.put, List.setIfInBounds_toArray, List.set_cons_succ, List.set_cons_zero]
        refine takeOp (i := 23) (v := ?_) (some 76) rfl rfl (by kernel_rfl) (by kernel_rfl) (by kernel_rfl) (fun _ _ _ h => h) (Or.inl ⟨by rfl, ?_⟩) (by assumption) ?_
        rotate_left 1
        · (intro w0 hSw; (try dsimp only at hSw); go_simp; try (with_reducible rfl))
        try simp only [Act.put, List.setIfInBounds_toArray, List.set_cons_succ, List.set_cons_zero]
        refine takeOp (i := 25) (v := ?_) (some 78) rfl rfl (by kernel_rfl) (by kernel_rfl) (by kernel_rfl) (fun _ _ _ h => h) (Or.inl ⟨by rfl, ?_⟩) (by assumption) ?_
        rotate_left 1
        · (intro w0 hSw; (try dsimp only at hSw); go_simp; try (with_reducible rfl))
        try simp only [Act.put, List.setIfInBounds_toArray, List.set_cons_succ, List.set_cons_zero]
        refine takeOp (i := 26) (v := ?_) (some 79) rfl rfl (by kernel_rfl) (by kernel_rfl) (by kernel_rfl) (fun _ _ _ h => h) (Or.inl ⟨by rfl, ?_⟩) (by assumption) ?_
        rotate_left 1
        · (intro w0 hSw; (try dsimp only at hSw); go_simp; try (with_reducible rfl))
        try simp only [Act.put, List.setIfInBounds_toArray, List.set_cons_succ, List.set_cons_zero]
        refine wpAnyH_ready (rs := [24]) (by kernel_rfl) (by simp) ?_
        refine AllReadyH.cons rfl (fun K hK => ?_) AllReadyH.nil
        go_simp
        refine (rlLen_any 0 Pj 0 Dj V1).mono ?_
        rintro e V2 ⟨rfl, hx⟩
        have HV2 : Hid (Below wC.heap.size wC V2) := Below.then HV1.out hx.below HV1.out.size
        clear hx
        go_wp2_with fail
        refine hK.out _ _ (HS9.out V2 HV2.out) (fun hHeld => ?_)
        clear hK K
        try simp only [Act.put, List.setIfInBounds_toArray, List.set_cons_succ, List.set_cons_zero]
        refine wpAnyH_ready (rs := [27]) (by kernel_rfl) (by simp) ?_
        refine AllReadyH.cons rfl (fun K hK => ?_) AllReadyH.nil
        go_simp
        refine (rlLen_any 0 Pk 0 Dk V2).mono ?_
        rintro e V3 ⟨rfl, hx⟩
        have HV3 : Hid (Below wC.heap.size wC V3) := Below.then HV2.out hx.below HV2.out.size
        clear hx
        go_wp2_with fail
        refine hK.out _ _ (HS9.out V3 HV3.out) (fun hHeld => ?_)
        clear hK K
        try simp only [Act.put, List.setIfInBounds_toArray, List.set_cons_succ, List.set_cons_zero]
        refine takeOp (i := 28) (v := ?_) (some 81) rfl rfl (by kernel_rfl) (by kernel_rfl) (by kernel_rfl) (fun _ _ _ h => h) (Or.inl ⟨by rfl, ?_⟩) (by assumption) ?_
        rotate_left 1
        · (intro w0 hSw; (try dsimp only at hSw); go_simp; try (with_reducible rfl))
        try simp only [Act.put, List.setIfInBounds_toArray, List.set_cons_succ, List.set_cons_zero]
        refine takeOp (i := 29) (v := ?_) (some 82) rfl rfl (by kernel_rfl) (by kernel_rfl) (by kernel_rfl) (fun _ _ _ h => h) (Or.inl ⟨by rfl, ?_⟩) (by assumption) ?_
        rotate_left 1
        · (intro w0 hSw; (try dsimp only at hSw); go_simp; try (with_reducible rfl))
        try simp only [Act.put, List.setIfInBounds_toArray, List.set_cons_succ, List.set_cons_zero]
        refine takeOp (i := 30) (v := ?_) (some 83) rfl rfl (by kernel_rfl) (by kernel_rfl) (by kernel_rfl) (fun _ _ _ h => h) (Or.inl ⟨by rfl, ?_⟩) (by assumption) ?_
        rotate_left 1
        · (intro w0 hSw; (try dsimp only at hSw); go_simp; try (with_reducible rfl))
        try simp only [Act.put, List.setIfInBounds_toArray, List.set_cons_succ, List.set_cons_zero]
        refine takeOp (i := 31) (v := ?_) (some 4) rfl rfl (by kernel_rfl) (by kernel_rfl) (by kernel_rfl) (fun _ _ _ h => h) (Or.inl ⟨by rfl, ?_⟩) (by assumption) ?_
        rotate_left 1
        · (intro w0 hSw; (try dsimp only at hSw); go_simp; try (with_reducible rfl))
        try simp only [Act.put, List.setIfInBounds_toArray, List.set_cons_succ, List.set_cons_zero]
        refine wpAnyH_done (by kernel_rfl) ?_ _
        have HEND : Hid (Below w.heap.size w V3) := Below.then HBD.out HV3.out HBD.out.size
        clear hHeld
        go_wp2_with fail
        go_ret
        exact ⟨rfl, HEND.out⟩
  obtain ⟨xa, ya, hxy, ga, gb, hm, h8⟩ := good_pair HOK.out.1 HOK.out.2 he
  rw [he] at HWR
  rw [hxy] at ha hr
  obtain ⟨b, o, VA, VC, PA, PC, UA, UC, QA, QC, rfl, hbl, hcs, hv0, hv1⟩ := two_at ha
  obtain ⟨bm, om, MA, MC, NA, NC, OA, OC, TA, TC, rfl, hbm, hms, hr0, hr1⟩ := two_refM hr
  obtain ⟨J, hJ⟩ : ∃ J, J = joinR [xa, ya] := ⟨_, rfl⟩
  obtain ⟨ss, hss⟩ : ∃ ss, ss = (⟨xa.vs, semiF xa ya⟩ : At) := ⟨_, rfl⟩
  have HGJ : Hid (Gd J) := by rw [hJ]; exact joinR_gd2 ga gb hm
  have HGS : Hid (Gd ss) := by rw [hss]; exact ga.semi (b := ya)
  have HS : Hid (∀ W, Below w2.heap.size w2 W → (W.cell? ⟨b, o, none⟩ = some (.slice VA xa.vs.length VC) ∧ W.cell? ⟨b, o + 1, none⟩ = some (.int .i64 (xa.vs.length : Nat)) ∧ W.cell? ⟨b, o + 2, none⟩ = some (.slice PA xa.P.length PC)) ∧ W.cell? ⟨b, o + 3, none⟩ = some (.slice UA ya.vs.length UC) ∧ W.cell? ⟨b, o + 3 + 1, none⟩ = some (.int .i64 (ya.vs.length : Nat)) ∧ W.cell? ⟨b, o + 3 + 2, none⟩ = some (.slice QA ya.P.length QC)) := fun W h => by
    have hc : ∀ i, W.cell? ⟨b, i, none⟩ = w2.cell? ⟨b, i, none⟩ := fun i => h.cell (p := ⟨b, i, none⟩) hbl
    rw [hc, hc, hc, hc, hc, hc]
    exact hcs
  have HM : Hid (∀ W, Below w2.heap.size w2 W → (W.cell? ⟨bm, om, none⟩ = some (.slice MA xa.vs.length MC) ∧ W.cell? ⟨bm, om + 1, none⟩ = some (.slice NA xa.P.length NC)) ∧ W.cell? ⟨bm, om + 2, none⟩ = some (.slice OA ya.vs.length OC) ∧ W.cell? ⟨bm, om + 2 + 1, none⟩ = some (.slice TA ya.P.length TC)) := fun W h => by
    have hc : ∀ i, W.cell? ⟨bm, i, none⟩ = w2.cell? ⟨bm, i, none⟩ := fun i => h.cell (p := ⟨bm, i, none⟩) hbm
    rw [hc, hc, hc, hc]
    exact hms
  have HJ1 : Hid (∀ W, Below w2.heap.size w2 W → Calls Tryz.prog 9 #[(.agg #[.slice VA xa.vs.length VC, .int .i64 (xa.vs.length : Nat), .slice PA xa.P.length PC]), (.agg #[.slice UA ya.vs.length UC, .int .i64 (ya.vs.length : Nat), .slice QA ya.P.length QC])] W (XPost W 0 ss)) := fun W h => by rw [hss]; exact semiX_any ga gb (hv0.up h) (hv1.up h)
  have HJ2 : Hid (∀ W, Below w2.heap.size w2 W → Calls Tryz.prog 10 #[(.agg #[.slice VA xa.vs.length VC, .int .i64 (xa.vs.length : Nat), .slice PA xa.P.length PC]), (.agg #[.slice UA ya.vs.length UC, .int .i64 (ya.vs.length : Nat), .slice QA ya.P.length QC])] W (XPost W 0 J)) := fun W h => by rw [hJ]; exact joinX_any ga gb hm (hv0.up h) (hv1.up h)
  have HJ3 : Hid (∀ W vc, Below w2.heap.size w2 W → AtV W vc ss → Calls Tryz.prog 9 #[vc, (.agg #[.slice UA ya.vs.length UC, .int .i64 (ya.vs.length : Nat), .slice QA ya.P.length QC])] W (XPost W 0 ss)) := fun W vc h hc => by
    have h1 := semiX_any HGS.out gb hc (hv1.up h)
    rw [hss] at h1 ⊢
    rw [semi_twice ga gb] at h1
    exact h1
  have HRS : Hid (∀ W, Below w2.heap.size w2 W → Calls Tryz.prog 14 #[(.agg #[.slice MA xa.vs.length MC, .slice NA xa.P.length NC]), (.agg #[.slice OA ya.vs.length OC, .slice TA ya.P.length TC])] W fun e w' => ∃ v, e = .returned v ∧ RefV w' v (ss.vs.map Int.ofNat) ss.P ∧ Below W.heap.size W w') := fun W h => by rw [hss]; exact r36Semi_any _ _ xa ya W (hr0.up h) (hr1.up h) ga gb hm h8
  have HRJ : Hid (∀ W, Below w2.heap.size w2 W → Calls Tryz.prog 15 #[.slice (some ⟨bm, om, none⟩) 2 C2] W fun e w' => ∃ v, e = .returned v ∧ RefV w' v (J.vs.map Int.ofNat) J.P ∧ Below W.heap.size W w') := fun W h => by rw [hJ]; exact r36Join_any (some ⟨bm, om, none⟩) C2 [xa, ya] W (hr.upB h) (by simp) (gd2 ga gb) h8
  have HBL := Lib.hid hbl
  have HBM := Lib.hid hbm
  clear hcs hms hv0 hv1 hr0 hr1 ga gb hm h8 hxy he HOK hJ hss hok ha hr hz HSM
  go_wp2_with fail
  go_upto_region 4 with (fail)
  go_cut [9, 10] from 28 to 37 (fun r e wx => ∃ g : Nat, r = .pointer (some ⟨g, 0, none⟩) ∧ e = .int .i64 (0) ∧ BoxA wx g (resA 0 ss) ∧ Below w2.heap.size w2 wx)
  case first =>
    refine wp_region_held_drew (S := (fun w' => (w'.cell? ⟨b, o, none⟩ = some (.slice VA xa.vs.length VC) ∧ w'.cell? ⟨b, o + 1, none⟩ = some (.int .i64 (xa.vs.length : Nat)) ∧ w'.cell? ⟨b, o + 2, none⟩ = some (.slice PA xa.P.length PC)) ∧ w'.cell? ⟨b, o + 3, none⟩ = some (.slice UA ya.vs.length UC) ∧ w'.cell? ⟨b, o + 3 + 1, none⟩ = some (.int .i64 (ya.vs.length : Nat)) ∧ w'.cell? ⟨b, o + 3 + 2, none⟩ = some (.slice QA ya.P.length QC))) (by kernel_rfl) (HS.out w2.drew (Below.refl _ _).drew) (fun hHeld => ?_)
    obtain ⟨V0, hV0⟩ : ∃ V, V = w2.drew := ⟨_, rfl⟩
    have HV : Hid (Below w2.heap.size w2 V0) := by show Below _ _ _; rw [hV0]; exact (Below.refl _ _).drew
    rw [← hV0] at hHeld ⊢
    clear hV0
    refine takeOp (i := 0) (v := ?_) (some 29) rfl rfl (by kernel_rfl) (by kernel_rfl) (by kernel_rfl) (fun _ _ _ h => h) (Or.inl ⟨by rfl, ?_⟩) (by assumption) ?_
    rotate_left 1
    · (intro w0 hSw; (try dsimp only at hSw); go_simp; try (with_reducible rfl))
    try simp only [Act.put, List.setIfInBounds_toArray, List.set_cons_succ, List.set_cons_zero]
    refine takeOp (i := 1) (v := ?_) (some 30) rfl rfl (by kernel_rfl) (by kernel_rfl) (by kernel_rfl) (fun _ _ _ h => h) (Or.inl ⟨by rfl, ?_⟩) (by assumption) ?_
    rotate_left 1
    · (intro w0 hSw; (try dsimp only at hSw); go_simp; try (with_reducible rfl))
    try simp only [Act.put, List.setIfInBounds_toArray, List.set_cons_succ, List.set_cons_zero]
    refine takeOp (i := 2) (v := ?_) (some 31) rfl rfl (by kernel_rfl) (by kernel_rfl) (by kernel_rfl) (fun _ _ _ h => h) (Or.inl ⟨by rfl, ?_⟩) (by assumption) ?_
    rotate_left 1
    · (intro w0 hSw; (try dsimp only at hSw); go_simp; try (with_reducible rfl))
    try simp only [Act.put, List.setIfInBounds_toArray, List.set_cons_succ, List.set_cons_zero]
    refine takeOp (i := 3) (v := ?_) (some 32) rfl rfl (by kernel_rfl) (by kernel_rfl) (by kernel_rfl) (fun _ _ _ h => h) (Or.inl ⟨by rfl, ?_⟩) (by assumption) ?_
    rotate_left 1
    · (intro w0 hSw; (try dsimp only at hSw); go_simp; try (with_reducible rfl))
    try simp only [Act.put, List.setIfInBounds_toArray, List.set_cons_succ, List.set_cons_zero]
    refine takeOp (i := 4) (v := ?_) (some 33) rfl rfl (by kernel_rfl) (by kernel_rfl) (by kernel_rfl) (fun _ _ _ h => h) (Or.inl ⟨by rfl, ?_⟩) (by assumption) ?_
    rotate_left 1
    · (intro w0 hSw; (try dsimp only at hSw); go_simp; try (with_reducible rfl))
    try simp only [Act.put, List.setIfInBounds_toArray, List.set_cons_succ, List.set_cons_zero]
    refine takeOp (i := 5) (v := ?_) (some 34) rfl rfl (by kernel_rfl) (by kernel_rfl) (by kernel_rfl) (fun _ _ _ h => h) (Or.inl ⟨by rfl, ?_⟩) (by assumption) ?_
    rotate_left 1
    · (intro w0 hSw; (try dsimp only at hSw); go_simp; try (with_reducible rfl))
    try simp only [Act.put, List.setIfInBounds_toArray, List.set_cons_succ, List.set_cons_zero]
    refine wpAnyH_ready (rs := [6, 10]) (by kernel_rfl) (by simp) ?_
    refine (AllReadyH.cons rfl (fun K hK => ?_) (AllReadyH.cons rfl (fun K hK => ?_) AllReadyH.nil))
    · go_simp
      refine (HJ1.out V0 HV.out).mono ?_
      rintro e V1 hp
      obtain ⟨SA, SC, TA, TC, rfl, hat, hb⟩ := hp.one
      have HAT := Lib.hid hat
      have HVS : Hid (w2.heap.size ≤ V0.heap.size) := HV.out.size
      have HV := Lib.hid (Below.then HV.out hb HV.out.size)
      clear hat hb hp
      go_wp2_with fail
      refine hK.out _ _ (HS.out V1 HV.out) (fun hHeld => ?_)
      clear hK K
      try simp only [Act.put, List.setIfInBounds_toArray, List.set_cons_succ, List.set_cons_zero]
      refine takeOp (i := 7) (v := ?_) (some 28) rfl rfl (by kernel_rfl) (by kernel_rfl) (by kernel_rfl) (fun _ _ _ h => h) (Or.inl ⟨by rfl, ?_⟩) (by assumption) ?_
      rotate_left 1
      · (intro w0 hSw; (try dsimp only at hSw); go_simp; try (with_reducible rfl))
      try simp only [Act.put, List.setIfInBounds_toArray, List.set_cons_succ, List.set_cons_zero]
      refine takeOp (i := 8) (v := ?_) (some 36) rfl rfl (by kernel_rfl) (by kernel_rfl) (by kernel_rfl) (fun _ _ _ h => h) (Or.inl ⟨by rfl, ?_⟩) (by assumption) ?_
      rotate_left 1
      · (intro w0 hSw; (try dsimp only at hSw); go_simp; try (with_reducible rfl))
      try simp only [Act.put, List.setIfInBounds_toArray, List.set_cons_succ, List.set_cons_zero]
      refine takeOp (i := 9) (v := ?_) (some 37) rfl rfl (by kernel_rfl) (by kernel_rfl) (by kernel_rfl) (fun _ _ _ h => h) (Or.inl ⟨by rfl, ?_⟩) (by assumption) ?_
      rotate_left 1
      · (intro w0 hSw; (try dsimp only at hSw); go_simp; try (with_reducible rfl))
      try simp only [Act.put, List.setIfInBounds_toArray, List.set_cons_succ, List.set_cons_zero]
      refine wpAnyH_ready (rs := [10]) (by kernel_rfl) (by simp) ?_
      refine (AllReadyH.cons rfl (fun K hK => ?_) AllReadyH.nil)
      go_simp
      obtain ⟨V2, hV⟩ : ∃ V', V' = V1.alloc (.cells #[.slice none 0 0, .int .i64 0, .slice none 0 0] 36) := ⟨_, rfl⟩
      rw [← hV]
      have hx : Ext V1 V2 := by rw [hV]; exact (Ext.refl V1).alloc _
      obtain ⟨gb, hgb⟩ : ∃ gb, gb = V1.heap.size := ⟨_, rfl⟩
      have HG : Hid (Row V2 gb 36 [.slice none 0 0, .int .i64 0, .slice none 0 0]) := by show Row _ _ _ _; rw [hV, hgb]; exact Row.new V1 _ _
      have HGZ : Hid (w2.heap.size ≤ gb ∧ gb + 1 = V2.heap.size ∧ gb = V1.heap.size) := ⟨by rw [hgb]; exact HV.out.size, by rw [hV, hgb]; simp, hgb⟩
      have HAT := Lib.hid (HAT.out.keep (P' := fun c => c < gb) (fun p hp _ => hx.below.cell hp) hx.size fun b hb _ => by rw [hgb]; exact hb)
      have HV := Lib.hid (Below.then HV.out hx.below HV.out.size)
      rw [← hgb]
      clear hx hV hgb
      refine hK.out _ _ (HS.out V2 HV.out) (fun hHeld => ?_)
      clear hK K
      try simp only [Act.put, List.setIfInBounds_toArray, List.set_cons_succ, List.set_cons_zero]
      refine wpAnyH_ready (rs := [11]) (by kernel_rfl) (by simp) ?_
      refine (AllReadyH.cons rfl (fun K hK => ?_) AllReadyH.nil)
      have m0 := HG.out.frozen 0
      have m1 := HG.out.frozen 1
      have m2 := HG.out.frozen 2
      have m3 := HG.out.lt
      have n0 : V2.cell? ⟨gb, 0, none⟩ = some (.slice none 0 0) := HG.out.cell 0
      have n1 : V2.cell? ⟨gb, 1, none⟩ = some (.int .i64 0) := HG.out.cell 1
      have n2 : V2.cell? ⟨gb, 2, none⟩ = some (.slice none 0 0) := HG.out.cell 2
      go_simp
      go_wp2_with fail
      obtain ⟨V3, hV⟩ : ∃ V', V' = ((V2.setCell ⟨gb, 0, none⟩ (.slice SA (resA 0 ss).vs.length SC)).setCell ⟨gb, 1, none⟩ (.int .i64 ((resA 0 ss).vs.length : Nat))).setCell ⟨gb, 2, none⟩ (.slice TA (resA 0 ss).P.length TC) := ⟨_, rfl⟩
      rw [← hV]
      have HBX := Lib.hid (BoxA.put HG.out HAT.out (by show ¬ gb < gb; omega) hV)
      have hz := HGZ.out.1
      have HV : Hid (Below w2.heap.size w2 V3) := by show Below _ _ _; rw [hV]; exact ((HV.out.setCell (by show w2.heap.size ≤ gb; omega) _).setCell (by show w2.heap.size ≤ gb; omega) _).setCell (by show w2.heap.size ≤ gb; omega) _
      clear hV m0 m1 m2 m3 n0 n1 n2 hz
      refine hK.out _ _ (HS.out V3 HV.out) (fun hHeld => ?_)
      clear hK K
      try simp only [Act.put, List.setIfInBounds_toArray, List.set_cons_succ, List.set_cons_zero]
      refine takeOp (i := 12) (v := ?_) (some 10) rfl rfl (by kernel_rfl) (by kernel_rfl) (by kernel_rfl) (fun _ _ _ h => h) (Or.inl ⟨by rfl, ?_⟩) (by assumption) ?_
      rotate_left 1
      · (intro w0 hSw; (try dsimp only at hSw); go_simp; try (with_reducible rfl))
      try simp only [Act.put, List.setIfInBounds_toArray, List.set_cons_succ, List.set_cons_zero]
      refine wpAnyH_done (by kernel_rfl) ?_ _
      go_wp2_with fail
      go_meet
      case rel => exact ⟨gb, rfl, rfl, HBX.out, HV.out⟩
    · go_simp
      obtain ⟨V1, hV⟩ : ∃ V', V' = V0.alloc (.cells #[.slice none 0 0, .int .i64 0, .slice none 0 0] 36) := ⟨_, rfl⟩
      rw [← hV]
      have hx : Ext V0 V1 := by rw [hV]; exact (Ext.refl V0).alloc _
      obtain ⟨gb, hgb⟩ : ∃ gb, gb = V0.heap.size := ⟨_, rfl⟩
      have HG : Hid (Row V1 gb 36 [.slice none 0 0, .int .i64 0, .slice none 0 0]) := by show Row _ _ _ _; rw [hV, hgb]; exact Row.new V0 _ _
      have HGZ : Hid (w2.heap.size ≤ gb ∧ gb + 1 = V1.heap.size ∧ gb = V0.heap.size) := ⟨by rw [hgb]; exact HV.out.size, by rw [hV, hgb]; simp, hgb⟩
      have HV := Lib.hid (Below.then HV.out hx.below HV.out.size)
      rw [← hgb]
      clear hx hV hgb
      refine hK.out _ _ (HS.out V1 HV.out) (fun hHeld => ?_)
      clear hK K
      try simp only [Act.put, List.setIfInBounds_toArray, List.set_cons_succ, List.set_cons_zero]
      refine wpAnyH_ready (rs := [6]) (by kernel_rfl) (by simp) ?_
      refine (AllReadyH.cons rfl (fun K hK => ?_) AllReadyH.nil)
      go_simp
      refine (HJ1.out V1 HV.out).mono ?_
      rintro e V2 hp
      obtain ⟨SA, SC, TA, TC, rfl, hat, hb⟩ := hp.one
      have HAT := Lib.hid hat
      have HVS : Hid (w2.heap.size ≤ V1.heap.size) := HV.out.size
      have HG := Lib.hid (HG.out.up hb)
      have HV := Lib.hid (Below.then HV.out hb HV.out.size)
      clear hat hb hp
      go_wp2_with fail
      refine hK.out _ _ (HS.out V2 HV.out) (fun hHeld => ?_)
      clear hK K
      try simp only [Act.put, List.setIfInBounds_toArray, List.set_cons_succ, List.set_cons_zero]
      refine takeOp (i := 7) (v := ?_) (some 28) rfl rfl (by kernel_rfl) (by kernel_rfl) (by kernel_rfl) (fun _ _ _ h => h) (Or.inl ⟨by rfl, ?_⟩) (by assumption) ?_
      rotate_left 1
      · (intro w0 hSw; (try dsimp only at hSw); go_simp; try (with_reducible rfl))
      try simp only [Act.put, List.setIfInBounds_toArray, List.set_cons_succ, List.set_cons_zero]
      refine takeOp (i := 8) (v := ?_) (some 36) rfl rfl (by kernel_rfl) (by kernel_rfl) (by kernel_rfl) (fun _ _ _ h => h) (Or.inl ⟨by rfl, ?_⟩) (by assumption) ?_
      rotate_left 1
      · (intro w0 hSw; (try dsimp only at hSw); go_simp; try (with_reducible rfl))
      try simp only [Act.put, List.setIfInBounds_toArray, List.set_cons_succ, List.set_cons_zero]
      refine takeOp (i := 9) (v := ?_) (some 37) rfl rfl (by kernel_rfl) (by kernel_rfl) (by kernel_rfl) (fun _ _ _ h => h) (Or.inl ⟨by rfl, ?_⟩) (by assumption) ?_
      rotate_left 1
      · (intro w0 hSw; (try dsimp only at hSw); go_simp; try (with_reducible rfl))
      try simp only [Act.put, List.setIfInBounds_toArray, List.set_cons_succ, List.set_cons_zero]
      refine wpAnyH_ready (rs := [11]) (by kernel_rfl) (by simp) ?_
      refine (AllReadyH.cons rfl (fun K hK => ?_) AllReadyH.nil)
      have m0 := HG.out.frozen 0
      have m1 := HG.out.frozen 1
      have m2 := HG.out.frozen 2
      have m3 := HG.out.lt
      have n0 : V2.cell? ⟨gb, 0, none⟩ = some (.slice none 0 0) := HG.out.cell 0
      have n1 : V2.cell? ⟨gb, 1, none⟩ = some (.int .i64 0) := HG.out.cell 1
      have n2 : V2.cell? ⟨gb, 2, none⟩ = some (.slice none 0 0) := HG.out.cell 2
      go_simp
      go_wp2_with fail
      obtain ⟨V3, hV⟩ : ∃ V', V' = ((V2.setCell ⟨gb, 0, none⟩ (.slice SA (resA 0 ss).vs.length SC)).setCell ⟨gb, 1, none⟩ (.int .i64 ((resA 0 ss).vs.length : Nat))).setCell ⟨gb, 2, none⟩ (.slice TA (resA 0 ss).P.length TC) := ⟨_, rfl⟩
      rw [← hV]
      have HBX := Lib.hid (BoxA.put HG.out HAT.out (by have := HGZ.out; show ¬ _ + 3 ≤ gb; omega) hV)
      have hz := HGZ.out.1
      have HV : Hid (Below w2.heap.size w2 V3) := by show Below _ _ _; rw [hV]; exact ((HV.out.setCell (by show w2.heap.size ≤ gb; omega) _).setCell (by show w2.heap.size ≤ gb; omega) _).setCell (by show w2.heap.size ≤ gb; omega) _
      clear hV m0 m1 m2 m3 n0 n1 n2 hz
      refine hK.out _ _ (HS.out V3 HV.out) (fun hHeld => ?_)
      clear hK K
      try simp only [Act.put, List.setIfInBounds_toArray, List.set_cons_succ, List.set_cons_zero]
      refine takeOp (i := 12) (v := ?_) (some 10) rfl rfl (by kernel_rfl) (by kernel_rfl) (by kernel_rfl) (fun _ _ _ h => h) (Or.inl ⟨by rfl, ?_⟩) (by assumption) ?_
      rotate_left 1
      · (intro w0 hSw; (try dsimp only at hSw); go_simp; try (with_reducible rfl))
      try simp only [Act.put, List.setIfInBounds_toArray, List.set_cons_succ, List.set_cons_zero]
      refine wpAnyH_done (by kernel_rfl) ?_ _
      go_wp2_with fail
      go_meet
      case rel => exact ⟨gb, rfl, rfl, HBX.out, HV.out⟩
  case rest =>
    obtain ⟨g9, rfl, rfl, hbx, hbw⟩ := hcut
    generalize wc = wA at *
    have HBX9 := Lib.hid hbx.res
    have HBA := Lib.hid hbw
    have HSA : Hid (∀ W, Below wA.heap.size wA W → (W.cell? ⟨b, o, none⟩ = some (.slice VA xa.vs.length VC) ∧ W.cell? ⟨b, o + 1, none⟩ = some (.int .i64 (xa.vs.length : Nat)) ∧ W.cell? ⟨b, o + 2, none⟩ = some (.slice PA xa.P.length PC)) ∧ W.cell? ⟨b, o + 3, none⟩ = some (.slice UA ya.vs.length UC) ∧ W.cell? ⟨b, o + 3 + 1, none⟩ = some (.int .i64 (ya.vs.length : Nat)) ∧ W.cell? ⟨b, o + 3 + 2, none⟩ = some (.slice QA ya.P.length QC)) := fun W h => HS.out W (Below.then HBA.out h HBA.out.size)
    have HJA := Lib.hid (fun W (h : Below wA.heap.size wA W) => HJ2.out W (Below.then HBA.out h HBA.out.size))
    have hbl : b < wA.heap.size := Nat.lt_of_lt_of_le HBL.out HBA.out.size
    clear hbx hbw
    go_wp2_with fail
    go_upto_region 5 with (fail)
    go_cut [11, 12] from 38 to 47 (fun r e wx => ∃ g : Nat, r = .pointer (some ⟨g, 0, none⟩) ∧ e = .int .i64 (0) ∧ BoxA wx g (resA 0 J) ∧ Below wA.heap.size wA wx)
    case first =>
      refine wp_region_held_drew (S := (fun w' => (w'.cell? ⟨b, o, none⟩ = some (.slice VA xa.vs.length VC) ∧ w'.cell? ⟨b, o + 1, none⟩ = some (.int .i64 (xa.vs.length : Nat)) ∧ w'.cell? ⟨b, o + 2, none⟩ = some (.slice PA xa.P.length PC)) ∧ w'.cell? ⟨b, o + 3, none⟩ = some (.slice UA ya.vs.length UC) ∧ w'.cell? ⟨b, o + 3 + 1, none⟩ = some (.int .i64 (ya.vs.length : Nat)) ∧ w'.cell? ⟨b, o + 3 + 2, none⟩ = some (.slice QA ya.P.length QC))) (by kernel_rfl) (HSA.out wA.drew (Below.refl _ _).drew) (fun hHeld => ?_)
      obtain ⟨V0, hV0⟩ : ∃ V, V = wA.drew := ⟨_, rfl⟩
      have HV : Hid (Below wA.heap.size wA V0) := by show Below _ _ _; rw [hV0]; exact (Below.refl _ _).drew
      rw [← hV0] at hHeld ⊢
      clear hV0
      refine takeOp (i := 0) (v := ?_) (some 39) rfl rfl (by kernel_rfl) (by kernel_rfl) (by kernel_rfl) (fun _ _ _ h => h) (Or.inl ⟨by rfl, ?_⟩) (by assumption) ?_
      rotate_left 1
      · (intro w0 hSw; (try dsimp only at hSw); go_simp; try (with_reducible rfl))
      try simp only [Act.put, List.setIfInBounds_toArray, List.set_cons_succ, List.set_cons_zero]
      refine takeOp (i := 1) (v := ?_) (some 40) rfl rfl (by kernel_rfl) (by kernel_rfl) (by kernel_rfl) (fun _ _ _ h => h) (Or.inl ⟨by rfl, ?_⟩) (by assumption) ?_
      rotate_left 1
      · (intro w0 hSw; (try dsimp only at hSw); go_simp; try (with_reducible rfl))
      try simp only [Act.put, List.setIfInBounds_toArray, List.set_cons_succ, List.set_cons_zero]
      refine takeOp (i := 2) (v := ?_) (some 41) rfl rfl (by kernel_rfl) (by kernel_rfl) (by kernel_rfl) (fun _ _ _ h => h) (Or.inl ⟨by rfl, ?_⟩) (by assumption) ?_
      rotate_left 1
      · (intro w0 hSw; (try dsimp only at hSw); go_simp; try (with_reducible rfl))
      try simp only [Act.put, List.setIfInBounds_toArray, List.set_cons_succ, List.set_cons_zero]
      refine takeOp (i := 3) (v := ?_) (some 42) rfl rfl (by kernel_rfl) (by kernel_rfl) (by kernel_rfl) (fun _ _ _ h => h) (Or.inl ⟨by rfl, ?_⟩) (by assumption) ?_
      rotate_left 1
      · (intro w0 hSw; (try dsimp only at hSw); go_simp; try (with_reducible rfl))
      try simp only [Act.put, List.setIfInBounds_toArray, List.set_cons_succ, List.set_cons_zero]
      refine takeOp (i := 4) (v := ?_) (some 43) rfl rfl (by kernel_rfl) (by kernel_rfl) (by kernel_rfl) (fun _ _ _ h => h) (Or.inl ⟨by rfl, ?_⟩) (by assumption) ?_
      rotate_left 1
      · (intro w0 hSw; (try dsimp only at hSw); go_simp; try (with_reducible rfl))
      try simp only [Act.put, List.setIfInBounds_toArray, List.set_cons_succ, List.set_cons_zero]
      refine takeOp (i := 5) (v := ?_) (some 44) rfl rfl (by kernel_rfl) (by kernel_rfl) (by kernel_rfl) (fun _ _ _ h => h) (Or.inl ⟨by rfl, ?_⟩) (by assumption) ?_
      rotate_left 1
      · (intro w0 hSw; (try dsimp only at hSw); go_simp; try (with_reducible rfl))
      try simp only [Act.put, List.setIfInBounds_toArray, List.set_cons_succ, List.set_cons_zero]
      refine wpAnyH_ready (rs := [6, 10]) (by kernel_rfl) (by simp) ?_
      refine (AllReadyH.cons rfl (fun K hK => ?_) (AllReadyH.cons rfl (fun K hK => ?_) AllReadyH.nil))
      · go_simp
        refine (HJA.out V0 HV.out).mono ?_
        rintro e V1 hp
        obtain ⟨SA, SC, TA, TC, rfl, hat, hb⟩ := hp.one
        have HAT := Lib.hid hat
        have HVS : Hid (wA.heap.size ≤ V0.heap.size) := HV.out.size
        have HV := Lib.hid (Below.then HV.out hb HV.out.size)
        clear hat hb hp
        go_wp2_with fail
        refine hK.out _ _ (HSA.out V1 HV.out) (fun hHeld => ?_)
        clear hK K
        try simp only [Act.put, List.setIfInBounds_toArray, List.set_cons_succ, List.set_cons_zero]
        refine takeOp (i := 7) (v := ?_) (some 38) rfl rfl (by kernel_rfl) (by kernel_rfl) (by kernel_rfl) (fun _ _ _ h => h) (Or.inl ⟨by rfl, ?_⟩) (by assumption) ?_
        rotate_left 1
        · (intro w0 hSw; (try dsimp only at hSw); go_simp; try (with_reducible rfl))
        try simp only [Act.put, List.setIfInBounds_toArray, List.set_cons_succ, List.set_cons_zero]
        refine takeOp (i := 8) (v := ?_) (some 46) rfl rfl (by kernel_rfl) (by kernel_rfl) (by kernel_rfl) (fun _ _ _ h => h) (Or.inl ⟨by rfl, ?_⟩) (by assumption) ?_
        rotate_left 1
        · (intro w0 hSw; (try dsimp only at hSw); go_simp; try (with_reducible rfl))
        try simp only [Act.put, List.setIfInBounds_toArray, List.set_cons_succ, List.set_cons_zero]
        refine takeOp (i := 9) (v := ?_) (some 47) rfl rfl (by kernel_rfl) (by kernel_rfl) (by kernel_rfl) (fun _ _ _ h => h) (Or.inl ⟨by rfl, ?_⟩) (by assumption) ?_
        rotate_left 1
        · (intro w0 hSw; (try dsimp only at hSw); go_simp; try (with_reducible rfl))
        try simp only [Act.put, List.setIfInBounds_toArray, List.set_cons_succ, List.set_cons_zero]
        refine wpAnyH_ready (rs := [10]) (by kernel_rfl) (by simp) ?_
        refine (AllReadyH.cons rfl (fun K hK => ?_) AllReadyH.nil)
        go_simp
        obtain ⟨V2, hV⟩ : ∃ V', V' = V1.alloc (.cells #[.slice none 0 0, .int .i64 0, .slice none 0 0] 36) := ⟨_, rfl⟩
        rw [← hV]
        have hx : Ext V1 V2 := by rw [hV]; exact (Ext.refl V1).alloc _
        obtain ⟨gb, hgb⟩ : ∃ gb, gb = V1.heap.size := ⟨_, rfl⟩
        have HG : Hid (Row V2 gb 36 [.slice none 0 0, .int .i64 0, .slice none 0 0]) := by show Row _ _ _ _; rw [hV, hgb]; exact Row.new V1 _ _
        have HGZ : Hid (wA.heap.size ≤ gb ∧ gb + 1 = V2.heap.size ∧ gb = V1.heap.size) := ⟨by rw [hgb]; exact HV.out.size, by rw [hV, hgb]; simp, hgb⟩
        have HAT := Lib.hid (HAT.out.keep (P' := fun c => c < gb) (fun p hp _ => hx.below.cell hp) hx.size fun b hb _ => by rw [hgb]; exact hb)
        have HV := Lib.hid (Below.then HV.out hx.below HV.out.size)
        rw [← hgb]
        clear hx hV hgb
        refine hK.out _ _ (HSA.out V2 HV.out) (fun hHeld => ?_)
        clear hK K
        try simp only [Act.put, List.setIfInBounds_toArray, List.set_cons_succ, List.set_cons_zero]
        refine wpAnyH_ready (rs := [11]) (by kernel_rfl) (by simp) ?_
        refine (AllReadyH.cons rfl (fun K hK => ?_) AllReadyH.nil)
        have m0 := HG.out.frozen 0
        have m1 := HG.out.frozen 1
        have m2 := HG.out.frozen 2
        have m3 := HG.out.lt
        have n0 : V2.cell? ⟨gb, 0, none⟩ = some (.slice none 0 0) := HG.out.cell 0
        have n1 : V2.cell? ⟨gb, 1, none⟩ = some (.int .i64 0) := HG.out.cell 1
        have n2 : V2.cell? ⟨gb, 2, none⟩ = some (.slice none 0 0) := HG.out.cell 2
        go_simp
        go_wp2_with fail
        obtain ⟨V3, hV⟩ : ∃ V', V' = ((V2.setCell ⟨gb, 0, none⟩ (.slice SA (resA 0 J).vs.length SC)).setCell ⟨gb, 1, none⟩ (.int .i64 ((resA 0 J).vs.length : Nat))).setCell ⟨gb, 2, none⟩ (.slice TA (resA 0 J).P.length TC) := ⟨_, rfl⟩
        rw [← hV]
        have HBX := Lib.hid (BoxA.put HG.out HAT.out (by show ¬ gb < gb; omega) hV)
        have hz := HGZ.out.1
        have HV : Hid (Below wA.heap.size wA V3) := by show Below _ _ _; rw [hV]; exact ((HV.out.setCell (by show wA.heap.size ≤ gb; omega) _).setCell (by show wA.heap.size ≤ gb; omega) _).setCell (by show wA.heap.size ≤ gb; omega) _
        clear hV m0 m1 m2 m3 n0 n1 n2 hz
        refine hK.out _ _ (HSA.out V3 HV.out) (fun hHeld => ?_)
        clear hK K
        try simp only [Act.put, List.setIfInBounds_toArray, List.set_cons_succ, List.set_cons_zero]
        refine takeOp (i := 12) (v := ?_) (some 12) rfl rfl (by kernel_rfl) (by kernel_rfl) (by kernel_rfl) (fun _ _ _ h => h) (Or.inl ⟨by rfl, ?_⟩) (by assumption) ?_
        rotate_left 1
        · (intro w0 hSw; (try dsimp only at hSw); go_simp; try (with_reducible rfl))
        try simp only [Act.put, List.setIfInBounds_toArray, List.set_cons_succ, List.set_cons_zero]
        refine wpAnyH_done (by kernel_rfl) ?_ _
        go_wp2_with fail
        go_meet
        case rel => exact ⟨gb, rfl, rfl, HBX.out, HV.out⟩
      · go_simp
        obtain ⟨V1, hV⟩ : ∃ V', V' = V0.alloc (.cells #[.slice none 0 0, .int .i64 0, .slice none 0 0] 36) := ⟨_, rfl⟩
        rw [← hV]
        have hx : Ext V0 V1 := by rw [hV]; exact (Ext.refl V0).alloc _
        obtain ⟨gb, hgb⟩ : ∃ gb, gb = V0.heap.size := ⟨_, rfl⟩
        have HG : Hid (Row V1 gb 36 [.slice none 0 0, .int .i64 0, .slice none 0 0]) := by show Row _ _ _ _; rw [hV, hgb]; exact Row.new V0 _ _
        have HGZ : Hid (wA.heap.size ≤ gb ∧ gb + 1 = V1.heap.size ∧ gb = V0.heap.size) := ⟨by rw [hgb]; exact HV.out.size, by rw [hV, hgb]; simp, hgb⟩
        have HV := Lib.hid (Below.then HV.out hx.below HV.out.size)
        rw [← hgb]
        clear hx hV hgb
        refine hK.out _ _ (HSA.out V1 HV.out) (fun hHeld => ?_)
        clear hK K
        try simp only [Act.put, List.setIfInBounds_toArray, List.set_cons_succ, List.set_cons_zero]
        refine wpAnyH_ready (rs := [6]) (by kernel_rfl) (by simp) ?_
        refine (AllReadyH.cons rfl (fun K hK => ?_) AllReadyH.nil)
        go_simp
        refine (HJA.out V1 HV.out).mono ?_
        rintro e V2 hp
        obtain ⟨SA, SC, TA, TC, rfl, hat, hb⟩ := hp.one
        have HAT := Lib.hid hat
        have HVS : Hid (wA.heap.size ≤ V1.heap.size) := HV.out.size
        have HG := Lib.hid (HG.out.up hb)
        have HV := Lib.hid (Below.then HV.out hb HV.out.size)
        clear hat hb hp
        go_wp2_with fail
        refine hK.out _ _ (HSA.out V2 HV.out) (fun hHeld => ?_)
        clear hK K
        try simp only [Act.put, List.setIfInBounds_toArray, List.set_cons_succ, List.set_cons_zero]
        refine takeOp (i := 7) (v := ?_) (some 38) rfl rfl (by kernel_rfl) (by kernel_rfl) (by kernel_rfl) (fun _ _ _ h => h) (Or.inl ⟨by rfl, ?_⟩) (by assumption) ?_
        rotate_left 1
        · (intro w0 hSw; (try dsimp only at hSw); go_simp; try (with_reducible rfl))
        try simp only [Act.put, List.setIfInBounds_toArray, List.set_cons_succ, List.set_cons_zero]
        refine takeOp (i := 8) (v := ?_) (some 46) rfl rfl (by kernel_rfl) (by kernel_rfl) (by kernel_rfl) (fun _ _ _ h => h) (Or.inl ⟨by rfl, ?_⟩) (by assumption) ?_
        rotate_left 1
        · (intro w0 hSw; (try dsimp only at hSw); go_simp; try (with_reducible rfl))
        try simp only [Act.put, List.setIfInBounds_toArray, List.set_cons_succ, List.set_cons_zero]
        refine takeOp (i := 9) (v := ?_) (some 47) rfl rfl (by kernel_rfl) (by kernel_rfl) (by kernel_rfl) (fun _ _ _ h => h) (Or.inl ⟨by rfl, ?_⟩) (by assumption) ?_
        rotate_left 1
        · (intro w0 hSw; (try dsimp only at hSw); go_simp; try (with_reducible rfl))
        try simp only [Act.put, List.setIfInBounds_toArray, List.set_cons_succ, List.set_cons_zero]
        refine wpAnyH_ready (rs := [11]) (by kernel_rfl) (by simp) ?_
        refine (AllReadyH.cons rfl (fun K hK => ?_) AllReadyH.nil)
        have m0 := HG.out.frozen 0
        have m1 := HG.out.frozen 1
        have m2 := HG.out.frozen 2
        have m3 := HG.out.lt
        have n0 : V2.cell? ⟨gb, 0, none⟩ = some (.slice none 0 0) := HG.out.cell 0
        have n1 : V2.cell? ⟨gb, 1, none⟩ = some (.int .i64 0) := HG.out.cell 1
        have n2 : V2.cell? ⟨gb, 2, none⟩ = some (.slice none 0 0) := HG.out.cell 2
        go_simp
        go_wp2_with fail
        obtain ⟨V3, hV⟩ : ∃ V', V' = ((V2.setCell ⟨gb, 0, none⟩ (.slice SA (resA 0 J).vs.length SC)).setCell ⟨gb, 1, none⟩ (.int .i64 ((resA 0 J).vs.length : Nat))).setCell ⟨gb, 2, none⟩ (.slice TA (resA 0 J).P.length TC) := ⟨_, rfl⟩
        rw [← hV]
        have HBX := Lib.hid (BoxA.put HG.out HAT.out (by have := HGZ.out; show ¬ _ + 3 ≤ gb; omega) hV)
        have hz := HGZ.out.1
        have HV : Hid (Below wA.heap.size wA V3) := by show Below _ _ _; rw [hV]; exact ((HV.out.setCell (by show wA.heap.size ≤ gb; omega) _).setCell (by show wA.heap.size ≤ gb; omega) _).setCell (by show wA.heap.size ≤ gb; omega) _
        clear hV m0 m1 m2 m3 n0 n1 n2 hz
        refine hK.out _ _ (HSA.out V3 HV.out) (fun hHeld => ?_)
        clear hK K
        try simp only [Act.put, List.setIfInBounds_toArray, List.set_cons_succ, List.set_cons_zero]
        refine takeOp (i := 12) (v := ?_) (some 12) rfl rfl (by kernel_rfl) (by kernel_rfl) (by kernel_rfl) (fun _ _ _ h => h) (Or.inl ⟨by rfl, ?_⟩) (by assumption) ?_
        rotate_left 1
        · (intro w0 hSw; (try dsimp only at hSw); go_simp; try (with_reducible rfl))
        try simp only [Act.put, List.setIfInBounds_toArray, List.set_cons_succ, List.set_cons_zero]
        refine wpAnyH_done (by kernel_rfl) ?_ _
        go_wp2_with fail
        go_meet
        case rel => exact ⟨gb, rfl, rfl, HBX.out, HV.out⟩
    case rest =>
      obtain ⟨g11, rfl, rfl, hbx, hbw⟩ := hcut
      generalize wc = wB at *
      have HBX11 := Lib.hid hbx.res
      have HBX92 := Lib.hid (HBX9.out.up hbw)
      have HBB : Hid (Below w2.heap.size w2 wB) := Below.then HBA.out hbw HBA.out.size
      clear hbx hbw HSA HJA HBX9
      go_wp2_with fail
      refine (HWR.out wB HBB.out).mono ?_
      rintro e wC ⟨rfl, hb3⟩
      have HBC : Hid (Below w2.heap.size w2 wC) := Below.then HBB.out hb3 HBB.out.size
      have HBX93 := Lib.hid (HBX92.out.up hb3)
      have HBX112 := Lib.hid (HBX11.out.up hb3)
      obtain ⟨As, Cs, Ps, Ds, rs, vs⟩ := HBX93.out
      have HSC : Hid (∀ W, Below wC.heap.size wC W → (W.cell? ⟨g9, 0, none⟩ = some (.slice As ss.vs.length Cs) ∧ W.cell? ⟨g9, 1, none⟩ = some (.int .i64 (ss.vs.length : Nat)) ∧ W.cell? ⟨g9, 2, none⟩ = some (.slice Ps ss.P.length Ds)) ∧ (W.cell? ⟨b, o, none⟩ = some (.slice VA xa.vs.length VC) ∧ W.cell? ⟨b, o + 1, none⟩ = some (.int .i64 (xa.vs.length : Nat)) ∧ W.cell? ⟨b, o + 2, none⟩ = some (.slice PA xa.P.length PC)) ∧ W.cell? ⟨b, o + 3, none⟩ = some (.slice UA ya.vs.length UC) ∧ W.cell? ⟨b, o + 3 + 1, none⟩ = some (.int .i64 (ya.vs.length : Nat)) ∧ W.cell? ⟨b, o + 3 + 2, none⟩ = some (.slice QA ya.P.length QC)) := fun W h => ⟨⟨(rs.up h).cell 0, (rs.up h).cell 1, (rs.up h).cell 2⟩, HS.out W (Below.then HBC.out h HBC.out.size)⟩
      have HJC : Hid (∀ W, Below wC.heap.size wC W → Calls Tryz.prog 9 #[(.agg #[.slice As ss.vs.length Cs, .int .i64 (ss.vs.length : Nat), .slice Ps ss.P.length Ds]), (.agg #[.slice UA ya.vs.length UC, .int .i64 (ya.vs.length : Nat), .slice QA ya.P.length QC])] W (XPost W 0 ss)) := fun W h => HJ3.out W _ (Below.then HBC.out h HBC.out.size) (vs.up h)
      have hbl : b < wC.heap.size := Nat.lt_of_lt_of_le HBL.out HBC.out.size
      have hgl : g9 < wC.heap.size := rs.lt
      clear hb3 HBX92 HBX11 HBX93 HWR
      go_wp2_with fail
      go_upto_region 9 with (fail)
      go_cut [14, 15] from 84 to 91 (fun r e wx => ∃ g : Nat, r = .pointer (some ⟨g, 0, none⟩) ∧ e = .int .i64 (0) ∧ BoxA wx g (resA 0 ss) ∧ Below wC.heap.size wC wx)
      case first =>
        refine wp_region_held_drew (S := (fun w' => (w'.cell? ⟨g9, 0, none⟩ = some (.slice As ss.vs.length Cs) ∧ w'.cell? ⟨g9, 1, none⟩ = some (.int .i64 (ss.vs.length : Nat)) ∧ w'.cell? ⟨g9, 2, none⟩ = some (.slice Ps ss.P.length Ds)) ∧ (w'.cell? ⟨b, o, none⟩ = some (.slice VA xa.vs.length VC) ∧ w'.cell? ⟨b, o + 1, none⟩ = some (.int .i64 (xa.vs.length : Nat)) ∧ w'.cell? ⟨b, o + 2, none⟩ = some (.slice PA xa.P.length PC)) ∧ w'.cell? ⟨b, o + 3, none⟩ = some (.slice UA ya.vs.length UC) ∧ w'.cell? ⟨b, o + 3 + 1, none⟩ = some (.int .i64 (ya.vs.length : Nat)) ∧ w'.cell? ⟨b, o + 3 + 2, none⟩ = some (.slice QA ya.P.length QC))) (by kernel_rfl) (HSC.out wC.drew (Below.refl _ _).drew) (fun hHeld => ?_)
        obtain ⟨V0, hV0⟩ : ∃ V, V = wC.drew := ⟨_, rfl⟩
        have HV : Hid (Below wC.heap.size wC V0) := by show Below _ _ _; rw [hV0]; exact (Below.refl _ _).drew
        rw [← hV0] at hHeld ⊢
        clear hV0
        refine takeOp (i := 0) (v := ?_) (some 85) rfl rfl (by kernel_rfl) (by kernel_rfl) (by kernel_rfl) (fun _ _ _ h => h) (Or.inl ⟨by rfl, ?_⟩) (by assumption) ?_
        rotate_left 1
        · (intro w0 hSw; (try dsimp only at hSw); go_simp; try (with_reducible rfl))
        try simp only [Act.put, List.setIfInBounds_toArray, List.set_cons_succ, List.set_cons_zero]
        refine takeOp (i := 1) (v := ?_) (some 86) rfl rfl (by kernel_rfl) (by kernel_rfl) (by kernel_rfl) (fun _ _ _ h => h) (Or.inl ⟨by rfl, ?_⟩) (by assumption) ?_
        rotate_left 1
        · (intro w0 hSw; (try dsimp only at hSw); go_simp; try (with_reducible rfl))
        try simp only [Act.put, List.setIfInBounds_toArray, List.set_cons_succ, List.set_cons_zero]
        refine takeOp (i := 2) (v := ?_) (some 87) rfl rfl (by kernel_rfl) (by kernel_rfl) (by kernel_rfl) (fun _ _ _ h => h) (Or.inl ⟨by rfl, ?_⟩) (by assumption) ?_
        rotate_left 1
        · (intro w0 hSw; (try dsimp only at hSw); go_simp; try (with_reducible rfl))
        try simp only [Act.put, List.setIfInBounds_toArray, List.set_cons_succ, List.set_cons_zero]
        refine takeOp (i := 3) (v := ?_) (some 88) rfl rfl (by kernel_rfl) (by kernel_rfl) (by kernel_rfl) (fun _ _ _ h => h) (Or.inl ⟨by rfl, ?_⟩) (by assumption) ?_
        rotate_left 1
        · (intro w0 hSw; (try dsimp only at hSw); go_simp; try (with_reducible rfl))
        try simp only [Act.put, List.setIfInBounds_toArray, List.set_cons_succ, List.set_cons_zero]
        refine wpAnyH_ready (rs := [4, 8]) (by kernel_rfl) (by simp) ?_
        refine (AllReadyH.cons rfl (fun K hK => ?_) (AllReadyH.cons rfl (fun K hK => ?_) AllReadyH.nil))
        · go_simp
          refine (HJC.out V0 HV.out).mono ?_
          rintro e V1 hp
          obtain ⟨SA, SC, TA, TC, rfl, hat, hb⟩ := hp.one
          have HAT := Lib.hid hat
          have HVS : Hid (wC.heap.size ≤ V0.heap.size) := HV.out.size
          have HV := Lib.hid (Below.then HV.out hb HV.out.size)
          clear hat hb hp
          go_wp2_with fail
          refine hK.out _ _ (HSC.out V1 HV.out) (fun hHeld => ?_)
          clear hK K
          try simp only [Act.put, List.setIfInBounds_toArray, List.set_cons_succ, List.set_cons_zero]
          refine takeOp (i := 5) (v := ?_) (some 84) rfl rfl (by kernel_rfl) (by kernel_rfl) (by kernel_rfl) (fun _ _ _ h => h) (Or.inl ⟨by rfl, ?_⟩) (by assumption) ?_
          rotate_left 1
          · (intro w0 hSw; (try dsimp only at hSw); go_simp; try (with_reducible rfl))
          try simp only [Act.put, List.setIfInBounds_toArray, List.set_cons_succ, List.set_cons_zero]
          refine takeOp (i := 6) (v := ?_) (some 90) rfl rfl (by kernel_rfl) (by kernel_rfl) (by kernel_rfl) (fun _ _ _ h => h) (Or.inl ⟨by rfl, ?_⟩) (by assumption) ?_
          rotate_left 1
          · (intro w0 hSw; (try dsimp only at hSw); go_simp; try (with_reducible rfl))
          try simp only [Act.put, List.setIfInBounds_toArray, List.set_cons_succ, List.set_cons_zero]
          refine takeOp (i := 7) (v := ?_) (some 91) rfl rfl (by kernel_rfl) (by kernel_rfl) (by kernel_rfl) (fun _ _ _ h => h) (Or.inl ⟨by rfl, ?_⟩) (by assumption) ?_
          rotate_left 1
          · (intro w0 hSw; (try dsimp only at hSw); go_simp; try (with_reducible rfl))
          try simp only [Act.put, List.setIfInBounds_toArray, List.set_cons_succ, List.set_cons_zero]
          refine wpAnyH_ready (rs := [8]) (by kernel_rfl) (by simp) ?_
          refine (AllReadyH.cons rfl (fun K hK => ?_) AllReadyH.nil)
          go_simp
          obtain ⟨V2, hV⟩ : ∃ V', V' = V1.alloc (.cells #[.slice none 0 0, .int .i64 0, .slice none 0 0] 36) := ⟨_, rfl⟩
          rw [← hV]
          have hx : Ext V1 V2 := by rw [hV]; exact (Ext.refl V1).alloc _
          obtain ⟨gb, hgb⟩ : ∃ gb, gb = V1.heap.size := ⟨_, rfl⟩
          have HG : Hid (Row V2 gb 36 [.slice none 0 0, .int .i64 0, .slice none 0 0]) := by show Row _ _ _ _; rw [hV, hgb]; exact Row.new V1 _ _
          have HGZ : Hid (wC.heap.size ≤ gb ∧ gb + 1 = V2.heap.size ∧ gb = V1.heap.size) := ⟨by rw [hgb]; exact HV.out.size, by rw [hV, hgb]; simp, hgb⟩
          have HAT := Lib.hid (HAT.out.keep (P' := fun c => c < gb) (fun p hp _ => hx.below.cell hp) hx.size fun b hb _ => by rw [hgb]; exact hb)
          have HV := Lib.hid (Below.then HV.out hx.below HV.out.size)
          rw [← hgb]
          clear hx hV hgb
          refine hK.out _ _ (HSC.out V2 HV.out) (fun hHeld => ?_)
          clear hK K
          try simp only [Act.put, List.setIfInBounds_toArray, List.set_cons_succ, List.set_cons_zero]
          refine wpAnyH_ready (rs := [9]) (by kernel_rfl) (by simp) ?_
          refine (AllReadyH.cons rfl (fun K hK => ?_) AllReadyH.nil)
          have m0 := HG.out.frozen 0
          have m1 := HG.out.frozen 1
          have m2 := HG.out.frozen 2
          have m3 := HG.out.lt
          have n0 : V2.cell? ⟨gb, 0, none⟩ = some (.slice none 0 0) := HG.out.cell 0
          have n1 : V2.cell? ⟨gb, 1, none⟩ = some (.int .i64 0) := HG.out.cell 1
          have n2 : V2.cell? ⟨gb, 2, none⟩ = some (.slice none 0 0) := HG.out.cell 2
          go_simp
          go_wp2_with fail
          obtain ⟨V3, hV⟩ : ∃ V', V' = ((V2.setCell ⟨gb, 0, none⟩ (.slice SA (resA 0 ss).vs.length SC)).setCell ⟨gb, 1, none⟩ (.int .i64 ((resA 0 ss).vs.length : Nat))).setCell ⟨gb, 2, none⟩ (.slice TA (resA 0 ss).P.length TC) := ⟨_, rfl⟩
          rw [← hV]
          have HBX := Lib.hid (BoxA.put HG.out HAT.out (by show ¬ gb < gb; omega) hV)
          have hz := HGZ.out.1
          have HV : Hid (Below wC.heap.size wC V3) := by show Below _ _ _; rw [hV]; exact ((HV.out.setCell (by show wC.heap.size ≤ gb; omega) _).setCell (by show wC.heap.size ≤ gb; omega) _).setCell (by show wC.heap.size ≤ gb; omega) _
          clear hV m0 m1 m2 m3 n0 n1 n2 hz
          refine hK.out _ _ (HSC.out V3 HV.out) (fun hHeld => ?_)
          clear hK K
          try simp only [Act.put, List.setIfInBounds_toArray, List.set_cons_succ, List.set_cons_zero]
          refine takeOp (i := 10) (v := ?_) (some 15) rfl rfl (by kernel_rfl) (by kernel_rfl) (by kernel_rfl) (fun _ _ _ h => h) (Or.inl ⟨by rfl, ?_⟩) (by assumption) ?_
          rotate_left 1
          · (intro w0 hSw; (try dsimp only at hSw); go_simp; try (with_reducible rfl))
          try simp only [Act.put, List.setIfInBounds_toArray, List.set_cons_succ, List.set_cons_zero]
          refine wpAnyH_done (by kernel_rfl) ?_ _
          go_wp2_with fail
          go_meet
          case rel => exact ⟨gb, rfl, rfl, HBX.out, HV.out⟩
        · go_simp
          obtain ⟨V1, hV⟩ : ∃ V', V' = V0.alloc (.cells #[.slice none 0 0, .int .i64 0, .slice none 0 0] 36) := ⟨_, rfl⟩
          rw [← hV]
          have hx : Ext V0 V1 := by rw [hV]; exact (Ext.refl V0).alloc _
          obtain ⟨gb, hgb⟩ : ∃ gb, gb = V0.heap.size := ⟨_, rfl⟩
          have HG : Hid (Row V1 gb 36 [.slice none 0 0, .int .i64 0, .slice none 0 0]) := by show Row _ _ _ _; rw [hV, hgb]; exact Row.new V0 _ _
          have HGZ : Hid (wC.heap.size ≤ gb ∧ gb + 1 = V1.heap.size ∧ gb = V0.heap.size) := ⟨by rw [hgb]; exact HV.out.size, by rw [hV, hgb]; simp, hgb⟩
          have HV := Lib.hid (Below.then HV.out hx.below HV.out.size)
          rw [← hgb]
          clear hx hV hgb
          refine hK.out _ _ (HSC.out V1 HV.out) (fun hHeld => ?_)
          clear hK K
          try simp only [Act.put, List.setIfInBounds_toArray, List.set_cons_succ, List.set_cons_zero]
          refine wpAnyH_ready (rs := [4]) (by kernel_rfl) (by simp) ?_
          refine (AllReadyH.cons rfl (fun K hK => ?_) AllReadyH.nil)
          go_simp
          refine (HJC.out V1 HV.out).mono ?_
          rintro e V2 hp
          obtain ⟨SA, SC, TA, TC, rfl, hat, hb⟩ := hp.one
          have HAT := Lib.hid hat
          have HVS : Hid (wC.heap.size ≤ V1.heap.size) := HV.out.size
          have HG := Lib.hid (HG.out.up hb)
          have HV := Lib.hid (Below.then HV.out hb HV.out.size)
          clear hat hb hp
          go_wp2_with fail
          refine hK.out _ _ (HSC.out V2 HV.out) (fun hHeld => ?_)
          clear hK K
          try simp only [Act.put, List.setIfInBounds_toArray, List.set_cons_succ, List.set_cons_zero]
          refine takeOp (i := 5) (v := ?_) (some 84) rfl rfl (by kernel_rfl) (by kernel_rfl) (by kernel_rfl) (fun _ _ _ h => h) (Or.inl ⟨by rfl, ?_⟩) (by assumption) ?_
          rotate_left 1
          · (intro w0 hSw; (try dsimp only at hSw); go_simp; try (with_reducible rfl))
          try simp only [Act.put, List.setIfInBounds_toArray, List.set_cons_succ, List.set_cons_zero]
          refine takeOp (i := 6) (v := ?_) (some 90) rfl rfl (by kernel_rfl) (by kernel_rfl) (by kernel_rfl) (fun _ _ _ h => h) (Or.inl ⟨by rfl, ?_⟩) (by assumption) ?_
          rotate_left 1
          · (intro w0 hSw; (try dsimp only at hSw); go_simp; try (with_reducible rfl))
          try simp only [Act.put, List.setIfInBounds_toArray, List.set_cons_succ, List.set_cons_zero]
          refine takeOp (i := 7) (v := ?_) (some 91) rfl rfl (by kernel_rfl) (by kernel_rfl) (by kernel_rfl) (fun _ _ _ h => h) (Or.inl ⟨by rfl, ?_⟩) (by assumption) ?_
          rotate_left 1
          · (intro w0 hSw; (try dsimp only at hSw); go_simp; try (with_reducible rfl))
          try simp only [Act.put, List.setIfInBounds_toArray, List.set_cons_succ, List.set_cons_zero]
          refine wpAnyH_ready (rs := [9]) (by kernel_rfl) (by simp) ?_
          refine (AllReadyH.cons rfl (fun K hK => ?_) AllReadyH.nil)
          have m0 := HG.out.frozen 0
          have m1 := HG.out.frozen 1
          have m2 := HG.out.frozen 2
          have m3 := HG.out.lt
          have n0 : V2.cell? ⟨gb, 0, none⟩ = some (.slice none 0 0) := HG.out.cell 0
          have n1 : V2.cell? ⟨gb, 1, none⟩ = some (.int .i64 0) := HG.out.cell 1
          have n2 : V2.cell? ⟨gb, 2, none⟩ = some (.slice none 0 0) := HG.out.cell 2
          go_simp
          go_wp2_with fail
          obtain ⟨V3, hV⟩ : ∃ V', V' = ((V2.setCell ⟨gb, 0, none⟩ (.slice SA (resA 0 ss).vs.length SC)).setCell ⟨gb, 1, none⟩ (.int .i64 ((resA 0 ss).vs.length : Nat))).setCell ⟨gb, 2, none⟩ (.slice TA (resA 0 ss).P.length TC) := ⟨_, rfl⟩
          rw [← hV]
          have HBX := Lib.hid (BoxA.put HG.out HAT.out (by have := HGZ.out; show ¬ _ + 3 ≤ gb; omega) hV)
          have hz := HGZ.out.1
          have HV : Hid (Below wC.heap.size wC V3) := by show Below _ _ _; rw [hV]; exact ((HV.out.setCell (by show wC.heap.size ≤ gb; omega) _).setCell (by show wC.heap.size ≤ gb; omega) _).setCell (by show wC.heap.size ≤ gb; omega) _
          clear hV m0 m1 m2 m3 n0 n1 n2 hz
          refine hK.out _ _ (HSC.out V3 HV.out) (fun hHeld => ?_)
          clear hK K
          try simp only [Act.put, List.setIfInBounds_toArray, List.set_cons_succ, List.set_cons_zero]
          refine takeOp (i := 10) (v := ?_) (some 15) rfl rfl (by kernel_rfl) (by kernel_rfl) (by kernel_rfl) (fun _ _ _ h => h) (Or.inl ⟨by rfl, ?_⟩) (by assumption) ?_
          rotate_left 1
          · (intro w0 hSw; (try dsimp only at hSw); go_simp; try (with_reducible rfl))
          try simp only [Act.put, List.setIfInBounds_toArray, List.set_cons_succ, List.set_cons_zero]
          refine wpAnyH_done (by kernel_rfl) ?_ _
          go_wp2_with fail
          go_meet
          case rel => exact ⟨gb, rfl, rfl, HBX.out, HV.out⟩
      case rest =>
        obtain ⟨g14, rfl, rfl, hbx, hbw⟩ := hcut
        generalize wc = wD at *
        have HBX14 := Lib.hid hbx.res
        have HBX113 := Lib.hid (HBX112.out.up hbw)
        have HB2D : Hid (Below w2.heap.size w2 wD) := Below.then HBC.out hbw HBC.out.size
        have HBD : Hid (Below w.heap.size w wD) := Below.then HB2.out HB2D.out HB2.out.size
        have rs := rs.up hbw
        have vs := vs.up hbw
        obtain ⟨Aj, Cj, Pj, Dj, rj, vj⟩ := HBX113.out
        obtain ⟨Am, Cm, Pm, Dm, rm, vm⟩ := HBX14.out
        have HS10 : Hid (∀ W, Below wD.heap.size wD W → (((W.cell? ⟨g9, 0, none⟩ = some (.slice As ss.vs.length Cs) ∧ W.cell? ⟨g9, 1, none⟩ = some (.int .i64 (ss.vs.length : Nat)) ∧ W.cell? ⟨g9, 2, none⟩ = some (.slice Ps ss.P.length Ds)) ∧ W.cell? ⟨g11, 0, none⟩ = some (.slice Aj J.vs.length Cj) ∧ W.cell? ⟨g11, 1, none⟩ = some (.int .i64 (J.vs.length : Nat)) ∧ W.cell? ⟨g11, 2, none⟩ = some (.slice Pj J.P.length Dj)) ∧ W.cell? ⟨g14, 0, none⟩ = some (.slice Am ss.vs.length Cm) ∧ W.cell? ⟨g14, 1, none⟩ = some (.int .i64 (ss.vs.length : Nat)) ∧ W.cell? ⟨g14, 2, none⟩ = some (.slice Pm ss.P.length Dm)) ∧ (W.cell? ⟨bm, om, none⟩ = some (.slice MA xa.vs.length MC) ∧ W.cell? ⟨bm, om + 1, none⟩ = some (.slice NA xa.P.length NC)) ∧ W.cell? ⟨bm, om + 2, none⟩ = some (.slice OA ya.vs.length OC) ∧ W.cell? ⟨bm, om + 2 + 1, none⟩ = some (.slice TA ya.P.length TC)) := fun W h => ⟨⟨⟨⟨(rs.up h).cell 0, (rs.up h).cell 1, (rs.up h).cell 2⟩, (rj.up h).cell 0, (rj.up h).cell 1, (rj.up h).cell 2⟩, (rm.up h).cell 0, (rm.up h).cell 1, (rm.up h).cell 2⟩, HM.out W (Below.then HB2D.out h HB2D.out.size)⟩
        have HRSD := Lib.hid (fun W (h : Below wD.heap.size wD W) => HRS.out W (Below.then HB2D.out h HB2D.out.size))
        have HRJD := Lib.hid (fun W (h : Below wD.heap.size wD W) => HRJ.out W (Below.then HB2D.out h HB2D.out.size))
        have HO1 : Hid (∀ W, Below wD.heap.size wD W → Calls Tryz.prog 16 #[(.agg #[.slice As ss.vs.length Cs, .int .i64 (ss.vs.length : Nat), .slice Ps ss.P.length Ds])] W (Of36 ss W)) := fun W h => l36Of_any _ ss W (vs.up h) HGS.out
        have HI1 : Hid (∀ W v, Below wD.heap.size wD W → RefV W v (ss.vs.map Int.ofNat) ss.P → Calls Tryz.prog 13 #[(.agg #[.slice As ss.vs.length Cs, .int .i64 (ss.vs.length : Nat), .slice Ps ss.P.length Ds]), v] W fun e w' => e = .returned (.bool true) ∧ Below W.heap.size W w') := fun W v h hv => l36is_any _ v ss W (vs.up h) hv HGS.out
        have HI2 : Hid (∀ W v, Below wD.heap.size wD W → RefV W v (J.vs.map Int.ofNat) J.P → Calls Tryz.prog 13 #[(.agg #[.slice Aj J.vs.length Cj, .int .i64 (J.vs.length : Nat), .slice Pj J.P.length Dj]), v] W fun e w' => e = .returned (.bool true) ∧ Below W.heap.size W w') := fun W v h hv => l36is_any _ v J W (vj.up h) hv HGJ.out
        have HI3 : Hid (∀ W v, Below wD.heap.size wD W → RefV W v (ss.vs.map Int.ofNat) ss.P → Calls Tryz.prog 13 #[(.agg #[.slice Am ss.vs.length Cm, .int .i64 (ss.vs.length : Nat), .slice Pm ss.P.length Dm]), v] W fun e w' => e = .returned (.bool true) ∧ Below W.heap.size W w') := fun W v h hv => l36is_any _ v ss W (vm.up h) hv HGS.out
        have hbm : bm < wD.heap.size := Nat.lt_of_lt_of_le HBM.out HB2D.out.size
        clear hbx hbw HSC HJC HBX112 HBX113 HBX14 rs vs rj vj rm vm hbl hgl HS HM HJ1 HJ2 HJ3 HBA HBB HBC HB2 HRS HRJ HB2D
        go_upto_region 10 with (fail)
        refine wp_region_held_drew (S := (fun w' => (((w'.cell? ⟨g9, 0, none⟩ = some (.slice As ss.vs.length Cs) ∧ w'.cell? ⟨g9, 1, none⟩ = some (.int .i64 (ss.vs.length : Nat)) ∧ w'.cell? ⟨g9, 2, none⟩ = some (.slice Ps ss.P.length Ds)) ∧ w'.cell? ⟨g11, 0, none⟩ = some (.slice Aj J.vs.length Cj) ∧ w'.cell? ⟨g11, 1, none⟩ = some (.int .i64 (J.vs.length : Nat)) ∧ w'.cell? ⟨g11, 2, none⟩ = some (.slice Pj J.P.length Dj)) ∧ w'.cell? ⟨g14, 0, none⟩ = some (.slice Am ss.vs.length Cm) ∧ w'.cell? ⟨g14, 1, none⟩ = some (.int .i64 (ss.vs.length : Nat)) ∧ w'.cell? ⟨g14, 2, none⟩ = some (.slice Pm ss.P.length Dm)) ∧ (w'.cell? ⟨bm, om, none⟩ = some (.slice MA xa.vs.length MC) ∧ w'.cell? ⟨bm, om + 1, none⟩ = some (.slice NA xa.P.length NC)) ∧ w'.cell? ⟨bm, om + 2, none⟩ = some (.slice OA ya.vs.length OC) ∧ w'.cell? ⟨bm, om + 2 + 1, none⟩ = some (.slice TA ya.P.length TC))) (by kernel_rfl) (HS10.out wD.drew (Below.refl _ _).drew) (fun hHeld => ?_)
        refine wpAnyH_ready (rs := [0]) (by kernel_rfl) (by simp) ?_
        refine AllReadyH.cons rfl (fun K hK => ?_) AllReadyH.nil
        go_simp
        refine (l36awake_any wD.drew).mono ?_
        rintro e V1 ⟨rfl, hb⟩
        have HV1 : Hid (Below wD.heap.size wD V1) := Below.undrew hb
        clear hb
        go_wp2_with fail
        refine hK.out _ _ (HS10.out V1 HV1.out) (fun hHeld => ?_)
        clear hK K
        try simp only [Act.put, List.setIfInBounds_toArray, List.set_cons_succ, List.set_cons_zero]
        refine takeOp (i := 1) (v := ?_) (some 93) rfl rfl (by kernel_rfl) (by kernel_rfl) (by kernel_rfl) (fun _ _ _ h => h) (Or.inl ⟨by rfl, ?_⟩) (by assumption) ?_
        rotate_left 1
        · (intro w0 hSw; (try dsimp only at hSw); go_simp; try (with_reducible rfl))
        try simp only [Act.put, List.setIfInBounds_toArray, List.set_cons_succ, List.set_cons_zero]
        refine takeOp (i := 2) (v := ?_) (some 94) rfl rfl (by kernel_rfl) (by kernel_rfl) (by kernel_rfl) (fun _ _ _ h => h) (Or.inl ⟨by rfl, ?_⟩) (by assumption) ?_
        rotate_left 1
        · (intro w0 hSw; (try dsimp only at hSw); go_simp; try (with_reducible rfl))
        try simp only [Act.put, List.setIfInBounds_toArray, List.set_cons_succ, List.set_cons_zero]
        refine takeOp (i := 3) (v := ?_) (some 95) rfl rfl (by kernel_rfl) (by kernel_rfl) (by kernel_rfl) (fun _ _ _ h => h) (Or.inl ⟨by rfl, ?_⟩) (by assumption) ?_
        rotate_left 1
        · (intro w0 hSw; (try dsimp only at hSw); go_simp; try (with_reducible rfl))
        try simp only [Act.put, List.setIfInBounds_toArray, List.set_cons_succ, List.set_cons_zero]
        refine takeOp (i := 4) (v := ?_) (some 96) rfl rfl (by kernel_rfl) (by kernel_rfl) (by kernel_rfl) (fun _ _ _ h => h) (Or.inl ⟨by rfl, ?_⟩) (by assumption) ?_
        rotate_left 1
        · (intro w0 hSw; (try dsimp only at hSw); go_simp; try (with_reducible rfl))
        try simp only [Act.put, List.setIfInBounds_toArray, List.set_cons_succ, List.set_cons_zero]
        refine takeOp (i := 5) (v := ?_) (some 97) rfl rfl (by kernel_rfl) (by kernel_rfl) (by kernel_rfl) (fun _ _ _ h => h) (Or.inl ⟨by rfl, ?_⟩) (by assumption) ?_
        rotate_left 1
        · (intro w0 hSw; (try dsimp only at hSw); go_simp; try (with_reducible rfl))
        try simp only [Act.put, List.setIfInBounds_toArray, List.set_cons_succ, List.set_cons_zero]
        refine takeOp (i := 6) (v := ?_) (some 98) rfl rfl (by kernel_rfl) (by kernel_rfl) (by kernel_rfl) (fun _ _ _ h => h) (Or.inl ⟨by rfl, ?_⟩) (by assumption) ?_
        rotate_left 1
        · (intro w0 hSw; (try dsimp only at hSw); go_simp; try (with_reducible rfl))
        try simp only [Act.put, List.setIfInBounds_toArray, List.set_cons_succ, List.set_cons_zero]
        refine takeOp (i := 7) (v := ?_) (some 99) rfl rfl (by kernel_rfl) (by kernel_rfl) (by kernel_rfl) (fun _ _ _ h => h) (Or.inl ⟨by rfl, ?_⟩) (by assumption) ?_
        rotate_left 1
        · (intro w0 hSw; (try dsimp only at hSw); go_simp; try (with_reducible rfl))
        try simp only [Act.put, List.setIfInBounds_toArray, List.set_cons_succ, List.set_cons_zero]
        refine takeOp (i := 8) (v := ?_) (some 100) rfl rfl (by kernel_rfl) (by kernel_rfl) (by kernel_rfl) (fun _ _ _ h => h) (Or.inl ⟨by rfl, ?_⟩) (by assumption) ?_
        rotate_left 1
        · (intro w0 hSw; (try dsimp only at hSw); go_simp; try (with_reducible rfl))
        try simp only [Act.put, List.setIfInBounds_toArray, List.set_cons_succ, List.set_cons_zero]
        refine takeOp (i := 9) (v := ?_) (some 101) rfl rfl (by kernel_rfl) (by kernel_rfl) (by kernel_rfl) (fun _ _ _ h => h) (Or.inl ⟨by rfl, ?_⟩) (by assumption) ?_
        rotate_left 1
        · (intro w0 hSw; (try dsimp only at hSw); go_simp; try (with_reducible rfl))
        try simp only [Act.put, List.setIfInBounds_toArray, List.set_cons_succ, List.set_cons_zero]
        refine takeOp (i := 10) (v := ?_) (some 102) rfl rfl (by kernel_rfl) (by kernel_rfl) (by kernel_rfl) (fun _ _ _ h => h) (Or.inl ⟨by rfl, ?_⟩) (by assumption) ?_
        rotate_left 1
        · (intro w0 hSw; (try dsimp only at hSw); go_simp; try (with_reducible rfl))
        try simp only [Act.put, List.setIfInBounds_toArray, List.set_cons_succ, List.set_cons_zero]
        refine takeOp (i := 11) (v := ?_) (some 103) rfl rfl (by kernel_rfl) (by kernel_rfl) (by kernel_rfl) (fun _ _ _ h => h) (Or.inl ⟨by rfl, ?_⟩) (by assumption) ?_
        rotate_left 1
        · (intro w0 hSw; (try dsimp only at hSw); go_simp; try (with_reducible rfl))
        try simp only [Act.put, List.setIfInBounds_toArray, List.set_cons_succ, List.set_cons_zero]
        refine takeOp (i := 12) (v := ?_) (some 104) rfl rfl (by kernel_rfl) (by kernel_rfl) (by kernel_rfl) (fun _ _ _ h => h) (Or.inl ⟨by rfl, ?_⟩) (by assumption) ?_
        rotate_left 1
        · (intro w0 hSw; (try dsimp only at hSw); go_simp; try (with_reducible rfl))
        try simp only [Act.put, List.setIfInBounds_toArray, List.set_cons_succ, List.set_cons_zero]
        refine takeOp (i := 13) (v := ?_) (some 105) rfl rfl (by kernel_rfl) (by kernel_rfl) (by kernel_rfl) (fun _ _ _ h => h) (Or.inl ⟨by rfl, ?_⟩) (by assumption) ?_
        rotate_left 1
        · (intro w0 hSw; (try dsimp only at hSw); go_simp; try (with_reducible rfl))
        try simp only [Act.put, List.setIfInBounds_toArray, List.set_cons_succ, List.set_cons_zero]
        refine takeOp (i := 14) (v := ?_) (some 106) rfl rfl (by kernel_rfl) (by kernel_rfl) (by kernel_rfl) (fun _ _ _ h => h) (Or.inl ⟨by rfl, ?_⟩) (by assumption) ?_
        rotate_left 1
        · (intro w0 hSw; (try dsimp only at hSw); go_simp; try (with_reducible rfl))
        try simp only [Act.put, List.setIfInBounds_toArray, List.set_cons_succ, List.set_cons_zero]
        refine takeOp (i := 15) (v := ?_) (some 107) rfl rfl (by kernel_rfl) (by kernel_rfl) (by kernel_rfl) (fun _ _ _ h => h) (Or.inl ⟨by rfl, ?_⟩) (by assumption) ?_
        rotate_left 1
        · (intro w0 hSw; (try dsimp only at hSw); go_simp; try (with_reducible rfl))
        try simp only [Act.put, List.setIfInBounds_toArray, List.set_cons_succ, List.set_cons_zero]
        refine takeOp (i := 16) (v := ?_) (some 108) rfl rfl (by kernel_rfl) (by kernel_rfl) (by kernel_rfl) (fun _ _ _ h => h) (Or.inl ⟨by rfl, ?_⟩) (by assumption) ?_
        rotate_left 1
        · (intro w0 hSw; (try dsimp only at hSw); go_simp; try (with_reducible rfl))
        try simp only [Act.put, List.setIfInBounds_toArray, List.set_cons_succ, List.set_cons_zero]
        refine takeOp (i := 17) (v := ?_) (some 109) rfl rfl (by kernel_rfl) (by kernel_rfl) (by kernel_rfl) (fun _ _ _ h => h) (Or.inl ⟨by rfl, ?_⟩) (by assumption) ?_
        rotate_left 1
        · (intro w0 hSw; (try dsimp only at hSw); go_simp; try (with_reducible rfl))
        try simp only [Act.put, List.setIfInBounds_toArray, List.set_cons_succ, List.set_cons_zero]
        refine takeOp (i := 18) (v := ?_) (some 110) rfl rfl (by kernel_rfl) (by kernel_rfl) (by kernel_rfl) (fun _ _ _ h => h) (Or.inl ⟨by rfl, ?_⟩) (by assumption) ?_
        rotate_left 1
        · (intro w0 hSw; (try dsimp only at hSw); go_simp; try (with_reducible rfl))
        try simp only [Act.put, List.setIfInBounds_toArray, List.set_cons_succ, List.set_cons_zero]
        refine takeOp (i := 19) (v := ?_) (some 111) rfl rfl (by kernel_rfl) (by kernel_rfl) (by kernel_rfl) (fun _ _ _ h => h) (Or.inl ⟨by rfl, ?_⟩) (by assumption) ?_
        rotate_left 1
        · (intro w0 hSw; (try dsimp only at hSw); go_simp; try (with_reducible rfl))
        try simp only [Act.put, List.setIfInBounds_toArray, List.set_cons_succ, List.set_cons_zero]
        refine takeOp (i := 20) (v := ?_) (some 112) rfl rfl (by kernel_rfl) (by kernel_rfl) (by kernel_rfl) (fun _ _ _ h => h) (Or.inl ⟨by rfl, ?_⟩) (by assumption) ?_
        rotate_left 1
        · (intro w0 hSw; (try dsimp only at hSw); go_simp; try (with_reducible rfl))
        try simp only [Act.put, List.setIfInBounds_toArray, List.set_cons_succ, List.set_cons_zero]
        refine wpAnyH_ready (rs := [21]) (by kernel_rfl) (by simp) ?_
        refine AllReadyH.cons rfl (fun K hK => ?_) AllReadyH.nil
        go_simp
        refine (HRSD.out V1 HV1.out).mono ?_
        rintro e V2 ⟨v1, rfl, hv, hb⟩
        have HV2 : Hid (Below wD.heap.size wD V2) := Below.then HV1.out hb HV1.out.size
        have HIS1 := Lib.hid (HI1.out V2 v1 HV2.out hv)
        clear hb hv
        go_wp2_with fail
        refine hK.out _ _ (HS10.out V2 HV2.out) (fun hHeld => ?_)
        clear hK K
        try simp only [Act.put, List.setIfInBounds_toArray, List.set_cons_succ, List.set_cons_zero]
        refine wpAnyH_ready (rs := [22]) (by kernel_rfl) (by simp) ?_
        refine AllReadyH.cons rfl (fun K hK => ?_) AllReadyH.nil
        go_simp
        refine HIS1.out.mono ?_
        rintro e V3 ⟨rfl, hb⟩
        have HV3 : Hid (Below wD.heap.size wD V3) := Below.then HV2.out hb HV2.out.size
        clear hb HIS1
        go_wp2_with fail
        refine hK.out _ _ (HS10.out V3 HV3.out) (fun hHeld => ?_)
        clear hK K
        try simp only [Act.put, List.setIfInBounds_toArray, List.set_cons_succ, List.set_cons_zero]
        refine takeOp (i := 23) (v := ?_) (some 115) rfl rfl (by kernel_rfl) (by kernel_rfl) (by kernel_rfl) (fun _ _ _ h => h) (Or.inl ⟨by rfl, ?_⟩) (by assumption) ?_
        rotate_left 1
        · (intro w0 hSw; (try dsimp only at hSw); go_simp; try (with_reducible rfl))
        try simp only [Act.put, List.setIfInBounds_toArray, List.set_cons_succ, List.set_cons_zero]
        refine takeOp (i := 24) (v := ?_) (some 116) rfl rfl (by kernel_rfl) (by kernel_rfl) (by kernel_rfl) (fun _ _ _ h => h) (Or.inl ⟨by rfl, ?_⟩) (by assumption) ?_
        rotate_left 1
        · (intro w0 hSw; (try dsimp only at hSw); go_simp; try (with_reducible rfl))
        try simp only [Act.put, List.setIfInBounds_toArray, List.set_cons_succ, List.set_cons_zero]
        refine takeOp (i := 25) (v := ?_) (some 117) rfl rfl (by kernel_rfl) (by kernel_rfl) (by kernel_rfl) (fun _ _ _ h => h) (Or.inl ⟨by rfl, ?_⟩) (by assumption) ?_
        rotate_left 1
        · (intro w0 hSw; (try dsimp only at hSw); go_simp; try (with_reducible rfl))
        try simp only [Act.put, List.setIfInBounds_toArray, List.set_cons_succ, List.set_cons_zero]
        refine takeOp (i := 26) (v := ?_) (some 118) rfl rfl (by kernel_rfl) (by kernel_rfl) (by kernel_rfl) (fun _ _ _ h => h) (Or.inl ⟨by rfl, ?_⟩) (by assumption) ?_
        rotate_left 1
        · (intro w0 hSw; (try dsimp only at hSw); go_simp; try (with_reducible rfl))
        try simp only [Act.put, List.setIfInBounds_toArray, List.set_cons_succ, List.set_cons_zero]
        refine wpAnyH_ready (rs := [27]) (by kernel_rfl) (by simp) ?_
        refine AllReadyH.cons rfl (fun K hK => ?_) AllReadyH.nil
        go_simp
        refine (HRJD.out V3 HV3.out).mono ?_
        rintro e V4 ⟨v2, rfl, hv, hb⟩
        have HV4 : Hid (Below wD.heap.size wD V4) := Below.then HV3.out hb HV3.out.size
        have HIS2 := Lib.hid (HI2.out V4 v2 HV4.out hv)
        clear hb hv
        go_wp2_with fail
        refine hK.out _ _ (HS10.out V4 HV4.out) (fun hHeld => ?_)
        clear hK K
        try simp only [Act.put, List.setIfInBounds_toArray, List.set_cons_succ, List.set_cons_zero]
        refine wpAnyH_ready (rs := [28]) (by kernel_rfl) (by simp) ?_
        refine AllReadyH.cons rfl (fun K hK => ?_) AllReadyH.nil
        go_simp
        refine HIS2.out.mono ?_
        rintro e V5 ⟨rfl, hb⟩
        have HV5 : Hid (Below wD.heap.size wD V5) := Below.then HV4.out hb HV4.out.size
        clear hb HIS2
        go_wp2_with fail
        refine hK.out _ _ (HS10.out V5 HV5.out) (fun hHeld => ?_)
        clear hK K
        try simp only [Act.put, List.setIfInBounds_toArray, List.set_cons_succ, List.set_cons_zero]
        refine takeOp (i := 29) (v := ?_) (some 121) rfl rfl (by kernel_rfl) (by kernel_rfl) (by kernel_rfl) (fun _ _ _ h => h) (Or.inl ⟨by rfl, ?_⟩) (by assumption) ?_
        rotate_left 1
        · (intro w0 hSw; (try dsimp only at hSw); go_simp; try (with_reducible rfl))
        try simp only [Act.put, List.setIfInBounds_toArray, List.set_cons_succ, List.set_cons_zero]
        refine takeOp (i := 30) (v := ?_) (some 122) rfl rfl (by kernel_rfl) (by kernel_rfl) (by kernel_rfl) (fun _ _ _ h => h) (Or.inl ⟨by rfl, ?_⟩) (by assumption) ?_
        rotate_left 1
        · (intro w0 hSw; (try dsimp only at hSw); go_simp; try (with_reducible rfl))
        try simp only [Act.put, List.setIfInBounds_toArray, List.set_cons_succ, List.set_cons_zero]
        refine takeOp (i := 31) (v := ?_) (some 123) rfl rfl (by kernel_rfl) (by kernel_rfl) (by kernel_rfl) (fun _ _ _ h => h) (Or.inl ⟨by rfl, ?_⟩) (by assumption) ?_
        rotate_left 1
        · (intro w0 hSw; (try dsimp only at hSw); go_simp; try (with_reducible rfl))
        try simp only [Act.put, List.setIfInBounds_toArray, List.set_cons_succ, List.set_cons_zero]
        refine takeOp (i := 32) (v := ?_) (some 124) rfl rfl (by kernel_rfl) (by kernel_rfl) (by kernel_rfl) (fun _ _ _ h => h) (Or.inl ⟨by rfl, ?_⟩) (by assumption) ?_
        rotate_left 1
        · (intro w0 hSw; (try dsimp only at hSw); go_simp; try (with_reducible rfl))
        try simp only [Act.put, List.setIfInBounds_toArray, List.set_cons_succ, List.set_cons_zero]
        refine wpAnyH_ready (rs := [33]) (by kernel_rfl) (by simp) ?_
        refine AllReadyH.cons rfl (fun K hK => ?_) AllReadyH.nil
        go_simp
        refine (HO1.out V5 HV5.out).mono ?_
        rintro e V6 ⟨v3, rfl, hv, hb⟩
        have HV6 : Hid (Below wD.heap.size wD V6) := Below.then HV5.out hb HV5.out.size
        have HIS3 := Lib.hid (HI3.out V6 v3 HV6.out hv)
        clear hb hv
        go_wp2_with fail
        refine hK.out _ _ (HS10.out V6 HV6.out) (fun hHeld => ?_)
        clear hK K
        try simp only [Act.put, List.setIfInBounds_toArray, List.set_cons_succ, List.set_cons_zero]
        refine wpAnyH_ready (rs := [34]) (by kernel_rfl) (by simp) ?_
        refine AllReadyH.cons rfl (fun K hK => ?_) AllReadyH.nil
        go_simp
        refine HIS3.out.mono ?_
        rintro e V7 ⟨rfl, hb⟩
        have HV7 : Hid (Below wD.heap.size wD V7) := Below.then HV6.out hb HV6.out.size
        clear hb HIS3
        go_wp2_with fail
        refine hK.out _ _ (HS10.out V7 HV7.out) (fun hHeld => ?_)
        clear hK K
        try simp only [Act.put, List.setIfInBounds_toArray, List.set_cons_succ, List.set_cons_zero]
        refine takeOp (i := 35) (v := ?_) (some 127) rfl rfl (by kernel_rfl) (by kernel_rfl) (by kernel_rfl) (fun _ _ _ h => h) (Or.inl ⟨by rfl, ?_⟩) (by assumption) ?_
        rotate_left 1
        · (intro w0 hSw; (try dsimp only at hSw); go_simp; try (with_reducible rfl))
        try simp only [Act.put, List.setIfInBounds_toArray, List.set_cons_succ, List.set_cons_zero]
        refine takeOp (i := 36) (v := ?_) (some 4) rfl rfl (by kernel_rfl) (by kernel_rfl) (by kernel_rfl) (fun _ _ _ h => h) (Or.inl ⟨by rfl, ?_⟩) (by assumption) ?_
        rotate_left 1
        · (intro w0 hSw; (try dsimp only at hSw); go_simp; try (with_reducible rfl))
        try simp only [Act.put, List.setIfInBounds_toArray, List.set_cons_succ, List.set_cons_zero]
        refine wpAnyH_done (by kernel_rfl) ?_ _
        have HEND : Hid (Below w.heap.size w V7) := Below.then HBD.out HV7.out HBD.out.size
        clear hHeld
        go_wp2_with fail
        go_ret
        exact ⟨rfl, HEND.out⟩
end
end Go.Proofs.YthgaflmldbgbnaaGreatDoor

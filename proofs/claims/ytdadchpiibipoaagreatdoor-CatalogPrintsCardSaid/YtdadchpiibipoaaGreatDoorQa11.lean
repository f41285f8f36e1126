/- Parts of the proof, merged: C41, C42, C43, C44, E10. -/
import Derived.Test.YtdadchpiibipoaaGreatDoorQa10
import Derived.Test.YtdadchpiibipoaaGreatDoorQa3

set_option maxRecDepth 100000
namespace Go.Proofs.YtdadchpiibipoaaGreatDoor
section
open Go.RowKit Go.Sort Go.ChangeMaps Go.WideShapes

theorem refU_no {Fs : List Fact} {u : Upd} {b : Bool} (h : hasF Fs u.rel u.row = b) (hd : b ≠ u.del) : refU Fs u = (Fs, false) := by
  unfold refU; rw [h, if_neg hd]
theorem refU_ins {Fs : List Fact} {nm : ByteArray} {x : RL.R} (h : hasF Fs nm x = false) : refU Fs ⟨false, nm, x⟩ = (Fs ++ [(nm, x)], true) := by
  unfold refU; rw [if_pos h]; rfl
theorem refU_del {Fs : List Fact} {nm : ByteArray} {x : RL.R} (h : hasF Fs nm x = true) : refU Fs ⟨true, nm, x⟩ = (Fs.filter (fun f => !(decide (f.1 = nm) && decide (f.2 = x))), true) := by
  unfold refU; rw [if_pos h]; rfl

set_option maxHeartbeats 16000000 in
theorem r08Apply_any (B : Nat) (cs0 : List Value) (SA : Option Addr) (SC : Nat) (S : Sch) (FA : Option Addr) (FC : Nat) (Fs : List Fact) (UA : Option Addr) (UC : Nat) (us : List Upd) (w : World)
    (hS : SchsM w.heap.size w SA S) (hSl : S.length ≤ 1000) (hB : B ≤ w.heap.size) (hcs0 : FctCs B w Fs cs0) (hsl0 : Sl w.heap.size w FA cs0) (hFl : Fs.length ≤ 1000) (hFr : ∀ f ∈ Fs, f.2.length ≤ 1000000)
    (hU : UpdsM B w UA us) (hUl : us.length ≤ 1000) (hUr : ∀ u ∈ us, u.row.length ≤ 1000000 ∧ ∀ v ∈ u.row, v.str.size ≤ 9223372036854775807) :
    Calls Tryz.prog 33 #[.agg #[.slice SA S.length SC, .slice FA Fs.length FC], .slice UA us.length UC] w (RefPost B SA SC S FA FC Fs us w) := by
  have HBL : Hid (B ≤ w.heap.size) := hB
  obtain ⟨W0, hW0⟩ : ∃ W, W = (w.alloc (.cells #[.slice SA S.length SC, .slice FA Fs.length FC] 31)).alloc (.cells #[.slice none 0 0, .slice none 0 0] 31) := ⟨_, rfl⟩
  have hx0 : Ext w W0 := by rw [hW0]; exact ((Ext.refl w).alloc _).alloc _
  have hr2 : Row W0 w.heap.size 31 [.slice SA S.length SC, .slice FA Fs.length FC] := by rw [hW0]; exact (Row.new w 31 _).alloc _
  have hr4 : Row W0 (w.heap.size + 1) 31 [.slice none 0 0, .slice none 0 0] := by
    have h := Row.new (w.alloc (.cells #[.slice SA S.length SC, .slice FA Fs.length FC] 31)) 31 [.slice none 0 0, .slice none 0 0]
    rw [World.size_alloc] at h
    rw [hW0]; exact h
  have HZ0 : Hid (W0.heap.size = w.heap.size + 2) := by show _ = _; rw [hW0]; simp
  have HB0 := Lib.hid hx0.below
  have HR2 := Lib.hid hr2
  have HR4 := Lib.hid hr4
  have HC0 := Lib.hid hcs0
  have HSL0 := Lib.hid (Sl.more (Sl.below hsl0 hx0.below (Nat.le_refl _)) hx0.size)
  have HS := Lib.hid hS
  have HU := Lib.hid hU
  have HUR := Lib.hid hUr
  have HFR := Lib.hid hFr
  obtain ⟨n0, hn0⟩ : ∃ n, n = Fs.length := ⟨_, rfl⟩
  have HN0 := Lib.hid hn0
  have HCL0 : Hid (cs0.length = n0 * 2) := by show _ = _; rw [hn0]; exact hcs0.len
  have HF1 : Hid (n0 ≤ 1000) := by show _ ≤ _; omega
  have HC1 := Lib.hid hcs0.one
  have HKP : Hid (∀ V, Below W0.heap.size W0 V → V.cell? ⟨w.heap.size, 0, none⟩ = some (.slice SA S.length SC) ∧ V.cell? ⟨w.heap.size, 1, none⟩ = some (.slice FA n0 FC)) := fun V hb => ⟨cell_below hb (hr2.cell 0), by rw [hn0]; exact cell_below hb (hr2.cell 1)⟩
  rw [← hn0] at HR2
  rw [show Fs.length = n0 from hn0.symm] at hW0 ⊢
  have z2 := hr2.lt
  have z4 := hr4.lt
  have c0 : W0.cell? ⟨w.heap.size, 0, none⟩ = some (.slice SA S.length SC) := hr2.cell 0
  have c1 : W0.cell? ⟨w.heap.size, 1, none⟩ = some (.slice FA n0 FC) := by rw [hn0]; exact hr2.cell 1
  clear hx0 hr2 hr4 hcs0 hsl0 hS hU hUr hFr hB hn0 hFl
  go_enter Tryz.func33, Tryz.ntmps33
  go_upto_region 1 with (fail)
  rw [← hW0]
  clear hW0
  go_cut [7] from 14 to 21 (fun q wx => ∃ (g : Nat) (A1 : Option Addr) (D1 : Nat), q = .pointer (some ⟨g, 0, none⟩) ∧ W0.heap.size ≤ g ∧ Row wx g 31 [.slice SA S.length SC, .slice A1 n0 D1] ∧ wx.ownsRow W0.heap.size 85 2 (.slice A1 n0 D1) n0 cs0 ∧ Below W0.heap.size W0 wx)
  case first =>
    refine wp_region_held_drew (S := (fun w' => w'.cell? ⟨w.heap.size, 0, none⟩ = some (.slice SA S.length SC) ∧ w'.cell? ⟨w.heap.size, 1, none⟩ = some (.slice FA n0 FC))) (by kernel_rfl) (HKP.out W0.drew (Below.refl _ _).drew) (fun hHeld => ?_)
    obtain ⟨V0, hV0⟩ : ∃ V, V = W0.drew := ⟨_, rfl⟩
    have HV : Hid (Below W0.heap.size W0 V0) := by show Below _ _ _; rw [hV0]; exact (Below.refl _ _).drew
    rw [← hV0] at hHeld ⊢
    clear hV0
    refine takeOp (i := 0) (v := ?_) (some 14) rfl rfl (by kernel_rfl) (by kernel_rfl) (by kernel_rfl) (fun _ _ _ h => h) (Or.inl ⟨by rfl, ?_⟩) (by assumption) ?_
    rotate_left 1
    · (intro w0 hSw; (try dsimp only at hSw); go_simp; try (with_reducible rfl))
    try simp only [Act.put, List.setIfInBounds_toArray, List.set_cons_succ, List.set_cons_zero]
    refine takeOp (i := 1) (v := ?_) (some 15) rfl rfl (by kernel_rfl) (by kernel_rfl) (by kernel_rfl) (fun _ _ _ h => h) (Or.inl ⟨by rfl, ?_⟩) (by assumption) ?_
    rotate_left 1
    · (intro w0 hSw; (try dsimp only at hSw); go_simp; try (with_reducible rfl))
    try simp only [Act.put, List.setIfInBounds_toArray, List.set_cons_succ, List.set_cons_zero]
    refine takeOp (i := 3) (v := ?_) (some 17) rfl rfl (by kernel_rfl) (by kernel_rfl) (by kernel_rfl) (fun _ _ _ h => h) (Or.inl ⟨by rfl, ?_⟩) (by assumption) ?_
    rotate_left 1
    · (intro w0 hSw; (try dsimp only at hSw); go_simp; try (with_reducible rfl))
    try simp only [Act.put, List.setIfInBounds_toArray, List.set_cons_succ, List.set_cons_zero]
    refine takeOp (i := 4) (v := ?_) (some 18) rfl rfl (by kernel_rfl) (by kernel_rfl) (by kernel_rfl) (fun _ _ _ h => h) (Or.inl ⟨by rfl, ?_⟩) (by assumption) ?_
    rotate_left 1
    · (intro w0 hSw; (try dsimp only at hSw); go_simp; try (with_reducible rfl))
    try simp only [Act.put, List.setIfInBounds_toArray, List.set_cons_succ, List.set_cons_zero]
    refine wpAnyH_ready (rs := [2, 7]) (by kernel_rfl) (by simp) ?_
    refine (AllReadyH.cons rfl (fun K hK => ?_) (AllReadyH.cons rfl (fun K hK => ?_) AllReadyH.nil))
    · go_simp
      obtain ⟨V1, hV⟩ : ∃ V', V' = V0.alloc (.cells #[] 85) := ⟨_, rfl⟩
      rw [← hV]
      have hb : Below V0.heap.size V0 V1 := by rw [hV]; exact ((Ext.refl V0).alloc _).below
      obtain ⟨eb, heb⟩ : ∃ g, g = V0.heap.size := ⟨_, rfl⟩
      rw [← heb]
      have HO : Hid (V1.ownsRow W0.heap.size 85 2 (.slice (some ⟨eb, 0, none⟩) 0 0) 0 []) := by show World.ownsRow _ _ _ _ _ _ _; rw [hV, heb]; exact own_emptyF V0 _ _ _ HV.out.size
      clear heb
      have HV := Lib.hid (Below.then HV.out hb HV.out.size)
      clear hb hV
      refine hK.out _ _ (HKP.out V1 HV.out) (fun hHeld => ?_)
      clear hK K
      try simp only [Act.put, List.setIfInBounds_toArray, List.set_cons_succ, List.set_cons_zero]
      refine wpAnyH_ready (rs := [5, 7]) (by kernel_rfl) (by simp) ?_
      refine (AllReadyH.cons rfl (fun K hK => ?_) (AllReadyH.cons rfl (fun K hK => ?_) AllReadyH.nil))
      · refine stepXFct rfl (.tmp 16) (.tmp 18) rfl W0.heap.size (.slice (some ⟨eb, 0, none⟩) 0 0) 0 [] (by simp [Act.eval]) HO.out FA n0 FC cs0 (by simp [Act.eval]) HCL0.out ((Sl.below HSL0.out HV.out (Nat.le_refl _)).more HV.out.size) HC1.out (by have := HF1.out; omega) HV.out.size ?_
        intro v5 V2 k1 k2 k3
        rw [Nat.zero_add, List.nil_append] at k1
        have HV := Lib.hid (HV.out.grown k2 HV.out.size (fun g hg => (HO.out.lt g hg).1))
        have HO := Lib.hid k1
        obtain ⟨A5, C5, rfl, -, -, -⟩ := own_cut k1 (by decide)
        clear k1 k2 k3
        refine hK.out _ _ (HKP.out V2 HV.out) (fun hHeld => ?_)
        clear hK K
        try simp only [Act.put]
        try simp only [List.setIfInBounds_toArray]
        try simp only [List.set_cons_succ]
        try simp only [List.set_cons_zero]
        refine takeOp (i := 6) (v := ?_) (some 20) rfl rfl (by kernel_rfl) (by kernel_rfl) (by kernel_rfl) (fun _ _ _ h => h) (Or.inl ⟨by rfl, ?_⟩) (by assumption) ?_
        rotate_left 1
        · (intro w0 hSw; (try dsimp only at hSw); go_simp; try (with_reducible rfl))
        try simp only [Act.put]
        try simp only [List.setIfInBounds_toArray]
        try simp only [List.set_cons_succ]
        try simp only [List.set_cons_zero]
        refine wpAnyH_ready (rs := [7]) (by kernel_rfl) (by simp) ?_
        refine (AllReadyH.cons rfl (fun K hK => ?_) AllReadyH.nil)
        go_simp
        obtain ⟨V3, hV⟩ : ∃ V', V' = V2.alloc (.cells #[.slice none 0 0, .slice none 0 0] 31) := ⟨_, rfl⟩
        rw [← hV]
        have hb : Below V2.heap.size V2 V3 := by rw [hV]; exact ((Ext.refl V2).alloc _).below
        have HO := Lib.hid (own_keep HO.out hb)
        obtain ⟨gb, hgb⟩ : ∃ g, g = V2.heap.size := ⟨_, rfl⟩
        rw [← hgb]
        have HG : Hid (Row V3 gb 31 [.slice none 0 0, .slice none 0 0]) := by show Row _ _ _ _; rw [hV, hgb]; exact Row.new V2 _ _
        have HGZ : Hid (W0.heap.size ≤ gb) := by show _ ≤ _; rw [hgb]; exact HV.out.size
        clear hgb
        have HV := Lib.hid (Below.then HV.out hb HV.out.size)
        clear hb hV
        refine hK.out _ _ (HKP.out V3 HV.out) (fun hHeld => ?_)
        clear hK K
        try simp only [Act.put, List.setIfInBounds_toArray, List.set_cons_succ, List.set_cons_zero]
        refine wpAnyH_ready (rs := [8]) (by kernel_rfl) (by simp) ?_
        refine (AllReadyH.cons rfl (fun K hK => ?_) AllReadyH.nil)
        have m0 := HG.out.frozen 0
        have m1 := HG.out.frozen 1
        have m2 := HG.out.lt
        have m3 : V3.cell? ⟨gb, 0, none⟩ = some (.slice none 0 0) := HG.out.cell 0
        have m4 : V3.cell? ⟨gb, 1, none⟩ = some (.slice none 0 0) := HG.out.cell 1
        go_simp
        obtain ⟨V4, hV⟩ : ∃ V', V' = (V3.setCell ⟨gb, 0, none⟩ (.slice SA S.length SC)).setCell ⟨gb, 1, none⟩ (.slice A5 n0 C5) := ⟨_, rfl⟩
        rw [← hV]
        have HNG := Lib.hid (own_ne_rowF HO.out HG.out (by decide))
        have HO : Hid (V4.ownsRow W0.heap.size 85 2 (.slice A5 n0 C5) n0 cs0) := by show World.ownsRow _ _ _ _ _ _ _; rw [hV]; exact own_far (own_far HO.out HNG.out _) HNG.out _
        have HG : Hid (Row V4 gb 31 [.slice SA S.length SC, .slice A5 n0 C5]) := by show Row _ _ _ _; rw [hV]; exact (HG.out.set 0 _).set 1 _
        have HV : Hid (Below W0.heap.size W0 V4) := by show Below _ _ _; rw [hV]; exact (HV.out.setCell (p := ⟨gb, 0, none⟩) HGZ.out _).setCell (p := ⟨gb, 1, none⟩) HGZ.out _
        clear hV m0 m1 m2 m3 m4
        refine hK.out _ _ (HKP.out V4 HV.out) (fun hHeld => ?_)
        clear hK K
        try simp only [Act.put, List.setIfInBounds_toArray, List.set_cons_succ, List.set_cons_zero]
        refine wpAnyH_done (by kernel_rfl) ?_ _
        go_wp2_with fail
        go_meet
        case rel => exact ⟨gb, A5, C5, rfl, HGZ.out, HG.out, HO.out, HV.out⟩
      · go_simp
        obtain ⟨V2, hV⟩ : ∃ V', V' = V1.alloc (.cells #[.slice none 0 0, .slice none 0 0] 31) := ⟨_, rfl⟩
        rw [← hV]
        have hb : Below V1.heap.size V1 V2 := by rw [hV]; exact ((Ext.refl V1).alloc _).below
        have HO := Lib.hid (own_keep HO.out hb)
        obtain ⟨gb, hgb⟩ : ∃ g, g = V1.heap.size := ⟨_, rfl⟩
        rw [← hgb]
        have HG : Hid (Row V2 gb 31 [.slice none 0 0, .slice none 0 0]) := by show Row _ _ _ _; rw [hV, hgb]; exact Row.new V1 _ _
        have HGZ : Hid (W0.heap.size ≤ gb) := by show _ ≤ _; rw [hgb]; exact HV.out.size
        clear hgb
        have HV := Lib.hid (Below.then HV.out hb HV.out.size)
        clear hb hV
        refine hK.out _ _ (HKP.out V2 HV.out) (fun hHeld => ?_)
        clear hK K
        try simp only [Act.put, List.setIfInBounds_toArray, List.set_cons_succ, List.set_cons_zero]
        refine wpAnyH_ready (rs := [5]) (by kernel_rfl) (by simp) ?_
        refine (AllReadyH.cons rfl (fun K hK => ?_) AllReadyH.nil)
        refine stepXFct rfl (.tmp 16) (.tmp 18) rfl W0.heap.size (.slice (some ⟨eb, 0, none⟩) 0 0) 0 [] (by simp [Act.eval]) HO.out FA n0 FC cs0 (by simp [Act.eval]) HCL0.out ((Sl.below HSL0.out HV.out (Nat.le_refl _)).more HV.out.size) HC1.out (by have := HF1.out; omega) HV.out.size ?_
        intro v5 V3 k1 k2 k3
        rw [Nat.zero_add, List.nil_append] at k1
        have HG := Lib.hid (HG.out.grown k2 (fun e => own_ne_rowF HO.out HG.out (by decide) e.symm))
        have HV := Lib.hid (HV.out.grown k2 HV.out.size (fun g hg => (HO.out.lt g hg).1))
        have HO := Lib.hid k1
        obtain ⟨A5, C5, rfl, -, -, -⟩ := own_cut k1 (by decide)
        clear k1 k2 k3
        refine hK.out _ _ (HKP.out V3 HV.out) (fun hHeld => ?_)
        clear hK K
        try simp only [Act.put]
        try simp only [List.setIfInBounds_toArray]
        try simp only [List.set_cons_succ]
        try simp only [List.set_cons_zero]
        refine takeOp (i := 6) (v := ?_) (some 20) rfl rfl (by kernel_rfl) (by kernel_rfl) (by kernel_rfl) (fun _ _ _ h => h) (Or.inl ⟨by rfl, ?_⟩) (by assumption) ?_
        rotate_left 1
        · (intro w0 hSw; (try dsimp only at hSw); go_simp; try (with_reducible rfl))
        try simp only [Act.put]
        try simp only [List.setIfInBounds_toArray]
        try simp only [List.set_cons_succ]
        try simp only [List.set_cons_zero]
        refine wpAnyH_ready (rs := [8]) (by kernel_rfl) (by simp) ?_
        refine (AllReadyH.cons rfl (fun K hK => ?_) AllReadyH.nil)
        have m0 := HG.out.frozen 0
        have m1 := HG.out.frozen 1
        have m2 := HG.out.lt
        have m3 : V3.cell? ⟨gb, 0, none⟩ = some (.slice none 0 0) := HG.out.cell 0
        have m4 : V3.cell? ⟨gb, 1, none⟩ = some (.slice none 0 0) := HG.out.cell 1
        go_simp
        obtain ⟨V4, hV⟩ : ∃ V', V' = (V3.setCell ⟨gb, 0, none⟩ (.slice SA S.length SC)).setCell ⟨gb, 1, none⟩ (.slice A5 n0 C5) := ⟨_, rfl⟩
        rw [← hV]
        have HNG := Lib.hid (own_ne_rowF HO.out HG.out (by decide))
        have HO : Hid (V4.ownsRow W0.heap.size 85 2 (.slice A5 n0 C5) n0 cs0) := by show World.ownsRow _ _ _ _ _ _ _; rw [hV]; exact own_far (own_far HO.out HNG.out _) HNG.out _
        have HG : Hid (Row V4 gb 31 [.slice SA S.length SC, .slice A5 n0 C5]) := by show Row _ _ _ _; rw [hV]; exact (HG.out.set 0 _).set 1 _
        have HV : Hid (Below W0.heap.size W0 V4) := by show Below _ _ _; rw [hV]; exact (HV.out.setCell (p := ⟨gb, 0, none⟩) HGZ.out _).setCell (p := ⟨gb, 1, none⟩) HGZ.out _
        clear hV m0 m1 m2 m3 m4
        refine hK.out _ _ (HKP.out V4 HV.out) (fun hHeld => ?_)
        clear hK K
        try simp only [Act.put, List.setIfInBounds_toArray, List.set_cons_succ, List.set_cons_zero]
        refine wpAnyH_done (by kernel_rfl) ?_ _
        go_wp2_with fail
        go_meet
        case rel => exact ⟨gb, A5, C5, rfl, HGZ.out, HG.out, HO.out, HV.out⟩
    · go_simp
      obtain ⟨V1, hV⟩ : ∃ V', V' = V0.alloc (.cells #[.slice none 0 0, .slice none 0 0] 31) := ⟨_, rfl⟩
      rw [← hV]
      have hb : Below V0.heap.size V0 V1 := by rw [hV]; exact ((Ext.refl V0).alloc _).below
      obtain ⟨gb, hgb⟩ : ∃ g, g = V0.heap.size := ⟨_, rfl⟩
      rw [← hgb]
      have HG : Hid (Row V1 gb 31 [.slice none 0 0, .slice none 0 0]) := by show Row _ _ _ _; rw [hV, hgb]; exact Row.new V0 _ _
      have HGZ : Hid (W0.heap.size ≤ gb) := by show _ ≤ _; rw [hgb]; exact HV.out.size
      clear hgb
      have HV := Lib.hid (Below.then HV.out hb HV.out.size)
      clear hb hV
      refine hK.out _ _ (HKP.out V1 HV.out) (fun hHeld => ?_)
      clear hK K
      try simp only [Act.put, List.setIfInBounds_toArray, List.set_cons_succ, List.set_cons_zero]
      refine wpAnyH_ready (rs := [2]) (by kernel_rfl) (by simp) ?_
      refine (AllReadyH.cons rfl (fun K hK => ?_) AllReadyH.nil)
      go_simp
      obtain ⟨V2, hV⟩ : ∃ V', V' = V1.alloc (.cells #[] 85) := ⟨_, rfl⟩
      rw [← hV]
      have hb : Below V1.heap.size V1 V2 := by rw [hV]; exact ((Ext.refl V1).alloc _).below
      have HG := Lib.hid (HG.out.up hb)
      obtain ⟨eb, heb⟩ : ∃ g, g = V1.heap.size := ⟨_, rfl⟩
      rw [← heb]
      have HO : Hid (V2.ownsRow W0.heap.size 85 2 (.slice (some ⟨eb, 0, none⟩) 0 0) 0 []) := by show World.ownsRow _ _ _ _ _ _ _; rw [hV, heb]; exact own_emptyF V1 _ _ _ HV.out.size
      clear heb
      have HV := Lib.hid (Below.then HV.out hb HV.out.size)
      clear hb hV
      refine hK.out _ _ (HKP.out V2 HV.out) (fun hHeld => ?_)
      clear hK K
      try simp only [Act.put, List.setIfInBounds_toArray, List.set_cons_succ, List.set_cons_zero]
      refine wpAnyH_ready (rs := [5]) (by kernel_rfl) (by simp) ?_
      refine (AllReadyH.cons rfl (fun K hK => ?_) AllReadyH.nil)
      refine stepXFct rfl (.tmp 16) (.tmp 18) rfl W0.heap.size (.slice (some ⟨eb, 0, none⟩) 0 0) 0 [] (by simp [Act.eval]) HO.out FA n0 FC cs0 (by simp [Act.eval]) HCL0.out ((Sl.below HSL0.out HV.out (Nat.le_refl _)).more HV.out.size) HC1.out (by have := HF1.out; omega) HV.out.size ?_
      intro v5 V3 k1 k2 k3
      rw [Nat.zero_add, List.nil_append] at k1
      have HG := Lib.hid (HG.out.grown k2 (fun e => own_ne_rowF HO.out HG.out (by decide) e.symm))
      have HV := Lib.hid (HV.out.grown k2 HV.out.size (fun g hg => (HO.out.lt g hg).1))
      have HO := Lib.hid k1
      obtain ⟨A5, C5, rfl, -, -, -⟩ := own_cut k1 (by decide)
      clear k1 k2 k3
      refine hK.out _ _ (HKP.out V3 HV.out) (fun hHeld => ?_)
      clear hK K
      try simp only [Act.put]
      try simp only [List.setIfInBounds_toArray]
      try simp only [List.set_cons_succ]
      try simp only [List.set_cons_zero]
      refine takeOp (i := 6) (v := ?_) (some 20) rfl rfl (by kernel_rfl) (by kernel_rfl) (by kernel_rfl) (fun _ _ _ h => h) (Or.inl ⟨by rfl, ?_⟩) (by assumption) ?_
      rotate_left 1
      · (intro w0 hSw; (try dsimp only at hSw); go_simp; try (with_reducible rfl))
      try simp only [Act.put]
      try simp only [List.setIfInBounds_toArray]
      try simp only [List.set_cons_succ]
      try simp only [List.set_cons_zero]
      refine wpAnyH_ready (rs := [8]) (by kernel_rfl) (by simp) ?_
      refine (AllReadyH.cons rfl (fun K hK => ?_) AllReadyH.nil)
      have m0 := HG.out.frozen 0
      have m1 := HG.out.frozen 1
      have m2 := HG.out.lt
      have m3 : V3.cell? ⟨gb, 0, none⟩ = some (.slice none 0 0) := HG.out.cell 0
      have m4 : V3.cell? ⟨gb, 1, none⟩ = some (.slice none 0 0) := HG.out.cell 1
      go_simp
      obtain ⟨V4, hV⟩ : ∃ V', V' = (V3.setCell ⟨gb, 0, none⟩ (.slice SA S.length SC)).setCell ⟨gb, 1, none⟩ (.slice A5 n0 C5) := ⟨_, rfl⟩
      rw [← hV]
      have HNG := Lib.hid (own_ne_rowF HO.out HG.out (by decide))
      have HO : Hid (V4.ownsRow W0.heap.size 85 2 (.slice A5 n0 C5) n0 cs0) := by show World.ownsRow _ _ _ _ _ _ _; rw [hV]; exact own_far (own_far HO.out HNG.out _) HNG.out _
      have HG : Hid (Row V4 gb 31 [.slice SA S.length SC, .slice A5 n0 C5]) := by show Row _ _ _ _; rw [hV]; exact (HG.out.set 0 _).set 1 _
      have HV : Hid (Below W0.heap.size W0 V4) := by show Below _ _ _; rw [hV]; exact (HV.out.setCell (p := ⟨gb, 0, none⟩) HGZ.out _).setCell (p := ⟨gb, 1, none⟩) HGZ.out _
      clear hV m0 m1 m2 m3 m4
      refine hK.out _ _ (HKP.out V4 HV.out) (fun hHeld => ?_)
      clear hK K
      try simp only [Act.put, List.setIfInBounds_toArray, List.set_cons_succ, List.set_cons_zero]
      refine wpAnyH_done (by kernel_rfl) ?_ _
      go_wp2_with fail
      go_meet
      case rel => exact ⟨gb, A5, C5, rfl, HGZ.out, HG.out, HO.out, HV.out⟩
  case rest =>
  obtain ⟨g7, A1, D1, rfl, hg7, hr7, hown1, hb1⟩ := hcut
  generalize wc = W1 at *
  have HR7 := Lib.hid hr7
  have HOWN1 := Lib.hid hown1
  have HB1 := Lib.hid hb1
  have HG7 := Lib.hid hg7
  clear hr7 hown1 hb1 hg7 c0 c1 z2 z4 HKP
  go_wp2_with fail
  go_loopw [8, 9] (fun nv iv wx => ∃ (k m l : Nat) (Gs : List Fact) (GA : Option Addr) (GC : Nat) (gc : List Value), k ≤ us.length ∧ iv = .int .i64 k ∧ nv = .int .i64 m ∧ m ≤ k ∧ l = Gs.length ∧ l ≤ 1000 + k ∧ (∀ f ∈ Gs, f.2.length ≤ 1000000) ∧ refA S Fs 0 us = refA S Gs m (us.drop k) ∧ Row wx g7 31 [.slice SA S.length SC, .slice GA l GC] ∧ wx.ownsRow W0.heap.size 85 2 (.slice GA l GC) l gc ∧ FctCs B w Gs gc ∧ Below W0.heap.size W0 wx) (fun _ iv _ => us.length - (intOf iv).toNat)
  case atStart => exact ⟨0, 0, n0, Fs, A1, D1, cs0, Nat.zero_le _, rfl, rfl, Nat.le_refl _, HN0.out, by have := HF1.out; omega, HFR.out, rfl, HR7.out, HOWN1.out, HC0.out, HB1.out⟩
  case round =>
    obtain ⟨k, m, l, Gs, GA, GC, gc, hk, rfl, rfl, hmk, hl, hll, hgr, href, hr7, hown, hgc, hbr⟩ := hrel
    clear HR7 HOWN1 HB1
    have HL := Lib.hid hl
    have HLL := Lib.hid hll
    have HGR := Lib.hid hgr
    have HREF := Lib.hid href
    have HR7 := Lib.hid hr7
    have HOWN := Lib.hid hown
    have HGC := Lib.hid hgc
    have HBR := Lib.hid hbr
    have HBW : Hid (Below w.heap.size w wr) := HB0.out.trans (hbr.mono HB0.out.size)
    have HR2 := Lib.hid (HR2.out.up hbr)
    have HR4 := Lib.hid (HR4.out.up hbr)
    have HMK := Lib.hid hmk
    have HGM : Hid (∀ V, V.ownsRow W0.heap.size 85 2 (.slice GA l GC) l gc → Below w.heap.size w V → FactsM V.heap.size V GA Gs) := fun V h1 h2 => by
      obtain ⟨A, C, e, -, -, h3⟩ := own_factsM h1 ⟨hgc.len, hgc.one, fun i hi => by obtain ⟨RA, RC, a, b, c⟩ := hgc.at_ i hi; exact ⟨RA, RC, a, b, (Sl.below c h2 HBL.out).more (Nat.le_trans HBL.out h2.size)⟩⟩
      injection e with e1 e2 e3
      subst e1
      exact h3
    have b0 : wr.cell? ⟨g7, 0, none⟩ = some (.slice SA S.length SC) := HR7.out.cell 0
    have b1 : wr.cell? ⟨g7, 1, none⟩ = some (.slice GA l GC) := HR7.out.cell 1
    have z7 := HR7.out.lt
    clear hl hll hgr href hr7 hown hgc hbr hmk
    by_cases hkl : k < us.length
    · obtain ⟨ub, uo, rfl, hubw, huc⟩ := HU.out (by intro h0; rw [h0] at hkl; simp at hkl)
      obtain ⟨RA, RC, u0, u1, u2, hrw0⟩ := huc k hkl
      have hrx := Sl.more (Sl.below hrw0 HBW.out HBL.out) (Nat.le_trans HBL.out HBW.out.size)
      have hubw : ub < w.heap.size := Nat.lt_of_lt_of_le hubw HBL.out
      have hgo := fun h => refA_step S Gs m us k hkl h
      have hbad := fun h => refA_bad S Gs m us k hkl h
      have hrw := HUR.out _ (List.getElem_mem hkl)
      obtain ⟨u, hu⟩ : ∃ u, u = us[k] := ⟨_, rfl⟩
      rw [← hu] at u0 u1 u2 hrx hgo hbad hrw hrw0
      clear hu
      obtain ⟨dl, nm, x⟩ := u
      have HUC : Hid (w.cell? ⟨ub, uo + k * 3 + 1, none⟩ = some (.string nm) ∧ w.cell? ⟨ub, uo + k * 3 + 2, none⟩ = some (.slice RA x.length RC)) := ⟨u1, u2⟩
      have HUW : Hid (ub < w.heap.size) := hubw
      have HRW : Hid (SlR B w RA x) := hrw0
      have u0 : wr.cell? ⟨ub, uo + k * 3, none⟩ = some (.bool dl) := cell_below HBW.out u0
      have u1 : wr.cell? ⟨ub, uo + k * 3 + 1, none⟩ = some (.string nm) := cell_below HBW.out u1
      have u2 : wr.cell? ⟨ub, uo + k * 3 + 2, none⟩ = some (.slice RA x.length RC) := cell_below HBW.out u2
      have hub : ub < wr.heap.size := Nat.lt_of_lt_of_le hubw HBW.out.size
      have HRX : Hid (SlR wr.heap.size wr RA x) := hrx
      have HGO : Hid (checkF S nm x = 0 → refA S Fs 0 us = refA S (refU Gs ⟨dl, nm, x⟩).1 (m + if (refU Gs ⟨dl, nm, x⟩).2 = true then 1 else 0) (us.drop (k + 1))) := fun h => HREF.out.trans (hgo h)
      have HBAD : Hid (checkF S nm x ≠ 0 → refA S Fs 0 us = (checkF S nm x, [], 0)) := fun h => HREF.out.trans (hbad h)
      have hxl : x.length ≤ 1000000 := hrw.1
      have HXS : Hid (∀ v ∈ x, v.str.size ≤ 9223372036854775807) := hrw.2
      have HXL := Lib.hid hxl
      have g1 : (0 : Int) ≤ (k : Int) := by omega
      have g2 : (k : Int) < (us.length : Int) := by omega
      have hw1 : IntKind.i64.wrap ((k : Int) + 1) = ((k + 1 : Nat) : Int) := by rw [IntWalk.i64_in _ (by omega)]; omega
      have hw2 : IntKind.i64.wrap ((m : Int) + 1) = ((m + 1 : Nat) : Int) := by rw [IntWalk.i64_in _ (by have := HMK.out; omega)]; omega
      have HUD := Lib.hid (fun (V : World) (hb : Below wr.heap.size wr V) => r08Update_any SA SC S (.slice GA l GC) dl nm RA RC x V (HS.out.up (HBW.out.trans (hb.mono HBW.out.size))) hSl (Sl.more (Sl.below HRX.out hb (Nat.le_refl _)) hb.size) HXL.out HXS.out)
      have HKL := Lib.hid hkl
      clear hrx hgo hbad hrw huc hkl hxl hrw0 hubw
      go_upto_region 6 with (fail)
      go_still_tail 5, (by kernel_rfl)
      go_wp2_with fail
      refine (HUD.out _ (Below.refl _ _).drew).mono ?_
      rintro e w2 ⟨rfl, hx2⟩
      have hb2 : Below wr.heap.size wr w2 := (Below.refl _ _).drew.trans hx2.below
      have HB2 := Lib.hid hb2
      have HR7 := Lib.hid (HR7.out.up hb2)
      have HOWN := Lib.hid (own_keep HOWN.out hb2)
      have HR2 := Lib.hid (HR2.out.up hb2)
      have HR4 := Lib.hid (HR4.out.up hb2)
      have HBX2 := Lib.hid (HBR.out.trans (hb2.mono HBR.out.size))
      have b0 : w2.cell? ⟨g7, 0, none⟩ = some (.slice SA S.length SC) := HR7.out.cell 0
      have b1 : w2.cell? ⟨g7, 1, none⟩ = some (.slice GA l GC) := HR7.out.cell 1
      have z7 := HR7.out.lt
      have u0 : w2.cell? ⟨ub, uo + k * 3, none⟩ = some (.bool dl) := (hb2.cell hub).trans u0
      have u1 : w2.cell? ⟨ub, uo + k * 3 + 1, none⟩ = some (.string nm) := (hb2.cell hub).trans u1
      have u2 : w2.cell? ⟨ub, uo + k * 3 + 2, none⟩ = some (.slice RA x.length RC) := (hb2.cell hub).trans u2
      have hub : ub < w2.heap.size := Nat.lt_of_lt_of_le hub hb2.size
      clear hx2 hb2 HUD
      by_cases hcf : checkF S nm x = 0
      rotate_left
      · have hne : (checkF S nm x != 0) = true := by simpa using hcf
        have HV := Lib.hid (HBAD.out hcf)
        have HCF := Lib.hid hcf
        have r0 : w2.cell? ⟨w.heap.size, 0, none⟩ = some (.slice SA S.length SC) := HR2.out.cell 0
        have r1 : w2.cell? ⟨w.heap.size, 1, none⟩ = some (.slice FA n0 FC) := HR2.out.cell 1
        have z2 := HR2.out.lt
        have q0 : w2.cell? ⟨w.heap.size + 1, 0, none⟩ = some (.slice none 0 0) := HR4.out.cell 0
        have q1 : w2.cell? ⟨w.heap.size + 1, 1, none⟩ = some (.slice none 0 0) := HR4.out.cell 1
        have q2 := HR4.out.frozen 0
        have q3 := HR4.out.frozen 1
        have z4 := HR4.out.lt
        clear hcf HGO HBAD u0 u1 u2 b0 b1
        generalize checkF S nm x = ce at *
        go_wp2_with fail
        obtain ⟨W5, hW5⟩ : ∃ V, V = (w2.setCell ⟨w.heap.size + 1, 0, none⟩ (.slice SA S.length SC)).setCell ⟨w.heap.size + 1, 1, none⟩ (.slice FA n0 FC) := ⟨_, rfl⟩
        rw [← hW5]
        have hr5 : Row W5 (w.heap.size + 1) 31 [.slice SA S.length SC, .slice FA n0 FC] := by rw [hW5]; exact (HR4.out.set 0 _).set 1 _
        have d0 : W5.cell? ⟨w.heap.size + 1, 0, none⟩ = some (.slice SA S.length SC) := hr5.cell 0
        have d1 : W5.cell? ⟨w.heap.size + 1, 1, none⟩ = some (.slice FA n0 FC) := hr5.cell 1
        have HB5 : Hid (Below w.heap.size w W5) := by
          show Below _ _ _
          rw [hW5]
          exact ((HBW.out.trans (HB2.out.mono HBW.out.size)).setCell (p := ⟨w.heap.size + 1, 0, none⟩) (by show w.heap.size ≤ w.heap.size + 1; omega) _).setCell (p := ⟨w.heap.size + 1, 1, none⟩) (by show w.heap.size ≤ w.heap.size + 1; omega) _
        clear hW5 q0 q1 q2 q3 hr5 r0 r1
        refine bodyPost_ret (v := .tuple #[.agg #[.slice SA S.length SC, .slice FA n0 FC], .int .i64 0, .int .i64 ce]) (by simp [results, Tryz.results33, go_sem, d0, d1]) rfl ⟨fun _ => ?_, fun h => ?_, HB5.out⟩
        · rw [HV.out, ← HN0.out]
        · rw [HV.out] at h; exact absurd h HCF.out
      have hne : (checkF S nm x != 0) = false := by rw [hcf]; rfl
      have HCF := Lib.hid hcf
      have HGO := Lib.hid (HGO.out hcf)
      rw [hcf]
      have HHS := Lib.hid (fun (V : World) (hb : Below w2.heap.size w2 V) => r08Has_any (.slice SA S.length SC) GA GC Gs nm RA RC x V (HGM.out V (own_keep HOWN.out hb) (HBW.out.trans ((HB2.out.trans (hb.mono HB2.out.size)).mono HBW.out.size))) (by have := HL.out; have := HLL.out; omega) HGR.out (Sl.more (Sl.below HRX.out (HB2.out.trans (hb.mono HB2.out.size)) (Nat.le_refl _)) (Nat.le_trans HB2.out.size hb.size)) HXL.out)
      rw [← HL.out] at HHS
      clear hcf hne HBAD
      go_upto_region 9 with (fail)
      go_still_tail 11, (by kernel_rfl)
      go_wp2_with fail
      refine (HHS.out _ (Below.refl _ _).drew).mono ?_
      rintro e w3 ⟨rfl, hx3⟩
      have hb3 : Below w2.heap.size w2 w3 := (Below.refl _ _).drew.trans hx3.below
      have HB3 := Lib.hid (HB2.out.trans (hb3.mono HB2.out.size))
      have HR7 := Lib.hid (HR7.out.up hb3)
      have HOWN := Lib.hid (own_keep HOWN.out hb3)
      have HBX3 := Lib.hid (HBX2.out.trans (hb3.mono HBX2.out.size))
      have b0 : w3.cell? ⟨g7, 0, none⟩ = some (.slice SA S.length SC) := HR7.out.cell 0
      have b1 : w3.cell? ⟨g7, 1, none⟩ = some (.slice GA l GC) := HR7.out.cell 1
      have z7 := HR7.out.lt
      have u0 : w3.cell? ⟨ub, uo + k * 3, none⟩ = some (.bool dl) := (hb3.cell hub).trans u0
      have u1 : w3.cell? ⟨ub, uo + k * 3 + 1, none⟩ = some (.string nm) := (hb3.cell hub).trans u1
      have u2 : w3.cell? ⟨ub, uo + k * 3 + 2, none⟩ = some (.slice RA x.length RC) := (hb3.cell hub).trans u2
      have hub : ub < w3.heap.size := Nat.lt_of_lt_of_le hub hb3.size
      have hg2 : (k : Int) < (us.length : Int) := g2
      clear hx3 hb3 HHS
      obtain ⟨hs, hhs⟩ : ∃ h, h = hasF Gs nm x := ⟨_, rfl⟩
      rw [← hhs]
      have HHF : Hid (hasF Gs nm x = hs) := hhs.symm
      clear hhs
      by_cases hsd : hs = dl
      rotate_left
      · have HV : Hid (refA S Fs 0 us = refA S Gs m (us.drop (k + 1))) := by
          show _ = _
          have h1 := HGO.out
          rw [refU_no (u := ⟨dl, nm, x⟩) HHF.out hsd] at h1
          simpa using h1
        clear HGO
        rcases hs with _ | _
        · rcases dl with _ | _
          · exact absurd rfl hsd
          clear hsd
          go_wp2_with fail
          go_roundw
          case rel => exact ⟨k + 1, m, l, Gs, GA, GC, gc, HKL.out, by go_num, rfl, by have := HMK.out; omega, HL.out, by have := HLL.out; omega, HGR.out, HV.out, HR7.out, HOWN.out, HGC.out, HBX3.out⟩
          case measure => have := HKL.out; simp [intOf]; omega
        · rcases dl with _ | _
          rotate_left
          · exact absurd rfl hsd
          clear hsd
          go_wp2_with fail
          go_roundw
          case rel => exact ⟨k + 1, m, l, Gs, GA, GC, gc, HKL.out, by go_num, rfl, by have := HMK.out; omega, HL.out, by have := HLL.out; omega, HGR.out, HV.out, HR7.out, HOWN.out, HGC.out, HBX3.out⟩
          case measure => have := HKL.out; simp [intOf]; omega
      subst hsd
      have hbn : (hs != hs) = false := by simp
      have HUP := Lib.hid (fun (V : World) (hb : Below w3.heap.size w3 V) => HBX3.out.trans (hb.mono HBX3.out.size))
      cases hs with
      | false =>
        have HV : Hid (refA S Fs 0 us = refA S (Gs ++ [(nm, x)]) (m + 1) (us.drop (k + 1))) := by
          show _ = _
          have h1 := HGO.out
          rw [refU_ins HHF.out] at h1
          simpa using h1
        clear HGO hbn
        have HKEEP : Hid (∀ V, Below w3.heap.size w3 V → V.cell? ⟨g7, 1, none⟩ = some (.slice GA l GC) ∧ V.cell? ⟨ub, uo + k * 3 + 1, none⟩ = some (.string nm) ∧ V.cell? ⟨ub, uo + k * 3 + 2, none⟩ = some (.slice RA x.length RC)) := fun V hb => ⟨cell_below hb b1, cell_below hb u1, cell_below hb u2⟩
        go_upto_region 13 with (fail)
        refine regionZ (S := (fun w' => w'.cell? ⟨g7, 1, none⟩ = some (.slice GA l GC) ∧ w'.cell? ⟨ub, uo + k * 3 + 1, none⟩ = some (.string nm) ∧ w'.cell? ⟨ub, uo + k * 3 + 2, none⟩ = some (.slice RA x.length RC))) 16 (by kernel_rfl) (HKEEP.out w3.drew (Below.refl _ _).drew) (fun hHeld => ?_)
        refine takeZ (i := 0) (v := ?_) (some 64) rfl rfl (by kernel_rfl) (by decide) (by kernel_rfl) (by kernel_rfl) (by kernel_rfl) (by kernel_rfl) (fun _ _ _ h => h) (Or.inl ⟨by rfl, ?_⟩) (by assumption) ?_
        rotate_left 1
        · (intro w0 hSw; (try dsimp only at hSw); go_simp; try (with_reducible rfl))
        try simp only [Act.put, List.setIfInBounds_toArray, List.set_cons_succ, List.set_cons_zero]
        refine takeZ (i := 1) (v := ?_) (some 65) rfl rfl (by kernel_rfl) (by decide) (by kernel_rfl) (by kernel_rfl) (by kernel_rfl) (by kernel_rfl) (fun _ _ _ h => h) (Or.inl ⟨by rfl, ?_⟩) (by assumption) ?_
        rotate_left 1
        · (intro w0 hSw; (try dsimp only at hSw); go_simp; try (with_reducible rfl))
        try simp only [Act.put, List.setIfInBounds_toArray, List.set_cons_succ, List.set_cons_zero]
        refine takeZ (i := 2) (v := ?_) (some 66) rfl rfl (by kernel_rfl) (by decide) (by kernel_rfl) (by kernel_rfl) (by kernel_rfl) (by kernel_rfl) (fun _ _ _ h => h) (Or.inl ⟨by rfl, ?_⟩) (by assumption) ?_
        rotate_left 1
        · (intro w0 hSw; (try dsimp only at hSw); go_simp; try (with_reducible rfl))
        try simp only [Act.put, List.setIfInBounds_toArray, List.set_cons_succ, List.set_cons_zero]
        refine takeZ (i := 3) (v := ?_) (some 67) rfl rfl (by kernel_rfl) (by decide) (by kernel_rfl) (by kernel_rfl) (by kernel_rfl) (by kernel_rfl) (fun _ _ _ h => h) (Or.inl ⟨by rfl, ?_⟩) (by assumption) ?_
        rotate_left 1
        · (intro w0 hSw; (try dsimp only at hSw); go_simp; try (with_reducible rfl))
        try simp only [Act.put, List.setIfInBounds_toArray, List.set_cons_succ, List.set_cons_zero]
        refine takeZ (i := 4) (v := ?_) (some 68) rfl rfl (by kernel_rfl) (by decide) (by kernel_rfl) (by kernel_rfl) (by kernel_rfl) (by kernel_rfl) (fun _ _ _ h => h) (Or.inl ⟨by rfl, ?_⟩) (by assumption) ?_
        rotate_left 1
        · (intro w0 hSw; (try dsimp only at hSw); go_simp; try (with_reducible rfl))
        try simp only [Act.put, List.setIfInBounds_toArray, List.set_cons_succ, List.set_cons_zero]
        refine takeZ (i := 5) (v := ?_) (some 69) rfl rfl (by kernel_rfl) (by decide) (by kernel_rfl) (by kernel_rfl) (by kernel_rfl) (by kernel_rfl) (fun _ _ _ h => h) (Or.inl ⟨by rfl, ?_⟩) (by assumption) ?_
        rotate_left 1
        · (intro w0 hSw; (try dsimp only at hSw); go_simp; try (with_reducible rfl))
        try simp only [Act.put, List.setIfInBounds_toArray, List.set_cons_succ, List.set_cons_zero]
        refine takeZ (i := 6) (v := ?_) (some 70) rfl rfl (by kernel_rfl) (by decide) (by kernel_rfl) (by kernel_rfl) (by kernel_rfl) (by kernel_rfl) (fun _ _ _ h => h) (Or.inl ⟨by rfl, ?_⟩) (by assumption) ?_
        rotate_left 1
        · (intro w0 hSw; (try dsimp only at hSw); go_simp; try (with_reducible rfl))
        try simp only [Act.put, List.setIfInBounds_toArray, List.set_cons_succ, List.set_cons_zero]
        refine takeZ (i := 7) (v := ?_) (some 71) rfl rfl (by kernel_rfl) (by decide) (by kernel_rfl) (by kernel_rfl) (by kernel_rfl) (by kernel_rfl) (fun _ _ _ h => h) (Or.inl ⟨by rfl, ?_⟩) (by assumption) ?_
        rotate_left 1
        · (intro w0 hSw; (try dsimp only at hSw); go_simp; try (with_reducible rfl))
        try simp only [Act.put, List.setIfInBounds_toArray, List.set_cons_succ, List.set_cons_zero]
        refine takeZ (i := 8) (v := ?_) (some 72) rfl rfl (by kernel_rfl) (by decide) (by kernel_rfl) (by kernel_rfl) (by kernel_rfl) (by kernel_rfl) (fun _ _ _ h => h) (Or.inl ⟨by rfl, ?_⟩) (by assumption) ?_
        rotate_left 1
        · (intro w0 hSw; (try dsimp only at hSw); go_simp; try (with_reducible rfl))
        try simp only [Act.put, List.setIfInBounds_toArray, List.set_cons_succ, List.set_cons_zero]
        refine takeZ (i := 9) (v := ?_) (some 73) rfl rfl (by kernel_rfl) (by decide) (by kernel_rfl) (by kernel_rfl) (by kernel_rfl) (by kernel_rfl) (fun _ _ _ h => h) (Or.inl ⟨by rfl, ?_⟩) (by assumption) ?_
        rotate_left 1
        · (intro w0 hSw; (try dsimp only at hSw); go_simp; try (with_reducible rfl))
        try simp only [Act.put, List.setIfInBounds_toArray, List.set_cons_succ, List.set_cons_zero]
        refine takeZ (i := 10) (v := ?_) (some 74) rfl rfl (by kernel_rfl) (by decide) (by kernel_rfl) (by kernel_rfl) (by kernel_rfl) (by kernel_rfl) (fun _ _ _ h => h) (Or.inl ⟨by rfl, ?_⟩) (by assumption) ?_
        rotate_left 1
        · (intro w0 hSw; (try dsimp only at hSw); go_simp; try (with_reducible rfl))
        try simp only [Act.put, List.setIfInBounds_toArray, List.set_cons_succ, List.set_cons_zero]
        refine takeZ (i := 11) (v := ?_) (some 75) rfl rfl (by kernel_rfl) (by decide) (by kernel_rfl) (by kernel_rfl) (by kernel_rfl) (by kernel_rfl) (fun _ _ _ h => h) (Or.inl ⟨by rfl, ?_⟩) (by assumption) ?_
        rotate_left 1
        · (intro w0 hSw; (try dsimp only at hSw); go_simp; try (with_reducible rfl))
        try simp only [Act.put, List.setIfInBounds_toArray, List.set_cons_succ, List.set_cons_zero]
        refine takeZ (i := 12) (v := ?_) (some 76) rfl rfl (by kernel_rfl) (by decide) (by kernel_rfl) (by kernel_rfl) (by kernel_rfl) (by kernel_rfl) (fun _ _ _ h => h) (Or.inl ⟨by rfl, ?_⟩) (by assumption) ?_
        rotate_left 1
        · (intro w0 hSw; (try dsimp only at hSw); go_simp; try (with_reducible rfl))
        try simp only [Act.put, List.setIfInBounds_toArray, List.set_cons_succ, List.set_cons_zero]
        refine oneZ (i := 13) (by kernel_rfl) rfl (by decide) (fun K hK => ?_)
        go_simp
        obtain ⟨V1, hV⟩ : ∃ V', V' = (w3.alloc (.cells #[.string nm, .slice RA x.length RC] 85)).drew := ⟨_, rfl⟩
        rw [← hV]
        have HV1 : Hid (Below w3.heap.size w3 V1) := by show Below _ _ _; rw [hV]; exact ((Ext.refl w3).alloc _).below.drew
        have HE1 : Hid (Row V1 w3.heap.size 85 [.string nm, .slice RA x.length RC]) := by show Row _ _ _ _; rw [hV]; exact (Row.new w3 85 [.string nm, .slice RA x.length RC]).drew
        clear hV
        refine hK.out _ _ (HKEEP.out V1 HV1.out) (fun hHeld => ?_)
        clear hK K
        try simp only [Act.put, List.setIfInBounds_toArray, List.set_cons_succ, List.set_cons_zero]
        refine oneZ (i := 14) (by kernel_rfl) rfl (by decide) (fun K hK => ?_)
        refine stepXFct rfl (.tmp 65) (.tmp 77) rfl W0.heap.size (.slice GA l GC) l gc (by simp [Act.eval]) (own_keep HOWN.out HV1.out) (some ⟨w3.heap.size, 0, none⟩) 1 1 [.string nm, .slice RA x.length RC] (by simp [Act.eval]) rfl HE1.out.sl (by intro z hz; simp at hz; rcases hz with rfl | rfl <;> rfl) (by have := HLL.out; omega) (by have := HV1.out.size; have := HBX3.out.size; omega) ?_
        intro v' V2 k1 k2 k3
        obtain ⟨A9, C9, hv9, -, -, -⟩ := own_cut k1 (by decide)
        subst hv9
        have HK1 := Lib.hid k1
        have HK2 := Lib.hid k2
        have HRO2 : Hid (Row V2 g7 31 [.slice SA S.length SC, .slice GA l GC]) := (HR7.out.up HV1.out).grown k2 (fun e => own_ne_rowF (own_keep HOWN.out HV1.out) (HR7.out.up HV1.out) (by decide) e.symm)
        have HZ1 : Hid (w3.heap.size ≤ V1.heap.size) := HV1.out.size
        have HUB : Hid (some ub ≠ (Value.slice GA l GC).ownBlock) := fun e => by have h1 := (HOWN.out.lt ub e.symm).1; exact absurd h1 (by have := HUW.out; have := HZ0.out; omega)
        have KEEP7 : V2.cell? ⟨g7, 1, none⟩ = some (.slice GA l GC) ∧ V2.cell? ⟨ub, uo + k * 3 + 1, none⟩ = some (.string nm) ∧ V2.cell? ⟨ub, uo + k * 3 + 2, none⟩ = some (.slice RA x.length RC) := ⟨HRO2.out.cell 1, (grown_cell k2 (p := ⟨ub, uo + k * 3 + 1, none⟩) (by show ub < V1.heap.size; have := HV1.out.size; omega) HUB.out).trans (HKEEP.out V1 HV1.out).2.1, (grown_cell k2 (p := ⟨ub, uo + k * 3 + 2, none⟩) (by show ub < V1.heap.size; have := HV1.out.size; omega) HUB.out).trans (HKEEP.out V1 HV1.out).2.2⟩
        clear k1 k2 k3
        refine hK.out _ _ KEEP7 (fun hHeld => ?_)
        clear hK K
        try simp only [Act.put]
        try simp only [List.setIfInBounds_toArray]
        try simp only [List.set_cons_succ]
        try simp only [List.set_cons_zero]
        refine takeZ (i := 15) (v := ?_) (some 79) rfl rfl (by kernel_rfl) (by decide) (by kernel_rfl) (by kernel_rfl) (by kernel_rfl) (by kernel_rfl) (fun _ _ _ h => h) (Or.inl ⟨by rfl, ?_⟩) (by assumption) ?_
        rotate_left 1
        · (intro w0 hSw; (try dsimp only at hSw); go_simp; try (with_reducible rfl))
        try simp only [Act.put]
        try simp only [List.setIfInBounds_toArray]
        try simp only [List.set_cons_succ]
        try simp only [List.set_cons_zero]
        refine lastZ (by kernel_rfl) rfl (by kernel_rfl) (fun K hK => ?_)
        go_simp
        have m0 := HRO2.out.frozen 1
        have m1 := HRO2.out.lt
        have m2 : V2.cell? ⟨g7, 1, none⟩ = some (.slice GA l GC) := HRO2.out.cell 1
        go_simp
        go_wp2_with fail
        refine hK.out _ _ ?_
        clear hK K
        try simp only [Act.put, List.setIfInBounds_toArray, List.set_cons_succ, List.set_cons_zero]
        obtain ⟨V3, hV3⟩ : ∃ V, V = V2.setCell ⟨g7, 1, none⟩ (.slice A9 (l + 1) C9) := ⟨_, rfl⟩
        rw [← hV3]
        have HR7 : Hid (Row V3 g7 31 [.slice SA S.length SC, .slice A9 (l + 1) C9]) := by show Row _ _ _ _; rw [hV3]; exact HRO2.out.set 1 _
        have HO3 : Hid (V3.ownsRow W0.heap.size 85 2 (.slice A9 (l + 1) C9) (l + 1) (gc ++ [.string nm, .slice RA x.length RC])) := by
          show World.ownsRow _ _ _ _ _ _ _
          rw [hV3]
          exact own_far HK1.out (own_ne_rowF HK1.out HRO2.out (by decide)) _
        have HB3X : Hid (Below W0.heap.size W0 V3) := by
          show Below _ _ _
          have h1 : Below W0.heap.size W0 V2 := (HUP.out V1 HV1.out).grown HK2.out (Nat.le_trans HBX3.out.size HV1.out.size) (fun g hg => (HOWN.out.lt g hg).1)
          rw [hV3]
          exact h1.setCell (p := ⟨g7, 1, none⟩) HG7.out _
        have HGC3 : Hid (FctCs B w (Gs ++ [(nm, x)]) (gc ++ [.string nm, .slice RA x.length RC])) := HGC.out.snoc HRW.out
        clear hV3
        go_wp2_with fail
        go_roundw
        case rel => exact ⟨k + 1, m + 1, l + 1, Gs ++ [(nm, x)], A9, C9, gc ++ [.string nm, .slice RA x.length RC], HKL.out, by go_num, by go_num, by have := HMK.out; omega, by rw [List.length_append, ← HL.out]; rfl, by have := HLL.out; omega, fun f hf => by
          rcases List.mem_append.1 hf with h | h
          · exact HGR.out f h
          · rw [List.mem_singleton.1 h]; exact HXL.out, HV.out, HR7.out, HO3.out, HGC3.out, HB3X.out⟩
        case measure => have := HKL.out; simp [intOf]; omega
      | true =>
        have HV : Hid (refA S Fs 0 us = refA S (Gs.filter (fun f => !(decide (f.1 = nm) && decide (f.2 = x)))) (m + 1) (us.drop (k + 1))) := by
          show _ = _
          have h1 := HGO.out
          rw [refU_del HHF.out] at h1
          simpa using h1
        clear HGO hbn
        obtain ⟨p, hp⟩ : ∃ p : Fact → Bool, p = fun f => !(decide (f.1 = nm) && decide (f.2 = x)) := ⟨_, rfl⟩
        rw [← hp] at HV
        have HP := Lib.hid hp
        clear hp
        go_wp2_with fail
        clear b0 b1 u0 u1 u2 hub z7
        go_loopw [12, 13] (fun lv jv wx => ∃ (q n9 : Nat) (LA : Option Addr) (LC : Nat) (lc : List Value), q ≤ l ∧ jv = .int .i64 q ∧ lv = .slice LA n9 LC ∧ n9 = ((Gs.take q).filter p).length ∧ wx.ownsRow W0.heap.size 85 2 (.slice LA n9 LC) n9 lc ∧ FctCs B w ((Gs.take q).filter p) lc ∧ wx.ownsRow W0.heap.size 85 2 (.slice GA l GC) l gc ∧ Row wx g7 31 [.slice SA S.length SC, .slice GA l GC] ∧ (∀ g, (Value.slice GA l GC).ownBlock = some g → (Value.slice LA n9 LC).ownBlock ≠ some g) ∧ Below W0.heap.size W0 wx) (fun _ jv _ => l - (intOf jv).toNat)
        case atStart => exact ⟨0, 0, none, 0, [], Nat.zero_le _, rfl, rfl, rfl, own_nil _ _ _ _, FctCs.nil, HOWN.out, HR7.out, fun g _ h => (by simp [Value.ownBlock] at h), HBX3.out⟩
        case round =>
          obtain ⟨q, n9, LA, LC, lc, hq, rfl, rfl, hn9, hol, hlc, hog, hr7, hdj, hbr⟩ := hrel
          have HN9 := Lib.hid hn9
          have HOL := Lib.hid hol
          have HLC := Lib.hid hlc
          have HOWN := Lib.hid hog
          have HR7 := Lib.hid hr7
          have HDJ := Lib.hid hdj
          have HBX := Lib.hid hbr
          have HBV : Hid (Below w.heap.size w wr) := HB0.out.trans (hbr.mono HB0.out.size)
          have b0 : wr.cell? ⟨g7, 0, none⟩ = some (.slice SA S.length SC) := HR7.out.cell 0
          have b1 : wr.cell? ⟨g7, 1, none⟩ = some (.slice GA l GC) := HR7.out.cell 1
          have z7 := HR7.out.lt
          have u1 : wr.cell? ⟨ub, uo + k * 3 + 1, none⟩ = some (.string nm) := cell_below HBV.out HUC.out.1
          have u2 : wr.cell? ⟨ub, uo + k * 3 + 2, none⟩ = some (.slice RA x.length RC) := cell_below HBV.out HUC.out.2
          have hub : ub < wr.heap.size := Nat.lt_of_lt_of_le HUW.out HBV.out.size
          clear hn9 hol hlc hr7 hdj hbr
          by_cases hql : q < l
          · have hqg : q < Gs.length := by rw [← HL.out]; exact hql
            obtain ⟨A, C, e, -, -, hcg⟩ := own_cut hog (by decide)
            injection e with e1 e2 e3
            clear e2 e3
            subst e1
            obtain ⟨YA, YC, y0, y1, hfy⟩ := HGC.out.at_ q hqg
            obtain ⟨gb, rfl, hgb, hcg⟩ := hcg (fun h0 => by rw [h0] at y0; simp at y0)
            have y0 := hcg _ _ y0
            have y1 := hcg _ _ y1
            have HTK := Lib.hid (filter_take p hqg)
            have hfl := HGR.out _ (List.getElem_mem hqg)
            obtain ⟨f, hf⟩ : ∃ f, f = Gs[q] := ⟨_, rfl⟩
            rw [← hf] at y0 y1 hfy HTK hfl
            clear hf hcg hog
            obtain ⟨fn, fy⟩ := f
            have y0 : wr.cell? ⟨gb, q * 2, none⟩ = some (.string fn) := y0
            have y1 : wr.cell? ⟨gb, q * 2 + 1, none⟩ = some (.slice YA fy.length YC) := y1
            have HFY : Hid (SlR B w YA fy) := hfy
            have HFL : Hid (fy.length ≤ 1000000) := hfl
            obtain ⟨pf, hpf⟩ : ∃ b, b = p (fn, fy) := ⟨_, rfl⟩
            have HPF : Hid (p (fn, fy) = pf) := hpf.symm
            have HPV : Hid (pf = !(decide (fn = nm) && decide (fy = x))) := by show _ = _; rw [hpf, HP.out]
            clear hfy hfl hpf
            have q1 : (0 : Int) ≤ (q : Int) := by omega
            have q2 : (q : Int) < (l : Int) := by omega
            have hw3 : IntKind.i64.wrap ((q : Int) + 1) = ((q + 1 : Nat) : Int) := by rw [IntWalk.i64_in _ (by have := HLL.out; omega)]; omega
            have HQL := Lib.hid hql
            clear hql
            have HKEEP : Hid (∀ V, Below wr.heap.size wr V → V.cell? ⟨g7, 1, none⟩ = some (.slice (some ⟨gb, 0, none⟩) l GC) ∧ V.cell? ⟨gb, q * 2, none⟩ = some (.string fn) ∧ V.cell? ⟨gb, q * 2 + 1, none⟩ = some (.slice YA fy.length YC) ∧ V.cell? ⟨ub, uo + k * 3 + 1, none⟩ = some (.string nm) ∧ V.cell? ⟨ub, uo + k * 3 + 2, none⟩ = some (.slice RA x.length RC)) := fun V hb => ⟨cell_below hb b1, cell_below hb y0, cell_below hb y1, cell_below hb u1, cell_below hb u2⟩
            go_upto_region 18 with (fail)
            go_cut [113] from 87 to 113 (fun b wx => b = .bool pf ∧ Below wr.heap.size wr wx)
            case first =>
              by_cases hfn : fn = nm
              · have hse : (fn.toList == nm.toList) = true := by rw [strEq_str, decide_eq_true hfn]
                have hsn : (fn.toList != nm.toList) = false := by rw [bne, hse]; rfl
                have HPX : Hid (pf = !decide (fy = x)) := by show _ = _; rw [HPV.out, decide_eq_true hfn]; rfl
                have HSM := Lib.hid (fun (V : World) (hb : Below wr.heap.size wr V) => r08Same_any YA RA YC RC fy x V (Sl.more (Sl.below HFY.out (HBV.out.trans (hb.mono HBV.out.size)) HBL.out) (Nat.le_trans HBL.out (Nat.le_trans HBV.out.size hb.size))) (Sl.more (Sl.below HRW.out (HBV.out.trans (hb.mono HBV.out.size)) HBL.out) (Nat.le_trans HBL.out (Nat.le_trans HBV.out.size hb.size))) HFL.out HXL.out)
                clear hfn
                refine wp_region_held_drew (S := (fun w' => w'.cell? ⟨g7, 1, none⟩ = some (.slice (some ⟨gb, 0, none⟩) l GC) ∧ w'.cell? ⟨gb, q * 2, none⟩ = some (.string fn) ∧ w'.cell? ⟨gb, q * 2 + 1, none⟩ = some (.slice YA fy.length YC) ∧ w'.cell? ⟨ub, uo + k * 3 + 1, none⟩ = some (.string nm) ∧ w'.cell? ⟨ub, uo + k * 3 + 2, none⟩ = some (.slice RA x.length RC))) (by kernel_rfl) (HKEEP.out wr.drew (Below.refl _ _).drew) (fun hHeld => ?_)
                refine takeOp (i := 0) (v := ?_) (some 87) rfl rfl (by kernel_rfl) (by kernel_rfl) (by kernel_rfl) (fun _ _ _ h => h) (Or.inl ⟨by rfl, ?_⟩) (by assumption) ?_
                rotate_left 1
                · (intro w0 hSw; (try dsimp only at hSw); go_simp; try (with_reducible rfl))
                try simp only [Act.put, List.setIfInBounds_toArray, List.set_cons_succ, List.set_cons_zero]
                refine takeOp (i := 1) (v := ?_) (some 88) rfl rfl (by kernel_rfl) (by kernel_rfl) (by kernel_rfl) (fun _ _ _ h => h) (Or.inl ⟨by rfl, ?_⟩) (by assumption) ?_
                rotate_left 1
                · (intro w0 hSw; (try dsimp only at hSw); go_simp; try (with_reducible rfl))
                try simp only [Act.put, List.setIfInBounds_toArray, List.set_cons_succ, List.set_cons_zero]
                refine takeOp (i := 2) (v := ?_) (some 89) rfl rfl (by kernel_rfl) (by kernel_rfl) (by kernel_rfl) (fun _ _ _ h => h) (Or.inl ⟨by rfl, ?_⟩) (by assumption) ?_
                rotate_left 1
                · (intro w0 hSw; (try dsimp only at hSw); go_simp; try (with_reducible rfl))
                try simp only [Act.put, List.setIfInBounds_toArray, List.set_cons_succ, List.set_cons_zero]
                refine takeOp (i := 3) (v := ?_) (some 90) rfl rfl (by kernel_rfl) (by kernel_rfl) (by kernel_rfl) (fun _ _ _ h => h) (Or.inl ⟨by rfl, ?_⟩) (by assumption) ?_
                rotate_left 1
                · (intro w0 hSw; (try dsimp only at hSw); go_simp; try (with_reducible rfl))
                try simp only [Act.put, List.setIfInBounds_toArray, List.set_cons_succ, List.set_cons_zero]
                refine takeOp (i := 4) (v := ?_) (some 91) rfl rfl (by kernel_rfl) (by kernel_rfl) (by kernel_rfl) (fun _ _ _ h => h) (Or.inl ⟨by rfl, ?_⟩) (by assumption) ?_
                rotate_left 1
                · (intro w0 hSw; (try dsimp only at hSw); go_simp; try (with_reducible rfl))
                try simp only [Act.put, List.setIfInBounds_toArray, List.set_cons_succ, List.set_cons_zero]
                refine takeOp (i := 5) (v := ?_) (some 92) rfl rfl (by kernel_rfl) (by kernel_rfl) (by kernel_rfl) (fun _ _ _ h => h) (Or.inl ⟨by rfl, ?_⟩) (by assumption) ?_
                rotate_left 1
                · (intro w0 hSw; (try dsimp only at hSw); go_simp; try (with_reducible rfl))
                try simp only [Act.put, List.setIfInBounds_toArray, List.set_cons_succ, List.set_cons_zero]
                refine takeOp (i := 6) (v := ?_) (some 93) rfl rfl (by kernel_rfl) (by kernel_rfl) (by kernel_rfl) (fun _ _ _ h => h) (Or.inl ⟨by rfl, ?_⟩) (by assumption) ?_
                rotate_left 1
                · (intro w0 hSw; (try dsimp only at hSw); go_simp; try (with_reducible rfl))
                try simp only [Act.put, List.setIfInBounds_toArray, List.set_cons_succ, List.set_cons_zero]
                refine takeOp (i := 7) (v := ?_) (some 94) rfl rfl (by kernel_rfl) (by kernel_rfl) (by kernel_rfl) (fun _ _ _ h => h) (Or.inl ⟨by rfl, ?_⟩) (by assumption) ?_
                rotate_left 1
                · (intro w0 hSw; (try dsimp only at hSw); go_simp; try (with_reducible rfl))
                try simp only [Act.put, List.setIfInBounds_toArray, List.set_cons_succ, List.set_cons_zero]
                refine takeOp (i := 8) (v := ?_) (some 95) rfl rfl (by kernel_rfl) (by kernel_rfl) (by kernel_rfl) (fun _ _ _ h => h) (Or.inl ⟨by rfl, ?_⟩) (by assumption) ?_
                rotate_left 1
                · (intro w0 hSw; (try dsimp only at hSw); go_simp; try (with_reducible rfl))
                try simp only [Act.put, List.setIfInBounds_toArray, List.set_cons_succ, List.set_cons_zero]
                refine takeOp (i := 9) (v := ?_) (some 96) rfl rfl (by kernel_rfl) (by kernel_rfl) (by kernel_rfl) (fun _ _ _ h => h) (Or.inl ⟨by rfl, ?_⟩) (by assumption) ?_
                rotate_left 1
                · (intro w0 hSw; (try dsimp only at hSw); go_simp; try (with_reducible rfl))
                try simp only [Act.put, List.setIfInBounds_toArray, List.set_cons_succ, List.set_cons_zero]
                refine takeOp (i := 10) (v := ?_) (some 97) rfl rfl (by kernel_rfl) (by kernel_rfl) (by kernel_rfl) (fun _ _ _ h => h) (Or.inl ⟨by rfl, ?_⟩) (by assumption) ?_
                rotate_left 1
                · (intro w0 hSw; (try dsimp only at hSw); go_simp; try (with_reducible rfl))
                try simp only [Act.put, List.setIfInBounds_toArray, List.set_cons_succ, List.set_cons_zero]
                refine takeOp (i := 11) (v := ?_) (some 98) rfl rfl (by kernel_rfl) (by kernel_rfl) (by kernel_rfl) (fun _ _ _ h => h) (Or.inl ⟨by rfl, ?_⟩) (by assumption) ?_
                rotate_left 1
                · (intro w0 hSw; (try dsimp only at hSw); go_simp; try (with_reducible rfl))
                try simp only [Act.put, List.setIfInBounds_toArray, List.set_cons_succ, List.set_cons_zero]
                refine takeOp (i := 12) (v := ?_) (some 99) rfl rfl (by kernel_rfl) (by kernel_rfl) (by kernel_rfl) (fun _ _ _ h => h) (Or.inl ⟨by rfl, ?_⟩) (by assumption) ?_
                rotate_left 1
                · (intro w0 hSw; (try dsimp only at hSw); go_simp; try (with_reducible rfl))
                try simp only [Act.put, List.setIfInBounds_toArray, List.set_cons_succ, List.set_cons_zero]
                refine takeOp (i := 13) (v := ?_) (some 100) rfl rfl (by kernel_rfl) (by kernel_rfl) (by kernel_rfl) (fun _ _ _ h => h) (Or.inl ⟨by rfl, ?_⟩) (by assumption) ?_
                rotate_left 1
                · (intro w0 hSw; (try dsimp only at hSw); go_simp; try (with_reducible rfl))
                try simp only [Act.put, List.setIfInBounds_toArray, List.set_cons_succ, List.set_cons_zero]
                refine takeOp (i := 14) (v := ?_) (some 101) rfl rfl (by kernel_rfl) (by kernel_rfl) (by kernel_rfl) (fun _ _ _ h => h) (Or.inl ⟨by rfl, ?_⟩) (by assumption) ?_
                rotate_left 1
                · (intro w0 hSw; (try dsimp only at hSw); go_simp; try (with_reducible rfl))
                try simp only [Act.put, List.setIfInBounds_toArray, List.set_cons_succ, List.set_cons_zero]
                refine takeOp (i := 15) (v := ?_) (some 102) rfl rfl (by kernel_rfl) (by kernel_rfl) (by kernel_rfl) (fun _ _ _ h => h) (Or.inl ⟨by rfl, ?_⟩) (by assumption) ?_
                rotate_left 1
                · (intro w0 hSw; (try dsimp only at hSw); go_simp; try (with_reducible rfl))
                try simp only [Act.put, List.setIfInBounds_toArray, List.set_cons_succ, List.set_cons_zero]
                refine takeOp (i := 16) (v := ?_) (some 103) rfl rfl (by kernel_rfl) (by kernel_rfl) (by kernel_rfl) (fun _ _ _ h => h) (Or.inl ⟨by rfl, ?_⟩) (by assumption) ?_
                rotate_left 1
                · (intro w0 hSw; (try dsimp only at hSw); go_simp; try (with_reducible rfl))
                try simp only [Act.put, List.setIfInBounds_toArray, List.set_cons_succ, List.set_cons_zero]
                refine takeOp (i := 17) (v := ?_) (some 104) rfl rfl (by kernel_rfl) (by kernel_rfl) (by kernel_rfl) (fun _ _ _ h => h) (Or.inl ⟨by rfl, ?_⟩) (by assumption) ?_
                rotate_left 1
                · (intro w0 hSw; (try dsimp only at hSw); go_simp; try (with_reducible rfl))
                try simp only [Act.put, List.setIfInBounds_toArray, List.set_cons_succ, List.set_cons_zero]
                refine takeOp (i := 18) (v := ?_) (some 105) rfl rfl (by kernel_rfl) (by kernel_rfl) (by kernel_rfl) (fun _ _ _ h => h) (Or.inl ⟨by rfl, ?_⟩) (by assumption) ?_
                rotate_left 1
                · (intro w0 hSw; (try dsimp only at hSw); go_simp; try (with_reducible rfl))
                try simp only [Act.put, List.setIfInBounds_toArray, List.set_cons_succ, List.set_cons_zero]
                refine takeOp (i := 19) (v := ?_) (some 106) rfl rfl (by kernel_rfl) (by kernel_rfl) (by kernel_rfl) (fun _ _ _ h => h) (Or.inl ⟨by rfl, ?_⟩) (by assumption) ?_
                rotate_left 1
                · (intro w0 hSw; (try dsimp only at hSw); go_simp; try (with_reducible rfl))
                try simp only [Act.put, List.setIfInBounds_toArray, List.set_cons_succ, List.set_cons_zero]
                refine takeOp (i := 20) (v := ?_) (some 107) rfl rfl (by kernel_rfl) (by kernel_rfl) (by kernel_rfl) (fun _ _ _ h => h) (Or.inl ⟨by rfl, ?_⟩) (by assumption) ?_
                rotate_left 1
                · (intro w0 hSw; (try dsimp only at hSw); go_simp; try (with_reducible rfl))
                try simp only [Act.put, List.setIfInBounds_toArray, List.set_cons_succ, List.set_cons_zero]
                refine takeOp (i := 21) (v := ?_) (some 108) rfl rfl (by kernel_rfl) (by kernel_rfl) (by kernel_rfl) (fun _ _ _ h => h) (Or.inl ⟨by rfl, ?_⟩) (by assumption) ?_
                rotate_left 1
                · (intro w0 hSw; (try dsimp only at hSw); go_simp; try (with_reducible rfl))
                try simp only [Act.put, List.setIfInBounds_toArray, List.set_cons_succ, List.set_cons_zero]
                refine takeOp (i := 22) (v := ?_) (some 109) rfl rfl (by kernel_rfl) (by kernel_rfl) (by kernel_rfl) (fun _ _ _ h => h) (Or.inl ⟨by rfl, ?_⟩) (by assumption) ?_
                rotate_left 1
                · (intro w0 hSw; (try dsimp only at hSw); go_simp; try (with_reducible rfl))
                try simp only [Act.put, List.setIfInBounds_toArray, List.set_cons_succ, List.set_cons_zero]
                refine takeOp (i := 23) (v := ?_) (some 110) rfl rfl (by kernel_rfl) (by kernel_rfl) (by kernel_rfl) (fun _ _ _ h => h) (Or.inl ⟨by rfl, ?_⟩) (by assumption) ?_
                rotate_left 1
                · (intro w0 hSw; (try dsimp only at hSw); go_simp; try (with_reducible rfl))
                try simp only [Act.put, List.setIfInBounds_toArray, List.set_cons_succ, List.set_cons_zero]
                refine wpAnyH_ready (rs := [24]) (by kernel_rfl) (by simp) ?_
                refine AllReadyH.cons rfl (fun K hK => ?_) AllReadyH.nil
                go_simp
                refine (HSM.out wr.drew (Below.refl _ _).drew).mono ?_
                rintro e V1 ⟨rfl, hx1⟩
                have HV1 : Hid (Below wr.heap.size wr V1) := (Below.refl _ _).drew.trans hx1.below
                clear hx1
                go_wp2_with fail
                refine hK.out _ _ (HKEEP.out V1 HV1.out) (fun hHeld => ?_)
                clear hK K
                try simp only [Act.put, List.setIfInBounds_toArray, List.set_cons_succ, List.set_cons_zero]
                refine takeOp (i := 25) (v := ?_) (some 112) rfl rfl (by kernel_rfl) (by kernel_rfl) (by kernel_rfl) (fun _ _ _ h => h) (Or.inl ⟨by rfl, ?_⟩) (by assumption) ?_
                rotate_left 1
                · (intro w0 hSw; (try dsimp only at hSw); go_simp; try (with_reducible rfl))
                try simp only [Act.put, List.setIfInBounds_toArray, List.set_cons_succ, List.set_cons_zero]
                refine takeOp (i := 26) (v := ?_) (some 113) rfl rfl (by kernel_rfl) (by kernel_rfl) (by kernel_rfl) (fun _ _ _ h => h) (Or.inl ⟨by rfl, ?_⟩) (by assumption) ?_
                rotate_left 1
                · (intro w0 hSw; (try dsimp only at hSw); go_simp; try (with_reducible rfl))
                try simp only [Act.put, List.setIfInBounds_toArray, List.set_cons_succ, List.set_cons_zero]
                refine wpAnyH_done (by kernel_rfl) ?_ _
                go_wp2_with fail
                go_meet
                case rel => exact ⟨by rw [HPX.out], HV1.out⟩
              · have hse : (fn.toList == nm.toList) = false := by rw [strEq_str, decide_eq_false hfn]
                have hsn : (fn.toList != nm.toList) = true := by rw [bne, hse]; rfl
                have HPX : Hid (pf = true) := by show _ = _; rw [HPV.out, decide_eq_false hfn]; rfl
                clear hfn
                refine wp_region_held_drew (S := (fun w' => w'.cell? ⟨g7, 1, none⟩ = some (.slice (some ⟨gb, 0, none⟩) l GC) ∧ w'.cell? ⟨gb, q * 2, none⟩ = some (.string fn) ∧ w'.cell? ⟨gb, q * 2 + 1, none⟩ = some (.slice YA fy.length YC) ∧ w'.cell? ⟨ub, uo + k * 3 + 1, none⟩ = some (.string nm) ∧ w'.cell? ⟨ub, uo + k * 3 + 2, none⟩ = some (.slice RA x.length RC))) (by kernel_rfl) (HKEEP.out wr.drew (Below.refl _ _).drew) (fun hHeld => ?_)
                refine takeOp (i := 0) (v := ?_) (some 87) rfl rfl (by kernel_rfl) (by kernel_rfl) (by kernel_rfl) (fun _ _ _ h => h) (Or.inl ⟨by rfl, ?_⟩) (by assumption) ?_
                rotate_left 1
                · (intro w0 hSw; (try dsimp only at hSw); go_simp; try (with_reducible rfl))
                try simp only [Act.put, List.setIfInBounds_toArray, List.set_cons_succ, List.set_cons_zero]
                refine takeOp (i := 1) (v := ?_) (some 88) rfl rfl (by kernel_rfl) (by kernel_rfl) (by kernel_rfl) (fun _ _ _ h => h) (Or.inl ⟨by rfl, ?_⟩) (by assumption) ?_
                rotate_left 1
                · (intro w0 hSw; (try dsimp only at hSw); go_simp; try (with_reducible rfl))
                try simp only [Act.put, List.setIfInBounds_toArray, List.set_cons_succ, List.set_cons_zero]
                refine takeOp (i := 2) (v := ?_) (some 89) rfl rfl (by kernel_rfl) (by kernel_rfl) (by kernel_rfl) (fun _ _ _ h => h) (Or.inl ⟨by rfl, ?_⟩) (by assumption) ?_
                rotate_left 1
                · (intro w0 hSw; (try dsimp only at hSw); go_simp; try (with_reducible rfl))
                try simp only [Act.put, List.setIfInBounds_toArray, List.set_cons_succ, List.set_cons_zero]
                refine takeOp (i := 3) (v := ?_) (some 90) rfl rfl (by kernel_rfl) (by kernel_rfl) (by kernel_rfl) (fun _ _ _ h => h) (Or.inl ⟨by rfl, ?_⟩) (by assumption) ?_
                rotate_left 1
                · (intro w0 hSw; (try dsimp only at hSw); go_simp; try (with_reducible rfl))
                try simp only [Act.put, List.setIfInBounds_toArray, List.set_cons_succ, List.set_cons_zero]
                refine takeOp (i := 4) (v := ?_) (some 91) rfl rfl (by kernel_rfl) (by kernel_rfl) (by kernel_rfl) (fun _ _ _ h => h) (Or.inl ⟨by rfl, ?_⟩) (by assumption) ?_
                rotate_left 1
                · (intro w0 hSw; (try dsimp only at hSw); go_simp; try (with_reducible rfl))
                try simp only [Act.put, List.setIfInBounds_toArray, List.set_cons_succ, List.set_cons_zero]
                refine takeOp (i := 5) (v := ?_) (some 92) rfl rfl (by kernel_rfl) (by kernel_rfl) (by kernel_rfl) (fun _ _ _ h => h) (Or.inl ⟨by rfl, ?_⟩) (by assumption) ?_
                rotate_left 1
                · (intro w0 hSw; (try dsimp only at hSw); go_simp; try (with_reducible rfl))
                try simp only [Act.put, List.setIfInBounds_toArray, List.set_cons_succ, List.set_cons_zero]
                refine takeOp (i := 6) (v := ?_) (some 93) rfl rfl (by kernel_rfl) (by kernel_rfl) (by kernel_rfl) (fun _ _ _ h => h) (Or.inl ⟨by rfl, ?_⟩) (by assumption) ?_
                rotate_left 1
                · (intro w0 hSw; (try dsimp only at hSw); go_simp; try (with_reducible rfl))
                try simp only [Act.put, List.setIfInBounds_toArray, List.set_cons_succ, List.set_cons_zero]
                refine takeOp (i := 7) (v := ?_) (some 94) rfl rfl (by kernel_rfl) (by kernel_rfl) (by kernel_rfl) (fun _ _ _ h => h) (Or.inl ⟨by rfl, ?_⟩) (by assumption) ?_
                rotate_left 1
                · (intro w0 hSw; (try dsimp only at hSw); go_simp; try (with_reducible rfl))
                try simp only [Act.put, List.setIfInBounds_toArray, List.set_cons_succ, List.set_cons_zero]
                refine takeOp (i := 8) (v := ?_) (some 95) rfl rfl (by kernel_rfl) (by kernel_rfl) (by kernel_rfl) (fun _ _ _ h => h) (Or.inl ⟨by rfl, ?_⟩) (by assumption) ?_
                rotate_left 1
                · (intro w0 hSw; (try dsimp only at hSw); go_simp; try (with_reducible rfl))
                try simp only [Act.put, List.setIfInBounds_toArray, List.set_cons_succ, List.set_cons_zero]
                refine takeOp (i := 9) (v := ?_) (some 96) rfl rfl (by kernel_rfl) (by kernel_rfl) (by kernel_rfl) (fun _ _ _ h => h) (Or.inl ⟨by rfl, ?_⟩) (by assumption) ?_
                rotate_left 1
                · (intro w0 hSw; (try dsimp only at hSw); go_simp; try (with_reducible rfl))
                try simp only [Act.put, List.setIfInBounds_toArray, List.set_cons_succ, List.set_cons_zero]
                refine takeOp (i := 10) (v := ?_) (some 97) rfl rfl (by kernel_rfl) (by kernel_rfl) (by kernel_rfl) (fun _ _ _ h => h) (Or.inl ⟨by rfl, ?_⟩) (by assumption) ?_
                rotate_left 1
                · (intro w0 hSw; (try dsimp only at hSw); go_simp; try (with_reducible rfl))
                try simp only [Act.put, List.setIfInBounds_toArray, List.set_cons_succ, List.set_cons_zero]
                refine takeOp (i := 11) (v := ?_) (some 98) rfl rfl (by kernel_rfl) (by kernel_rfl) (by kernel_rfl) (fun _ _ _ h => h) (Or.inl ⟨by rfl, ?_⟩) (by assumption) ?_
                rotate_left 1
                · (intro w0 hSw; (try dsimp only at hSw); go_simp; try (with_reducible rfl))
                try simp only [Act.put, List.setIfInBounds_toArray, List.set_cons_succ, List.set_cons_zero]
                refine takeOp (i := 12) (v := ?_) (some 99) rfl rfl (by kernel_rfl) (by kernel_rfl) (by kernel_rfl) (fun _ _ _ h => h) (Or.inl ⟨by rfl, ?_⟩) (by assumption) ?_
                rotate_left 1
                · (intro w0 hSw; (try dsimp only at hSw); go_simp; try (with_reducible rfl))
                try simp only [Act.put, List.setIfInBounds_toArray, List.set_cons_succ, List.set_cons_zero]
                refine takeOp (i := 13) (v := undef) (some 100) rfl rfl (by kernel_rfl) (by kernel_rfl) (by kernel_rfl) (fun _ _ _ h => h) (Or.inr ⟨by rfl, rfl⟩) (by assumption) ?_
                try simp only [Act.put, List.setIfInBounds_toArray, List.set_cons_succ, List.set_cons_zero]
                refine takeOp (i := 14) (v := undef) (some 101) rfl rfl (by kernel_rfl) (by kernel_rfl) (by kernel_rfl) (fun _ _ _ h => h) (Or.inr ⟨by rfl, rfl⟩) (by assumption) ?_
                try simp only [Act.put, List.setIfInBounds_toArray, List.set_cons_succ, List.set_cons_zero]
                refine takeOp (i := 15) (v := undef) (some 102) rfl rfl (by kernel_rfl) (by kernel_rfl) (by kernel_rfl) (fun _ _ _ h => h) (Or.inr ⟨by rfl, rfl⟩) (by assumption) ?_
                try simp only [Act.put, List.setIfInBounds_toArray, List.set_cons_succ, List.set_cons_zero]
                refine takeOp (i := 16) (v := undef) (some 103) rfl rfl (by kernel_rfl) (by kernel_rfl) (by kernel_rfl) (fun _ _ _ h => h) (Or.inr ⟨by rfl, rfl⟩) (by assumption) ?_
                try simp only [Act.put, List.setIfInBounds_toArray, List.set_cons_succ, List.set_cons_zero]
                refine takeOp (i := 17) (v := undef) (some 104) rfl rfl (by kernel_rfl) (by kernel_rfl) (by kernel_rfl) (fun _ _ _ h => h) (Or.inr ⟨by rfl, rfl⟩) (by assumption) ?_
                try simp only [Act.put, List.setIfInBounds_toArray, List.set_cons_succ, List.set_cons_zero]
                refine takeOp (i := 18) (v := undef) (some 105) rfl rfl (by kernel_rfl) (by kernel_rfl) (by kernel_rfl) (fun _ _ _ h => h) (Or.inr ⟨by rfl, rfl⟩) (by assumption) ?_
                try simp only [Act.put, List.setIfInBounds_toArray, List.set_cons_succ, List.set_cons_zero]
                refine takeOp (i := 19) (v := undef) (some 106) rfl rfl (by kernel_rfl) (by kernel_rfl) (by kernel_rfl) (fun _ _ _ h => h) (Or.inr ⟨by rfl, rfl⟩) (by assumption) ?_
                try simp only [Act.put, List.setIfInBounds_toArray, List.set_cons_succ, List.set_cons_zero]
                refine takeOp (i := 20) (v := undef) (some 107) rfl rfl (by kernel_rfl) (by kernel_rfl) (by kernel_rfl) (fun _ _ _ h => h) (Or.inr ⟨by rfl, rfl⟩) (by assumption) ?_
                try simp only [Act.put, List.setIfInBounds_toArray, List.set_cons_succ, List.set_cons_zero]
                refine takeOp (i := 21) (v := undef) (some 108) rfl rfl (by kernel_rfl) (by kernel_rfl) (by kernel_rfl) (fun _ _ _ h => h) (Or.inr ⟨by rfl, rfl⟩) (by assumption) ?_
                try simp only [Act.put, List.setIfInBounds_toArray, List.set_cons_succ, List.set_cons_zero]
                refine takeOp (i := 22) (v := undef) (some 109) rfl rfl (by kernel_rfl) (by kernel_rfl) (by kernel_rfl) (fun _ _ _ h => h) (Or.inr ⟨by rfl, rfl⟩) (by assumption) ?_
                try simp only [Act.put, List.setIfInBounds_toArray, List.set_cons_succ, List.set_cons_zero]
                refine takeOp (i := 23) (v := undef) (some 110) rfl rfl (by kernel_rfl) (by kernel_rfl) (by kernel_rfl) (fun _ _ _ h => h) (Or.inr ⟨by rfl, rfl⟩) (by assumption) ?_
                try simp only [Act.put, List.setIfInBounds_toArray, List.set_cons_succ, List.set_cons_zero]
                refine takeOp (i := 24) (v := undef) (some 111) rfl rfl (by kernel_rfl) (by kernel_rfl) (by kernel_rfl) (fun _ _ _ h => h) (Or.inr ⟨by rfl, rfl⟩) (by assumption) ?_
                try simp only [Act.put, List.setIfInBounds_toArray, List.set_cons_succ, List.set_cons_zero]
                refine takeOp (i := 25) (v := undef) (some 112) rfl rfl (by kernel_rfl) (by kernel_rfl) (by kernel_rfl) (fun _ _ _ h => h) (Or.inr ⟨by rfl, rfl⟩) (by assumption) ?_
                try simp only [Act.put, List.setIfInBounds_toArray, List.set_cons_succ, List.set_cons_zero]
                refine takeOp (i := 26) (v := ?_) (some 113) rfl rfl (by kernel_rfl) (by kernel_rfl) (by kernel_rfl) (fun _ _ _ h => h) (Or.inl ⟨by rfl, ?_⟩) (by assumption) ?_
                rotate_left 1
                · (intro w0 hSw; (try dsimp only at hSw); go_simp; try (with_reducible rfl))
                try simp only [Act.put, List.setIfInBounds_toArray, List.set_cons_succ, List.set_cons_zero]
                refine wpAnyH_done (by kernel_rfl) ?_ _
                go_wp2_with fail
                go_meet
                case rel => exact ⟨by rw [HPX.out], (Below.refl _ _).drew⟩
            case rest =>
            obtain ⟨rfl, hb5⟩ := hcut
            generalize wc = w5 at *
            have HB5 := Lib.hid hb5
            have HOL5 := Lib.hid (own_keep HOL.out hb5)
            have HOW5 := Lib.hid (own_keep HOWN.out hb5)
            have HR75 := Lib.hid (HR7.out.up hb5)
            have HBX5 := Lib.hid (HBX.out.trans (hb5.mono HBX.out.size))
            clear b0 b1 u1 u2 y0 y1 hub z7 hb5
            cases pf with
            | false =>
              have HNX : Hid (n9 = ((Gs.take (q + 1)).filter p).length) := by show _ = _; rw [HTK.out, HPF.out, if_neg (by decide), List.append_nil]; exact HN9.out
              have HLC1 : Hid (FctCs B w ((Gs.take (q + 1)).filter p) lc) := by show FctCs _ _ _ _; rw [HTK.out, HPF.out, if_neg (by decide), List.append_nil]; exact HLC.out
              go_wp2_with fail
              go_roundw
              case rel => exact ⟨q + 1, n9, LA, LC, lc, HQL.out, by go_num, rfl, HNX.out, HOL5.out, HLC1.out, HOW5.out, HR75.out, HDJ.out, HBX5.out⟩
              case measure => have := HQL.out; simp [intOf]; omega
            | true =>
              have HNX : Hid (n9 + 1 = ((Gs.take (q + 1)).filter p).length) := by show _ = _; rw [HTK.out, HPF.out, if_pos rfl, List.length_append, ← HN9.out]; rfl
              have HLC1 : Hid (FctCs B w ((Gs.take (q + 1)).filter p) (lc ++ [.string fn, .slice YA fy.length YC])) := by show FctCs _ _ _ _; rw [HTK.out, HPF.out, if_pos rfl]; exact HLC.out.snoc HFY.out
              have c0 := (HKEEP.out w5 HB5.out).1
              have c1 := (HKEEP.out w5 HB5.out).2.1
              have c2 := (HKEEP.out w5 HB5.out).2.2.1
              have z5 := HR75.out.lt
              have z6 : gb < w5.heap.size := Nat.lt_of_lt_of_le hgb HB5.out.size
              have HNL : Hid (n9 ≤ 2000) := by show _ ≤ _; have h1 := HN9.out; have h2 := List.length_filter_le p (Gs.take q); rw [List.length_take] at h2; have := HLL.out; have := HL.out; omega
              have HOLA := Lib.hid (fun (o : Obj) => HOL5.out.alloc o)
              have HOWA := Lib.hid (fun (o : Obj) => own_keep HOW5.out (((Ext.refl w5).alloc o).below))
              have HR7A := Lib.hid (fun (o : Obj) => HR75.out.alloc o)
              have HZZ : Hid (W0.heap.size ≤ w5.heap.size) := HBX5.out.size
              have HNE7 := Lib.hid (own_ne_rowF HOL5.out HR75.out (by decide))
              have HDJG : Hid (∀ g, (Value.slice (some ⟨gb, 0, none⟩) l GC).ownBlock = some g → some g ≠ (Value.slice LA n9 LC).ownBlock) := fun g hg e => HDJ.out g hg e.symm
              go_wp2_with (at_builtin; refine appXFct rfl (.tmp 114) (.tmp 120) rfl W0.heap.size (.slice LA n9 LC) n9 lc rfl (HOLA.out _) (some ⟨w5.heap.size, 0, none⟩) 1 1 [.string fn, .slice YA fy.length YC] rfl rfl (Row.sl (Row.new w5 85 [.string fn, .slice YA fy.length YC])) (by intro z hz; simp at hz; rcases hz with rfl | rfl <;> rfl) (by have := HNL.out; omega) (by have := HZZ.out; simp; omega) ?_; intro v' w6 k1 k2 k3; obtain ⟨A9, C9, rfl, k4, k5, -⟩ := own_cut k1 (by decide); have HR76 := Lib.hid ((HR7A.out _).grown k2 (fun e => HNE7.out e.symm)); have HOW6 := Lib.hid (own_grown (HOWA.out _) k2 HDJG.out); have HK1 := Lib.hid k1; have HK2 := Lib.hid k2; have HK3 := Lib.hid k3; clear k1 k2 k3 k4 k5 c0 c1 c2 z5 z6)
              have HBX6 : Hid (Below W0.heap.size W0 w6) := (HBX5.out.alloc HBX5.out.size _).grown HK2.out (by rw [World.size_alloc]; have := HZZ.out; omega) (fun g hg => (HOL5.out.lt g hg).1)
              have HDJ6 : Hid (∀ g, (Value.slice (some ⟨gb, 0, none⟩) l GC).ownBlock = some g → (Value.slice A9 (n9 + 1) C9).ownBlock ≠ some g) := fun g hg e => by
                rcases HK3.out g e with h | h
                · exact HDJ.out g hg h
                · have h1 := (HOW5.out.lt g hg).2
                  rw [World.size_alloc] at h
                  omega
              go_roundw
              case rel => exact ⟨q + 1, n9 + 1, A9, C9, lc ++ [.string fn, .slice YA fy.length YC], HQL.out, by go_num, rfl, HNX.out, HK1.out, HLC1.out, HOW6.out, HR76.out, HDJ6.out, HBX6.out⟩
              case measure => have := HQL.out; simp [intOf]; omega
          · obtain rfl : q = l := by omega
            have hdl : decide ((q : Int) < (q : Int)) = false := decide_eq_false (by omega)
            have hnl : Gs.take q = Gs := List.take_of_length_le (by rw [← HL.out]; exact Nat.le_refl _)
            rw [hnl] at HN9 HLC
            have m0 := HR7.out.frozen 1
            have HN9L : Hid (n9 ≤ q) := by show _ ≤ _; rw [HN9.out, HL.out]; exact List.length_filter_le _ _
            clear hnl hql hog
            go_wp2_with fail
            have HR78 : Hid (Row (wr.setCell ⟨g7, 1, none⟩ (.slice LA n9 LC)) g7 31 [.slice SA S.length SC, .slice LA n9 LC]) := HR7.out.set 1 _
            have HO8 : Hid ((wr.setCell ⟨g7, 1, none⟩ (.slice LA n9 LC)).ownsRow W0.heap.size 85 2 (.slice LA n9 LC) n9 lc) := own_far HOL.out (own_ne_rowF HOL.out HR7.out (by decide)) _
            have HB8 : Hid (Below W0.heap.size W0 (wr.setCell ⟨g7, 1, none⟩ (.slice LA n9 LC))) := HBX.out.setCell (p := ⟨g7, 1, none⟩) HG7.out _
            go_roundw
            case rel => exact ⟨k + 1, m + 1, n9, Gs.filter p, LA, LC, lc, HKL.out, by go_num, by go_num, by have := HMK.out; omega, HN9.out, by have := HN9L.out; have := HLL.out; omega, fun f hf => HGR.out f (List.mem_filter.1 hf).1, HV.out, HR78.out, HO8.out, HLC.out, HB8.out⟩
            case measure => have := HKL.out; simp [intOf]; omega
    · obtain rfl : k = us.length := by omega
      have HV : Hid (refA S Fs 0 us = (0, Gs, m)) := by show _ = _; have h := HREF.out; rw [List.drop_length] at h; exact h
      have hdl : decide ((us.length : Int) < (us.length : Int)) = false := decide_eq_false (by omega)
      have q0 : wr.cell? ⟨w.heap.size + 1, 0, none⟩ = some (.slice none 0 0) := HR4.out.cell 0
      have q1 : wr.cell? ⟨w.heap.size + 1, 1, none⟩ = some (.slice none 0 0) := HR4.out.cell 1
      have q2 := HR4.out.frozen 0
      have q3 := HR4.out.frozen 1
      have z4 := HR4.out.lt
      clear hkl
      go_wp2_with fail
      obtain ⟨W5, hW5⟩ : ∃ V, V = (wr.setCell ⟨w.heap.size + 1, 0, none⟩ (.slice SA S.length SC)).setCell ⟨w.heap.size + 1, 1, none⟩ (.slice GA l GC) := ⟨_, rfl⟩
      rw [← hW5]
      have hr5 : Row W5 (w.heap.size + 1) 31 [.slice SA S.length SC, .slice GA l GC] := by rw [hW5]; exact (HR4.out.set 0 _).set 1 _
      have d0 : W5.cell? ⟨w.heap.size + 1, 0, none⟩ = some (.slice SA S.length SC) := hr5.cell 0
      have d1 : W5.cell? ⟨w.heap.size + 1, 1, none⟩ = some (.slice GA l GC) := hr5.cell 1
      have HB5 : Hid (Below w.heap.size w W5) := by
        show Below _ _ _
        rw [hW5]
        exact (HBW.out.setCell (p := ⟨w.heap.size + 1, 0, none⟩) (by show w.heap.size ≤ w.heap.size + 1; omega) _).setCell (p := ⟨w.heap.size + 1, 1, none⟩) (by show w.heap.size ≤ w.heap.size + 1; omega) _
      have HNG := Lib.hid (own_ne_rowF HOWN.out HR4.out (by decide))
      have HFM : Hid (W5.ownsRow w.heap.size 85 2 (.slice GA l GC) l gc) := by
        show World.ownsRow _ _ _ _ _ _ _
        rw [hW5]
        exact own_weaken (own_far (own_far HOWN.out HNG.out _) HNG.out _) (by have := HZ0.out; omega)
      clear hW5 q0 q1 q2 q3 hr5 b0 b1
      refine bodyPost_ret (v := .tuple #[.agg #[.slice SA S.length SC, .slice GA l GC], .int .i64 (m : Nat), .int .i64 0]) (by simp [results, Tryz.results33, go_sem, d0, d1]) rfl ⟨fun h => ?_, fun _ => ⟨GA, GC, gc, ?_, ?_, ?_⟩, HB5.out⟩
      · rw [HV.out] at h; exact absurd rfl h
      · rw [HV.out, ← HL.out]
      · rw [HV.out]; exact HGC.out
      · rw [HV.out, ← HL.out]; exact HFM.out
end
section
open Go.RowKit

def RelF (F : Cont) (Fs : List Fact) : Prop := Fs.Nodup ∧ (∀ nm, RL.SS (F nm)) ∧ ∀ nm x, x ∈ F nm ↔ (nm, x) ∈ Fs
theorem RelF.nil : RelF (fun _ => []) [] := ⟨List.nodup_nil, fun _ => List.Pairwise.nil, fun nm x => by simp⟩
theorem RelF.has {F : Cont} {Fs : List Fact} (h : RelF F Fs) (nm : ByteArray) (x : RL.R) : hasF Fs nm x = decide (x ∈ F nm) := by
  by_cases hx : x ∈ F nm
  · rw [decide_eq_true hx]; exact hasF_iff.2 ((h.2.2 nm x).1 hx)
  · rw [decide_eq_false hx]
    cases hh : hasF Fs nm x with
    | false => rfl
    | true => exact absurd ((h.2.2 nm x).2 (hasF_iff.1 hh)) hx
theorem nodup_len {α : Type} {l m : List α} (hl : l.Nodup) (hs : ∀ a ∈ l, a ∈ m) : l.length ≤ m.length := by
  classical
  induction l generalizing m with
  | nil => exact Nat.zero_le _
  | cons a l ih =>
    rw [List.nodup_cons] at hl
    obtain ⟨s, t, rfl⟩ := List.append_of_mem (hs a List.mem_cons_self)
    have := ih (m := s ++ t) hl.2 fun b hb => by
      have h1 := hs b (List.mem_cons_of_mem _ hb)
      rcases List.mem_append.1 h1 with h | h
      · exact List.mem_append.2 (.inl h)
      · rcases List.mem_cons.1 h with h | h
        · subst h; exact absurd hb hl.1
        · exact List.mem_append.2 (.inr h)
    simp only [List.length_append, List.length_cons] at this ⊢
    omega
theorem RelF.len {F : Cont} {Fs : List Fact} (h : RelF F Fs) (nm : ByteArray) : (F nm).length ≤ Fs.length := by
  have h1 : ((F nm).map fun x => ((nm, x) : Fact)).length ≤ Fs.length := by
    refine nodup_len ?_ fun f hf => ?_
    · have hn : (F nm).Nodup := (h.2.1 nm).imp fun {a b} hab e => by
        subst e
        have := (RL.tot_cmpR.z a a).2 rfl
        omega
      exact List.Pairwise.map _ (fun a b hab e => hab (by injection e)) hn
    · obtain ⟨x, hx, rfl⟩ := List.mem_map.1 hf
      exact (h.2.2 nm x).1 hx
  simpa using h1
theorem RelF.step {S : Sch} {F : Cont} {Fs : List Fact} (h : RelF F Fs) (u : Upd) (hc : checkF S u.rel u.row = 0) (hl : Fs.length < 4096) :
    (stepU S F u).1 = 0 ∧ RelF (stepU S F u).2.1 (refU Fs u).1 ∧ (stepU S F u).2.2 = (refU Fs u).2 := by
  obtain ⟨dl, nm, x⟩ := u
  have hc : checkF S nm x = 0 := hc
  have hlen := h.len nm
  have hhas := h.has nm x
  cases dl with
  | true =>
    by_cases hx : x ∈ F nm
    · rw [decide_eq_true hx] at hhas
      rw [step_del hc hx, refU_del hhas]
      refine ⟨rfl, ⟨h.1.filter _, fun n2 => ?_, fun n2 y => ?_⟩, rfl⟩
      · show RL.SS (if n2 = nm then RL.delF (F nm) x else F n2)
        split
        · exact (h.2.1 nm).del x
        · exact h.2.1 n2
      · show y ∈ (if n2 = nm then RL.delF (F nm) x else F n2) ↔ (n2, y) ∈ Fs.filter (fun f => !(decide (f.1 = nm) && decide (f.2 = x)))
        rw [List.mem_filter]
        split
        · rename_i e; subst e
          rw [RL.mem_delF, h.2.2 n2 y]
          simp
        · rename_i e
          rw [h.2.2 n2 y]
          simp [e]
    · rw [decide_eq_false hx] at hhas
      have hu : updF true (F nm) x = (0, RL.delF (F nm) x, false) := by
        unfold updF
        rw [if_pos rfl, decide_eq_false hx]
      have hs : stepU S F ⟨true, nm, x⟩ = (0, F, false) := by
        unfold stepU; rw [if_pos hc]
        show (if (updF true (F nm) x).1 = 0 then (0, if (updF true (F nm) x).2.2 = true then updC F nm (updF true (F nm) x).2.1 else F, (updF true (F nm) x).2.2) else ((updF true (F nm) x).1, F, false)) = _
        rw [hu]; rfl
      rw [hs, refU_no (u := ⟨true, nm, x⟩) hhas (by show false ≠ true; decide)]
      exact ⟨rfl, h, rfl⟩
  | false =>
    by_cases hx : x ∈ F nm
    · rw [decide_eq_true hx] at hhas
      have hu : updF false (F nm) x = (0, RL.insF (F nm) x, false) := by
        unfold updF
        rw [if_neg (by decide : ¬ (false = true)), if_neg (by omega), decide_eq_true hx]; rfl
      have hs : stepU S F ⟨false, nm, x⟩ = (0, F, false) := by
        unfold stepU; rw [if_pos hc]
        show (if (updF false (F nm) x).1 = 0 then (0, if (updF false (F nm) x).2.2 = true then updC F nm (updF false (F nm) x).2.1 else F, (updF false (F nm) x).2.2) else ((updF false (F nm) x).1, F, false)) = _
        rw [hu]; rfl
      rw [hs, refU_no (u := ⟨false, nm, x⟩) hhas (by show true ≠ false; decide)]
      exact ⟨rfl, h, rfl⟩
    · rw [decide_eq_false hx] at hhas
      rw [step_ins hc hx (by show (F nm).length < 4096; omega), refU_ins hhas]
      refine ⟨rfl, ⟨?_, fun n2 => ?_, fun n2 y => ?_⟩, rfl⟩
      · rw [List.nodup_append]
        refine ⟨h.1, by simp, fun a ha b hb e => ?_⟩
        rw [List.mem_singleton.1 hb] at e
        subst e
        exact hx ((h.2.2 nm x).2 ha)
      · show RL.SS (if n2 = nm then RL.insF (F nm) x else F n2)
        split
        · exact (h.2.1 nm).ins x
        · exact h.2.1 n2
      · show y ∈ (if n2 = nm then RL.insF (F nm) x else F n2) ↔ (n2, y) ∈ Fs ++ [(nm, x)]
        rw [List.mem_append, List.mem_singleton]
        split
        · rename_i e; subst e
          rw [RL.mem_insF, h.2.2 n2 y]
          simp
        · rename_i e
          rw [h.2.2 n2 y]
          simp [e]
end
section
open Go.RowKit

theorem step_check {S : Sch} {F : Cont} {u : Upd} (h : (stepU S F u).1 = 0) : checkF S u.rel u.row = 0 := by
  by_cases hc : checkF S u.rel u.row = 0
  · exact hc
  · unfold stepU at h; rw [if_neg hc] at h; exact h
def madeS (S : Sch) (d : Cont × List Fact) (u : Upd) : Cont × List Fact := if (stepU S d.1 u).1 = 0 then ((stepU S d.1 u).2.1, (refU d.2 u).1) else d
def madeF (S : Sch) (us : List Upd) : Cont × List Fact := us.foldl (madeS S) (fun _ => [], [])
theorem madeF_take (S : Sch) {us : List Upd} {k : Nat} (h : k < us.length) : madeF S (us.take (k + 1)) = madeS S (madeF S (us.take k)) us[k] := by
  unfold madeF
  rw [List.take_succ_eq_append_getElem h, List.foldl_append]
  rfl
theorem madeS_rel {S : Sch} {d : Cont × List Fact} (h : RelF d.1 d.2) (hl : d.2.length < 4096) (u : Upd) : RelF (madeS S d u).1 (madeS S d u).2 ∧ (madeS S d u).2.length ≤ d.2.length + 1 := by
  unfold madeS
  by_cases hs : (stepU S d.1 u).1 = 0
  · rw [if_pos hs]
    exact ⟨(h.step u (step_check hs) hl).2.1, refU_len _ _⟩
  · rw [if_neg hs]
    exact ⟨h, Nat.le_succ _⟩
theorem foldl_rel (S : Sch) : ∀ (us : List Upd) (d : Cont × List Fact), RelF d.1 d.2 → d.2.length + us.length ≤ 4096 → RelF (us.foldl (madeS S) d).1 (us.foldl (madeS S) d).2 ∧ (us.foldl (madeS S) d).2.length ≤ d.2.length + us.length
  | [], d, h, _ => ⟨h, Nat.le_refl _⟩
  | u :: us, d, h, hl => by
    simp only [List.length_cons] at hl
    obtain ⟨h1, h2⟩ := madeS_rel (S := S) h (by omega) u
    obtain ⟨h3, h4⟩ := foldl_rel S us _ h1 (by omega)
    refine ⟨h3, Nat.le_trans h4 ?_⟩
    simp only [List.length_cons]
    omega
theorem made_rel (S : Sch) (us : List Upd) (hl : us.length ≤ 4096) : RelF (madeF S us).1 (madeF S us).2 ∧ (madeF S us).2.length ≤ us.length := by
  obtain ⟨h1, h2⟩ := foldl_rel S us (fun _ => [], []) RelF.nil (by simpa using hl)
  exact ⟨h1, by show (us.foldl (madeS S) (fun _ => [], [])).2.length ≤ us.length; simpa using h2⟩
theorem applyF_one (S : Sch) (F : Cont) (u : Upd) : applyF S F 0 [u] = if (stepU S F u).1 = 0 then (0, (stepU S F u).2.1, if (stepU S F u).2.2 then 1 else 0) else ((stepU S F u).1, F, 0) := rfl
theorem refA_one (S : Sch) (Fs : List Fact) (u : Upd) (h : checkF S u.rel u.row = 0) : refA S Fs 0 [u] = (0, (refU Fs u).1, 0 + if (refU Fs u).2 = true then 1 else 0) := by
  show (if checkF S u.rel u.row = 0 then _ else _) = _
  rw [if_pos h]; rfl
theorem refU_rows {Fs : List Fact} {u : Upd} {n : Nat} (h : ∀ f ∈ Fs, f.2.length ≤ n) (hu : u.row.length ≤ n) : ∀ f ∈ (refU Fs u).1, f.2.length ≤ n := by
  unfold refU
  split
  · split
    · exact fun f hf => h f (List.mem_filter.1 hf).1
    · intro f hf
      rcases List.mem_append.1 hf with hf | hf
      · exact h f hf
      · rw [List.mem_singleton.1 hf]; exact hu
  · exact h
end
section
open Go.RowKit Go.Sort Go.ChangeMaps Go.WideShapes

theorem cmpI_neg (a b : Int) : RL.cmpI a b < 0 ↔ a < b := by unfold RL.cmpI; split <;> (try split) <;> omega
theorem cmpI_zero (a b : Int) : RL.cmpI a b = 0 ↔ a = b := by unfold RL.cmpI; split <;> (try split) <;> omega
theorem cmpV_kind {a b : RL.V} (h : a.kind ≠ b.kind) : decide (RL.cmpV a b < 0) = decide (a.kind < b.kind) := by
  apply decide_eq_decide.2
  unfold RL.cmpV RL.then2
  rw [if_neg (by rw [cmpI_zero]; exact h), cmpI_neg]
theorem cmpV_int {a b : RL.V} (h : a.kind = b.kind) (h2 : a.int ≠ b.int) : decide (RL.cmpV a b < 0) = decide (a.int < b.int) := by
  apply decide_eq_decide.2
  unfold RL.cmpV RL.then2
  rw [if_pos ((cmpI_zero _ _).2 h), if_neg (by rw [cmpI_zero]; exact h2), cmpI_neg]
theorem cmpV_str {a b : RL.V} (h : a.kind = b.kind) (h2 : a.int = b.int) : decide (RL.cmpV a b < 0) = decide (RL.cmpS a.str b.str < 0) := by
  apply decide_eq_decide.2
  unfold RL.cmpV RL.then2
  rw [if_pos ((cmpI_zero _ _).2 h), if_pos ((cmpI_zero _ _).2 h2)]

def kindsF (S : Sch) (nm : ByteArray) : List Int := match S.find? (fun p => decide (p.1 = nm)) with
  | none => []
  | some p => p.2
end
section
open Go.RowKit Go.Sort

section
variable {P : Program} {ops : Array Oper} {Q : Exit → Act → World → Prop} {md : Region.Mode} {S : World → Prop} {zs : List Nat}

def wpAnyS (P : Program) (md : Region.Mode) (ops : Array Oper) (Q : Exit → Act → World → Prop) (S : World → Prop) (zs : List Nat) : Nat → Array Bool → Act → World → Prop
  | 0, listed, a, w => Region.ready md ops listed = [] ∧ Q .normal a w
  | fuel + 1, listed, a, w =>
    (Region.ready md ops listed = [] → Q .normal a w) ∧
    ∀ i ∈ Region.ready md ops listed, wpOp P ops Q i (fun a' w' => (zs.contains i = false → S w → S w') ∧ wpAnyS P md ops Q S zs fuel (listed.setIfInBounds i true) a' w') a w
theorem wpAny_of_S : ∀ (fuel : Nat) (listed : Array Bool) (a : Act) (w : World), wpAnyS P md ops Q S zs fuel listed a w → wpAny P md ops Q fuel listed a w
  | 0, _, _, _, h => h
  | fuel + 1, _, _, _, h => ⟨h.1, fun i hi => wpOp_mono (fun a' w' h' => wpAny_of_S fuel _ a' w' h'.2) (h.2 i hi)⟩
def waitB (md : Region.Mode) (ops : Array Oper) (zs : List Nat) (i : Nat) : Bool := zs.all fun z => (reach md ops z 2).contains i
theorem not_listed {listed : Array Bool} {i : Nat} (hr : i ∈ Region.ready md ops listed) (h : listed.getD i false = true) : False := by
  obtain ⟨hun, oi, hoi, _⟩ := mem_ready.1 hr
  rcases Nat.lt_or_ge i listed.size with h' | h'
  · simp [h'] at hun h
    rw [hun] at h
    cases h
  · simp [Array.getElem?_eq_none h'] at h

theorem wpAnyS_first {i : Nat} {oi : Oper} {v : Value} (hz : waitB md ops zs i = true) (hiz : zs.contains i = false) (hi : ops[i]? = some oi) (hsel : ∀ (j : Nat) (o : Oper) cs b, ops[j]? = some o → o.op ≠ .select cs b)
    (hQ : ∀ c a w, Q (.panic c) (a.put oi.dst v) w → Q (.panic c) a w) :
    ∀ (fuel : Nat) (listed : Array Bool) (a : Act) (w : World), Cl md ops listed →
      (∀ j oj, ops[j]? = some oj → j ≠ i → listed.getD j true = false → (∀ e ∈ oj.after, Region.binds md e = true → e.on ≠ i) → oi.apart ops oj = true) →
      i ∈ Region.ready md ops listed → YieldsIf P ops S oi v a → S w →
      wpAnyS P md ops Q S zs fuel (listed.setIfInBounds i true) (a.put oi.dst v) w → wpAnyS P md ops Q S zs (fuel + 1) listed a w
  | 0, listed, a, w, _, _, hr, hy, hS, H => by
    refine ⟨fun h => (by rw [h] at hr; cases hr), fun j hj => ?_⟩
    by_cases hji : j = i
    · subst hji; exact hy.wpOp hi hS ⟨fun _ _ => hS, H⟩
    · have := ready_mono hj hji
      rw [H.1] at this
      cases this
  | fuel + 1, listed, a, w, hc, hfree, hr, hy, hS, H => by
    refine ⟨fun h => (by rw [h] at hr; cases hr), fun j hj => ?_⟩
    by_cases hji : j = i
    · subst hji; exact hy.wpOp hi hS ⟨fun _ _ => hS, H⟩
    · have hjz : zs.contains j = false := by
        cases h : zs.contains j with
        | false => rfl
        | true =>
          have h1 := List.all_eq_true.1 hz j (by simpa using h)
          exact (not_listed hr (reach_listed hc hj 2 i (by simpa using h1))).elim
      have h1 := H.2 j (ready_mono hj hji)
      obtain ⟨hjun, oj, hoj, hall⟩ := mem_ready.1 hj
      have hnot : ∀ e ∈ oj.after, Region.binds md e = true → e.on ≠ i := fun e he hb heq => by
        have h2 := hall e he hb
        rw [heq] at h2
        exact not_listed hr h2
      have h2 := wpOp_putIf hoj (hfree j oj hoj hji hjun hnot) (fun cs b => hsel i oi cs b hi) (fun cs b => hsel j oj cs b hoj) hQ hy h1
      refine wpOp_mono (fun a' w' h3 => ⟨h3.2.1, wpAnyS_first hz hiz hi hsel hQ fuel (listed.setIfInBounds j true) a' w' (hc.step hj) (fun k ok hk hki hun hno => ?_) (ready_mono hr (Ne.symm hji)) h3.1 (h3.2.1 hjz hS) ?_⟩) h2
      · refine hfree k ok hk hki ?_ hno
        by_cases hjk : j = k
        · subst hjk; exact hjun
        · rw [getD_set_ne true hjk] at hun; exact hun
      · rw [Array.setIfInBounds_comm _ _ hji]
        exact h3.2.2
theorem wpAnyS_free {i : Nat} {oi : Oper} {v : Value} (hi : ops[i]? = some oi) (hsel : ∀ (j : Nat) (o : Oper) cs b, ops[j]? = some o → o.op ≠ .select cs b)
    (hQ : ∀ c a w, Q (.panic c) (a.put oi.dst v) w → Q (.panic c) a w) :
    ∀ (fuel : Nat) (listed : Array Bool) (a : Act) (w : World),
      (∀ j oj, ops[j]? = some oj → j ≠ i → listed.getD j true = false → (∀ e ∈ oj.after, Region.binds md e = true → e.on ≠ i) → oi.apart ops oj = true) →
      i ∈ Region.ready md ops listed → YieldsIf P ops (fun _ => True) oi v a →
      wpAnyS P md ops Q S zs fuel (listed.setIfInBounds i true) (a.put oi.dst v) w → wpAnyS P md ops Q S zs (fuel + 1) listed a w
  | 0, listed, a, w, _, hr, hy, H => by
    refine ⟨fun h => (by rw [h] at hr; cases hr), fun j hj => ?_⟩
    by_cases hji : j = i
    · subst hji; exact hy.wpOp hi trivial ⟨fun _ h => h, H⟩
    · have := ready_mono hj hji
      rw [H.1] at this
      cases this
  | fuel + 1, listed, a, w, hfree, hr, hy, H => by
    refine ⟨fun h => (by rw [h] at hr; cases hr), fun j hj => ?_⟩
    by_cases hji : j = i
    · subst hji; exact hy.wpOp hi trivial ⟨fun _ h => h, H⟩
    · have h1 := H.2 j (ready_mono hj hji)
      obtain ⟨hjun, oj, hoj, hall⟩ := mem_ready.1 hj
      have hnot : ∀ e ∈ oj.after, Region.binds md e = true → e.on ≠ i := fun e he hb heq => by
        have h2 := hall e he hb
        rw [heq] at h2
        exact not_listed hr h2
      have h2 := wpOp_putIf hoj (hfree j oj hoj hji hjun hnot) (fun cs b => hsel i oi cs b hi) (fun cs b => hsel j oj cs b hoj) hQ hy h1
      refine wpOp_mono (fun a' w' h3 => ⟨h3.2.1, wpAnyS_free hi hsel hQ fuel (listed.setIfInBounds j true) a' w' (fun k ok hk hki hun hno => ?_) (ready_mono hr (Ne.symm hji)) h3.1 ?_⟩) h2
      · refine hfree k ok hk hki ?_ hno
        by_cases hjk : j = k
        · subst hjk; exact hjun
        · rw [getD_set_ne true hjk] at hun; exact hun
      · rw [Array.setIfInBounds_comm _ _ hji]
        exact h3.2.2

theorem takeS {i : Nat} {oi : Oper} {v : Value} {fuel : Nat} {listed : Array Bool} {a : Act} {w : World} (d : Option Tmp) (hi : ops[i]? = some oi) (hd : oi.dst = d)
    (hz : waitB md ops zs i = true) (hiz : zs.contains i = false) (hcl : clB md ops listed = true) (hs : Region.noSelect ops = true) (hf : Region.free md ops listed i = true) (hr : (Region.ready md ops listed).contains i = true)
    (hQ : ∀ c a w, Q (.panic c) (a.put d v) w → Q (.panic c) a w) (hy : YieldsIf P ops S oi v a) (hS : S w)
    (h : wpAnyS P md ops Q S zs fuel (listed.setIfInBounds i true) (a.put d v) w) : wpAnyS P md ops Q S zs (fuel + 1) listed a w := by
  subst hd
  exact wpAnyS_first hz hiz hi (Region.noSelect_spec hs) hQ fuel listed a w (Cl.of hcl) (Region.free_spec hi hf) (by simpa using hr) hy hS h
theorem takeFree {i : Nat} {oi : Oper} {v : Value} {fuel : Nat} {listed : Array Bool} {a : Act} {w : World} (d : Option Tmp) (hi : ops[i]? = some oi) (hd : oi.dst = d)
    (hs : Region.noSelect ops = true) (hf : Region.free md ops listed i = true) (hr : (Region.ready md ops listed).contains i = true)
    (hQ : ∀ c a w, Q (.panic c) (a.put d v) w → Q (.panic c) a w) (hy : YieldsIf P ops (fun _ => True) oi v a)
    (h : wpAnyS P md ops Q S zs fuel (listed.setIfInBounds i true) (a.put d v) w) : wpAnyS P md ops Q S zs (fuel + 1) listed a w := by
  subst hd
  exact wpAnyS_free hi (Region.noSelect_spec hs) hQ fuel listed a w (Region.free_spec hi hf) (by simpa using hr) hy h
theorem oneS {i : Nat} {o : Oper} {fuel : Nat} {listed : Array Bool} {a : Act} {w : World} (hr : Region.ready md ops listed = [i]) (ho : ops[i]? = some o)
    (h : ∀ K' : Act → World → Prop, Shut (∀ a w, S w → (S w → wpAnyS P md ops Q S zs fuel (listed.setIfInBounds i true) a w) → K' a w) → if Region.wanted o (yielded ops a.tmps) = true then Oper.wp P o a w K' Q else K' (a.put o.dst undef) w) :
    wpAnyS P md ops Q S zs (fuel + 1) listed a w := by
  refine ⟨(fun h0 => by rw [hr] at h0; cases h0), fun j hj => ?_⟩
  rw [hr] at hj
  obtain rfl : j = i := by simpa using hj
  exact wpOp_step ho (fun K' hK => h K' (fun a w hS hW => hK a w ⟨fun _ _ => hS, hW hS⟩))
theorem oneL {i : Nat} {o : Oper} {fuel : Nat} {listed : Array Bool} {a : Act} {w : World} (hr : Region.ready md ops listed = [i]) (ho : ops[i]? = some o) (hiz : zs.contains i = true)
    (h : ∀ K' : Act → World → Prop, Shut (∀ a w, wpAnyS P md ops Q S zs fuel (listed.setIfInBounds i true) a w → K' a w) → if Region.wanted o (yielded ops a.tmps) = true then Oper.wp P o a w K' Q else K' (a.put o.dst undef) w) :
    wpAnyS P md ops Q S zs (fuel + 1) listed a w := by
  refine ⟨(fun h0 => by rw [hr] at h0; cases h0), fun j hj => ?_⟩
  rw [hr] at hj
  obtain rfl : j = i := by simpa using hj
  exact wpOp_step ho (fun K' hK => h K' (fun a w hW => hK a w ⟨(fun h0 => by rw [hiz] at h0; cases h0), hW⟩))
theorem doneS {listed : Array Bool} {a : Act} {w : World} (hr : Region.ready md ops listed = []) (h : Q .normal a w) : ∀ fuel, wpAnyS P md ops Q S zs fuel listed a w
  | 0 => ⟨hr, h⟩
  | _ + 1 => ⟨fun _ => h, by rw [hr]; simp⟩
theorem regionS {id : Nat} {a : Act} {w : World} (zs : List Nat) (hm : P.follows .mixedOrders = true) (hS : S w.drew)
    (h : S w.drew → wpAnyS P .any ops Q S zs ops.size (Array.replicate ops.size false) a w.drew) : (Code.region id ops true).wp P Q a w :=
  wp_region_any hm (wpAny_of_S _ _ _ _ (h hS))
end
end
end Go.Proofs.YtdadchpiibipoaaGreatDoor

/- Walk: a database's Schema. -/
import Derived.Test.YtdadchpiibipoaaGreatDoorHC34
namespace Go.Proofs.YtdadchpiibipoaaGreatDoor
open Go.RowKit Go.Sort Go.ChangeMaps Go.WideShapes

def SchPost (S : Sch) (nm : ByteArray) (w : World) (e : Ending) (w' : World) : Prop :=
  (∀ ks, (nm, ks) ∈ S → ∃ KA KC, e = .returned (.tuple #[.agg #[.string nm, .slice KA ks.length KC], .bool true]) ∧ SlIP (fun c => w.heap.size ≤ c) w' KA ks) ∧
  (memB nm (S.map Prod.fst) = false → e = .returned (.tuple #[.agg #[.string ⟨#[]⟩, .slice none 0 0], .bool false])) ∧ Below w.heap.size w w'
set_option maxHeartbeats 4000000 in
set_option maxRecDepth 100000 in
theorem ctSchema_any {P : Nat → Prop} {S : Sch} {m : Value} {F : Cont} (nm : ByteArray) (hnm : nm.size ≤ 281474976710656) (w : World) (hd : DbM P S w m F) (hnd : (S.map Prod.fst).Nodup) :
    Calls Tryz.prog 25 #[.agg #[m], .string nm] w (SchPost S nm w) := by
  have hnmk : nm.size ≤ 9223372036854775807 := by omega
  obtain ⟨b, D, rfl, -, hown, hent⟩ := hd.ents
  obtain ⟨W0, hW0⟩ : ∃ W0, W0 = (w.alloc (.cells #[.map (some b)] 28)).alloc (.cells #[.string ⟨#[]⟩, .slice none 0 0] 62) := ⟨_, rfl⟩
  have hb0 : Below w.heap.size w W0 := by rw [hW0]; exact (((Ext.refl w).alloc _).alloc _).below
  have hr1 : Row W0 w.heap.size 28 [.map (some b)] := by rw [hW0]; exact (Row.new w 28 _).alloc _
  have hr2 : Row W0 (w.heap.size + 1) 62 [.string ⟨#[]⟩, .slice none 0 0] := by
    have h := Row.new (w.alloc (.cells #[.map (some b)] 28)) 62 [.string ⟨#[]⟩, .slice none 0 0]
    rw [World.size_alloc] at h
    rw [hW0]; exact h
  have hm0 := map_up hown hb0
  have f0 : W0.cell? ⟨w.heap.size, 0, none⟩ = some (.map (some b)) := hr1.cell 0
  have z1 := hr1.lt
  cases hm : memB nm (S.map Prod.fst) with
  | false =>
    have hlk := (look_no keyedS Tryz.underlying26 zeroEnt hm0 (keyS hnmk) (by rw [hent.has nm]; exact hm)).1
    have HNO : Hid (∀ ks, (nm, ks) ∉ S) := fun ks h => memB_no hm (List.mem_map.2 ⟨_, h, rfl⟩)
    obtain ⟨W1, hW1⟩ : ∃ W, W = W0.alloc (.cells #[.slice none 0 0, .int .i64 0, .slice none 0 0] 99) := ⟨_, rfl⟩
    have hb1 : Below w.heap.size w W1 := by rw [hW1]; exact hb0.alloc hb0.size _
    have hr3 : Row W1 (w.heap.size + 1) 62 [.string ⟨#[]⟩, .slice none 0 0] := by rw [hW1]; exact hr2.alloc _
    have HB1 := Lib.hid hb1
    have HR3 := Lib.hid hr3
    clear hown hent hm0 hr1 hr2 hb0 hb1 hr3 hd hm
    go_enter Tryz.func25, Tryz.ntmps25
    go_upto_region 1 with (fail)
    rw [← hW0]
    clear hW0
    go_upto_region 2 with (fail)
    rw [← hW1]
    clear hW1 f0 z1 hlk
    have c3 : W1.cell? ⟨w.heap.size + 1, 0, none⟩ = some (.string ⟨#[]⟩) := HR3.out.cell 0
    have c4 : W1.cell? ⟨w.heap.size + 1, 1, none⟩ = some (.slice none 0 0) := HR3.out.cell 1
    have c5 := HR3.out.frozen 0
    have c6 := HR3.out.frozen 1
    have c7 := HR3.out.lt
    go_wp2_with fail
    obtain ⟨W2, hW2⟩ : ∃ W, W = (W1.setCell ⟨w.heap.size + 1, 0, none⟩ (.string ⟨#[]⟩)).setCell ⟨w.heap.size + 1, 1, none⟩ (.slice none 0 0) := ⟨_, rfl⟩
    rw [← hW2]
    have r2 : Row W2 (w.heap.size + 1) 62 [.string ⟨#[]⟩, .slice none 0 0] := by rw [hW2]; exact HR3.out.set2 _ _
    have d0 := r2.cell 0
    have d1 := r2.cell 1
    simp only [List.getElem?_cons_zero, List.getElem?_cons_succ] at d0 d1
    have hb2 : Below w.heap.size w W2 := by rw [hW2]; exact (HB1.out.setCell (p := ⟨w.heap.size + 1, 0, none⟩) (by show w.heap.size ≤ w.heap.size + 1; omega) _).setCell (p := ⟨w.heap.size + 1, 1, none⟩) (by show w.heap.size ≤ w.heap.size + 1; omega) _
    exact bodyPost_ret (v := .tuple #[.agg #[.string ⟨#[]⟩, .slice none 0 0], .bool false]) (by simp [results, Tryz.results25, go_sem, d0, d1]) rfl ⟨fun ks h => absurd h (HNO.out ks), fun _ => rfl, hb2⟩
  | true =>
    obtain ⟨p, hp, hpe⟩ := List.mem_map.1 (memB_iff.1 hm)
    obtain ⟨nm2, ks⟩ := p
    have hpe : nm2 = nm := hpe
    subst hpe
    obtain ⟨val, hv1, KA, KC, A, C, rfl, hk6, hki, hxc, hxm, hsl, hro⟩ := hent.2.2 (nm2, ks) hp
    have hlk0 := (look_yes keyedS Tryz.underlying26 zeroEnt hm0 (keyS hnmk) hv1).1
    have HKS : Hid (∀ ks', (nm2, ks') ∈ S → ks' = ks) := fun ks' h => (kindsOf_mem hnd h).symm.trans (kindsOf_mem hnd hp)
    obtain ⟨xl, hxl⟩ : ∃ xl, xl = (F nm2).length := ⟨_, rfl⟩
    obtain ⟨W1, hW1⟩ : ∃ W, W = W0.alloc (.cells #[.slice KA ks.length KC, .int .i64 (ks.length : Nat), .slice A xl C] 99) := ⟨_, rfl⟩
    have hb1 : Below w.heap.size w W1 := by rw [hW1]; exact hb0.alloc hb0.size _
    have HB1 := Lib.hid hb1
    have HR3 : Hid (Row W1 (w.heap.size + 1) 62 [.string ⟨#[]⟩, .slice none 0 0]) := by show Row _ _ _ _; rw [hW1]; exact hr2.alloc _
    have HR4X : Hid (Row W1 W0.heap.size 99 [.slice KA ks.length KC, .int .i64 (ks.length : Nat), .slice A xl C]) := by show Row _ _ _ _; rw [hW1]; exact Row.new W0 _ _
    have HMM := Lib.hid hm
    have hk6 : ks.length ≤ 6 := hk6
    have HKI : Hid (SlI .i64 w.heap.size w KA ks) := fun hne => by
      obtain ⟨b', o', e', hb', -, hc'⟩ := hki (by intro h0; have h0 : ks = [] := h0; rw [h0] at hne; exact hne rfl)
      exact ⟨b', o', e', hb', hc'⟩
    have hlk : (Instr.lookup 26 (.map (some b)) (.string nm2) true).run Tryz.prog W0 = .ok (.tuple #[.agg #[.slice KA ks.length KC, .int .i64 (ks.length : Nat), .slice A xl C], .bool true]) W0 := by rw [hxl]; exact hlk0
    have hz0 : w.heap.size + 1 < W0.heap.size := hr2.lt
    clear hlk0 hown hent hm0 hr1 hr2 hb0 hb1 hd hm hv1 hki hsl hro hxc hxm hp hxl
    generalize hnm2 : nm2 = nm at *
    clear hnm2
    go_enter Tryz.func25, Tryz.ntmps25
    go_upto_region 1 with (fail)
    rw [← hW0]
    clear hW0
    go_upto_region 4 with (fail)
    rw [← hW1]
    clear hW1 f0 z1 hlk
    obtain ⟨b6, hb6⟩ : ∃ b, b = W0.heap.size := ⟨_, rfl⟩
    rw [← hb6] at HR4X hz0 ⊢
    have HNE : Hid (w.heap.size + 1 ≠ b6) := by show _ ≠ _; omega
    have HSC := Lib.hid (fun (V : World) => sClone_any nm hnm V)
    have HCI : Hid (∀ V, Below W1.heap.size W1 V → Calls Tryz.prog 48 #[.slice KA ks.length KC] V fun e w' => ∃ v, e = .returned v ∧ w'.ownsRow V.heap.size 3 1 v ks.length (ks.map (Value.int .i64)) ∧ Below V.heap.size V w') := fun V hb => cloneInt_any KA KC ks V ((HKI.out.below (HB1.out.trans (hb.mono HB1.out.size)) (Nat.le_refl _)).more (HB1.out.trans (hb.mono HB1.out.size)).size) (by omega)
    have HKP : Hid (∀ V, Below W1.heap.size W1 V → V.cell? ⟨b6, 0, none⟩ = some (.slice KA ks.length KC)) := fun V hb => (HR4X.out.up hb).cell 0
    have hb6w : b6 < W1.heap.size := HR4X.out.lt
    have c7 := HR3.out.lt
    clear hb6
    refine wp_region_held_drew (S := (fun w' => w'.cell? ⟨b6, 0, none⟩ = some (.slice KA ks.length KC))) (by kernel_rfl) (HKP.out W1.drew (Below.refl _ _).drew) (fun hHeld => ?_)
    obtain ⟨V0, hV0⟩ : ∃ V, V = W1.drew := ⟨_, rfl⟩
    have HV : Hid (Below W1.heap.size W1 V0) := by show Below _ _ _; rw [hV0]; exact (Below.refl _ _).drew
    have HR4 : Hid (Row V0 (w.heap.size + 1) 62 [.string ⟨#[]⟩, .slice none 0 0]) := by show Row _ _ _ _; rw [hV0]; exact HR3.out.drew
    rw [← hV0] at hHeld ⊢
    clear hV0
    refine takeOp (i := 0) (v := ?_) (some 18) rfl rfl (by kernel_rfl) (by kernel_rfl) (by kernel_rfl) (fun _ _ _ h => h) (Or.inl ⟨by rfl, ?_⟩) (by assumption) ?_
    rotate_left 1
    · (intro w0 hSw; (try dsimp only at hSw); go_simp; try (with_reducible rfl))
    try simp only [Act.put, List.setIfInBounds_toArray, List.set_cons_succ, List.set_cons_zero]
    refine takeOp (i := 2) (v := ?_) (some 20) rfl rfl (by kernel_rfl) (by kernel_rfl) (by kernel_rfl) (fun _ _ _ h => h) (Or.inl ⟨by rfl, ?_⟩) (by assumption) ?_
    rotate_left 1
    · (intro w0 hSw; (try dsimp only at hSw); go_simp; try (with_reducible rfl))
    try simp only [Act.put, List.setIfInBounds_toArray, List.set_cons_succ, List.set_cons_zero]
    refine takeOp (i := 3) (v := ?_) (some 21) rfl rfl (by kernel_rfl) (by kernel_rfl) (by kernel_rfl) (fun _ _ _ h => h) (Or.inl ⟨by rfl, ?_⟩) (by assumption) ?_
    rotate_left 1
    · (intro w0 hSw; (try dsimp only at hSw); go_simp; try (with_reducible rfl))
    try simp only [Act.put, List.setIfInBounds_toArray, List.set_cons_succ, List.set_cons_zero]
    refine wpAnyH_ready (rs := [1]) (by kernel_rfl) (by simp) ?_
    refine (AllReadyH.cons rfl (fun K hK => ?_) AllReadyH.nil)
    go_simp
    refine (HSC.out V0).mono ?_
    rintro e V1 ⟨rfl, hb⟩
    have HR4 := Lib.hid (HR4.out.up hb)
    have HV := Lib.hid (Below.then HV.out hb HV.out.size)
    clear hb
    go_wp2_with fail
    refine hK.out _ _ (HKP.out V1 HV.out) (fun hHeld => ?_)
    clear hK K
    try simp only [Act.put, List.setIfInBounds_toArray, List.set_cons_succ, List.set_cons_zero]
    refine wpAnyH_ready (rs := [4]) (by kernel_rfl) (by simp) ?_
    refine (AllReadyH.cons rfl (fun K hK => ?_) AllReadyH.nil)
    go_simp
    refine (HCI.out V1 HV.out).mono ?_
    rintro e V2 ⟨v, rfl, hown, hb⟩
    obtain ⟨CA, CC, rfl, hcc, hcm, -⟩ := own_cut hown (by decide)
    have HCL : Hid (SlIP (fun c => w.heap.size + 1 < c) V2 CA ks) := own_slip (P := fun c => w.heap.size + 1 < c) hown rfl fun b hb2 => by have h1 : V1.heap.size ≤ b := hb2; have := HR4.out.lt; omega
    have HR4 := Lib.hid (HR4.out.up hb)
    have HV := Lib.hid (Below.then HV.out hb HV.out.size)
    clear hb hown hcc hcm
    go_wp2_with fail
    refine hK.out _ _ (HKP.out V2 HV.out) (fun hHeld => ?_)
    clear hK K
    try simp only [Act.put, List.setIfInBounds_toArray, List.set_cons_succ, List.set_cons_zero]
    refine takeOp (i := 5) (v := ?_) (some 23) rfl rfl (by kernel_rfl) (by kernel_rfl) (by kernel_rfl) (fun _ _ _ h => h) (Or.inl ⟨by rfl, ?_⟩) (by assumption) ?_
    rotate_left 1
    · (intro w0 hSw; (try dsimp only at hSw); go_simp; try (with_reducible rfl))
    try simp only [Act.put, List.setIfInBounds_toArray, List.set_cons_succ, List.set_cons_zero]
    refine wpAnyH_ready (rs := [6]) (by kernel_rfl) (by simp) ?_
    refine (AllReadyH.cons rfl (fun K hK => ?_) AllReadyH.nil)
    have m0 : V2.cell? ⟨w.heap.size + 1, 0, none⟩ = some (.string ⟨#[]⟩) := HR4.out.cell 0
    have m1 : V2.cell? ⟨w.heap.size + 1, 1, none⟩ = some (.slice none 0 0) := HR4.out.cell 1
    have m2 := HR4.out.frozen 0
    have m3 := HR4.out.frozen 1
    have m4 := HR4.out.lt
    go_simp
    obtain ⟨V3, hV⟩ : ∃ V', V' = (V2.setCell ⟨w.heap.size + 1, 0, none⟩ (.string nm)).setCell ⟨w.heap.size + 1, 1, none⟩ (.slice CA ks.length CC) := ⟨_, rfl⟩
    rw [← hV]
    have HR4 : Hid (Row V3 (w.heap.size + 1) 62 [.string nm, .slice CA ks.length CC]) := by show Row _ _ _ _; rw [hV]; exact HR4.out.set2 _ _
    have HCL : Hid (SlIP (fun c => w.heap.size + 1 < c) V3 CA ks) := by show SlIP _ _ _ _; rw [hV]; exact (HCL.out.keep (Stay.set (fun h => Nat.lt_irrefl _ h) 0 _)).keep (Stay.set (fun h => Nat.lt_irrefl _ h) 1 _)
    have HVB : Hid (Below w.heap.size w V3) := by show Below _ _ _; rw [hV]; exact ((HB1.out.trans (HV.out.mono HB1.out.size)).setCell (p := ⟨w.heap.size + 1, 0, none⟩) (by show w.heap.size ≤ w.heap.size + 1; omega) _).setCell (p := ⟨w.heap.size + 1, 1, none⟩) (by show w.heap.size ≤ w.heap.size + 1; omega) _
    have HKX : Hid (V3.cell? ⟨b6, 0, none⟩ = some (.slice KA ks.length KC)) := by show _ = _; rw [hV]; exact ((World.cell?_setCell_other _ _ _ _ (fun e => HNE.out (congrArg Addr.block e))).trans (World.cell?_setCell_other _ _ _ _ (fun e => HNE.out (congrArg Addr.block e)))).trans (HKP.out _ HV.out)
    clear hV m0 m1 m2 m3 m4
    refine hK.out _ _ HKX.out (fun hHeld => ?_)
    clear hK K
    try simp only [Act.put, List.setIfInBounds_toArray, List.set_cons_succ, List.set_cons_zero]
    refine takeOp (i := 7) (v := ?_) (some 5) rfl rfl (by kernel_rfl) (by kernel_rfl) (by kernel_rfl) (fun _ _ _ h => h) (Or.inl ⟨by rfl, ?_⟩) (by assumption) ?_
    rotate_left 1
    · (intro w0 hSw; (try dsimp only at hSw); go_simp; try (with_reducible rfl))
    try simp only [Act.put, List.setIfInBounds_toArray, List.set_cons_succ, List.set_cons_zero]
    refine wpAnyH_done (by kernel_rfl) ?_ _
    have d0 : V3.cell? ⟨w.heap.size + 1, 0, none⟩ = some (.string nm) := HR4.out.cell 0
    have d1 : V3.cell? ⟨w.heap.size + 1, 1, none⟩ = some (.slice CA ks.length CC) := HR4.out.cell 1
    go_wp2_with fail
    refine bodyPost_ret (v := .tuple #[.agg #[.string nm, .slice CA ks.length CC], .bool true]) (by simp [results, Tryz.results25, go_sem, d0, d1]) rfl ⟨fun ks' h => ?_, fun h => absurd (HMM.out.symm.trans h) (by decide), HVB.out⟩
    have e := HKS.out ks' h
    subst e
    exact ⟨CA, CC, rfl, HCL.out.weak fun c _ h => by have h : w.heap.size + 1 < c := h; omega⟩
end Go.Proofs.YtdadchpiibipoaaGreatDoor

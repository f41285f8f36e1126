/- Parts of the proof, merged: Z19, Z20, Z25, Z26, Z27, Z41, V29, W2, Z29. -/
import Derived.Test.YtgaffbdcpkbdhaaGreatQ5
import Derived.Test.YtgaffbdcpkbdhaaGreatQ2
import Derived.Test.YtgaffbdcpkbdhaaGreatRows
import Derived.Test.YtgaffbdcpkbdhaaGreatQ1

section
/- Walks: the zero Store. -/
namespace Go.Proofs
open Go.RowKit Go.Maps Go.Sort Go.Shelf
set_option maxHeartbeats 2000000 in
set_option maxRecDepth 100000 in
theorem YtgaffbdcpkbdhaaGreat.versions_nil (l : Int) (w : World) : Calls Tryz.prog 18 #[.agg #[.map none, .int .i64 l]] w fun e w' => e = .returned (.slice none 0 0) ∧ Below w.heap.size w w' := by
  refine (callsIn_wide (n := 6)).1 ?_
  obtain ⟨W0, hW0⟩ : ∃ W0, W0 = w.alloc (.cells #[.map none, .int .i64 l] 35) := ⟨_, rfl⟩
  have hb0 : Below w.heap.size w W0 := by rw [hW0]; exact (Below.refl _ w).alloc (Nat.le_refl _) _
  have hseq : SeqGives Fence.wide 2 Tryz.prog 57 #[.pointer (some ⟨W0.heap.size, 0, none⟩)] encZ (fun ss : List Int => ss = []) 0 (W0.alloc (.cells #[.map none] 33)) :=
    AnyZI.keys_gives_nil (ρ := YtgaffbdcpkbdhaaGreat.keysV_ren) { YtgaffbdcpkbdhaaGreat.keysV with } Fence.wide _ trivial rfl W0.heap.size _ (by simp) (by simp)
  have cK : ∀ mb W, CallsIn Fence.wide 5 Tryz.prog 39 #[.map mb] W fun e w' => e = .returned (.func (.func 57) #[] #[.pointer (some ⟨W.heap.size, 0, none⟩)]) ∧ w' = W.alloc (.cells #[.map mb] 33) := fun mb W => AnyZI.keys_in YtgaffbdcpkbdhaaGreat.keysV Fence.wide 5 trivial rfl mb W
  have cS := AnyZI.sorted_in YtgaffbdcpkbdhaaGreat.sortedV Fence.wide 5 trivial trivial trivial trivial rfl (by omega) (YtgaffbdcpkbdhaaGreat.sortsV _) (enters_of Tryz.func37 (by kernel_rfl) rfl) 57 #[.pointer (some ⟨W0.heap.size, 0, none⟩)] trivial (enters_of Tryz.func57 (by kernel_rfl) rfl) _ 0 (Nat.zero_le _) (by omega) _ hseq
  change CallsIn _ _ Tryz.prog 38 _ _ _ at cS
  have HW0 := Lib.hid hW0
  clear hW0
  have hfK : Fence.wide.fn 39 := trivial
  have hfS : Fence.wide.fn 38 := trivial
  refine callsIn_of_wp Tryz.func18 rfl trivial ?_ rfl
  simp only [Tryz.ntmps18, List.size_toArray, List.length_cons, List.length_nil, Nat.reduceAdd, Nat.reduceSub, Array.replicate_succ, Array.replicate_zero, List.push_toArray, List.append_toArray, List.nil_append, List.cons_append]
  gi_wp2_with (first
    | (gi_at_call 39; rw [← HW0.out]; refine (cK _ _).mono ?_; rintro e w' ⟨rfl, rfl⟩)
    | (gi_at_call 38; refine cS.mono ?_; rintro e w' ⟨v, ss, rfl, rfl, hrow, hnil, hb⟩; obtain rfl : v = .slice none 0 0 := hnil.2 rfl))
  go_ret
  exact ⟨rfl, (hb0.trans ((Below.refl _ W0).alloc (Nat.le_refl _) _ |>.mono hb0.size)).trans (hb.mono (by have := hb0.size; simp; omega))⟩
end Go.Proofs
namespace Go.Proofs.YtgaffbdcpkbdhaaGreat
open Go.RowKit Go.Sort Go.ChangeMaps Go.WideShapes
set_option maxHeartbeats 2000000 in
set_option maxRecDepth 100000 in
theorem snClone_nil (w : World) : Calls Tryz.prog 36 #[.map none] w fun e w' => e = .returned (.map none) ∧ w' = w := by
  have hq := fun w => run_eql_map_nil_sl (P := Tryz.prog) w 33 3 80 none Tryz.underlying33
  go_enter Tryz.func36, Tryz.ntmps36
  go_wp2
  go_ret
  exact ⟨rfl, rfl⟩
set_option maxHeartbeats 2000000 in
set_option maxRecDepth 100000 in
theorem snAt_nil (n l : Int) (hw : (Lit.int .i64 n).wf = true) (w : World) : Calls Tryz.prog 11 #[.agg #[.map none, .int .i64 l], .int .i64 n] w fun e w' => e = .returned (.tuple #[.agg #[.map none], .int .i64 31]) ∧ Ext w w' := by
  have h1 : ∀ u, (Instr.lookup 33 (.map none) (.int .i64 n) true).run Tryz.prog u = .ok (.tuple #[.agg #[.map none, .int .i64 0], .bool false]) u := fun u => by
    have h := Maps.look_nil (w := u) true keyedI Tryz.underlying33 (zeroVer u) (keyI hw)
    simpa using h
  go_enter Tryz.func11, Tryz.ntmps11
  go_wp2
  exact bodyPost_ret (v := .tuple #[.agg #[.map none], .int .i64 31]) (by simp [results, Tryz.results11, go_sem]) rfl ⟨rfl, (((Ext.refl w).alloc _).alloc _).alloc _⟩
set_option maxHeartbeats 4000000 in
set_option maxRecDepth 100000 in
theorem snCollect_nil (w : World) : Calls Tryz.prog 16 #[.agg #[.map none, .int .i64 0]] w fun e w' => e = .returned (.tuple #[.agg #[.map none, .int .i64 0], .slice none 0 0]) ∧ Below w.heap.size w w' := by
  obtain ⟨W0, hW0⟩ : ∃ W0, W0 = (w.alloc (.cells #[.map none, .int .i64 0] 35)).alloc (.cells #[.map none, .int .i64 0] 35) := ⟨_, rfl⟩
  have hr1 : Row W0 w.heap.size 35 [.map none, .int .i64 0] := by rw [hW0]; exact (Row.new w 35 _).alloc _
  have hr2 : Row W0 (w.heap.size + 1) 35 [.map none, .int .i64 0] := by
    have h := Row.new (w.alloc (.cells #[.map none, .int .i64 0] 35)) 35 [.map none, .int .i64 0]
    rw [World.size_alloc] at h
    rw [hW0]; exact h
  have hx0 : Ext w W0 := by rw [hW0]; exact ((Ext.refl w).alloc _).alloc _
  have hz0 : w.heap.size + 1 < W0.heap.size := hr2.lt
  have HR1 := Lib.hid hr1
  have HR2 := Lib.hid hr2
  have HX0 := Lib.hid hx0
  have HKU : Hid (∀ U, Below W0.heap.size W0 U → U.cell? ⟨w.heap.size, 0, none⟩ = some (.map none) ∧ U.cell? ⟨w.heap.size, 1, none⟩ = some (.int .i64 0)) := fun U hb => ⟨(HR1.out.up hb).cell 0, (HR1.out.up hb).cell 1⟩
  clear hr1 hr2 hx0
  go_enter Tryz.func16, Tryz.ntmps16
  go_upto_region 1 with (fail)
  rw [← hW0]
  clear hW0
  go_cut [4] from 8 to 13 (fun r wx => ∃ (b4 : Nat), r = .pointer (some ⟨b4, 0, none⟩) ∧ Row wx b4 35 [.map none, .int .i64 0] ∧ W0.heap.size ≤ b4 ∧ Below W0.heap.size W0 wx)
  case first =>
    refine wp_region_held_drew (S := (fun w' => w'.cell? ⟨w.heap.size, 0, none⟩ = some (.map none) ∧ w'.cell? ⟨w.heap.size, 1, none⟩ = some (.int .i64 0))) (by kernel_rfl) (HKU.out W0 (Below.refl _ _)) (fun hHeld => ?_)
    obtain ⟨U0, hV0⟩ : ∃ V, V = W0.drew := ⟨_, rfl⟩
    have HV : Hid (Below W0.heap.size W0 U0) := by show Below _ _ _; rw [hV0]; exact ((Ext.refl W0).drew).below
    rw [← hV0]
    clear hV0
    have hHeld0 := HKU.out U0 HV.out
    refine takeOp (i := 0) (v := ?_) (some 8) rfl rfl (by kernel_rfl) (by kernel_rfl) (by kernel_rfl) (fun _ _ _ h => h) (Or.inl ⟨by rfl, ?_⟩) (by assumption) ?_
    rotate_left 1
    · (intro w0 hSw; (try dsimp only at hSw); go_simp; try (with_reducible rfl))
    try simp only [Act.put]
    try simp only [List.setIfInBounds_toArray]
    try simp only [List.set_cons_succ]
    try simp only [List.set_cons_zero]
    refine takeOp (i := 1) (v := ?_) (some 9) rfl rfl (by kernel_rfl) (by kernel_rfl) (by kernel_rfl) (fun _ _ _ h => h) (Or.inl ⟨by rfl, ?_⟩) (by assumption) ?_
    rotate_left 1
    · (intro w0 hSw; (try dsimp only at hSw); go_simp; try (with_reducible rfl))
    try simp only [Act.put]
    try simp only [List.setIfInBounds_toArray]
    try simp only [List.set_cons_succ]
    try simp only [List.set_cons_zero]
    refine takeOp (i := 3) (v := ?_) (some 11) rfl rfl (by kernel_rfl) (by kernel_rfl) (by kernel_rfl) (fun _ _ _ h => h) (Or.inl ⟨by rfl, ?_⟩) (by assumption) ?_
    rotate_left 1
    · (intro w0 hSw; (try dsimp only at hSw); go_simp; try (with_reducible rfl))
    try simp only [Act.put]
    try simp only [List.setIfInBounds_toArray]
    try simp only [List.set_cons_succ]
    try simp only [List.set_cons_zero]
    refine takeOp (i := 4) (v := ?_) (some 12) rfl rfl (by kernel_rfl) (by kernel_rfl) (by kernel_rfl) (fun _ _ _ h => h) (Or.inl ⟨by rfl, ?_⟩) (by assumption) ?_
    rotate_left 1
    · (intro w0 hSw; (try dsimp only at hSw); go_simp; try (with_reducible rfl))
    try simp only [Act.put]
    try simp only [List.setIfInBounds_toArray]
    try simp only [List.set_cons_succ]
    try simp only [List.set_cons_zero]
    refine wpAnyH_ready (rs := [2, 6]) (by kernel_rfl) (by simp) ?_
    refine (AllReadyH.cons rfl (fun K hK => ?_) (AllReadyH.cons rfl (fun K hK => ?_) AllReadyH.nil))
    · go_simp
      refine (snClone_nil U0).mono ?_
      rintro e U9 ⟨rfl, rfl⟩
      go_wp2_with fail
      refine hK.out _ _ (HKU.out _ HV.out) (fun hHeld => ?_)
      clear hK K
      try simp only [Act.put]
      try simp only [List.setIfInBounds_toArray]
      try simp only [List.set_cons_succ]
      try simp only [List.set_cons_zero]
      refine takeOp (i := 5) (v := ?_) (some 13) rfl rfl (by kernel_rfl) (by kernel_rfl) (by kernel_rfl) (fun _ _ _ h => h) (Or.inl ⟨by rfl, ?_⟩) (by assumption) ?_
      rotate_left 1
      · (intro w0 hSw; (try dsimp only at hSw); go_simp; try (with_reducible rfl))
      try simp only [Act.put]
      try simp only [List.setIfInBounds_toArray]
      try simp only [List.set_cons_succ]
      try simp only [List.set_cons_zero]
      refine wpAnyH_ready (rs := [6]) (by kernel_rfl) (by simp) ?_
      refine (AllReadyH.cons rfl (fun K hK => ?_) AllReadyH.nil)
      go_simp
      obtain ⟨U1, hV⟩ : ∃ V', V' = U9.alloc (.cells #[.map none, .int .i64 0] 35) := ⟨_, rfl⟩
      rw [← hV]
      have hx : Ext U9 U1 := by rw [hV]; exact (Ext.refl U9).alloc _
      have HM : Hid (Row U1 U9.heap.size 35 [.map none, .int .i64 0]) := by show Row _ _ _ _; rw [hV]; exact Row.new U9 35 _
      have HLO : Hid (W0.heap.size ≤ U9.heap.size) := HV.out.size
      have HV := Lib.hid (Below.then HV.out hx.below HV.out.size)
      clear hx hV
      refine hK.out _ _ (HKU.out _ HV.out) (fun hHeld => ?_)
      clear hK K
      try simp only [Act.put]
      try simp only [List.setIfInBounds_toArray]
      try simp only [List.set_cons_succ]
      try simp only [List.set_cons_zero]
      refine wpAnyH_ready (rs := [7]) (by kernel_rfl) (by simp) ?_
      refine (AllReadyH.cons rfl (fun K hK => ?_) AllReadyH.nil)
      have m0 := HM.out.cell 0
      have m1 := HM.out.cell 1
      have m2 := HM.out.frozen 0
      have m3 := HM.out.frozen 1
      have m4 := HM.out.lt
      simp only [List.getElem?_cons_zero, List.getElem?_cons_succ] at m0 m1
      go_simp
      obtain ⟨U2, hV⟩ : ∃ V', V' = (U1.setCell ⟨U9.heap.size, 0, none⟩ (.map none)).setCell ⟨U9.heap.size, 1, none⟩ (.int .i64 0) := ⟨_, rfl⟩
      rw [← hV]
      have HM : Hid (Row U2 U9.heap.size 35 [.map none, .int .i64 0]) := by show Row _ _ _ _; rw [hV]; exact HM.out.set2 _ _
      have HV : Hid (Below W0.heap.size W0 U2) := by show Below _ _ _; rw [hV]; exact (HV.out.setCell (by show W0.heap.size ≤ U9.heap.size; exact HLO.out) _).setCell (by show W0.heap.size ≤ U9.heap.size; exact HLO.out) _
      clear hV m0 m1 m2 m3 m4
      refine hK.out _ _ (HKU.out _ HV.out) (fun hHeld => ?_)
      clear hK K
      try simp only [Act.put]
      try simp only [List.setIfInBounds_toArray]
      try simp only [List.set_cons_succ]
      try simp only [List.set_cons_zero]
      refine wpAnyH_done (by kernel_rfl) ?_ _
      go_wp2_with fail
      go_meet
      case rel => exact ⟨U9.heap.size, rfl, HM.out, HLO.out, HV.out⟩
    · go_simp
      obtain ⟨U1, hV⟩ : ∃ V', V' = U0.alloc (.cells #[.map none, .int .i64 0] 35) := ⟨_, rfl⟩
      rw [← hV]
      have hx : Ext U0 U1 := by rw [hV]; exact (Ext.refl U0).alloc _
      have HM : Hid (Row U1 U0.heap.size 35 [.map none, .int .i64 0]) := by show Row _ _ _ _; rw [hV]; exact Row.new U0 35 _
      have HLO : Hid (W0.heap.size ≤ U0.heap.size) := HV.out.size
      have HV := Lib.hid (Below.then HV.out hx.below HV.out.size)
      clear hx hV
      refine hK.out _ _ (HKU.out _ HV.out) (fun hHeld => ?_)
      clear hK K
      try simp only [Act.put]
      try simp only [List.setIfInBounds_toArray]
      try simp only [List.set_cons_succ]
      try simp only [List.set_cons_zero]
      refine wpAnyH_ready (rs := [2]) (by kernel_rfl) (by simp) ?_
      refine (AllReadyH.cons rfl (fun K hK => ?_) AllReadyH.nil)
      go_simp
      refine (snClone_nil U1).mono ?_
      rintro e U9 ⟨rfl, rfl⟩
      go_wp2_with fail
      refine hK.out _ _ (HKU.out _ HV.out) (fun hHeld => ?_)
      clear hK K
      try simp only [Act.put]
      try simp only [List.setIfInBounds_toArray]
      try simp only [List.set_cons_succ]
      try simp only [List.set_cons_zero]
      refine takeOp (i := 5) (v := ?_) (some 13) rfl rfl (by kernel_rfl) (by kernel_rfl) (by kernel_rfl) (fun _ _ _ h => h) (Or.inl ⟨by rfl, ?_⟩) (by assumption) ?_
      rotate_left 1
      · (intro w0 hSw; (try dsimp only at hSw); go_simp; try (with_reducible rfl))
      try simp only [Act.put]
      try simp only [List.setIfInBounds_toArray]
      try simp only [List.set_cons_succ]
      try simp only [List.set_cons_zero]
      refine wpAnyH_ready (rs := [7]) (by kernel_rfl) (by simp) ?_
      refine (AllReadyH.cons rfl (fun K hK => ?_) AllReadyH.nil)
      have m0 := HM.out.cell 0
      have m1 := HM.out.cell 1
      have m2 := HM.out.frozen 0
      have m3 := HM.out.frozen 1
      have m4 := HM.out.lt
      simp only [List.getElem?_cons_zero, List.getElem?_cons_succ] at m0 m1
      go_simp
      obtain ⟨U2, hV⟩ : ∃ V', V' = (U9.setCell ⟨U0.heap.size, 0, none⟩ (.map none)).setCell ⟨U0.heap.size, 1, none⟩ (.int .i64 0) := ⟨_, rfl⟩
      rw [← hV]
      have HM : Hid (Row U2 U0.heap.size 35 [.map none, .int .i64 0]) := by show Row _ _ _ _; rw [hV]; exact HM.out.set2 _ _
      have HV : Hid (Below W0.heap.size W0 U2) := by show Below _ _ _; rw [hV]; exact (HV.out.setCell (by show W0.heap.size ≤ U0.heap.size; exact HLO.out) _).setCell (by show W0.heap.size ≤ U0.heap.size; exact HLO.out) _
      clear hV m0 m1 m2 m3 m4
      refine hK.out _ _ (HKU.out _ HV.out) (fun hHeld => ?_)
      clear hK K
      try simp only [Act.put]
      try simp only [List.setIfInBounds_toArray]
      try simp only [List.set_cons_succ]
      try simp only [List.set_cons_zero]
      refine wpAnyH_done (by kernel_rfl) ?_ _
      go_wp2_with fail
      go_meet
      case rel => exact ⟨U0.heap.size, rfl, HM.out, HLO.out, HV.out⟩
  case rest =>
    obtain ⟨b4, rfl, hr4, hlo, hbc⟩ := hcut
    have hrg := run_range_nilMap (P := Tryz.prog) wc 33 3 80 Tryz.underlying33
    have hnx : ∀ ty, (Instr.next (.pointer (some ⟨wc.heap.size, 0, none⟩)) false ty).run Tryz.prog (wc.alloc (.mapIter none 0 #[] 0)) = _ := fun ty => run_next_nilMap _ ty 0 0 #[]
    have HSRT := Lib.hid (fun W => AnyM.slices_Sort_int_none sortV none 0 W)
    have k0 : wc.cell? ⟨w.heap.size, 0, none⟩ = some (.map none) := (HR1.out.up hbc).cell 0
    have k1 := (HR1.out.up hbc).lt
    have HR4 := Lib.hid (hr4.alloc (.mapIter none 0 #[] 0))
    have HRG := Lib.hid ((HR2.out.up hbc).alloc (.mapIter none 0 #[] 0))
    obtain ⟨W5, hW5⟩ : ∃ W5, W5 = wc.alloc (.mapIter none 0 #[] 0) := ⟨_, rfl⟩
    have HB5 : Hid (Below w.heap.size w W5) := by show Below _ _ _; rw [hW5]; exact Below.then HX0.out.below (hbc.alloc hbc.size _) HX0.out.size
    rw [← hW5] at hrg HR4 HRG
    have hnx : ∀ ty, (Instr.next (.pointer (some ⟨wc.heap.size, 0, none⟩)) false ty).run Tryz.prog W5 = .ok (.tuple #[.bool false]) W5 := fun ty => by rw [hW5]; exact hnx ty
    clear hW5 hr4 hbc
    go_wp2_with fail
    refine wp_loop_rounds 1 ?_
    rw [rounds_succ]
    clear k0 hrg
    have j0 : W5.cell? ⟨b4, 0, none⟩ = some (.map none) := HR4.out.cell 0
    have j1 : W5.cell? ⟨b4, 1, none⟩ = some (.int .i64 0) := HR4.out.cell 1
    have j2 := HR4.out.lt
    have j3 : W5.cell? ⟨w.heap.size + 1, 0, none⟩ = some (.map none) := HRG.out.cell 0
    have j4 : W5.cell? ⟨w.heap.size + 1, 1, none⟩ = some (.int .i64 0) := HRG.out.cell 1
    have j5 := HRG.out.lt
    have j6 := HRG.out.frozen 0
    have j7 := HRG.out.frozen 1
    go_wp2_with fail
    refine (HSRT.out W5).mono ?_
    rintro e w2 ⟨rfl, rfl⟩
    go_wp2_with fail
    obtain ⟨W9, hW9⟩ : ∃ W9, W9 = (w2.setCell ⟨w.heap.size + 1, 0, none⟩ (.map none)).setCell ⟨w.heap.size + 1, 1, none⟩ (.int .i64 0) := ⟨_, rfl⟩
    rw [← hW9]
    have q := HRG.out.set2 (.map none) (.int .i64 0)
    rw [← hW9] at q
    have c0 := q.cell 0
    have c1 := q.cell 1
    have hb9 : Below w.heap.size w W9 := by
      rw [hW9]
      exact (HB5.out.setCell (by show w.heap.size ≤ w.heap.size + 1; omega) _).setCell (by show w.heap.size ≤ w.heap.size + 1; omega) _
    exact bodyPost_ret (v := .tuple #[.agg #[.map none, .int .i64 0], .slice none 0 0]) (by simp [results, Tryz.results16, go_sem, c0, c1]) rfl ⟨rfl, hb9⟩

end Go.Proofs.YtgaffbdcpkbdhaaGreat
end

section
/- Walk: the laws' awake (chapter 16). -/
namespace Go.Proofs.YtgaffbdcpkbdhaaGreat
open Go.RowKit Go.Sort Go.ChangeMaps Go.WideShapes

def sR : ByteArray := ⟨#[114]⟩
def schR : Sch := [(sR, [1])]
def rowR : RL.R := [⟨1, 3, ⟨#[]⟩⟩]
def cont0 : Cont := fun _ => []
theorem errS_R : errS schR = 0 := by decide +kernel
theorem errS_nil : errS [] = 0 := rfl
theorem apply_R : applyF schR cont0 0 [⟨false, sR, rowR⟩] = (0, updC cont0 sR [rowR], 1) := by
  have h1 : checkF schR sR rowR = 0 := by decide +kernel
  have h2 : stepU schR cont0 ⟨false, sR, rowR⟩ = (0, updC cont0 sR [rowR], true) := by
    unfold stepU
    rw [if_pos h1]
    rfl
  unfold applyF
  rw [h2]
  rfl
theorem apply_none (S : Sch) (F : Cont) : applyF S F 0 [] = (0, F, 0) := rfl
theorem rows_R : rowsF schR (updC cont0 sR [rowR]) = 1 := by decide +kernel
theorem schs_one {w : World} {b1 b2 : Nat} {nm : ByteArray} (h1 : Row w b1 3 [.int .i64 1]) (h2 : Row w b2 55 [.string nm, .slice (some ⟨b1, 0, none⟩) 1 1]) : SchsM w.heap.size w (some ⟨b2, 0, none⟩) [(nm, [1])] := fun _ => ⟨b2, 0, rfl, h2.lt, fun i hi => by
  have hi0 : i = 0 := by simp at hi; exact hi
  subst hi0
  exact ⟨some ⟨b1, 0, none⟩, 1, h2.cell 0, h2.cell 1, h1.sl⟩⟩

theorem StM.setBox {S : Sch} {w : World} {m : Value} {V : List Ver} {g : Nat} (h : StM (fun b => b ≠ g) S w m V) (u v : Value) : StM (fun b => b ≠ g) S ((w.setCell ⟨g, 0, none⟩ u).setCell ⟨g, 1, none⟩ v) m V :=
  (h.keep (Stay.set (fun e => e rfl) 0 u)).keep (Stay.set (fun e => e rfl) 1 v)

set_option maxHeartbeats 8000000 in
set_option maxRecDepth 100000 in
theorem l16awake_any (w : World) : Calls Tryz.prog 5 #[] w fun e w' => e = .returned (.bool true) ∧ Below w.heap.size w w' := by
  obtain ⟨W1, hW1⟩ : ∃ W1, W1 = (w.alloc (.cells #[.int .i64 1] 3)).alloc (.cells #[.string ⟨#[114]⟩, .slice (some ⟨w.heap.size, 0, none⟩) 1 1] 55) := ⟨_, rfl⟩
  have hx1 : Ext w W1 := by rw [hW1]; exact ((Ext.refl w).alloc _).alloc _
  have r1 : Row W1 w.heap.size 3 [.int .i64 1] := by rw [hW1]; exact (Row.new w 3 _).alloc _
  have r2 : Row W1 (w.heap.size + 1) 55 [.string ⟨#[114]⟩, .slice (some ⟨w.heap.size, 0, none⟩) 1 1] := by
    have h := Row.new (w.alloc (.cells #[.int .i64 1] 3)) 55 [.string ⟨#[114]⟩, .slice (some ⟨w.heap.size, 0, none⟩) 1 1]
    rw [World.size_alloc] at h
    rw [hW1]; exact h
  have HN := Lib.hid (ctNew_any (fun _ => True) (some ⟨w.heap.size + 1, 0, none⟩) 1 schR W1 (fun _ _ => trivial) (schs_one r1 r2) (fun p hp => by simp [schR] at hp; subst hp; exact ⟨by decide, by decide⟩) (by decide))
  have HX1 := Lib.hid hx1
  clear hx1 r1 r2
  go_enter Tryz.func5, Tryz.ntmps5
  go_wp2_with fail
  rw [← hW1]
  clear hW1
  refine HN.out.mono ?_
  rintro e w1 ⟨h1, -, hb1⟩
  obtain ⟨m1, rfl, hdb⟩ := h1 errS_R
  obtain ⟨bd, rfl⟩ := hdb.form
  obtain ⟨W2, hW2⟩ : ∃ W2, W2 = w1.alloc (.cells #[.map (some bd)] 29) := ⟨_, rfl⟩
  have hx2 : Ext w1 W2 := by rw [hW2]; exact (Ext.refl w1).alloc _
  have HB2 := Lib.hid (Below.then (Below.then HX1.out.below hb1 HX1.out.size) hx2.below (Nat.le_trans HX1.out.size hb1.size))
  have hr2 : Row W2 w1.heap.size 29 [.map (some bd)] := by rw [hW2]; exact Row.new w1 29 _
  have k0 : W2.cell? ⟨w1.heap.size, 0, none⟩ = some (.map (some bd)) := hr2.cell 0
  have k1 := hr2.lt
  have HSN := Lib.hid (snNew_ok (P := fun _ => True) (S := schR) (m := .map (some bd)) (F := cont0) 5 (by decide) (by decide) W2 (hdb.up hx2.below) (fun _ _ => trivial))
  have HW2 := Lib.hid hW2
  clear h1 hb1 hdb hx2 hr2 hW2 HN
  go_upto_region 2 with (fail)
  rw [← HW2.out]
  clear HW2
  go_wp2_with fail
  refine HSN.out.mono ?_
  rintro e w3 ⟨m3, rfl, hst3, hb3⟩
  obtain ⟨b3, rfl⟩ := hst3.form
  obtain ⟨W4, hW4⟩ : ∃ W4, W4 = w3.alloc (.cells #[.map (some b3), .int .i64 5] 35) := ⟨_, rfl⟩
  obtain ⟨g, hg⟩ : ∃ g, g = w3.heap.size := ⟨_, rfl⟩
  have hx4 : Ext w3 W4 := by rw [hW4]; exact (Ext.refl w3).alloc _
  have hr4 : Row W4 g 35 [.map (some b3), .int .i64 5] := by rw [hW4, hg]; exact Row.new w3 35 _
  have HB4 := Lib.hid (Below.then (Below.then HB2.out hb3 HB2.out.size) hx4.below (Nat.le_trans HB2.out.size hb3.size))
  have HS4 : Hid (StM (fun b => b ≠ g) schR W4 (.map (some b3)) [⟨5, cont0, 0⟩]) := (hst3.weak (P' := fun b => b ≠ g) fun b hb _ => by show b ≠ g; omega).up hx4.below
  have hgw : w.heap.size ≤ g := by rw [hg]; exact Nat.le_trans HB2.out.size hb3.size
  have HR4 := Lib.hid hr4
  have HW4 := Lib.hid hW4
  have HG := Lib.hid hg
  clear hst3 hb3 hx4 hr4 hW4 hg HSN k0 k1
  go_upto_region 3 with (fail)
  rw [← HW4.out, ← HG.out]
  clear HW4 HG
  have k2 : W4.cell? ⟨g, 0, none⟩ = some (.map (some b3)) := HR4.out.cell 0
  have k3 : W4.cell? ⟨g, 1, none⟩ = some (.int .i64 5) := HR4.out.cell 1
  have k4 := HR4.out.lt
  obtain ⟨W5, hW5⟩ : ∃ W5, W5 = (W4.alloc (.cells #[.int .i64 1, .int .i64 3, .string ⟨#[]⟩] 57)).alloc (.cells #[.bool false, .string ⟨#[114]⟩, .slice (some ⟨W4.heap.size, 0, none⟩) 1 1] 61) := ⟨_, rfl⟩
  have hx5 : Ext W4 W5 := by rw [hW5]; exact ((Ext.refl W4).alloc _).alloc _
  have q1 : Row W5 W4.heap.size 57 (rcells rowR) := by rw [hW5]; exact (Row.new W4 57 (rcells rowR)).alloc _
  have q2 : Row W5 (W4.heap.size + 1) 61 [.bool false, .string ⟨#[114]⟩, .slice (some ⟨W4.heap.size, 0, none⟩) 1 1] := by
    have h := Row.new (W4.alloc (.cells #[.int .i64 1, .int .i64 3, .string ⟨#[]⟩] 57)) 61 [.bool false, .string ⟨#[114]⟩, .slice (some ⟨W4.heap.size, 0, none⟩) 1 1]
    rw [World.size_alloc] at h
    rw [hW5]; exact h
  have HCM := Lib.hid (snCommit_any (P := fun b => b ≠ g) (HS4.out.up hx5.below) (fun b hb => by have := hx5.size; show b ≠ g; omega) (x := ⟨5, cont0, 0⟩) (by simp) rfl (by decide) (by decide) (by decide) (some ⟨W4.heap.size + 1, 0, none⟩) 1 [⟨false, sR, rowR⟩] (fun _ => ⟨_, 0, rfl, q2.lt, fun i hi => by
    have hi0 : i = 0 := by simp at hi; exact hi
    subst hi0
    exact ⟨some ⟨W4.heap.size, 0, none⟩, 1, q2.cell 0, q2.cell 1, q2.cell 2, fun _ => ⟨_, 0, rfl, q1.lt, fun j u hu => by rw [Nat.zero_add]; exact (q1.cell j).trans hu⟩⟩⟩)
    (fun u hu => by simp at hu; subst hu; exact ⟨by decide, by decide, fun v hv => by simp [rowR] at hv; subst hv; decide⟩) (by decide))
  have HB5 := Lib.hid (Below.then HB4.out hx5.below HB4.out.size)
  have HR5 := Lib.hid (HR4.out.up hx5.below)
  clear hx5 q1 q2
  go_wp2_with fail
  rw [← hW5]
  clear hW5 k2 k3
  refine HCM.out.mono ?_
  rintro e w6 ⟨h6, -, hb6⟩
  obtain ⟨m6, rfl, hst6⟩ := h6 (by show (applyF schR cont0 0 [⟨false, sR, rowR⟩]).1 = 0; rw [apply_R])
  have e6 : putV [⟨5, cont0, 0⟩] ⟨(5 : Int) + 1, (applyF schR cont0 0 [⟨false, sR, rowR⟩]).2.1, 0⟩ = [⟨5, cont0, 0⟩, ⟨6, updC cont0 sR [rowR], 0⟩] := by rw [apply_R]; rfl
  rw [e6] at hst6
  obtain ⟨F1, hF1⟩ : ∃ F1, F1 = updC cont0 sR [rowR] := ⟨_, rfl⟩
  rw [← hF1] at hst6
  have HF1 := Lib.hid hF1
  obtain ⟨b6, rfl⟩ := hst6.form
  have q6 := HR5.out.up hb6
  have j0 : w6.cell? ⟨g, 0, none⟩ = some (.map (some b3)) := q6.cell 0
  have j1 : w6.cell? ⟨g, 1, none⟩ = some (.int .i64 5) := q6.cell 1
  have j2 := q6.frozen 0
  have j3 := q6.frozen 1
  have j4 := q6.lt
  obtain ⟨W7, hW7⟩ : ∃ W, W = (w6.setCell ⟨g, 0, none⟩ (.map (some b6))).setCell ⟨g, 1, none⟩ (.int .i64 6) := ⟨_, rfl⟩
  have HR7 : Hid (Row W7 g 35 [.map (some b6), .int .i64 6]) := by show Row _ _ _ _; rw [hW7]; exact q6.set2 _ _
  have HS7 : Hid (StM (fun b => b ≠ g) schR W7 (.map (some b6)) [⟨5, cont0, 0⟩, ⟨6, F1, 0⟩]) := by show StM _ _ _ _ _; rw [hW7]; exact StM.setBox hst6 _ _
  have HB7 : Hid (Below w.heap.size w W7) := by show Below _ _ _; rw [hW7]; exact ((Below.then HB5.out hb6 HB5.out.size).setCell hgw _).setCell hgw _
  have HW7 := Lib.hid hW7
  clear h6 hb6 hst6 q6 hW7 e6 hF1 HCM k4
  go_upto_region 4 with (fail)
  rw [← HW7.out]
  clear HW7 j0 j1 j2 j3 j4
  have k2 : W7.cell? ⟨g, 0, none⟩ = some (.map (some b6)) := HR7.out.cell 0
  have k3 : W7.cell? ⟨g, 1, none⟩ = some (.int .i64 6) := HR7.out.cell 1
  have k4 := HR7.out.lt
  have HCM := Lib.hid (snCommit_any (P := fun b => b ≠ g) HS7.out (fun b hb => by show b ≠ g; omega) (x := ⟨6, F1, 0⟩) (by simp) rfl (show (2 : Nat) < 64 by decide) (show (0 : Int) ≤ 6 ∧ (6 : Int) ≤ 1000000000000000000 by decide) (by decide) none 0 [] (fun h => absurd rfl h) (fun u hu => by cases hu) (by decide))
  go_wp2_with fail
  clear k2 k3
  refine HCM.out.mono ?_
  rintro e w8 ⟨h8, -, hb8⟩
  obtain ⟨m8, rfl, hst8⟩ := h8 rfl
  have e8 : putV [⟨5, cont0, 0⟩, ⟨6, F1, 0⟩] ⟨(6 : Int) + 1, (applyF schR F1 0 []).2.1, 0⟩ = [⟨5, cont0, 0⟩, ⟨6, F1, 0⟩, ⟨7, F1, 0⟩] := rfl
  rw [e8] at hst8
  obtain ⟨b8, rfl⟩ := hst8.form
  have q8 := HR7.out.up hb8
  have j0 : w8.cell? ⟨g, 0, none⟩ = some (.map (some b6)) := q8.cell 0
  have j1 : w8.cell? ⟨g, 1, none⟩ = some (.int .i64 6) := q8.cell 1
  have j2 := q8.frozen 0
  have j3 := q8.frozen 1
  have j4 := q8.lt
  obtain ⟨W9, hW9⟩ : ∃ W, W = (w8.setCell ⟨g, 0, none⟩ (.map (some b8))).setCell ⟨g, 1, none⟩ (.int .i64 7) := ⟨_, rfl⟩
  have HR9 : Hid (Row W9 g 35 [.map (some b8), .int .i64 7]) := by show Row _ _ _ _; rw [hW9]; exact q8.set2 _ _
  have HS9 : Hid (StM (fun b => b ≠ g) schR W9 (.map (some b8)) [⟨5, cont0, 0⟩, ⟨6, F1, 0⟩, ⟨7, F1, 0⟩]) := by show StM _ _ _ _ _; rw [hW9]; exact StM.setBox hst8 _ _
  have HB9 : Hid (Below w.heap.size w W9) := by show Below _ _ _; rw [hW9]; exact ((Below.then HB7.out hb8 HB7.out.size).setCell hgw _).setCell hgw _
  have HW9 := Lib.hid hW9
  clear h8 hb8 hst8 q8 hW9 e8 HCM k4
  go_upto_region 5 with (fail)
  rw [← HW9.out]
  clear HW9 j0 j1 j2 j3 j4
  have k2 : W9.cell? ⟨g, 0, none⟩ = some (.map (some b8)) := HR9.out.cell 0
  have k3 : W9.cell? ⟨g, 1, none⟩ = some (.int .i64 7) := HR9.out.cell 1
  have k4 := HR9.out.lt
  have HPI := Lib.hid (snPin_some (P := fun b => b ≠ g) (l := 7) HS9.out (fun b hb => by show b ≠ g; omega) (show (3 : Nat) ≤ 1000 by decide) (x := ⟨5, cont0, 0⟩) (by simp) ⟨by decide, by decide⟩)
  go_wp2_with fail
  clear k2 k3
  refine HPI.out.mono ?_
  rintro e w10 ⟨m10, rfl, hst10, hb10⟩
  have e10 : putV [⟨5, cont0, 0⟩, ⟨6, F1, 0⟩, ⟨7, F1, 0⟩] ⟨5, cont0, (0 : Int) + 1⟩ = [⟨5, cont0, 1⟩, ⟨6, F1, 0⟩, ⟨7, F1, 0⟩] := rfl
  rw [e10] at hst10
  obtain ⟨b10, rfl⟩ := hst10.form
  have q10 := HR9.out.up hb10
  have j0 : w10.cell? ⟨g, 0, none⟩ = some (.map (some b8)) := q10.cell 0
  have j1 : w10.cell? ⟨g, 1, none⟩ = some (.int .i64 7) := q10.cell 1
  have j2 := q10.frozen 0
  have j3 := q10.frozen 1
  have j4 := q10.lt
  obtain ⟨W11, hW11⟩ : ∃ W, W = (w10.setCell ⟨g, 0, none⟩ (.map (some b10))).setCell ⟨g, 1, none⟩ (.int .i64 7) := ⟨_, rfl⟩
  have HR11 : Hid (Row W11 g 35 [.map (some b10), .int .i64 7]) := by show Row _ _ _ _; rw [hW11]; exact q10.set2 _ _
  have HS11 : Hid (StM (fun b => b ≠ g) schR W11 (.map (some b10)) [⟨5, cont0, 1⟩, ⟨6, F1, 0⟩, ⟨7, F1, 0⟩]) := by show StM _ _ _ _ _; rw [hW11]; exact StM.setBox hst10 _ _
  have HB11 : Hid (Below w.heap.size w W11) := by show Below _ _ _; rw [hW11]; exact ((Below.then HB9.out hb10 HB9.out.size).setCell hgw _).setCell hgw _
  have HW11 := Lib.hid hW11
  clear hb10 hst10 q10 hW11 e10 HPI k4
  go_upto_region 6 with (fail)
  rw [← HW11.out]
  clear HW11 j0 j1 j2 j3 j4
  have k2 : W11.cell? ⟨g, 0, none⟩ = some (.map (some b10)) := HR11.out.cell 0
  have k3 : W11.cell? ⟨g, 1, none⟩ = some (.int .i64 7) := HR11.out.cell 1
  have k4 := HR11.out.lt
  have HCO := Lib.hid (snCollect_any (P := fun b => b ≠ g) (l := 7) HS11.out (fun b hb => by show b ≠ g; omega) (show (3 : Nat) ≤ 1000 by decide))
  go_wp2_with fail
  clear k2 k3
  refine HCO.out.mono ?_
  rintro e w12 ⟨m12, AG, CG, rfl, hst12, hgo12, hb12⟩
  have e12 : ([⟨5, cont0, 1⟩, ⟨6, F1, 0⟩, ⟨7, F1, 0⟩] : List Ver).filter (fun x => !goneB 7 x) = [⟨5, cont0, 1⟩, ⟨7, F1, 0⟩] := rfl
  have e13 : ([⟨5, cont0, 1⟩, ⟨6, F1, 0⟩, ⟨7, F1, 0⟩] : List Ver).filter (goneB 7) = [⟨6, F1, 0⟩] := rfl
  rw [e12] at hst12
  rw [e13] at hgo12 ⊢
  obtain ⟨b12, rfl⟩ := hst12.form
  have q12 := HR11.out.up hb12
  have j0 : w12.cell? ⟨g, 0, none⟩ = some (.map (some b10)) := q12.cell 0
  have j1 : w12.cell? ⟨g, 1, none⟩ = some (.int .i64 7) := q12.cell 1
  have j2 := q12.frozen 0
  have j3 := q12.frozen 1
  have j4 := q12.lt
  obtain ⟨W13, hW13⟩ : ∃ W, W = (w12.setCell ⟨g, 0, none⟩ (.map (some b12))).setCell ⟨g, 1, none⟩ (.int .i64 7) := ⟨_, rfl⟩
  have HR13 : Hid (Row W13 g 35 [.map (some b12), .int .i64 7]) := by show Row _ _ _ _; rw [hW13]; exact q12.set2 _ _
  have HS13 : Hid (StM (fun b => b ≠ g) schR W13 (.map (some b12)) [⟨5, cont0, 1⟩, ⟨7, F1, 0⟩]) := by show StM _ _ _ _ _; rw [hW13]; exact StM.setBox hst12 _ _
  have HB13 : Hid (Below w.heap.size w W13) := by show Below _ _ _; rw [hW13]; exact ((Below.then HB11.out hb12 HB11.out.size).setCell hgw _).setCell hgw _
  have HW13 := Lib.hid hW13
  have hgl : ¬ W11.heap.size ≤ g := by omega
  have HGB : Hid (SlIP (fun b => W11.heap.size ≤ b) W13 AG [6]) := by
    show SlIP _ _ _ _
    rw [hW13]
    exact (hgo12.keep (Stay.set hgl 0 _)).keep (Stay.set hgl 1 _)
  clear hb12 hst12 q12 e12 e13 HCO k4 hgo12 hgl hW13
  go_upto_region 7 with (fail)
  rw [← HW13.out]
  clear HW13 j0 j1 j2 j3 j4
  have k2 : W13.cell? ⟨g, 0, none⟩ = some (.map (some b12)) := HR13.out.cell 0
  have k3 : W13.cell? ⟨g, 1, none⟩ = some (.int .i64 7) := HR13.out.cell 1
  have k4 := HR13.out.lt
  have HAT := Lib.hid (snAt_some (P := fun b => b ≠ g) (l := 7) HS13.out (x := ⟨7, F1, 0⟩) (by simp))
  go_wp2_with fail
  clear k2 k3
  refine HAT.out.mono ?_
  rintro e w14 ⟨d, rfl, hdb, hx14⟩
  obtain ⟨b14, rfl⟩ := hdb.form
  obtain ⟨W15, hW15⟩ : ∃ W15, W15 = w14.alloc (.cells #[.map (some b14)] 29) := ⟨_, rfl⟩
  have hx15 : Ext w14 W15 := by rw [hW15]; exact (Ext.refl w14).alloc _
  have hr15 : Row W15 w14.heap.size 29 [.map (some b14)] := by rw [hW15]; exact Row.new w14 29 _
  have HDB := Lib.hid ((hdb.up hx14.below).up hx15.below)
  have hb1315 : Below W13.heap.size W13 W15 := Below.then hx14.below hx15.below hx14.size
  have HR15 := Lib.hid (HR13.out.up hb1315)
  have HS15 := Lib.hid (HS13.out.up hb1315)
  have HG15 := Lib.hid (HGB.out.keep (Stay.of hb1315))
  have HB15 := Lib.hid (Below.then HB13.out hb1315 HB13.out.size)
  have HRD := Lib.hid hr15
  have HW15 := Lib.hid hW15
  clear hdb hx14 hx15 hr15 hb1315 hW15 HAT k4
  go_upto_region 8 with (fail)
  rw [← HW15.out]
  clear HW15
  have HSA := Lib.hid (fun W (hb : Below W15.heap.size W15 W) (B : Option Addr) (C : Nat) (h : SlI .i64 W.heap.size W B [6]) => r16Same_any AG B CG C [6] [6] W ((HG15.out.keep (Stay.of hb)).sl) h (by decide) (by decide))
  go_wp2_with fail
  obtain ⟨W16, hW16⟩ : ∃ W, W = W15.alloc (.cells #[.int .i64 6] 3) := ⟨_, rfl⟩
  rw [← hW16]
  have hx16 : Ext W15 W16 := by rw [hW16]; exact (Ext.refl W15).alloc _
  have hr16 : Row W16 W15.heap.size 3 [.int .i64 6] := by rw [hW16]; exact Row.new W15 3 _
  refine (HSA.out W16 hx16.below _ 1 hr16.sl).mono ?_
  rintro e w17 ⟨rfl, hx17⟩
  have hx := hx16.trans hx17
  have HR17 := Lib.hid (HR15.out.up hx.below)
  have HS17 := Lib.hid (HS15.out.up hx.below)
  have HB17 := Lib.hid (Below.then HB15.out hx.below HB15.out.size)
  have HRD17 := Lib.hid (HRD.out.up hx.below)
  have HDB17 := Lib.hid (HDB.out.up hx.below)
  have HV := Lib.hid (snVersions_any (l := 7) HS17.out (show (2 : Nat) ≤ 1000 by decide))
  clear hW16 hx16 hr16 hx17 hx HSA HR15 HS15 HB15 HRD HDB HG15
  have k2 : w17.cell? ⟨g, 0, none⟩ = some (.map (some b12)) := HR17.out.cell 0
  have k3 : w17.cell? ⟨g, 1, none⟩ = some (.int .i64 7) := HR17.out.cell 1
  have k4 := HR17.out.lt
  go_wp2_with fail
  clear k2 k3
  refine HV.out.mono ?_
  rintro e w18 ⟨v, rfl, hrow, hb18⟩
  obtain ⟨VA, VC, rfl, -, -, hsv⟩ := Sl.of_own hrow
  have HSV : Hid (SlI .i64 w18.heap.size w18 VA [5, 7]) := hsv
  simp only [List.map_cons, List.map_nil, List.length_cons, List.length_nil, Nat.zero_add, Nat.reduceAdd]
  have HRD18 := Lib.hid (HRD17.out.up hb18)
  have HDB18 := Lib.hid (HDB17.out.up hb18)
  have HB18 := Lib.hid (Below.then HB17.out hb18 HB17.out.size)
  clear hrow hsv hb18 HV HR17 HS17 HB17 HRD17 HDB17 k4
  go_wp2_with fail
  obtain ⟨W19, hW19⟩ : ∃ W, W = w18.alloc (.cells #[.int .i64 5, .int .i64 7] 3) := ⟨_, rfl⟩
  rw [← hW19]
  have hx19 : Ext w18 W19 := by rw [hW19]; exact (Ext.refl w18).alloc _
  have hr19 : Row W19 w18.heap.size 3 [.int .i64 5, .int .i64 7] := by rw [hW19]; exact Row.new w18 3 _
  refine (r16Same_any VA _ VC 2 [5, 7] [5, 7] W19 ((Sl.ext HSV.out (Nat.le_refl _) hx19).more hx19.size) hr19.sl (by decide) (by decide)).mono ?_
  rintro e w20 ⟨rfl, hx20⟩
  have hx := hx19.trans hx20
  have HRD20 := HRD18.out.up hx.below
  have HCR := Lib.hid (ctRows_any w20 (HDB18.out.up hx.below) (by simp [schR]) (by simp [schR]))
  have HB20 := Lib.hid (Below.then HB18.out hx.below HB18.out.size)
  have k1 : w20.cell? ⟨w14.heap.size, 0, none⟩ = some (.map (some b14)) := HRD20.cell 0
  have k4 := HRD20.lt
  have hre : rowsF schR F1 = 1 := by rw [HF1.out]; exact rows_R
  rw [hre] at HCR
  clear hW19 hx19 hr19 hx20 hx HRD18 HDB18 HB18 HSV HRD20 hre HF1
  go_wp2_with fail
  refine HCR.out.mono ?_
  rintro e w21 ⟨rfl, hb21⟩
  have HB21 := Lib.hid (Below.then HB20.out hb21 HB20.out.size)
  clear hb21 HB20 HCR k1 k4
  go_wp2_with fail
  go_ret
  exact ⟨rfl, HB21.out⟩

end Go.Proofs.YtgaffbdcpkbdhaaGreat
end

section
/- The operations of a store in one form each. -/
namespace Go.Proofs.YtgaffbdcpkbdhaaGreat
open Go.RowKit Go.Sort Go.ChangeMaps Go.WideShapes

def findV (V : List Ver) (n : Int) : Option Ver := V.find? fun x => decide (x.num = n)
theorem findV_some {V : List Ver} {n : Int} {x : Ver} (h : findV V n = some x) : x ∈ V ∧ x.num = n := ⟨List.mem_of_find?_eq_some h, by have := List.find?_some h; simpa using this⟩
theorem findV_none {V : List Ver} {n : Int} (h : findV V n = none) : ∀ x ∈ V, x.num ≠ n := fun x hx => by have := List.find?_eq_none.1 h x hx; simpa using this
def pinsV (V : List Ver) (n : Int) : Int := match findV V n with | none => 0 | some x => x.pins
def pinR (V : List Ver) (n : Int) : Int × List Ver := match findV V n with | none => (31, V) | some x => (0, putV V ⟨x.num, x.db, x.pins + 1⟩)
def unpinR (V : List Ver) (n : Int) : Int × List Ver := match findV V n with | none => (31, V) | some x => if x.pins = 0 then (17, V) else (0, putV V ⟨x.num, x.db, x.pins - 1⟩)
/-- The database of a version. -/
def dbV (V : List Ver) (n : Int) : Cont := match findV V n with | none => cont0 | some x => x.db
/-- What a commit answers: the error, the versions, the latest. -/
def commitR (S : Sch) (V : List Ver) (l : Int) (us : List Upd) : Int × List Ver × Int :=
  if (applyF S (dbV V l) 0 us).1 = 0 then (0, putV V ⟨l + 1, (applyF S (dbV V l) 0 us).2.1, 0⟩, l + 1) else ((applyF S (dbV V l) 0 us).1, V, l)
/-- A store that the laws may have. -/
structure Good (V : List Ver) (l : Int) (B : Nat) : Prop where
  has : ∃ x ∈ V, x.num = l
  all : ∀ x ∈ V, x.num ≤ l ∧ 0 ≤ x.num ∧ 0 ≤ x.pins ∧ x.pins ≤ B
  len : V.length ≤ B + 1
  low : 0 ≤ l
  high : l ≤ B + 300
theorem Good.more {V : List Ver} {l : Int} {B B' : Nat} (h : Good V l B) (hB : B ≤ B') : Good V l B' :=
  ⟨h.has, fun x hx => by obtain ⟨a, b, c, d⟩ := h.all x hx; exact ⟨a, b, c, by omega⟩, by have := h.len; omega, h.low, by have := h.high; omega⟩
theorem Good.find {V : List Ver} {l : Int} {B : Nat} (h : Good V l B) : ∃ x, findV V l = some x ∧ x ∈ V ∧ x.num = l := by
  cases hf : findV V l with
  | none => obtain ⟨x, hx, e⟩ := h.has; exact absurd e (findV_none hf x hx)
  | some x => exact ⟨x, rfl, findV_some hf⟩
theorem Good.one {n : Int} {F : Cont} (h0 : 0 ≤ n) (h1 : n ≤ 300) : Good [⟨n, F, 0⟩] n 0 :=
  ⟨⟨_, List.mem_singleton.2 rfl, rfl⟩, fun x hx => by rw [List.mem_singleton.1 hx]; exact ⟨Int.le_refl _, h0, Int.le_refl _, Int.le_refl _⟩, Nat.le_refl _, h0, by omega⟩
theorem Good.put {V : List Ver} {l : Int} {B : Nat} (h : Good V l B) (hp : V.Pairwise (fun x y => x.num < y.num)) {n : Int} {F : Cont} {p : Int} (hn : 0 ≤ n) (hnl : n ≤ l) (hin : ∃ x ∈ V, x.num = n) (h0 : 0 ≤ p) (hpB : p ≤ B + 1) : Good (putV V ⟨n, F, p⟩) l (B + 1) := by
  have hany : (V.any fun x => x.num == n) = true := by
    obtain ⟨x, hx, e⟩ := hin
    exact List.any_eq_true.2 ⟨x, hx, by simp [e]⟩
  refine ⟨?_, fun x hx => ?_, ?_, h.low, by have := h.high; omega⟩
  · obtain ⟨x, hx, e⟩ := h.has
    by_cases e2 : n = l
    · exact ⟨_, (mem_putV _ hp _).2 (.inl rfl), e2⟩
    · exact ⟨x, (mem_putV _ hp _).2 (.inr ⟨hx, fun e3 => e2 (e3.symm.trans e)⟩), e⟩
  · rcases (mem_putV _ hp x).1 hx with rfl | ⟨hx, _⟩
    · exact ⟨hnl, hn, h0, by show p ≤ _; omega⟩
    · obtain ⟨a, b, c, d⟩ := h.all x hx
      exact ⟨a, b, c, by omega⟩
  · rw [putV_len _ hp, hany]
    have := h.len
    show V.length ≤ _
    omega
theorem Good.pin {V : List Ver} {l : Int} {B : Nat} (h : Good V l B) (hp : V.Pairwise (fun x y => x.num < y.num)) (n : Int) : Good (pinR V n).2 l (B + 1) := by
  unfold pinR
  cases hf : findV V n with
  | none => exact h.more (by omega)
  | some x =>
    obtain ⟨hx, e⟩ := findV_some hf
    obtain ⟨a, b, c, d⟩ := h.all x hx
    exact h.put hp b a ⟨x, hx, rfl⟩ (by omega) (by omega)
theorem Good.unpin {V : List Ver} {l : Int} {B : Nat} (h : Good V l B) (hp : V.Pairwise (fun x y => x.num < y.num)) (n : Int) : Good (unpinR V n).2 l (B + 1) := by
  unfold unpinR
  cases hf : findV V n with
  | none => exact h.more (by omega)
  | some x =>
    obtain ⟨hx, e⟩ := findV_some hf
    obtain ⟨a, b, c, d⟩ := h.all x hx
    show Good (if x.pins = 0 then (17, V) else _).2 l (B + 1)
    split
    · exact h.more (by omega)
    · exact h.put hp b a ⟨x, hx, rfl⟩ (by omega) (by omega)
theorem Good.commit {V : List Ver} {l : Int} {B : Nat} (h : Good V l B) (hp : V.Pairwise (fun x y => x.num < y.num)) (S : Sch) (us : List Upd) : Good (commitR S V l us).2.1 (commitR S V l us).2.2 (B + 1) := by
  unfold commitR
  split
  · refine ⟨⟨_, (mem_putV _ hp _).2 (.inl rfl), rfl⟩, fun x hx => ?_, ?_, by have := h.low; show 0 ≤ l + 1; omega, by have := h.high; show l + 1 ≤ _; omega⟩
    · rcases (mem_putV _ hp x).1 hx with rfl | ⟨hx, _⟩
      · exact ⟨Int.le_refl _, by have := h.low; show 0 ≤ l + 1; omega, Int.le_refl _, by show (0 : Int) ≤ _; omega⟩
      · obtain ⟨a, b, c, d⟩ := h.all x hx
        exact ⟨by show x.num ≤ l + 1; omega, b, c, by omega⟩
    · show (putV V _).length ≤ _
      rw [putV_len _ hp]
      have := h.len
      split <;> omega
  · exact h.more (by omega)
theorem Good.gone {V : List Ver} {l : Int} {B : Nat} (h : Good V l B) : Good (V.filter fun x => !goneB l x) l (B + 1) := by
  refine ⟨?_, fun x hx => ?_, Nat.le_trans (List.length_filter_le _ _) (by have := h.len; omega), h.low, by have := h.high; omega⟩
  · obtain ⟨x, hx, e⟩ := h.has
    refine ⟨x, List.mem_filter.2 ⟨hx, ?_⟩, e⟩
    unfold goneB
    rw [decide_eq_false (show ¬ x.num ≠ l from fun k => k e), Bool.and_false]
    rfl
  · obtain ⟨a, b, c, d⟩ := h.all x (List.mem_filter.1 hx).1
    exact ⟨a, b, c, by omega⟩
theorem StM.asc {P : Nat → Prop} {S : Sch} {w : World} {m : Value} {V : List Ver} (h : StM P S w m V) : V.Pairwise (fun x y => x.num < y.num) := by
  obtain ⟨_, _, _, _, _, _, _, _, h6⟩ := h
  exact h6

section
variable {P : Nat → Prop} {S : Sch} {m : Value} {l n : Int} {V : List Ver} {w : World} {B : Nat}
def AtPost (P : Nat → Prop) (S : Sch) (V : List Ver) (n : Int) (w : World) (e : Ending) (w' : World) : Prop :=
  ((findV V n = none) → e = .returned (.tuple #[.agg #[.map none], .int .i64 31])) ∧ (∀ x, findV V n = some x → ∃ d, e = .returned (.tuple #[.agg #[.map (some d)], .int .i64 0]) ∧ DbM P S w (.map (some d)) x.db) ∧ Ext w w'
theorem snAt_all (h : StM P S w m V) (hw : (Lit.int .i64 n).wf = true) : Calls Tryz.prog 11 #[.agg #[m, .int .i64 l], .int .i64 n] w (AtPost P S V n w) := by
  cases hf : findV V n with
  | none => exact (snAt_none h hw (findV_none hf)).mono fun e w' hh => ⟨fun _ => hh.1, fun x hx => (by rw [hf] at hx; cases hx), hh.2⟩
  | some x =>
    obtain ⟨hx, rfl⟩ := findV_some hf
    refine (snAt_some h hx).mono fun e w' hh => ?_
    obtain ⟨d, e1, hd, hx'⟩ := hh
    obtain ⟨bd, rfl⟩ := hd.form
    refine ⟨fun hn => (by rw [hf] at hn; cases hn), fun y hy => ?_, hx'⟩
    rw [hf] at hy
    cases hy
    exact ⟨bd, e1, hd⟩
def StPost (P : Nat → Prop) (S : Sch) (m : Value) (l : Int) (r : Int × List Ver) (w : World) (e : Ending) (w' : World) : Prop :=
  ∃ m', e = .returned (.tuple #[.agg #[.map (some m'), .int .i64 l], .int .i64 r.1]) ∧ (r.1 ≠ 0 → .map (some m') = m) ∧ StM P S w' (.map (some m')) r.2 ∧ Below w.heap.size w w'
theorem snPin_all (h : StM P S w m V) (hPn : ∀ b, w.heap.size ≤ b → P b) (hg : Good V l B) (hB : B ≤ 500) (hw : (Lit.int .i64 n).wf = true) : Calls Tryz.prog 15 #[.agg #[m, .int .i64 l], .int .i64 n] w (StPost P S m l (pinR V n) w) := by
  have hlen := hg.len
  unfold pinR
  cases hf : findV V n with
  | none =>
    obtain ⟨b, rfl⟩ := h.form
    exact (snPin_none h hw (findV_none hf)).mono fun e w' hh => ⟨b, hh.1, fun _ => rfl, h.up hh.2.below, hh.2.below⟩
  | some x =>
    obtain ⟨hx, rfl⟩ := findV_some hf
    obtain ⟨a, b, c, d⟩ := hg.all x hx
    refine (snPin_some h hPn (by omega) hx ⟨by omega, by omega⟩).mono fun e w' hh => ?_
    obtain ⟨m', e1, hs, hb⟩ := hh
    obtain ⟨bd, rfl⟩ := hs.form
    exact ⟨bd, e1, fun h0 => absurd rfl h0, hs, hb⟩
def CommitPost (P : Nat → Prop) (S : Sch) (m : Value) (r : Int × List Ver × Int) (w : World) (e : Ending) (w' : World) : Prop :=
  ∃ m' n', e = .returned (.tuple #[.agg #[.map (some m'), .int .i64 r.2.2], .int .i64 n', .int .i64 r.1]) ∧ (n' = if r.1 = 0 then r.2.2 else 0) ∧ (r.1 ≠ 0 → .map (some m') = m) ∧ StM P S w' (.map (some m')) r.2.1 ∧ Below w.heap.size w w'
theorem snCommit_all (h : StM P S w m V) (hPn : ∀ b, w.heap.size ≤ b → P b) (hg : Good V l B) (hB : B ≤ 500) (h64 : V.length < 64) (hSl : S.length ≤ 1000000) (A : Option Addr) (C : Nat) (us : List Upd) (hU : UpdsM w.heap.size w A us) (hok : ∀ u ∈ us, UpdOk u) (hul : us.length ≤ 1000000) :
    Calls Tryz.prog 9 #[.agg #[m, .int .i64 l], .slice A us.length C] w (CommitPost P S m (commitR S V l us) w) := by
  obtain ⟨x, hf, hx, hxl⟩ := hg.find
  have hdb : dbV V l = x.db := by unfold dbV; rw [hf]
  have hlo := hg.low
  have hhi := hg.high
  have hb' : (B : Int) + 300 ≤ 1000000000000000000 := by omega
  refine (snCommit_any h hPn hx hxl h64 ⟨hlo, by omega⟩ hSl A C us hU hok hul).mono fun e w' hh => ?_
  obtain ⟨h1, h2, h3⟩ := hh
  unfold commitR
  rw [hdb]
  by_cases h0 : (applyF S x.db 0 us).1 = 0
  · obtain ⟨m', e1, hs⟩ := h1 h0
    obtain ⟨bd, rfl⟩ := hs.form
    rw [if_pos h0]
    exact ⟨bd, _, e1, rfl, fun hh => absurd rfl hh, hs, h3⟩
  · have e1 := h2 h0
    obtain ⟨b, rfl⟩ := h.form
    rw [if_neg h0]
    exact ⟨b, 0, e1, (if_neg h0).symm, fun _ => rfl, h.up h3, h3⟩
end
end Go.Proofs.YtgaffbdcpkbdhaaGreat
end

section
/- Lists of updates as cells; appends of whole lists (updates, versions of the reference, batches). -/
namespace Go.Proofs.YtgaffbdcpkbdhaaGreat
open Go.RowKit Go.Sort Go.ChangeMaps Go.WideShapes

theorem updInfo : (Tryz.prog.info? 61).map (fun i => (i.zero, i.size, i.bytes)) = some (some (.agg #[.bool false, .string ⟨#[]⟩, .slice none 0 0]), 3, 48) := by kernel_rfl
theorem updsInfo : (Tryz.prog.info? 40).map (fun i => (i.zero, i.size, i.bytes)) = some (some (.slice none 0 0), 1, 24) := by kernel_rfl

set_option maxRecDepth 4000 in
theorem runXUpd {w : World} (ty : TypeId) (base : Nat) (v : Value) (n : Nat) (xs : List Value) (hown : w.ownsRow base 61 3 v n xs)
    (A : Option Addr) (m C : Nat) (news : List Value) (hl : news.length = m * 3) (hz : Sl w.heap.size w A news) (h1 : ∀ u ∈ news, u.oneCell' = true) (hn : n + m ≤ 1000000) (hbase : base ≤ w.heap.size) :
    ∃ v' w', (Builtin.append_ #[40, 40] ty #[v, .slice A m C]).run Tryz.prog w = .ok v' w' ∧ w'.ownsRow base 61 3 v' (n + m) (xs ++ news) ∧ w.grownBy w' v.ownBlock ∧ (∀ b, v'.ownBlock = some b → v.ownBlock = some b ∨ b = w.heap.size) := by
  obtain ⟨i0, hi0, hz0, hz1, hz2⟩ := info_parts updInfo
  rcases A with _ | ad
  · have hy : m = 0 := by
      rcases Nat.eq_zero_or_pos m with h | h
      · exact h
      · obtain ⟨b, o, e', hb, hc⟩ := hz (fun h0 => by rw [h0] at hl; simp only [List.length_nil] at hl; omega)
        cases e'
    subst hy
    obtain rfl : news = [] := List.eq_nil_of_length_eq_zero (by rw [hl, Nat.zero_mul])
    exact ⟨v, w, run_append_none (P := Tryz.prog) w base 40 ty 61 i0 3 Tryz.underlying40 hi0 v n xs hown C, by simpa using hown, ⟨rfl, rfl, rfl, Nat.le_refl _, fun _ _ _ => rfl⟩, fun b hb => .inl hb⟩
  · have hcell : ∀ j u, news[j]? = some u → w.cell? (ad.add j) = some u := fun j u hu => by
      obtain ⟨b, o, e', hb, hc⟩ := hz (by intro h0; rw [h0] at hu; simp at hu)
      injection e' with e'
      subst e'
      rw [Addr.add_lit]
      exact hc j u hu
    obtain ⟨v', w', hrun, k2, k3, _, k5⟩ := run_append_own_at (P := Tryz.prog) w base 40 ty 61 i0 _ 3 48 Tryz.underlying40 hi0 hz0 hz1 hz2 rfl (by decide) v n xs hown ad m C news hl hcell h1 (by simp only [maxLen]; omega) (by omega) hbase
    exact ⟨v', w', hrun, k2, k3, fun b hb => by
      rcases k5 with k5 | k5
      · exact .inl (by rw [← k5]; exact hb)
      · rw [k5] at hb; injection hb with hb; exact .inr hb.symm⟩
/-- append(l, more...). -/
theorem appXUpd {w : World} {ops : Array Oper} {rest : List Oper} {o : Oper} {a : Act} {Q : Exit → Act → World → Prop} (hgd : o.guard = none) (s x : Operand)
    (ho : o.op = .call { callee := .builtin .append, args := #[s, x], argTypes := #[40, 40] })
    (base : Nat) (v : Value) (n : Nat) (xs : List Value) (hs0 : a.eval s = v) (hown : w.ownsRow base 61 3 v n xs)
    (A : Option Addr) (m C : Nat) (news : List Value) (hx : a.eval x = .slice A m C) (hl : news.length = m * 3) (hz : Sl w.heap.size w A news) (h1 : ∀ u ∈ news, u.oneCell' = true)
    (hn : n + m ≤ 1000000) (hbase : base ≤ w.heap.size)
    (h : ∀ v' w', w'.ownsRow base 61 3 v' (n + m) (xs ++ news) → w.grownBy w' v.ownBlock → (∀ b, v'.ownBlock = some b → v.ownBlock = some b ∨ b = w.heap.size) → wpList Tryz.prog ops Q rest (a.put o.dst v') w') : wpList Tryz.prog ops Q (o :: rest) a w := by
  refine wpList_plain hgd fun K hK => ?_
  obtain ⟨v', w', hrun, k2, k3, k4⟩ := runXUpd o.type base v n xs hown A m C news hl hz h1 hn hbase
  unfold Oper.wp execOp
  simp only [ho, resolve, invoke, builtin, Sem.run_bind, Sem.run_pure, Result.andThen_ok, List.map_toArray, List.map_cons, List.map_nil, hs0, hx, hrun]
  exact hK _ _ (h v' w' k2 k3 k4)
/-- The same at a step of a drawn region. -/
theorem stepXUpd {w : World} {ops : Array Oper} {o : Oper} {a : Act} {K : Act → World → Prop} {Q : Exit → Act → World → Prop} {E : Prop} (hgd : o.guard = none) (s x : Operand)
    (ho : o.op = .call { callee := .builtin .append, args := #[s, x], argTypes := #[40, 40] })
    (base : Nat) (v : Value) (n : Nat) (xs : List Value) (hs0 : a.eval s = v) (hown : w.ownsRow base 61 3 v n xs)
    (A : Option Addr) (m C : Nat) (news : List Value) (hx : a.eval x = .slice A m C) (hl : news.length = m * 3) (hz : Sl w.heap.size w A news) (h1 : ∀ u ∈ news, u.oneCell' = true)
    (hn : n + m ≤ 1000000) (hbase : base ≤ w.heap.size)
    (h : ∀ v' w', w'.ownsRow base 61 3 v' (n + m) (xs ++ news) → w.grownBy w' v.ownBlock → (∀ b, v'.ownBlock = some b → v.ownBlock = some b ∨ b = w.heap.size) → K (a.put o.dst v') w') :
    if Region.wanted o (yielded ops a.tmps) = true then Oper.wp Tryz.prog o a w K Q else E := by
  obtain ⟨v', w', hrun, k2, k3, k4⟩ := runXUpd o.type base v n xs hown A m C news hl hz h1 hn hbase
  have hw : Region.wanted o (yielded ops a.tmps) = true := by unfold Region.wanted; rw [hgd]
  rw [if_pos hw]
  unfold Oper.wp execOp
  simp only [ho, resolve, invoke, builtin, Sem.run_bind, Sem.run_pure, Result.andThen_ok, List.map_toArray, List.map_cons, List.map_nil, hs0, hx, hrun]
  exact h v' w' k2 k3 k4
/-- The cells of a list of updates. -/
structure UpdCs (B : Nat) (w : World) (us : List Upd) (cs : List Value) : Prop where
  len : cs.length = us.length * 3
  one : ∀ u ∈ cs, u.oneCell' = true
  at_ : ∀ i (h : i < us.length), ∃ RA RC, cs[i * 3]? = some (.bool us[i].del) ∧ cs[i * 3 + 1]? = some (.string us[i].rel) ∧ cs[i * 3 + 2]? = some (.slice RA us[i].row.length RC) ∧ SlR B w RA us[i].row
theorem UpdCs.nil {B : Nat} {w : World} : UpdCs B w [] [] := ⟨rfl, fun u hu => (by cases hu), fun i hi => absurd hi (Nat.not_lt_zero _)⟩
theorem UpdCs.below {B C : Nat} {w w' : World} {us : List Upd} {cs : List Value} (h : UpdCs B w us cs) (hb : Below C w w') (hC : B ≤ C) : UpdCs B w' us cs :=
  ⟨h.len, h.one, fun i hi => by obtain ⟨RA, RC, a, b, c, d⟩ := h.at_ i hi; exact ⟨RA, RC, a, b, c, d.below hb hC⟩⟩
theorem UpdCs.more {B B' : Nat} {w : World} {us : List Upd} {cs : List Value} (h : UpdCs B w us cs) (hB : B ≤ B') : UpdCs B' w us cs :=
  ⟨h.len, h.one, fun i hi => by obtain ⟨RA, RC, a, b, c, d⟩ := h.at_ i hi; exact ⟨RA, RC, a, b, c, d.more hB⟩⟩
theorem UpdCs.append {B : Nat} {w : World} {us vs : List Upd} {cs ds : List Value} (h : UpdCs B w us cs) (k : UpdCs B w vs ds) : UpdCs B w (us ++ vs) (cs ++ ds) := by
  refine ⟨by rw [List.length_append, List.length_append, h.len, k.len, Nat.add_mul], fun u hu => ?_, fun i hi => ?_⟩
  · rcases List.mem_append.1 hu with hu | hu
    · exact h.one u hu
    · exact k.one u hu
  · by_cases hiu : i < us.length
    · obtain ⟨RA, RC, a, b, c, d⟩ := h.at_ i hiu
      have hl := h.len
      refine ⟨RA, RC, ?_, ?_, ?_, ?_⟩
      · rw [List.getElem?_append_left (by omega), List.getElem_append_left hiu]; exact a
      · rw [List.getElem?_append_left (by omega), List.getElem_append_left hiu]; exact b
      · rw [List.getElem?_append_left (by omega), List.getElem_append_left hiu]; exact c
      · rw [List.getElem_append_left hiu]; exact d
    · rw [List.length_append] at hi
      obtain ⟨RA, RC, a, b, c, d⟩ := k.at_ (i - us.length) (by omega)
      have hl := h.len
      have e0 : i * 3 - cs.length = (i - us.length) * 3 := by omega
      have e1 : i * 3 + 1 - cs.length = (i - us.length) * 3 + 1 := by omega
      have e2 : i * 3 + 2 - cs.length = (i - us.length) * 3 + 2 := by omega
      have hge : us.length ≤ i := by omega
      refine ⟨RA, RC, ?_, ?_, ?_, ?_⟩
      · rw [List.getElem?_append_right (by omega), e0, List.getElem_append_right hge]; exact a
      · rw [List.getElem?_append_right (by omega), e1, List.getElem_append_right hge]; exact b
      · rw [List.getElem?_append_right (by omega), e2, List.getElem_append_right hge]; exact c
      · rw [List.getElem_append_right hge]; exact d
theorem UpdCs.one1 {B : Nat} {w : World} (u : Upd) (RA : Option Addr) (RC : Nat) (h : SlR B w RA u.row) : UpdCs B w [u] [.bool u.del, .string u.rel, .slice RA u.row.length RC] := by
  refine ⟨rfl, fun x hx => ?_, fun i hi => ?_⟩
  · simp at hx
    rcases hx with rfl | rfl | rfl <;> rfl
  · obtain rfl : i = 0 := by simp at hi; exact hi
    exact ⟨RA, RC, rfl, rfl, rfl, h⟩
theorem UpdsM.cs {B : Nat} {w : World} {A : Option Addr} {us : List Upd} (h : UpdsM B w A us) : ∃ cs, UpdCs B w us cs ∧ Sl B w A cs := by
  by_cases hne : us = []
  · subst hne
    exact ⟨[], UpdCs.nil, fun h => absurd rfl h⟩
  obtain ⟨b, o, rfl, hb, hc⟩ := h hne
  refine ⟨(List.range (us.length * 3)).map fun j => (w.cell? ⟨b, o + j, none⟩).getD (.bool false), ⟨by simp, fun u hu => ?_, fun i hi => ?_⟩, fun _ => ⟨b, o, rfl, hb, fun j u hu => ?_⟩⟩
  · obtain ⟨j, hj, rfl⟩ := List.mem_map.1 hu
    have hj := List.mem_range.1 hj
    obtain ⟨RA, RC, c0, c1, c2, -⟩ := hc (j / 3) (by omega)
    have hr : j % 3 = 0 ∨ j % 3 = 1 ∨ j % 3 = 2 := by omega
    rcases hr with hr | hr | hr
    · rw [show o + j = o + j / 3 * 3 by omega, c0]; rfl
    · rw [show o + j = o + j / 3 * 3 + 1 by omega, c1]; rfl
    · rw [show o + j = o + j / 3 * 3 + 2 by omega, c2]; rfl
  · obtain ⟨RA, RC, c0, c1, c2, c3⟩ := hc i hi
    refine ⟨RA, RC, ?_, ?_, ?_, c3⟩
    · rw [List.getElem?_map, List.getElem?_range (by omega), Option.map_some, c0]; rfl
    · rw [List.getElem?_map, List.getElem?_range (by omega), Option.map_some, show o + (i * 3 + 1) = o + i * 3 + 1 by omega, c1]; rfl
    · rw [List.getElem?_map, List.getElem?_range (by omega), Option.map_some, show o + (i * 3 + 2) = o + i * 3 + 2 by omega, c2]; rfl
  · rw [List.getElem?_map] at hu
    have hj : j < us.length * 3 := by
      rcases Nat.lt_or_ge j (us.length * 3) with h | h
      · exact h
      · rw [List.getElem?_eq_none (by simpa using h)] at hu; cases hu
    rw [List.getElem?_range hj] at hu
    simp only [Option.map_some, Option.some.injEq] at hu
    subst hu
    obtain ⟨RA, RC, c0, c1, c2, -⟩ := hc (j / 3) (by omega)
    have hr : j % 3 = 0 ∨ j % 3 = 1 ∨ j % 3 = 2 := by omega
    rcases hr with hr | hr | hr
    · rw [show o + j = o + j / 3 * 3 by omega, c0]; rfl
    · rw [show o + j = o + j / 3 * 3 + 1 by omega, c1]; rfl
    · rw [show o + j = o + j / 3 * 3 + 2 by omega, c2]; rfl
theorem UpdsM.of_cs {B : Nat} {w : World} {A : Option Addr} {us : List Upd} {cs : List Value} (h : UpdCs B w us cs) (hs : Sl B w A cs) : UpdsM B w A us := fun hn => by
  have hpos : 0 < us.length := List.length_pos_iff.2 hn
  have hl := h.len
  obtain ⟨b, o, rfl, hb, hc⟩ := hs (fun h0 => by rw [h0] at hl; simp only [List.length_nil] at hl; omega)
  exact ⟨b, o, rfl, hb, fun i hi => by
    obtain ⟨RA, RC, c0, c1, c2, c3⟩ := h.at_ i hi
    exact ⟨RA, RC, hc _ _ c0, by rw [Nat.add_assoc]; exact hc _ _ c1, by rw [Nat.add_assoc]; exact hc _ _ c2, c3⟩⟩
/-- A list of updates that a call made. -/
theorem own_updsM {w : World} {base : Nat} {v : Value} {n : Nat} {us : List Upd} {cs : List Value} (h : w.ownsRow base 61 3 v n cs) (hc : UpdCs w.heap.size w us cs) :
    ∃ A C, v = .slice A us.length C ∧ us.length ≤ C ∧ C ≤ 9223372036854775807 ∧ UpdsM w.heap.size w A us := by
  have hn : n = us.length := by have h1 := h.1; have h2 := hc.len; omega
  subst hn
  obtain ⟨A, C, e, h1, h2, h3⟩ := own_cut h (by decide)
  refine ⟨A, C, e, h1, h2, UpdsM.of_cs hc (fun hne => ?_)⟩
  obtain ⟨b, rfl, hb, hc⟩ := h3 hne
  exact ⟨b, 0, rfl, hb, fun i u hu => by rw [Nat.zero_add]; exact hc i u hu⟩
theorem own_new (w : World) (base : Nat) (T : TypeId) (size : Nat) (u : List Value) (hu : u.length = size) (hb : base ≤ w.heap.size) : (w.alloc (.cells u.toArray T)).ownsRow base T size (.slice (some ⟨w.heap.size, 0, none⟩) 1 1) 1 u :=
  ⟨by rw [hu, Nat.one_mul], .inr ⟨w.heap.size, 1, u.toArray, rfl, hb, Row.new w T u, Nat.le_refl _, by simp [maxLen], by simp [hu], by simp [hu, List.take_of_length_le]⟩⟩

end Go.Proofs.YtgaffbdcpkbdhaaGreat
end

section
/- Further words for the laws of chapter 16. -/
namespace Go.Proofs.YtgaffbdcpkbdhaaGreat
open Go.RowKit Go.Sort Go.ChangeMaps Go.WideShapes

-- snapshot.New of the zero database
set_option maxHeartbeats 2000000 in
set_option maxRecDepth 100000 in
theorem snNew_low (n : Int) (hn : 0 ≤ n) (hw : (Lit.int .i64 n).wf = true) (w : World) :
    Calls Tryz.prog 8 #[.int .i64 n, .agg #[.map none]] w fun e w' => ∃ m', e = .returned (.tuple #[.agg #[.map (some m'), .int .i64 n], .int .i64 0]) ∧ Below w.heap.size w w' := by
  have hmm := fun u => run_makeMap (P := Tryz.prog) 33 u
  obtain ⟨W0, hW0⟩ : ∃ W0, W0 = ((w.alloc (.cells #[.map none] 29)).alloc (.cells #[.map none, .int .i64 0] 35)).alloc (.map #[] 0) := ⟨_, rfl⟩
  have hr2 : Row W0 (w.heap.size + 1) 35 [.map none, .int .i64 0] := by
    have h := (Row.new (w.alloc (.cells #[.map none] 29)) 35 [.map none, .int .i64 0]).alloc (.map #[] 0)
    rw [World.size_alloc] at h
    rw [hW0]; exact h
  have hx0 : Ext w W0 := by rw [hW0]; exact (((Ext.refl w).alloc _).alloc _).alloc _
  have hr1 : Row W0 w.heap.size 29 [.map none] := by rw [hW0]; exact ((Row.new w 29 _).alloc _).alloc _
  have ho : W0.ownsMap Tryz.prog 3 heldR (w.heap.size + 1 + 1) 0 (.map []) := by
    have h := World.ownsMap_made ((w.alloc (.cells #[.map none] 29)).alloc (.cells #[.map none, .int .i64 0] 35)) Tryz.prog 3 heldR
    rw [World.size_alloc, World.size_alloc] at h
    rw [hW0]; exact h
  have HO := Lib.hid ho
  have HR2 := Lib.hid hr2
  have HX0 := Lib.hid hx0
  have HW := Lib.hid hw
  have k9 : W0.cell? ⟨w.heap.size, 0, none⟩ = some (.map none) := hr1.cell 0
  have z9 := hr1.lt
  clear ho hr2 hx0 hw hr1
  go_enter Tryz.func8, Tryz.ntmps8
  go_wp2_with
    (rw [← hW0]
     refine insertOwn rfl _ _ _ 33 rfl 3 80 keyedI Tryz.underlying33 (w.heap.size + 1 + 1) 0 (.map []) rfl HO.out (by decide) _ _ (litI n) rfl rfl (keyI HW.out) ?_
     intro w2 hown2 hg2
     have q2 := HR2.out.grown hg2 (by intro e; injection e with e; omega)
     have k0 : w2.cell? ⟨w.heap.size + 1, 0, none⟩ = some (.map none) := q2.cell 0
     have k1 : w2.cell? ⟨w.heap.size + 1, 1, none⟩ = some (.int .i64 0) := q2.cell 1
     have k2 := q2.frozen 0
     have k3 := q2.frozen 1
     have HQ2 := Lib.hid q2
     have HO2 := Lib.hid hown2
     have HB2 : Hid (Below w.heap.size w w2) := HX0.out.below.grown hg2 HX0.out.size (fun k hk => by injection hk with hk; omega)
     clear q2 hown2 hg2 hmm)
  obtain ⟨W3, hW3⟩ : ∃ W3, W3 = (w2.setCell ⟨w.heap.size + 1, 0, none⟩ (.map (some (w.heap.size + 1 + 1)))).setCell ⟨w.heap.size + 1, 1, none⟩ (.int .i64 n) := ⟨_, rfl⟩
  rw [← hW3]
  have q := HQ2.out.set2 (.map (some (w.heap.size + 1 + 1))) (.int .i64 n)
  rw [← hW3] at q
  have c0 := q.cell 0
  have c1 := q.cell 1
  have hb3 : Below w.heap.size w W3 := by
    rw [hW3]
    exact (HB2.out.setCell (by show w.heap.size ≤ w.heap.size + 1; omega) _).setCell (by show w.heap.size ≤ w.heap.size + 1; omega) _
  exact bodyPost_ret (v := .tuple #[.agg #[.map (some (w.heap.size + 1 + 1)), .int .i64 n], .int .i64 0]) (by simp [results, Tryz.results8, go_sem, c0, c1]) rfl ⟨_, rfl, hb3⟩

theorem SchsM.below {B C : Nat} {w w' : World} {A : Option Addr} {X : Sch} (h : SchsM B w A X) (hb : Below C w w') (hC : B ≤ C) : SchsM B w' A X := fun hn => by
  obtain ⟨b, o, e, hlt, hc⟩ := h hn
  exact ⟨b, o, e, hlt, fun i hi => by
    obtain ⟨KA, KC, g0, g1, g2⟩ := hc i hi
    have hb' : b < C := Nat.lt_of_lt_of_le hlt hC
    exact ⟨KA, KC, (hb.cell hb').trans g0, (hb.cell hb').trans g1, Sl.below g2 hb hC⟩⟩
theorem SchsM.more {B B' : Nat} {w : World} {A : Option Addr} {X : Sch} (h : SchsM B w A X) (hB : B ≤ B') : SchsM B' w A X := fun hn => by
  obtain ⟨b, o, e, hlt, hc⟩ := h hn
  exact ⟨b, o, e, Nat.lt_of_lt_of_le hlt hB, fun i hi => by
    obtain ⟨KA, KC, g0, g1, g2⟩ := hc i hi
    exact ⟨KA, KC, g0, g1, Sl.more g2 hB⟩⟩
theorem errSchs_ok : ∀ (X : Sch) (seen : List ByteArray), errSchs seen X = 0 → (∀ p ∈ X, nameF p.1 = true ∧ memB p.1 seen = false ∧ p.2.length ≤ 6) ∧ (X.map Prod.fst).Nodup
  | [], _, _ => ⟨fun p hp => (by cases hp), List.nodup_nil⟩
  | p :: t, seen, h => by
    unfold errSchs at h
    split at h
    · rename_i h0
      obtain ⟨h1, h2⟩ := errSchs_ok t _ h
      have hp : nameF p.1 = true ∧ memB p.1 seen = false ∧ p.2.length ≤ 6 := by
        unfold errSch at h0
        split at h0
        · cases h0
        · rename_i k1
          split at h0
          · cases h0
          · rename_i k2
            split at h0
            · cases h0
            · rename_i k3
              exact ⟨by simpa using k1, by simpa using k2, by omega⟩
      have hsub : ∀ q ∈ t, q.1 ≠ p.1 ∧ memB q.1 seen = false := fun q hq => by
        obtain ⟨_, g, _⟩ := h1 q hq
        refine ⟨fun e => ?_, ?_⟩
        · rw [e] at g
          exact absurd (List.mem_append.2 (.inr (List.mem_singleton.2 rfl))) (memB_no g)
        · cases hm : memB q.1 seen
          · rfl
          · exact absurd (List.mem_append.2 (.inl (memB_iff.1 hm))) (memB_no g)
      refine ⟨fun q hq => ?_, ?_⟩
      · rcases List.mem_cons.1 hq with rfl | hq
        · exact hp
        · exact ⟨(h1 q hq).1, (hsub q hq).2, (h1 q hq).2.2⟩
      · rw [List.map_cons, List.nodup_cons]
        refine ⟨fun hm => ?_, h2⟩
        obtain ⟨q, hq, e⟩ := List.mem_map.1 hm
        exact (hsub q hq).1 e
    · rename_i h0
      exact absurd h h0
/-- Schemas that New takes. -/
theorem errS_ok {X : Sch} (h : errS X = 0) : X.length ≤ 16 ∧ (∀ p ∈ X, nameF p.1 = true ∧ p.2.length ≤ 6) ∧ (X.map Prod.fst).Nodup := by
  unfold errS at h
  split at h
  · cases h
  · obtain ⟨h1, h2⟩ := errSchs_ok X [] h
    exact ⟨by omega, fun p hp => ⟨(h1 p hp).1, (h1 p hp).2.2⟩, h2⟩
theorem nameF_nil : nameF ⟨#[]⟩ = false := by rfl
theorem check_nil {X : Sch} (h : ∀ p ∈ X, nameF p.1 = true) (x : RL.R) : checkF X ⟨#[]⟩ x = 7 := by
  unfold checkF
  rw [List.find?_eq_none.2 fun p hp => by
    intro e
    have e : p.1 = ⟨#[]⟩ := by simpa using e
    have := h p hp
    rw [e, nameF_nil] at this
    cases this]
theorem apply_bad {X : Sch} (h : ∀ p ∈ X, nameF p.1 = true) (F : Cont) (us : List Upd) : applyF X F 0 (⟨false, ⟨#[]⟩, []⟩ :: us) = (7, F, 0) := by
  have hs : stepU X F ⟨false, ⟨#[]⟩, []⟩ = (7, F, false) := by
    unfold stepU
    have := check_nil h []
    show (if checkF X ⟨#[]⟩ [] = 0 then _ else (checkF X ⟨#[]⟩ [], F, false)) = _
    rw [this]
    rfl
  unfold applyF
  rw [hs]
  rfl
theorem commit_bad {X : Sch} (h : ∀ p ∈ X, nameF p.1 = true) (V : List Ver) (l : Int) (us : List Upd) : commitR X V l (⟨false, ⟨#[]⟩, []⟩ :: us) = (7, V, l) := by
  unfold commitR
  rw [apply_bad h]
  rfl
theorem commit_pins {X : Sch} {V : List Ver} {l : Int} {us : List Upd} (hp : V.Pairwise (fun x y => x.num < y.num)) (h : ∀ x ∈ V, x.pins = 0) : ∀ x ∈ (commitR X V l us).2.1, x.pins = 0 := fun x hx => by
  unfold commitR at hx
  split at hx
  · rcases (mem_putV _ hp x).1 hx with rfl | ⟨hx, _⟩
    · rfl
    · exact h x hx
  · exact h x hx
theorem unpin_pins {V : List Ver} (h : ∀ x ∈ V, x.pins = 0) (n : Int) : (unpinR V n).1 ≠ 0 := by
  unfold unpinR
  cases hf : findV V n with
  | none => exact fun h => (by cases h)
  | some x =>
    show (if x.pins = 0 then ((17 : Int), V) else _).1 ≠ 0
    rw [if_pos (h x (findV_some hf).1)]
    exact fun h => (by cases h)

/-- Versions, read. -/
theorem snVersions_sl {P : Nat → Prop} {S : Sch} {m : Value} {l : Int} {V : List Ver} {w : World} (h : StM P S w m V) (hV : V.length ≤ 1000) :
    Calls Tryz.prog 18 #[.agg #[m, .int .i64 l]] w fun e w' => ∃ A C, e = .returned (.slice A V.length C) ∧ SlI .i64 w'.heap.size w' A (V.map (·.num)) ∧ Below w.heap.size w w' := by
  refine (snVersions_any h hV).mono ?_
  rintro e w' ⟨v, rfl, hrow, hb⟩
  obtain ⟨A, C, rfl, -, -, hs⟩ := Sl.of_own hrow
  refine ⟨A, C, ?_, hs, hb⟩
  rw [List.length_map, List.length_map]
theorem r16Same_refl (A B : Option Addr) (C D n : Nat) (xs : List Int) (w : World) (hn : xs.length = n) (hA : SlI .i64 w.heap.size w A xs) (hB : SlI .i64 w.heap.size w B xs) (hl : n ≤ 1000000) :
    Calls Tryz.prog 17 #[.slice A n C, .slice B n D] w fun e w' => e = .returned (.bool true) ∧ Ext w w' := by
  subst hn
  have h := r16Same_any A B C D xs xs w hA hB hl hl
  rwa [decide_eq_true (show xs = xs from rfl)] at h

end Go.Proofs.YtgaffbdcpkbdhaaGreat
end

section
/- Plain: the differences of two databases; applying them turns one into the other. -/
namespace Go.Proofs.YtgaffbdcpkbdhaaGreat
open Go.RowKit Go.Sort Go.ChangeMaps Go.WideShapes

/-- The rows of X that are not in Y. -/
def minF (X Y : List RL.R) : List RL.R := X.filter fun x => !decide (x ∈ Y)
/-- What Diff gives for one relation. -/
def diff1 (nm : ByteArray) (X Y : List RL.R) : List Upd := (minF X Y).map (fun x => (⟨true, nm, x⟩ : Upd)) ++ (minF Y X).map (fun x => (⟨false, nm, x⟩ : Upd))
def diffF (ns : List ByteArray) (F G : Cont) : List Upd := ns.flatMap fun nm => diff1 nm (F nm) (G nm)
/-- Contents that came of updates. -/
def ContOk (S : Sch) (F : Cont) : Prop := ∀ p ∈ S, RL.SS (F p.1) ∧ (F p.1).length ≤ 4096 ∧ ∀ x ∈ F p.1, checkF S p.1 x = 0
theorem ContOk.zero {S : Sch} : ContOk S (fun _ => []) := fun _ _ => ⟨RL.ss_nil, Nat.zero_le _, fun x hx => by cases hx⟩
theorem updC_self (F : Cont) (nm : ByteArray) (X : List RL.R) : updC F nm X nm = X := if_pos rfl
theorem updC_ne (F : Cont) {nm s : ByteArray} (X : List RL.R) (h : s ≠ nm) : updC F nm X s = F s := if_neg h
theorem ContOk.step {S : Sch} {F : Cont} (h : ContOk S F) (u : Upd) : ContOk S (stepU S F u).2.1 := by
  unfold stepU
  by_cases h0 : checkF S u.rel u.row = 0
  · rw [if_pos h0]
    by_cases h1 : (updF u.del (F u.rel) u.row).1 = 0
    · rw [if_pos h1]
      show ContOk S (if (updF u.del (F u.rel) u.row).2.2 = true then updC F u.rel (updF u.del (F u.rel) u.row).2.1 else F)
      split
      · intro p hp
        by_cases e : p.1 = u.rel
        · obtain ⟨a, b, c⟩ := h p hp
          rw [e] at a b c
          rw [e, updC_self]
          unfold updF at h1 ⊢
          by_cases hd : u.del = true
          · rw [if_pos hd]
            exact ⟨a.del _, Nat.le_trans (List.length_filter_le _ _) b, fun x hx => c x ((RL.mem_delF _ _ _).1 hx).1⟩
          · rw [if_neg hd] at h1 ⊢
            by_cases hf : 4096 ≤ (F u.rel).length
            · rw [if_pos hf] at h1 ⊢
              by_cases hm : u.row ∈ F u.rel
              · rw [if_pos hm]; exact ⟨a, b, c⟩
              · rw [if_neg hm]; exact ⟨a, b, c⟩
            · rw [if_neg hf]
              refine ⟨a.ins _, by have := RL.insF_length_le (F u.rel) u.row; show (RL.insF (F u.rel) u.row).length ≤ 4096; omega, fun x hx => ?_⟩
              rcases (RL.mem_insF _ _ _).1 hx with hx | hx
              · exact c x hx
              · rw [hx]; exact h0
        · rw [updC_ne _ _ e]
          exact h p hp
      · exact h
    · rw [if_neg h1]; exact h
  · rw [if_neg h0]; exact h
theorem ContOk.apply {S : Sch} : ∀ (us : List Upd) {F : Cont} (n : Nat), ContOk S F → ContOk S (applyF S F n us).2.1
  | [], F, n, h => h
  | u :: t, F, n, h => by
    unfold applyF
    split
    · exact ContOk.apply t _ (h.step u)
    · exact h
theorem step_del {S : Sch} {H : Cont} {nm : ByteArray} {x : RL.R} (hc : checkF S nm x = 0) (hx : x ∈ H nm) : stepU S H ⟨true, nm, x⟩ = (0, updC H nm (RL.delF (H nm) x), true) := by
  unfold stepU updF
  simp only [hc, if_true, decide_eq_true hx]
theorem step_ins {S : Sch} {H : Cont} {nm : ByteArray} {x : RL.R} (hc : checkF S nm x = 0) (hx : x ∉ H nm) (hl : (H nm).length < 4096) : stepU S H ⟨false, nm, x⟩ = (0, updC H nm (RL.insF (H nm) x), true) := by
  have h4 : ¬ 4096 ≤ (H nm).length := by omega
  unfold stepU updF
  simp only [hc, if_true, decide_eq_false hx, Bool.false_eq_true, if_false, if_neg h4, Bool.not_false]
theorem del_run {S : Sch} {nm : ByteArray} : ∀ (D : List RL.R) (H : Cont) (n : Nat), (∀ x ∈ D, checkF S nm x = 0 ∧ x ∈ H nm) → D.Nodup → RL.SS (H nm) →
    ∃ H', applyF S H n (D.map fun x => (⟨true, nm, x⟩ : Upd)) = (0, H', n + D.length) ∧ RL.SS (H' nm) ∧ (∀ r, r ∈ H' nm ↔ r ∈ H nm ∧ r ∉ D) ∧ ∀ s, s ≠ nm → H' s = H s
  | [], H, n, _, _, hs => ⟨H, rfl, hs, fun r => by simp, fun _ _ => rfl⟩
  | x :: t, H, n, h, hn, hs => by
    obtain ⟨h1, h2⟩ := h x List.mem_cons_self
    have hn' := List.nodup_cons.1 hn
    obtain ⟨H', e, a, b, c⟩ := del_run t (updC H nm (RL.delF (H nm) x)) (n + 1) (fun y hy => ⟨(h y (List.mem_cons_of_mem _ hy)).1, by
      rw [updC_self]
      exact (RL.mem_delF _ _ _).2 ⟨(h y (List.mem_cons_of_mem _ hy)).2, fun e => hn'.1 (e ▸ hy)⟩⟩) hn'.2 (by rw [updC_self]; exact hs.del _)
    refine ⟨H', ?_, a, fun r => ?_, fun s hsn => (c s hsn).trans (updC_ne _ _ hsn)⟩
    · rw [List.map_cons]
      unfold applyF
      rw [step_del h1 h2]
      simp only [if_true]
      rw [e, List.length_cons]
      congr 2
      omega
    · rw [b, updC_self, RL.mem_delF, List.mem_cons]
      constructor
      · rintro ⟨⟨p, q⟩, s⟩; exact ⟨p, fun h => h.elim q s⟩
      · rintro ⟨p, q⟩; exact ⟨⟨p, fun h => q (.inl h)⟩, fun h => q (.inr h)⟩
theorem ins_run {S : Sch} {nm : ByteArray} : ∀ (I : List RL.R) (H : Cont) (n : Nat), (∀ x ∈ I, checkF S nm x = 0 ∧ x ∉ H nm) → I.Nodup → RL.SS (H nm) → (H nm).length + I.length ≤ 4096 →
    ∃ H', applyF S H n (I.map fun x => (⟨false, nm, x⟩ : Upd)) = (0, H', n + I.length) ∧ RL.SS (H' nm) ∧ (∀ r, r ∈ H' nm ↔ r ∈ H nm ∨ r ∈ I) ∧ ∀ s, s ≠ nm → H' s = H s
  | [], H, n, _, _, hs, _ => ⟨H, rfl, hs, fun r => by simp, fun _ _ => rfl⟩
  | x :: t, H, n, h, hn, hs, hl => by
    obtain ⟨h1, h2⟩ := h x List.mem_cons_self
    have hn' := List.nodup_cons.1 hn
    rw [List.length_cons] at hl
    have hil := RL.insF_length_le (H nm) x
    obtain ⟨H', e, a, b, c⟩ := ins_run t (updC H nm (RL.insF (H nm) x)) (n + 1) (fun y hy => ⟨(h y (List.mem_cons_of_mem _ hy)).1, by
      rw [updC_self, RL.mem_insF]
      rintro (h5 | h5)
      · exact (h y (List.mem_cons_of_mem _ hy)).2 h5
      · exact hn'.1 (h5 ▸ hy)⟩) hn'.2 (by rw [updC_self]; exact hs.ins _) (by rw [updC_self]; omega)
    refine ⟨H', ?_, a, fun r => ?_, fun s hsn => (c s hsn).trans (updC_ne _ _ hsn)⟩
    · rw [List.map_cons]
      unfold applyF
      rw [step_ins h1 h2 (by omega)]
      simp only [if_true]
      rw [e, List.length_cons]
      congr 2
      omega
    · rw [b, updC_self, RL.mem_insF, List.mem_cons, or_assoc]
theorem filter_add {α : Type} (p : α → Bool) : ∀ l : List α, (l.filter p).length + (l.filter fun x => !p x).length = l.length
  | [] => rfl
  | a :: t => by
    have := filter_add p t
    cases h : p a with
    | true => rw [List.filter_cons_of_pos h, List.filter_cons_of_neg (by rw [h]; decide), List.length_cons, List.length_cons]; omega
    | false => rw [List.filter_cons_of_neg (by rw [h]; decide), List.filter_cons_of_pos (by rw [h]; rfl), List.length_cons, List.length_cons]; omega
theorem mem_minF {X Y : List RL.R} {r : RL.R} : r ∈ minF X Y ↔ r ∈ X ∧ r ∉ Y := by simp [minF]
theorem applyF_app (X : Sch) : ∀ (us vs : List Upd) (F : Cont) (n : Nat), (applyF X F n us).1 = 0 → applyF X F n (us ++ vs) = applyF X (applyF X F n us).2.1 (applyF X F n us).2.2 vs
  | [], vs, F, n, _ => rfl
  | u :: t, vs, F, n, h => by
    by_cases h0 : (stepU X F u).1 = 0
    · have e : ∀ l, applyF X F n (u :: l) = applyF X (stepU X F u).2.1 (if (stepU X F u).2.2 then n + 1 else n) l := fun l => by
        show (if (stepU X F u).1 = 0 then _ else _) = _
        rw [if_pos h0]
      rw [List.cons_append, e, e]
      rw [e] at h
      exact applyF_app X t vs _ _ h
    · have e : (applyF X F n (u :: t)).1 = (stepU X F u).1 := by
        show (if (stepU X F u).1 = 0 then _ else ((stepU X F u).1, F, 0) : Int × Cont × Nat).1 = _
        rw [if_neg h0]
      exact absurd (e.symm.trans h) h0
theorem diff1_run {S : Sch} {nm : ByteArray} {X Y : List RL.R} {H : Cont} (n : Nat) (hH : H nm = X) (hX : RL.SS X) (hY : RL.SS Y) (hYl : Y.length ≤ 4096) (hcX : ∀ x ∈ X, checkF S nm x = 0) (hcY : ∀ x ∈ Y, checkF S nm x = 0) :
    ∃ H', applyF S H n (diff1 nm X Y) = (0, H', n + (diff1 nm X Y).length) ∧ H' nm = Y ∧ ∀ s, s ≠ nm → H' s = H s := by
  obtain ⟨H1, e1, s1, m1, o1⟩ := del_run (S := S) (nm := nm) (minF X Y) H n (fun x hx => ⟨hcX x (mem_minF.1 hx).1, by rw [hH]; exact (mem_minF.1 hx).1⟩) (hX.filter _).nodup (by rw [hH]; exact hX)
  have hm1 : ∀ r, r ∈ H1 nm ↔ r ∈ Y ∧ r ∈ X := fun r => by
    rw [m1, hH, mem_minF]
    constructor
    · rintro ⟨p, q⟩
      refine ⟨?_, p⟩
      rcases Classical.em (r ∈ Y) with h | h
      · exact h
      · exact absurd ⟨p, h⟩ q
    · rintro ⟨p, q⟩; exact ⟨q, fun h => h.2 p⟩
  have hH1 : H1 nm = Y.filter fun x => decide (x ∈ X) := RL.SS.ext s1 (hY.filter _) fun r => by rw [hm1]; simp
  obtain ⟨H2, e2, s2, m2, o2⟩ := ins_run (S := S) (nm := nm) (minF Y X) H1 (n + (minF X Y).length) (fun x hx => ⟨hcY x (mem_minF.1 hx).1, fun h => (mem_minF.1 hx).2 ((hm1 x).1 h).2⟩) (hY.filter _).nodup s1 (by
    rw [hH1]
    have := filter_add (fun x => decide (x ∈ X)) Y
    unfold minF
    omega)
  refine ⟨H2, ?_, RL.SS.ext s2 hY fun r => ?_, fun s hs => (o2 s hs).trans (o1 s hs)⟩
  · unfold diff1
    have ha : ∀ us vs : List Upd, (applyF S H n us).1 = 0 → applyF S H n (us ++ vs) = applyF S (applyF S H n us).2.1 (applyF S H n us).2.2 vs := fun us vs => applyF_app S us vs H n
    rw [ha _ _ (by rw [e1]), e1]
    show applyF S H1 (n + (minF X Y).length) _ = _
    rw [e2, List.length_append, List.length_map, List.length_map, Nat.add_assoc]
  · rw [m2, hm1, mem_minF]
    constructor
    · rintro (h | h)
      · exact h.1
      · exact h.1
    · intro h
      rcases Classical.em (r ∈ X) with h1 | h1
      · exact .inl ⟨h, h1⟩
      · exact .inr ⟨h, h1⟩
theorem diff_run {S : Sch} {F G : Cont} (hF : ContOk S F) (hG : ContOk S G) : ∀ (ns : List ByteArray), ns.Nodup → (∀ s ∈ ns, s ∈ S.map Prod.fst) → ∀ (H : Cont) (n : Nat), (∀ s ∈ ns, H s = F s) →
    ∃ H', applyF S H n (diffF ns F G) = (0, H', n + (diffF ns F G).length) ∧ (∀ s ∈ ns, H' s = G s) ∧ ∀ s, s ∉ ns → H' s = H s
  | [], _, _, H, n, _ => ⟨H, rfl, fun s hs => (by cases hs), fun _ _ => rfl⟩
  | nm :: t, hn, hs, H, n, hH => by
    have hn' := List.nodup_cons.1 hn
    obtain ⟨p, hp, rfl⟩ := List.mem_map.1 (hs nm List.mem_cons_self)
    obtain ⟨a1, a2, a3⟩ := hF p hp
    obtain ⟨b1, b2, b3⟩ := hG p hp
    obtain ⟨H1, e1, q1, o1⟩ := diff1_run n (hH p.1 List.mem_cons_self) a1 b1 b2 a3 b3
    obtain ⟨H2, e2, q2, o2⟩ := diff_run hF hG t hn'.2 (fun s hst => hs s (List.mem_cons_of_mem _ hst)) H1 (n + (diff1 p.1 (F p.1) (G p.1)).length) fun s hst => (o1 s fun e => hn'.1 (e ▸ hst)).trans (hH s (List.mem_cons_of_mem _ hst))
    refine ⟨H2, ?_, fun s hst => ?_, fun s hst => ?_⟩
    · show applyF S H n (diff1 p.1 (F p.1) (G p.1) ++ diffF t F G) = (0, H2, n + (diff1 p.1 (F p.1) (G p.1) ++ diffF t F G).length)
      rw [applyF_app S _ _ H n (by rw [e1]), e1]
      show applyF S H1 (n + (diff1 p.1 (F p.1) (G p.1)).length) _ = _
      rw [e2, List.length_append, Nat.add_assoc]
    · rcases List.mem_cons.1 hst with rfl | hst
      · exact (o2 _ hn'.1).trans q1
      · exact q2 s hst
    · exact (o2 s fun h => hst (List.mem_cons_of_mem _ h)).trans (o1 s fun e => hst (e ▸ List.mem_cons_self))
theorem diff1_len (nm : ByteArray) (X Y : List RL.R) : (diff1 nm X Y).length = (minF X Y).length + (minF Y X).length := by unfold diff1; rw [List.length_append, List.length_map, List.length_map]
theorem diffF_len {ns ms : List ByteArray} (h : ns.Perm ms) (F G : Cont) : (diffF ns F G).length = (diffF ms F G).length := (h.flatMap_right _).length_eq
theorem diffF_le {S : Sch} {F G : Cont} (hF : ContOk S F) (hG : ContOk S G) : ∀ (ns : List ByteArray), (∀ s ∈ ns, s ∈ S.map Prod.fst) → (diffF ns F G).length ≤ ns.length * 8192
  | [], _ => Nat.zero_le _
  | nm :: t, hs => by
    obtain ⟨p, hp, rfl⟩ := List.mem_map.1 (hs nm List.mem_cons_self)
    have h1 := diffF_le hF hG t fun s hst => hs s (List.mem_cons_of_mem _ hst)
    have h2 : (minF (F p.1) (G p.1)).length ≤ 4096 := Nat.le_trans (List.length_filter_le _ _) (hF p hp).2.1
    have h3 : (minF (G p.1) (F p.1)).length ≤ 4096 := Nat.le_trans (List.length_filter_le _ _) (hG p hp).2.1
    show (diff1 p.1 (F p.1) (G p.1) ++ diffF t F G).length ≤ (t.length + 1) * 8192
    rw [List.length_append, diff1_len]
    omega
theorem mem_diffF {ns : List ByteArray} {F G : Cont} {u : Upd} (h : u ∈ diffF ns F G) : u.rel ∈ ns ∧ (u.row ∈ F u.rel ∨ u.row ∈ G u.rel) := by
  obtain ⟨nm, hn, hu⟩ := List.mem_flatMap.1 h
  rcases List.mem_append.1 hu with hu | hu
  · obtain ⟨x, hx, rfl⟩ := List.mem_map.1 hu
    exact ⟨hn, .inl (mem_minF.1 hx).1⟩
  · obtain ⟨x, hx, rfl⟩ := List.mem_map.1 hu
    exact ⟨hn, .inr (mem_minF.1 hx).1⟩

end Go.Proofs.YtgaffbdcpkbdhaaGreat
end

section
/- Walks: slices.EqualFunc at rows with row.Equal, relation's Equal. -/
namespace Go.Proofs.YtgaffbdcpkbdhaaGreat
open Go.RowKit Go.Sort

theorem take_eq_snoc {X Y : List RL.R} {k : Nat} (hx : k < X.length) (hy : k < Y.length) (h : X.take k = Y.take k) (e : X[k] = Y[k]) : X.take (k + 1) = Y.take (k + 1) := by
  rw [List.take_succ_eq_append_getElem hx, List.take_succ_eq_append_getElem hy, h, e]

set_option maxHeartbeats 1000000 in
set_option maxRecDepth 100000 in
theorem equalFunc_any (XA YA : Option Addr) (XC YC : Nat) (X Y : List RL.R) (w : World) (hX : SlRs w.heap.size w XA X) (hY : SlRs w.heap.size w YA Y) (_hXl : X.length ≤ 1000000) (hYl : Y.length ≤ 1000000) (hXo : RsOk X) (hYo : RsOk Y) :
    Calls Tryz.prog 52 #[.slice XA X.length XC, .slice YA Y.length YC, .func (.func 53) #[] #[]] w fun e w' => e = .returned (.bool (decide (X = Y))) ∧ Ext w w' := by
  have HX := Lib.hid hX
  have HY := Lib.hid hY
  have HXO := Lib.hid hXo
  have HYO := Lib.hid hYo
  clear hX hY hXo hYo
  by_cases hl : X.length = Y.length
  rotate_left
  · have HD : Hid (decide (X = Y) = false) := by show _ = _; simp only [decide_eq_false_iff_not]; intro e; exact hl (by rw [e])
    have hl2 : ((X.length : Int) != (Y.length : Int)) = true := by simp; omega
    clear hl
    go_enter Tryz.func52, Tryz.ntmps52
    go_wp2
    go_ret
    exact ⟨by rw [HD.out]; rfl, Ext.refl _⟩
  have eg : ∀ args w, (callFunc 53 args).run Tryz.prog w = .ok (.enter 53 args) w := enters_of Tryz.func53 (by kernel_rfl) rfl
  have HL := Lib.hid hl
  rw [← hl]
  have hYX : X.length ≤ Y.length := by omega
  clear hl
  go_enter Tryz.func52, Tryz.ntmps52
  go_wp2
  go_loopw [17] (fun i wr => ∃ k : Nat, k ≤ X.length ∧ i = .int .i64 k ∧ X.take k = Y.take k ∧ Ext w wr) (fun i _ => X.length - (intOf i).toNat)
  case atStart => exact ⟨0, Nat.zero_le _, rfl, by simp, Ext.refl _⟩
  case round =>
    obtain ⟨k, hka, rfl, htk, hext⟩ := hrel
    have HT := Lib.hid htk
    have HE := Lib.hid hext
    have hzz := hext.size
    clear htk
    by_cases h1 : k < X.length
    · obtain ⟨b, o, A1, C1, rfl, hb, c1, -, -, s1⟩ := slRs_at HX.out h1
      obtain ⟨b2, o2, A2, C2, rfl, hb2, c2, -, -, s2⟩ := slRs_at HY.out (show k < Y.length by omega)
      have d1 := (hext.cell (o := o + k) hb).trans c1
      have d2 := (hext.cell (o := o2 + k) hb2).trans c2
      have HC := Lib.hid (rwEqual_any A1 A2 C1 C2 X[k] Y[k] wr (s1.up hext) (s2.up hext) (HXO.out.at_ h1).1 (HYO.out.at_ (show k < Y.length by omega)).1)
      have hkY : k < Y.length := by omega
      have HN := Lib.hid (fun (e : X[k] = Y[k]) => take_eq_snoc h1 hkY HT.out e)
      have HNE : Hid (X[k] ≠ Y[k] → decide (X = Y) = false) := fun hne => by
        simp only [decide_eq_false_iff_not]
        intro e
        subst e
        exact hne rfl
      clear c1 c2 s1 s2 hext
      generalize X[k] = x at *
      generalize Y[k] = y at *
      go_wp2_with fail
      refine HC.out.mono ?_
      rintro e w1 ⟨rfl, hx1⟩
      have HE1 := Lib.hid (HE.out.trans hx1)
      clear hx1 HC d1 d2
      by_cases hq : x = y
      · have HN2 := Lib.hid (HN.out hq)
        have hd : decide (x = y) = true := by simpa using hq
        rw [hd]
        clear hq hd HN HNE
        go_wp2
        go_roundw
        case rel => exact ⟨k + 1, by omega, by go_num, HN2.out, HE1.out⟩
        case measure => simp [intOf]; omega
      · have HN2 := Lib.hid (HNE.out hq)
        have hd : decide (x = y) = false := by simpa using hq
        rw [hd]
        clear hq hd HN HNE
        go_wp2
        go_ret
        exact ⟨by rw [HN2.out]; rfl, HE1.out⟩
    · have HD : Hid (decide (X = Y) = true) := by
        show _ = _
        have := HT.out
        rw [List.take_of_length_le (show X.length ≤ k by omega), List.take_of_length_le (show Y.length ≤ k by have := HL.out; omega)] at this
        simpa using this
      go_wp2
      go_ret
      exact ⟨by rw [HD.out]; rfl, HE.out⟩

set_option maxHeartbeats 1000000 in
set_option maxRecDepth 100000 in
theorem rlEqual_any (n m : Int) (XA YA : Option Addr) (XC YC : Nat) (X Y : List RL.R) (w : World) (hX : SlRs w.heap.size w XA X) (hY : SlRs w.heap.size w YA Y) (hXl : X.length ≤ 1000000) (hYl : Y.length ≤ 1000000) (hXo : RsOk X) (hYo : RsOk Y) :
    Calls Tryz.prog 35 #[.agg #[.int .i64 n, .slice XA X.length XC], .agg #[.int .i64 m, .slice YA Y.length YC]] w fun e w' => e = .returned (.bool (decide (n = m) && decide (X = Y))) ∧ Ext w w' := by
  have HC := Lib.hid (fun (W : World) (h : Ext w W) => equalFunc_any XA YA XC YC X Y W (hX.up h) (hY.up h) hXl hYl hXo hYo)
  clear hX hY hXo hYo
  by_cases hn : n = m
  · subst hn
    go_enter Tryz.func35, Tryz.ntmps35
    go_wp2_with fail
    refine (HC.out _ (((Ext.refl w).alloc _).alloc _)).mono ?_
    rintro e w1 ⟨rfl, hx1⟩
    have HE := Lib.hid ((((Ext.refl w).alloc _).alloc _).trans hx1)
    clear hx1
    obtain ⟨q, hq⟩ : ∃ q, q = decide (X = Y) := ⟨_, rfl⟩
    rw [← hq]
    have HQ := Lib.hid hq
    clear hq
    go_wp2
    go_ret
    exact ⟨by rw [← HQ.out]; simp, HE.out⟩
  · have h1 : (n == m) = false := by simpa using hn
    have HN : Hid (decide (n = m) = false) := by show _ = _; simpa using hn
    clear hn
    go_enter Tryz.func35, Tryz.ntmps35
    go_wp2
    go_ret
    exact ⟨by rw [HN.out]; rfl, ((Ext.refl w).alloc _).alloc _⟩

end Go.Proofs.YtgaffbdcpkbdhaaGreat
end

section
namespace Go.Proofs.YtgaffbdcpkbdhaaGreat
open Go.RowKit

/-- The first place of a number in a list, or -1. -/
def idxF (xs : List Int) (x : Int) : Int := match xs.findIdx? (· == x) with | some i => i | none => -1
theorem idxF_at {xs : List Int} {x : Int} {k : Nat} (hk : k < xs.length) (h : xs[k] = x) (hall : ∀ i (_h1 : i < k) (h2 : i < xs.length), xs[i] ≠ x) : idxF xs x = k := by
  unfold idxF
  have : xs.findIdx? (· == x) = some k := by
    rw [List.findIdx?_eq_some_iff_getElem]
    exact ⟨hk, by simpa using h, fun j hj => by simpa using hall j hj (by omega)⟩
  rw [this]
theorem idxF_none {xs : List Int} {x : Int} (hall : ∀ i (h2 : i < xs.length), xs[i] ≠ x) : idxF xs x = -1 := by
  unfold idxF
  have : xs.findIdx? (· == x) = none := by
    rw [List.findIdx?_eq_none_iff]
    intro y hy
    obtain ⟨i, hi, rfl⟩ := List.getElem_of_mem hy
    simpa using hall i hi
  rw [this]

theorem take_eq_of {xs ys : List Int} {k : Nat} (hl : xs.length = ys.length) (h : ∀ i (_h1 : i < k) (h2 : i < xs.length) (h3 : i < ys.length), xs[i] = ys[i]) (hk : xs.length ≤ k) : xs = ys := by
  apply List.ext_getElem hl
  intro i h2 h3
  exact h i (by omega) h2 h3

set_option maxHeartbeats 400000 in
theorem eqInt_any (XA YA : Option Addr) (XC YC : Nat) (xs ys : List Int) (w : World)
    (hx : SlI .i64 w.heap.size w XA xs) (hy : SlI .i64 w.heap.size w YA ys) (hxl : xs.length ≤ 1000000) (hyl : ys.length ≤ 1000000) :
    Calls Tryz.prog 34 #[.slice XA xs.length XC, .slice YA ys.length YC] w fun e w' => e = .returned (.bool (decide (xs = ys))) ∧ ∃ n, w' = w.drewN n := by
  by_cases hl : xs.length = ys.length
  rotate_left
  · have hd : decide (xs = ys) = false := by
      simp; intro h; subst h; exact hl rfl
    rw [hd]
    clear hx hy hd
    generalize xs.length = m at *
    generalize ys.length = n at *
    have hne : ((m : Int) != (n : Int)) = true := by simp; omega
    clear hl
    go_enter Tryz.func34, Tryz.ntmps34
    go_wp2
    go_ret
    exact ⟨rfl, 0, rfl⟩
  have hne : ((xs.length : Int) != (ys.length : Int)) = false := by simp; omega
  have HL := Lib.hid hl
  clear hl
  go_enter Tryz.func34, Tryz.ntmps34
  go_wp2
  go_loopw [13] (fun i wr => ∃ k : Nat, k ≤ xs.length ∧ i = .int .i64 k ∧ (∀ i (h1 : i < k) (h2 : i < xs.length) (h3 : i < ys.length), xs[i] = ys[i]) ∧ (∃ n, wr = w.drewN n)) (fun i _ => xs.length - (intOf i).toNat)
  case atStart => exact ⟨0, Nat.zero_le _, rfl, fun i h => absurd h (by omega), 0, rfl⟩
  case round =>
    obtain ⟨k, hk, rfl, hall, n, rfl⟩ := hrel
    have HA := Lib.hid hall
    clear hall
    by_cases hlt : k < xs.length
    · have hlt' : k < ys.length := by have := HL.out; omega
      obtain ⟨b, o, rfl, hbb, hc⟩ := slI_at hx hlt
      obtain ⟨b', o', rfl, hbb', hc'⟩ := slI_at hy hlt'
      generalize hxk : xs[k] = xk at *
      generalize hyk : ys[k] = yk at *
      have HX := Lib.hid hxk
      have HY := Lib.hid hyk
      clear hxk hyk hx hy
      by_cases heq : xk = yk
      · have hne2 : (xk != yk) = false := by simp [heq]
        have HE := Lib.hid heq
        clear heq
        go_wp2
        go_quiet (fail)
        go_wp2
        go_roundw
        case rel =>
          refine ⟨k + 1, by omega, by go_num, ?_, _, rfl⟩
          intro i h1 h2 h3
          by_cases hik : i < k
          · exact HA.out i hik h2 h3
          · obtain rfl : i = k := by omega
            rw [HX.out, HY.out, HE.out]
        case measure => simp [intOf]; omega
      · have hne2 : (xk != yk) = true := by simp [heq]
        have hd : decide (xs = ys) = false := by
          simp; intro h; subst h
          exact heq (HX.out.symm.trans HY.out)
        have HD := Lib.hid hd
        clear heq hd
        go_wp2
        go_quiet (fail)
        go_wp2
        go_ret
        exact ⟨ret_bool HD.out.symm, _, World.drewN_drewN _ _ _⟩
    · have hd : decide (xs = ys) = true := by
        simp; exact take_eq_of HL.out HA.out (by omega)
      have HD := Lib.hid hd
      clear hd hx hy
      go_wp2
      go_ret
      exact ⟨ret_bool HD.out.symm, _, rfl⟩

end Go.Proofs.YtgaffbdcpkbdhaaGreat
end

section
/- Walk: catalog.Equal of databases of the same schemas. -/
namespace Go.Proofs.YtgaffbdcpkbdhaaGreat
open Go.RowKit Go.Sort Go.ChangeMaps Go.WideShapes

set_option maxHeartbeats 4000000 in
set_option maxRecDepth 100000 in
theorem ctEqual1_any (KA KA' A A' : Option Addr) (KC KC' C C' n : Nat) (ks : List Int) (X Y : List RL.R) (w : World) (hn : ks.length = n) (hk : SlI .i64 w.heap.size w KA ks) (hk' : SlI .i64 w.heap.size w KA' ks) (hX : SlRs w.heap.size w A X) (hY : SlRs w.heap.size w A' Y)
    (hkl : n ≤ 1000000) (hXl : X.length ≤ 1000000) (hYl : Y.length ≤ 1000000) (hXo : RsOk X) (hYo : RsOk Y) :
    Calls Tryz.prog 33 #[.agg #[.slice KA n KC, .int .i64 (n : Nat), .slice A X.length C], .agg #[.slice KA' n KC', .int .i64 (n : Nat), .slice A' Y.length C']] w fun e w' => e = .returned (.bool (decide (X = Y))) ∧ Ext w w' := by
  obtain ⟨W0, hW0⟩ : ∃ W0, W0 = (w.alloc (.cells #[.slice KA n KC, .int .i64 (n : Nat), .slice A X.length C] 73)).alloc (.cells #[.slice KA' n KC', .int .i64 (n : Nat), .slice A' Y.length C'] 73) := ⟨_, rfl⟩
  have hx0 : Ext w W0 := by rw [hW0]; exact ((Ext.refl w).alloc _).alloc _
  have hr1 : Row W0 w.heap.size 73 [.slice KA n KC, .int .i64 (n : Nat), .slice A X.length C] := by rw [hW0]; exact (Row.new w 73 _).alloc _
  have hr2 : Row W0 (w.heap.size + 1) 73 [.slice KA' n KC', .int .i64 (n : Nat), .slice A' Y.length C'] := by
    have h := Row.new (w.alloc (.cells #[.slice KA n KC, .int .i64 (n : Nat), .slice A X.length C] 73)) 73 [.slice KA' n KC', .int .i64 (n : Nat), .slice A' Y.length C']
    rw [World.size_alloc] at h
    rw [hW0]; exact h
  have h1 := eqInt_any KA KA' KC KC' ks ks W0 ((hk.ext (Nat.le_refl _) hx0).more hx0.size) ((hk'.ext (Nat.le_refl _) hx0).more hx0.size) (by omega) (by omega)
  rw [hn, decide_eq_true (show ks = ks from rfl)] at h1
  have HE := Lib.hid h1
  have HQ : Hid (∀ k, Calls Tryz.prog 35 #[.agg #[.int .i64 (n : Nat), .slice A X.length C], .agg #[.int .i64 (n : Nat), .slice A' Y.length C']] (W0.drewN k) fun e w' => e = .returned (.bool (decide (X = Y))) ∧ Ext (W0.drewN k) w') := fun k => by
    have hx := hx0.drewN k
    have h := rlEqual_any (n : Nat) (n : Nat) A A' C C' X Y (W0.drewN k) (hX.up hx) (hY.up hx) hXl hYl hXo hYo
    rw [decide_eq_true (show ((n : Nat) : Int) = (n : Nat) from rfl), Bool.true_and] at h
    exact h
  have HX0 := Lib.hid hx0
  have HW0 := Lib.hid hW0
  have k0 : W0.cell? ⟨w.heap.size, 0, none⟩ = some (.slice KA n KC) := hr1.cell 0
  have k1 : W0.cell? ⟨w.heap.size, 1, none⟩ = some (.int .i64 (n : Nat)) := hr1.cell 1
  have k2 : W0.cell? ⟨w.heap.size, 2, none⟩ = some (.slice A X.length C) := hr1.cell 2
  have k3 := hr1.lt
  have k4 : W0.cell? ⟨w.heap.size + 1, 0, none⟩ = some (.slice KA' n KC') := hr2.cell 0
  have k5 : W0.cell? ⟨w.heap.size + 1, 1, none⟩ = some (.int .i64 (n : Nat)) := hr2.cell 1
  have k6 : W0.cell? ⟨w.heap.size + 1, 2, none⟩ = some (.slice A' Y.length C') := hr2.cell 2
  have k7 := hr2.lt
  clear hW0 hx0 hr1 hr2 h1 hk hk' hX hY hXo hYo hn
  obtain ⟨q, hq⟩ : ∃ q, q = decide (X = Y) := ⟨_, rfl⟩
  rw [← hq] at HQ ⊢
  clear hq
  go_enter Tryz.func33, Tryz.ntmps33
  go_upto_region 1 with (fail)
  rw [← HW0.out]
  clear HW0
  go_wp2_with fail
  refine HE.out.mono ?_
  rintro e w1 ⟨rfl, k, rfl⟩
  go_wp2_with fail
  refine (HQ.out k).mono ?_
  rintro e w2 ⟨rfl, hx2⟩
  have HX2 := Lib.hid ((HX0.out.drewN k).trans hx2)
  clear hx2 HQ HE HX0 k0 k1 k2 k3 k4 k5 k6 k7
  go_wp2_with fail
  go_ret
  exact ⟨rfl, HX2.out⟩

/-- All relations have the same rows. -/
def sameC (S : Sch) (F G : Cont) : Bool := S.all fun p => decide (F p.1 = G p.1)

set_option maxHeartbeats 8000000 in
set_option maxRecDepth 100000 in
theorem ctEqualFunc_any {P P' : Nat → Prop} {S : Sch} {m m' : Value} {F G : Cont} (w : World) (hd : DbM P S w m F) (hd' : DbM P' S w m' G) (_hnd : (S.map Prod.fst).Nodup) :
    Calls Tryz.prog 32 #[m, m', .func (.func 33) #[] #[]] w fun e w' => e = .returned (.bool (sameC S F G)) ∧ Below w.heap.size w w' := by
  obtain ⟨b, D, rfl, -, hown, hent⟩ := hd.ents
  obtain ⟨b', D', rfl, -, hown', hent'⟩ := hd'.ents
  have hl1 := fun ty => hown.len Tryz.underlying27 ty
  have hl2 := fun ty => hown'.len Tryz.underlying27 ty
  rw [hent.1] at hl1
  rw [hent'.1] at hl2
  have HENT := Lib.hid hent
  have HENT' := Lib.hid hent'
  have HOW := Lib.hid hown
  have HOW' := Lib.hid hown'
  have HALL0 : Hid (∀ p ∈ S, Maps.has D (litS p.1) = false → F p.1 = G p.1) := fun p hp h => by
    obtain ⟨v, g, _⟩ := hent.2.2 p hp
    rw [Maps.has_true_of_atKey g] at h
    cases h
  clear hd hd' hown hown' hent hent'
  go_enter Tryz.func32, Tryz.ntmps32
  go_wp2_with (first
    | (at_range; refine wpList_range_own _ rfl _ 27 rfl 9 73 keyedS Tryz.underlying27 heldR b (Maps.size D) D rfl HOW.out ?_; intro w0 hrg0 hg0 hs0)
    | fail)
  go_frame
  have HRG0 := Lib.hid hrg0
  have HB0 : Hid (Below w.heap.size w w0) := (Below.refl _ _).grown hg0 (Nat.le_refl _) (fun j hj => by cases hj)
  obtain ⟨r, hr⟩ : ∃ r, r = w.heap.size := ⟨_, rfl⟩
  rw [← hr] at HRG0 ⊢
  clear hrg0 hg0 hs0 hl1 hl2
  have eg : ∀ args w, (callFunc 33 args).run Tryz.prog w = .ok (.enter 33 args) w := enters_of Tryz.func33 (by kernel_rfl) rfl
  have hrw : w.heap.size ≤ r := by omega
  clear hr
  go_loopw [6] (fun c wx => ∃ (left : Lit → Bool) (cnt : Nat), c = .bool false ∧ (∀ p ∈ S, left (litS p.1) = false → F p.1 = G p.1) ∧ wx.ranges Tryz.prog 9 heldR b r (Maps.size D) D left cnt ∧ Below w.heap.size w wx) (fun _ wx => wx.rangeLeft b r)
  case atStart => exact ⟨_, _, rfl, HALL0.out, HRG0.out, HB0.out⟩
  case round =>
    obtain ⟨left, cnt, rfl, hall, hrg, hb⟩ := hrel
    have HALL := Lib.hid hall
    have HRG := Lib.hid hrg
    have HB := Lib.hid hb
    clear hall hb
    go_wp2_with (first
      | (at_next; refine wpList_next_ranges _ rfl _ rfl 9 keyedS heldR Value.string (fun v : Value => v) (fun key kl h => by obtain ⟨x, e⟩ := Maps.keyOf_string_inv Tryz.underlying9 h; exact ⟨x, e⟩) (fun v y _ => ⟨v, rfl⟩) b r (Maps.size D) D left cnt rfl HRG.out ?_ ?_)
      | fail)
    · intro hc0 hl0
      have HF : Hid (sameC S F G = true) := List.all_eq_true.2 fun p hp => decide_eq_true (HALL.out p hp (hl0 _))
      clear hc0 hl0 hrg
      go_wp2_with fail
      exact bodyPost_ret (v := .bool true) (by simp [results, Tryz.results32, go_sem]) rfl ⟨by rw [HF.out], HB.out⟩
    · intro nm c kl y ps w1 cnt1 hkey hlk hv hat hrg1 hlt hg1 hs1 hen
      have hy : y = .held c := by
        unfold heldR at hv
        injection hv with hv
        injection hv with hv
        exact hv.symm
      have hat2 : ∀ z, D.atKey kl z = .held c := fun z => (hat z).trans hy
      obtain ⟨p, hp, rfl⟩ := HENT.out.2.1 kl (Maps.has_true_of_atKey hat2)
      obtain ⟨val, hv1, KA, KC, A, C, rfl, hk6, hki, hxc, hxm, hsl, hro⟩ := HENT.out.2.2 p hp
      have hcv : DataW.held c = .held (.agg #[.slice KA p.2.length KC, .int .i64 (p.2.length : Nat), .slice A (F p.1).length C]) := (hat2 .nil).symm.trans (hv1 .nil)
      injection hcv with hcv
      subst hcv
      obtain ⟨val', hv2, KA', KC', A', C', rfl, -, hki', -, -, hsl', hro'⟩ := HENT'.out.2.2 p hp
      have HB1 : Hid (Below w.heap.size w w1) := HB.out.grown hg1 HB.out.size (fun j hj => by injection hj with hj; omega)
      have HRG1 := Lib.hid hrg1
      have HLE := Lib.hid (HRG.out.left_eq)
      have hlt2 := hlt
      have HLK : Hid (∀ V, Below w.heap.size w V → (Instr.lookup 27 (.map (some b')) (.string nm) true).run Tryz.prog V = .ok (.tuple #[.agg #[.slice KA' p.2.length KC', .int .i64 (p.2.length : Nat), .slice A' (G p.1).length C'], .bool true]) V) := fun V hb => (look_yes keyedS Tryz.underlying27 zeroEnt (map_up HOW'.out hb) hkey hv2).1
      have HEQ : Hid (∀ V, Below w.heap.size w V → Calls Tryz.prog 33 #[.agg #[.slice KA p.2.length KC, .int .i64 (p.2.length : Nat), .slice A (F p.1).length C], .agg #[.slice KA' p.2.length KC', .int .i64 (p.2.length : Nat), .slice A' (G p.1).length C']] V fun e w' => e = .returned (.bool (decide (F p.1 = G p.1))) ∧ Ext V w') := fun V hb =>
        ctEqual1_any KA KA' A A' KC KC' C C' p.2.length p.2 (F p.1) (G p.1) V rfl (Sl.more (Sl.below (SlIP.sl hki) hb (Nat.le_refl _)) hb.size) (Sl.more (Sl.below (SlIP.sl hki') hb (Nat.le_refl _)) hb.size) ((hsl.below hb (Nat.le_refl _)).more hb.size).sl ((hsl'.below hb (Nat.le_refl _)).more hb.size).sl (by omega) (Nat.le_trans hro.many (by decide)) (Nat.le_trans hro'.many (by decide)) (hro.rs (by omega)) (hro'.rs (by omega))
      have HNO : Hid (F p.1 ≠ G p.1 → sameC S F G = false) := fun h => List.all_eq_false.2 ⟨p, hp, by rw [decide_eq_false h]; decide⟩
      have HYES : Hid (F p.1 = G p.1 → ∀ q ∈ S, (left (litS q.1) && !(litS q.1).sameKey (litS p.1)) = false → F q.1 = G q.1) := fun h q hq hl => by
        rcases Bool.and_eq_false_iff.1 hl with hl | hl
        · exact HALL.out q hq hl
        · by_cases e : q.1 = p.1
          · rw [e]; exact h
          · rw [strike_ne e] at hl
            cases hl
      clear hkey hlk hv hat hrg1 hg1 hs1 hy hat2 hp hv1 hrg hlt hki hki' hxc hxm hsl hsl' hro hro' hv2 hk6
      generalize p.2.length = kn at *
      obtain ⟨LF, hLF⟩ : ∃ LF, LF = (F p.1).length := ⟨_, rfl⟩
      obtain ⟨LG, hLG⟩ : ∃ LG, LG = (G p.1).length := ⟨_, rfl⟩
      rw [← hLF] at hen HEQ ⊢
      rw [← hLG] at HLK HEQ
      clear hLF hLG
      obtain ⟨W2, hW2⟩ : ∃ W2, W2 = w1.alloc (.cells #[.slice KA kn KC, .int .i64 (kn : Nat), .slice A LF C] 73) := ⟨_, rfl⟩
      have hx2 : Ext w1 W2 := by rw [hW2]; exact (Ext.refl w1).alloc _
      have hr2 : Row W2 w1.heap.size 73 [.slice KA kn KC, .int .i64 (kn : Nat), .slice A LF C] := by rw [hW2]; exact Row.new w1 73 _
      have HB2 := Lib.hid (Below.then HB1.out hx2.below HB1.out.size)
      have hlk2 := HLK.out W2 HB2.out
      obtain ⟨W3, hW3⟩ : ∃ W3, W3 = W2.alloc (.cells #[.slice KA' kn KC', .int .i64 (kn : Nat), .slice A' LG C'] 73) := ⟨_, rfl⟩
      have hx3 : Ext W2 W3 := by rw [hW3]; exact (Ext.refl W2).alloc _
      have hr3 : Row W3 W2.heap.size 73 [.slice KA' kn KC', .int .i64 (kn : Nat), .slice A' LG C'] := by rw [hW3]; exact Row.new W2 73 _
      have hr23 := hr2.up hx3.below
      have HB3 := Lib.hid (Below.then HB2.out hx3.below HB2.out.size)
      have HRG3 := Lib.hid (ranges_up (ranges_up HRG1.out hx2.below) hx3.below)
      have e0 : W3.cell? ⟨w1.heap.size, 0, none⟩ = some (.slice KA kn KC) := hr23.cell 0
      have e1 : W3.cell? ⟨w1.heap.size, 1, none⟩ = some (.int .i64 (kn : Nat)) := hr23.cell 1
      have e2 : W3.cell? ⟨w1.heap.size, 2, none⟩ = some (.slice A LF C) := hr23.cell 2
      have e3 := hr23.lt
      have e4 : W3.cell? ⟨W2.heap.size, 0, none⟩ = some (.slice KA' kn KC') := hr3.cell 0
      have e5 : W3.cell? ⟨W2.heap.size, 1, none⟩ = some (.int .i64 (kn : Nat)) := hr3.cell 1
      have e6 : W3.cell? ⟨W2.heap.size, 2, none⟩ = some (.slice A' LG C') := hr3.cell 2
      have e7 := hr3.lt
      have HC := Lib.hid (HEQ.out W3 HB3.out)
      have HW2 := Lib.hid hW2
      have HW3 := Lib.hid hW3
      clear hx2 hx3 hr2 hr3 hr23 hW2 hW3 HRG1 HLK HEQ
      go_upto_region 6 with (fail)
      rw [← HW2.out]
      clear hen HW2
      go_upto_region 7 with (fail)
      rw [← HW3.out]
      clear HW3 hlk2
      go_wp2_with fail
      refine HC.out.mono ?_
      rintro e w4 ⟨rfl, hx4⟩
      have HB4 := Lib.hid (Below.then HB3.out hx4.below HB3.out.size)
      have HRG4 := Lib.hid (ranges_up HRG3.out hx4.below)
      clear hx4 HC e0 e1 e2 e3 e4 e5 e6 e7
      by_cases hq : F p.1 = G p.1
      · have HQ := Lib.hid (HYES.out hq)
        have hd : decide (F p.1 = G p.1) = true := decide_eq_true hq
        rw [hd]
        clear hq hd HYES HNO
        go_wp2
        go_roundw
        case rel => exact ⟨_, cnt1, rfl, HQ.out, HRG4.out, HB4.out⟩
        case measure => rw [HRG4.out.left_eq, HLE.out]; exact hlt2
      · have HQ := Lib.hid (HNO.out hq)
        have hd : decide (F p.1 = G p.1) = false := decide_eq_false hq
        rw [hd]
        clear hq hd HYES HNO
        go_wp2
        exact bodyPost_ret (v := .bool false) (by simp [results, Tryz.results32, go_sem]) rfl ⟨by rw [HQ.out], HB4.out⟩

set_option maxHeartbeats 2000000 in
set_option maxRecDepth 100000 in
theorem ctEqual_any {P P' : Nat → Prop} {S : Sch} {m m' : Value} {F G : Cont} (w : World) (hd : DbM P S w m F) (hd' : DbM P' S w m' G) (hnd : (S.map Prod.fst).Nodup) :
    Calls Tryz.prog 14 #[.agg #[m], .agg #[m']] w fun e w' => e = .returned (.bool (sameC S F G)) ∧ Below w.heap.size w w' := by
  obtain ⟨b, rfl⟩ := hd.form
  obtain ⟨b', rfl⟩ := hd'.form
  have HC := Lib.hid (fun V (hb : Below w.heap.size w V) => ctEqualFunc_any V (hd.up hb) (hd'.up hb) hnd)
  have hx := (((Ext.refl w).alloc (.cells #[.map (some b)] 29)).alloc (.cells #[.map (some b')] 29)).below
  have HX := Lib.hid hx
  clear hd hd' hx hnd
  go_enter Tryz.func14, Tryz.ntmps14
  go_wp2_with fail
  refine (HC.out _ HX.out).mono ?_
  rintro e w1 ⟨rfl, hb⟩
  have HB := Lib.hid (Below.then HX.out hb HX.out.size)
  clear hb HC
  go_wp2_with fail
  go_ret
  exact ⟨rfl, HB.out⟩

end Go.Proofs.YtgaffbdcpkbdhaaGreat
end

/- Parts of the proof, merged: G33, G36, F11, F12, F14. -/
import Derived.Test.YthgaflmldbgbnaaDoorQ9
import Derived.Test.YthgaflmldbgbnaaDoorQ4
import Derived.Test.YthgaflmldbgbnaaDoorQ5
import Derived.Test.YthgaflmldbgbnaaDoorQ12
import Derived.Test.YthgaflmldbgbnaaDoorQ11
import Derived.Test.YthgaflmldbgbnaaDoorRows
import Derived.Test.YthgaflmldbgbnaaDoorQ3
import Derived.ProofKit
import Derived.OpenShut
import Derived.ShutString
import Derived.ChangeOld
import Derived.ChangeSame
import Derived.Lib.SmallJoins
import Derived.Deep.Slices
import Derived.Deep.Fields

section
/- Walk of chapter 36: the graph of atoms of the reference (Graph). -/
namespace Go.Proofs.YthgaflmldbgbnaaDoor
open Go.RowKit Go.Sort Go.ChangeMaps Go.WideShapes

def GraphPost (al : List At) (w : World) (e : Ending) (w' : World) : Prop := ∃ QA QC, e = .returned (.agg #[.int .i64 (graphN al : Nat), .slice QA (graphE al).length QC]) ∧ SlN .u32 w'.heap.size w' QA (graphE al) ∧ Below w.heap.size w w'

set_option maxHeartbeats 16000000 in
set_option maxRecDepth 100000 in
theorem l36Graph_any (AA : Option Addr) (AC : Nat) (al : List At) (w : World) (hA : AtsR w.heap.size w AA (al.map At.ra)) (hl : al.length ≤ 1000000) (hg : ∀ a ∈ al, Gd a) :
    Calls Tryd.prog 16 #[.slice AA al.length AC] w (GraphPost al w) := by
  obtain ⟨w1, hw1⟩ : ∃ w1, w1 = w.alloc (.cells #[.int .i64 0, .slice none 0 0] 58) := ⟨_, rfl⟩
  have hx1 : Ext w w1 := by rw [hw1]; exact (Ext.refl w).alloc _
  have hrr : Row w1 w.heap.size 58 [.int .i64 0, .slice none 0 0] := by rw [hw1]; exact Row.new w 58 _
  have HB1 : Hid (Below w.heap.size w w1) := hx1.below
  have HR1 := Lib.hid hrr
  have HA := Lib.hid (hA.upB hx1.below)
  have HGD := Lib.hid hg
  have hw1z : w1.heap.size = w.heap.size + 1 := by rw [hw1]; simp
  obtain ⟨W2, hW2⟩ : ∃ W2, W2 = w1.alloc (.cells #[.int .i64 0, .slice none 0 0] 58) := ⟨_, rfl⟩
  obtain ⟨g6, hg6⟩ : ∃ g6, g6 = w1.heap.size := ⟨_, rfl⟩
  have HX2 : Hid (Ext w1 W2) := by show Ext _ _; rw [hW2]; exact (Ext.refl w1).alloc _
  have HR6 : Hid (Row W2 g6 58 [.int .i64 (0 : Nat), .slice none 0 0]) := by show Row _ _ _ _; rw [hW2, hg6]; exact Row.new w1 58 _
  have HZ6 : Hid (w.heap.size < w1.heap.size ∧ w1.heap.size = g6 ∧ g6 + 1 = W2.heap.size) := ⟨hrr.lt, hg6.symm, by rw [hW2, hg6]; simp⟩
  have HWE : Hid ((w.alloc (.cells #[.int .i64 0, .slice none 0 0] 58)).alloc (.cells #[.int .i64 0, .slice none 0 0] 58) = W2) := by show _ = _; rw [hW2, hw1]
  have HG6 : Hid (w.heap.size + 1 = g6) := by show _ = _; rw [hg6, hw1z]
  clear hA hx1 hrr hg hw1 hW2 hw1z hg6
  go_enter Tryd.func16, Tryd.ntmps16
  go_upto_region 2 with (fail)
  rw [HWE.out, HG6.out]
  clear HWE HG6
  go_wp2_with fail
  go_loopw [9] (fun c wx => ∃ (k : Nat) (vo : Value), k ≤ al.length ∧ c = .int .i64 k ∧ Row wx g6 58 [.int .i64 (graphN (al.take k) : Nat), vo] ∧ wx.ownsRow (g6 + 1) 47 1 vo (graphE (al.take k)).length ((graphE (al.take k)).map fun z : Nat => Value.int .u32 (z : Int)) ∧ Below g6 W2 wx) (fun c _ => al.length - (intOf c).toNat)
  case atStart => exact ⟨0, _, Nat.zero_le _, rfl, HR6.out, own_nil _ _ _ _, Below.refl _ _⟩
  case round =>
    obtain ⟨k, vo, hk, rfl, hrow, hown, hbw⟩ := hrel
    have HROW := Lib.hid hrow
    have HO := Lib.hid hown
    have HB := Lib.hid hbw
    have hz9 := HZ6.out
    have hzr : W2.heap.size ≤ wr.heap.size := hbw.size
    have HBW : Hid (Below w1.heap.size w1 wr) := Below.then HX2.out.below (hbw.mono (show w1.heap.size ≤ g6 by omega)) (Nat.le_refl _)
    have HBA : Hid (Below w.heap.size w wr) := Below.then HB1.out HBW.out HB1.out.size
    clear hrow hown hbw HR6
    by_cases hkl : k < al.length
    rotate_left
    · obtain rfl : k = al.length := by omega
      have r1 : ¬ (al.length : Int) < (al.length : Int) := by omega
      rw [List.take_length] at HROW HO
      obtain ⟨QA, QC, e, -, -, -⟩ := Sl.of_own HO.out
      rw [List.length_map] at e
      subst e
      have q0 : wr.cell? ⟨g6, 0, none⟩ = some (.int .i64 (graphN al : Nat)) := HROW.out.cell 0
      have q1 : wr.cell? ⟨g6, 1, none⟩ = some (.slice QA (graphE al).length QC) := HROW.out.cell 1
      have q3 := HROW.out.lt
      have HRR := Lib.hid (HR1.out.up HBW.out)
      have m0 : wr.cell? ⟨w.heap.size, 0, none⟩ = some (.int .i64 0) := HRR.out.cell 0
      have m1 : wr.cell? ⟨w.heap.size, 1, none⟩ = some (.slice none 0 0) := HRR.out.cell 1
      have m2 := HRR.out.frozen 0
      have m3 := HRR.out.frozen 1
      have m4 := HRR.out.lt
      clear HROW
      generalize hN : graphN al = N at *
      generalize hE : graphE al = E at *
      have HN := Lib.hid hN
      have HE := Lib.hid hE
      clear hN hE
      go_wp2_with fail
      obtain ⟨V6, hV6⟩ : ∃ V', V' = (wr.setCell ⟨w.heap.size, 0, none⟩ (.int .i64 (N : Nat))).setCell ⟨w.heap.size, 1, none⟩ (.slice QA E.length QC) := ⟨_, rfl⟩
      rw [← hV6]
      have q : Row V6 w.heap.size 58 [.int .i64 (N : Nat), .slice QA E.length QC] := by rw [hV6]; exact (HRR.out.set 0 _).set 1 _
      have f0 := q.cell 0
      have f1 := q.cell 1
      refine bodyPost_ret (v := .agg #[.int .i64 (N : Nat), .slice QA E.length QC]) (by simp [results, Tryd.results16, go_sem, f0, f1]) rfl ?_
      unfold GraphPost
      rw [HN.out, HE.out]
      have ho6 : V6.ownsRow (g6 + 1) 47 1 (.slice QA E.length QC) E.length (E.map fun z : Nat => Value.int .u32 (z : Int)) := by
        rw [hV6]
        exact own_far (own_far HO.out (p := ⟨w.heap.size, 0, none⟩) (fun e => by have h1 := own_base HO.out e; have := HZ6.out; simp only at h1; omega) _) (p := ⟨w.heap.size, 1, none⟩) (fun e => by have h1 := own_base HO.out e; have := HZ6.out; simp only at h1; omega) _
      obtain ⟨A', C', e', -, -, hs⟩ := Sl.of_own ho6
      injection e' with e1 e2 e3
      subst e1
      refine ⟨QA, QC, rfl, hs, ?_⟩
      rw [hV6]
      exact (HBA.out.setCell (p := ⟨w.heap.size, 0, none⟩) (Nat.le_refl _) _).setCell (p := ⟨w.heap.size, 1, none⟩) (Nat.le_refl _) _
    have r0 : (0 : Int) ≤ (k : Int) := by omega
    have r1 : (k : Int) < (al.length : Int) := by omega
    have r3 : IntKind.i64.wrap ((k : Int) + 1) = ((k + 1 : Nat) : Int) := by rw [IntWalk.i64_in _ (by omega)]; omega
    obtain ⟨ab, ao, VA, VC, QA, QC, rfl, hab, a0, a1, -, -, -, -, av, -⟩ := atsR_at HA.out (i := k) (by rw [List.length_map]; exact hkl)
    have HTK : Hid (al.take (k + 1) = al.take k ++ [al[k]]) := by show _ = _; rw [List.take_succ_eq_append_getElem hkl]
    have HGK := Lib.hid (HGD.out _ (List.getElem_mem hkl))
    simp only [List.getElem_map] at a0 a1 av
    have HVS : Hid (SlI .i64 w1.heap.size w1 VA (al[k].vs.map Int.ofNat)) := av
    have hvl : al[k].ra.vs.length = al[k].vs.length := List.length_map ..
    rw [hvl] at a0
    have a1 : w1.cell? ⟨ab, ao + k * 2 + 1, none⟩ = some (.slice QA al[k].P.length QC) := a1
    clear av hvl
    generalize al[k] = a at *
    have a0 := (HBW.out.cell (p := ⟨ab, ao + k * 2, none⟩) hab).trans a0
    have a1 := (HBW.out.cell (p := ⟨ab, ao + k * 2 + 1, none⟩) hab).trans a1
    have hab2 : ab < wr.heap.size := Nat.lt_of_lt_of_le hab HBW.out.size
    have hgn : graphN (al.take k) ≤ 32 := graphN_le fun b hb => HGD.out b (List.mem_of_mem_take hb)
    have HGS := Lib.hid (graphN_snoc (al.take k) a)
    have HGE : Hid (graphE (al.take k ++ [a]) = graphE (al.take k) ++ [setN a.vs]) := by show _ = _; unfold graphE; rw [List.map_append]; rfl
    have HLE : Hid ((graphE (al.take k)).length ≤ 100000000) := by show _ ≤ _; unfold graphE; rw [List.length_map, List.length_take]; omega
    obtain ⟨us, UP⟩ := a
    simp only at HGS HGE HVS a0 a1
    generalize graphN (al.take k) = N at *
    generalize graphE (al.take k) = E at *
    have hul : us.length ≤ 32 := HGK.out.vl
    obtain ⟨wo, hwo⟩ : ∃ wo, wo = wr := ⟨_, rfl⟩
    subst hwo
    obtain ⟨W3, hW3⟩ : ∃ W3, W3 = wo.alloc (.cells #[.slice VA us.length VC, .slice QA UP.length QC] 44) := ⟨_, rfl⟩
    obtain ⟨g8, hg8⟩ : ∃ g8, g8 = wo.heap.size := ⟨_, rfl⟩
    have HX3 : Hid (Ext wo W3) := by show Ext _ _; rw [hW3]; exact (Ext.refl wo).alloc _
    have HR8 : Hid (Row W3 g8 44 [.slice VA us.length VC, .slice QA UP.length QC]) := by show Row _ _ _ _; rw [hW3, hg8]; exact Row.new wo 44 _
    have HR63 := Lib.hid (HROW.out.up HX3.out.below)
    have HO3 := Lib.hid (own_keep HO.out HX3.out.below)
    have HB3 : Hid (Below g6 W2 W3) := Below.then HB.out HX3.out.below (by omega)
    have HW3E := Lib.hid hW3
    have HG8E := Lib.hid hg8
    have HVR : Hid (∀ W, Below wo.heap.size wo W → SlI .i64 W.heap.size W VA (us.map Int.ofNat)) := fun W h => (Sl.below ((Sl.below HVS.out HBW.out (Nat.le_refl _)).more HBW.out.size) h (Nat.le_refl _)).more h.size
    have HOLT : Hid (∀ j, vo.ownBlock = some j → j < wo.heap.size) := own_lt HO.out
    clear hW3 hg8 HROW HO HA HGD
    go_upto_region 5 with (fail)
    rw [← HW3E.out, ← HG8E.out]
    have e3 := HR8.out.lt
    have f2 := HR63.out.lt
    have HZ8 : Hid (g6 < g8) := by have := HG8E.out; have := HB.out.size; show _ < _; omega
    have HNE8 : Hid (vo.ownBlock ≠ some g8) := fun e => by have := HOLT.out _ e; have := HG8E.out; omega
    have HZN : Hid (g6 + 1 ≤ W3.heap.size ∧ g8 < W3.heap.size) := ⟨by omega, e3⟩
    clear a0 a1
    have HKP : Hid (∀ W, Below W3.heap.size W3 W → (W.cell? ⟨g8, 0, none⟩ = some (.slice VA us.length VC) ∧ W.cell? ⟨g8, 1, none⟩ = some (.slice QA UP.length QC)) ∧ W.cell? ⟨g6, 1, none⟩ = some vo) := fun W h => ⟨⟨(HR8.out.up h).cell 0, (HR8.out.up h).cell 1⟩, (HR63.out.up h).cell 1⟩
    have HSE := Lib.hid (r36Set_any VA QA VC QC UP.length us W3.drew (HVR.out W3.drew HX3.out.below.drew) (by omega) HGK.out.asc HGK.out.lt)
    have HOB : Hid (∀ j, vo.ownBlock = some j → g6 + 1 ≤ j) := fun j hj => own_base HO3.out hj
    refine regionZ (S := (fun w' => (w'.cell? ⟨g8, 0, none⟩ = some (.slice VA us.length VC) ∧ w'.cell? ⟨g8, 1, none⟩ = some (.slice QA UP.length QC)) ∧ w'.cell? ⟨g6, 1, none⟩ = some vo)) 7 (by kernel_rfl) (HKP.out W3.drew (Below.refl _ _).drew) (fun hHeld => ?_)
    refine takeZ (i := 0) (v := ?_) (some 13) rfl rfl (by kernel_rfl) (by decide) (by kernel_rfl) (by kernel_rfl) (by kernel_rfl) (by kernel_rfl) (fun _ _ _ h => h) (Or.inl ⟨by rfl, ?_⟩) (by assumption) ?_
    rotate_left 1
    · (intro w0 hSw; (try dsimp only at hSw); go_simp; try (with_reducible rfl))
    try simp only [Act.put]
    try simp only [List.setIfInBounds_toArray]
    try simp only [List.set_cons_succ]
    try simp only [List.set_cons_zero]
    refine takeZ (i := 1) (v := ?_) (some 14) rfl rfl (by kernel_rfl) (by decide) (by kernel_rfl) (by kernel_rfl) (by kernel_rfl) (by kernel_rfl) (fun _ _ _ h => h) (Or.inl ⟨by rfl, ?_⟩) (by assumption) ?_
    rotate_left 1
    · (intro w0 hSw; (try dsimp only at hSw); go_simp; try (with_reducible rfl))
    try simp only [Act.put]
    try simp only [List.setIfInBounds_toArray]
    try simp only [List.set_cons_succ]
    try simp only [List.set_cons_zero]
    refine takeZ (i := 2) (v := ?_) (some 15) rfl rfl (by kernel_rfl) (by decide) (by kernel_rfl) (by kernel_rfl) (by kernel_rfl) (by kernel_rfl) (fun _ _ _ h => h) (Or.inl ⟨by rfl, ?_⟩) (by assumption) ?_
    rotate_left 1
    · (intro w0 hSw; (try dsimp only at hSw); go_simp; try (with_reducible rfl))
    try simp only [Act.put]
    try simp only [List.setIfInBounds_toArray]
    try simp only [List.set_cons_succ]
    try simp only [List.set_cons_zero]
    refine oneZ (i := 3) (by kernel_rfl) rfl (by decide) (fun K hK => ?_)
    go_simp
    refine HSE.out.mono ?_
    rintro e V4 ⟨rfl, hb⟩
    have HV4 : Hid (Below W3.heap.size W3 V4) := Below.undrew hb.below
    clear hb
    go_wp2_with fail
    refine hK.out _ _ (HKP.out V4 HV4.out) (fun hHeld => ?_)
    clear hK K
    try simp only [Act.put]
    try simp only [List.setIfInBounds_toArray]
    try simp only [List.set_cons_succ]
    try simp only [List.set_cons_zero]
    refine oneZ (i := 4) (by kernel_rfl) rfl (by decide) (fun K hK => ?_)
    go_simp
    obtain ⟨V5, hV5⟩ : ∃ V5, V5 = V4.alloc (.cells #[.int .u32 (setN us : Nat)] 47) := ⟨_, rfl⟩
    rw [← hV5]
    have HV5E := Lib.hid hV5
    have HV5 : Hid (Below W3.heap.size W3 V5) := by rw [hV5]; exact Below.then HV4.out ((Ext.refl V4).alloc _).below HV4.out.size
    have KEEP5 := HKP.out V5 HV5.out
    have HR5 : Hid (Row V5 V4.heap.size 47 [.int .u32 (setN us : Nat)]) := by show Row _ _ _ _; rw [hV5]; exact Row.new V4 47 _
    clear hV5
    refine hK.out _ _ KEEP5 (fun hHeld => ?_)
    clear hK K
    try simp only [Act.put]
    try simp only [List.setIfInBounds_toArray]
    try simp only [List.set_cons_succ]
    try simp only [List.set_cons_zero]
    refine oneZ (i := 5) (by kernel_rfl) rfl (by decide) (fun K hK => ?_)
    have hb5 := HV5.out.size
    have hzN := HZN.out
    have hZ8 := HZ8.out
    refine stepU36 (w := V5) rfl (.tmp 14) (.tmp 17) rfl (g6 + 1) vo E (by simp [Act.eval]) (own_keep HO3.out HV5.out) V4.heap.size (setN us) (by simp [Act.eval]) HR5.out HLE.out (by omega) ?_
    intro ng cap w6 hown6 hg7 hat6
    have HR66 : Hid (Row w6 g6 58 [.int .i64 (N : Nat), vo]) := (HR63.out.up HV5.out).grown hg7 (fun e => by have := HOB.out _ e.symm; omega)
    have k8 : ∀ i u, V5.cell? ⟨g8, i, none⟩ = some u → w6.cell? ⟨g8, i, none⟩ = some u := fun i u h => (grown_cell hg7 (p := ⟨g8, i, none⟩) (by show g8 < V5.heap.size; omega) (fun e => HNE8.out e.symm)).trans h
    have KEEP6 : w6.cell? ⟨g8, 0, none⟩ = some (.slice VA us.length VC) ∧ w6.cell? ⟨g8, 1, none⟩ = some (.slice QA UP.length QC) ∧ w6.cell? ⟨g6, 1, none⟩ = some vo := ⟨k8 _ _ KEEP5.1.1, k8 _ _ KEEP5.1.2, HR66.out.cell 1⟩
    have HO6 := Lib.hid hown6
    have HR86 : Hid (Row w6 g8 44 [.slice VA us.length VC, .slice QA UP.length QC]) := (HR8.out.up HV5.out).grown hg7 (fun e => HNE8.out e.symm)
    have HB6 : Hid (Below g6 W2 w6) := (Below.then HB3.out HV5.out (by omega)).grown hg7 (by omega) (fun j hj => by have := HOB.out j hj; omega)
    have HZ56 : Hid (W3.heap.size ≤ w6.heap.size) := Nat.le_trans hb5 hg7.size
    have u0 := HR66.out.frozen 1
    have u1 := HR66.out.lt
    have u2 := KEEP6.2.2
    clear hown6 hg7 hat6 k8 hb5 hzN hZ8
    refine hK.out _ _ (And.intro ⟨KEEP6.1, KEEP6.2.1⟩ KEEP6.2.2) (fun hHeld => ?_)
    clear hK K
    try simp only [Act.put]
    try simp only [List.setIfInBounds_toArray]
    try simp only [List.set_cons_succ]
    try simp only [List.set_cons_zero]
    refine takeZ (i := 6) (v := ?_) (some 19) rfl rfl (by kernel_rfl) (by decide) (by kernel_rfl) (by kernel_rfl) (by kernel_rfl) (by kernel_rfl) (fun _ _ _ h => h) (Or.inl ⟨by rfl, ?_⟩) (by assumption) ?_
    rotate_left 1
    · (intro w0 hSw; (try dsimp only at hSw); go_simp; try (with_reducible rfl))
    try simp only [Act.put]
    try simp only [List.setIfInBounds_toArray]
    try simp only [List.set_cons_succ]
    try simp only [List.set_cons_zero]
    refine lastZ (by kernel_rfl) rfl (by kernel_rfl) (fun K hK => ?_)
    go_simp
    go_wp2_with fail
    refine hK.out _ _ ?_
    clear hK K
    try simp only [Act.put]
    try simp only [List.setIfInBounds_toArray]
    try simp only [List.set_cons_succ]
    try simp only [List.set_cons_zero]
    obtain ⟨vn, hvn⟩ : ∃ vn, vn = Value.slice (some ⟨ng, 0, none⟩) (E.length + 1) cap := ⟨_, rfl⟩
    rw [← hvn] at HO6 ⊢
    have HR7 := Lib.hid (HR66.out.set 1 vn)
    have HR87 := Lib.hid (HR86.out.far (p := ⟨g6, 1, none⟩) (by show g8 ≠ g6; have := HZ8.out; omega) vn)
    have HO7 := Lib.hid (own_far HO6.out (p := ⟨g6, 1, none⟩) (fun e => by have h1 := own_base HO6.out e; simp only at h1; omega) vn)
    have HB7 := Lib.hid (HB6.out.setCell (p := ⟨g6, 1, none⟩) (Nat.le_refl _) vn)
    obtain ⟨W7, hW7⟩ : ∃ W7, W7 = w6.setCell ⟨g6, 1, none⟩ vn := ⟨_, rfl⟩
    rw [← hW7] at HR7 HR87 HO7 HB7 ⊢
    have HZ7 : Hid (W3.heap.size ≤ W7.heap.size) := by show _ ≤ _; rw [hW7]; simpa using HZ56.out
    change Hid (Row W7 g6 58 [.int .i64 (N : Nat), vn]) at HR7
    clear hHeld hW7 hvn u0 u1 u2 KEEP6 KEEP5 HR66 HR86 HO6 HB6 HV5E HR5 HV5 HV4 HO3 HB3 HR63 HR8 HKP
    have e0 : W7.cell? ⟨g8, 0, none⟩ = some (.slice VA us.length VC) := HR87.out.cell 0
    have e1 : W7.cell? ⟨g8, 1, none⟩ = some (.slice QA UP.length QC) := HR87.out.cell 1
    have e4 := HR87.out.lt
    by_cases hne : us = []
    · have h0 : ¬ (0 : Int) < (us.length : Int) := by rw [hne]; simp
      have hl0 : us.length = 0 := by rw [hne]; rfl
      have hd : decide ((0 : Int) < (us.length : Int)) = false := decide_eq_false h0
      have hd1 : decide (0 < us.length) = false := decide_eq_false (by omega)
      have HGS2 : Hid (graphN (al.take k ++ [⟨us, UP⟩]) = N) := by show _ = _; rw [HGS.out, hne, topV_nil, Nat.max_zero]
      clear h0 hl0 hne
      go_wp2_with fail
      go_roundw
      case rel => exact ⟨k + 1, _, hkl, by go_num, by rw [HTK.out, HGS2.out]; exact HR7.out, by rw [HTK.out, HGE.out, List.length_append]; exact HO7.out, HB7.out⟩
      case measure => simp [intOf]; omega
    · obtain ⟨hl1, htop⟩ := topV_last hne
      have hpos : 0 < us.length := List.length_pos_iff.2 hne
      have hd : decide ((0 : Int) < (us.length : Int)) = true := decide_eq_true (by omega)
      have hd1 : decide (0 < us.length) = true := decide_eq_true hpos
      obtain ⟨vb, vj, hva, hvb, vc⟩ := slI_at HVS.out (i := us.length - 1) (by rw [List.length_map]; exact hl1)
      subst hva
      have hb17 : Below w1.heap.size w1 W7 := Below.then HX2.out.below (HB7.out.mono (show w1.heap.size ≤ g6 by omega)) (Nat.le_refl _)
      have vc := (hb17.cell (p := ⟨vb, vj + (us.length - 1), none⟩) hvb).trans vc
      rw [List.getElem_map] at vc
      change W7.cell? ⟨vb, vj + (us.length - 1), none⟩ = some (.int .i64 (us[us.length - 1] : Nat)) at vc
      have hlv := HGK.out.lt _ (List.getElem_mem hl1)
      generalize us[us.length - 1] = lv at *
      have hvb3 : vb < W7.heap.size := Nat.lt_of_lt_of_le hvb hb17.size
      have HGS2 : Hid (graphN (al.take k ++ [⟨us, UP⟩]) = max N (lv + 1)) := by show _ = _; rw [HGS.out, htop]
      have w1' : IntKind.i64.wrap ((us.length : Int) - 1) = ((us.length - 1 : Nat) : Int) := by rw [IntWalk.i64_in _ (by omega)]; omega
      have w2' : IntKind.i64.wrap ((lv : Int) + 1) = ((lv + 1 : Nat) : Int) := by rw [IntWalk.i64_in _ (by omega)]; omega
      have g1 : (0 : Int) ≤ ((us.length - 1 : Nat) : Int) := by omega
      have g2 : ((us.length - 1 : Nat) : Int) < (us.length : Int) := by omega
      have f0 : W7.cell? ⟨g6, 0, none⟩ = some (.int .i64 (N : Nat)) := HR7.out.cell 0
      have f3 := HR7.out.frozen 0
      have f5 := HR7.out.lt
      clear HGS htop hne hvb hb17
      go_upto_region 8 with (fail)
      refine regionZ (S := (fun w' => (w'.cell? ⟨g8, 0, none⟩ = some (.slice (some ⟨vb, vj, none⟩) us.length VC) ∧ w'.cell? ⟨g6, 0, none⟩ = some (.int .i64 (N : Nat))) ∧ w'.cell? ⟨vb, vj + (us.length - 1), none⟩ = some (.int .i64 (lv : Nat)))) 11 (by kernel_rfl) ⟨⟨e0, f0⟩, vc⟩ (fun hHeld => ?_)
      refine takeZ (i := 0) (v := ?_) (some 25) rfl rfl (by kernel_rfl) (by decide) (by kernel_rfl) (by kernel_rfl) (by kernel_rfl) (by kernel_rfl) (fun _ _ _ h => h) (Or.inl ⟨by rfl, ?_⟩) (by assumption) ?_
      rotate_left 1
      · (intro w0 hSw; (try dsimp only at hSw); go_simp; try (with_reducible rfl))
      try simp only [Act.put]
      try simp only [List.setIfInBounds_toArray]
      try simp only [List.set_cons_succ]
      try simp only [List.set_cons_zero]
      refine takeZ (i := 1) (v := ?_) (some 26) rfl rfl (by kernel_rfl) (by decide) (by kernel_rfl) (by kernel_rfl) (by kernel_rfl) (by kernel_rfl) (fun _ _ _ h => h) (Or.inl ⟨by rfl, ?_⟩) (by assumption) ?_
      rotate_left 1
      · (intro w0 hSw; (try dsimp only at hSw); go_simp; try (with_reducible rfl))
      try simp only [Act.put]
      try simp only [List.setIfInBounds_toArray]
      try simp only [List.set_cons_succ]
      try simp only [List.set_cons_zero]
      refine takeZ (i := 2) (v := ?_) (some 27) rfl rfl (by kernel_rfl) (by decide) (by kernel_rfl) (by kernel_rfl) (by kernel_rfl) (by kernel_rfl) (fun _ _ _ h => h) (Or.inl ⟨by rfl, ?_⟩) (by assumption) ?_
      rotate_left 1
      · (intro w0 hSw; (try dsimp only at hSw); go_simp; try (with_reducible rfl))
      try simp only [Act.put]
      try simp only [List.setIfInBounds_toArray]
      try simp only [List.set_cons_succ]
      try simp only [List.set_cons_zero]
      refine takeZ (i := 3) (v := ?_) (some 28) rfl rfl (by kernel_rfl) (by decide) (by kernel_rfl) (by kernel_rfl) (by kernel_rfl) (by kernel_rfl) (fun _ _ _ h => h) (Or.inl ⟨by rfl, ?_⟩) (by assumption) ?_
      rotate_left 1
      · (intro w0 hSw; (try dsimp only at hSw); go_simp; try (with_reducible rfl))
      try simp only [Act.put]
      try simp only [List.setIfInBounds_toArray]
      try simp only [List.set_cons_succ]
      try simp only [List.set_cons_zero]
      refine takeZ (i := 4) (v := ?_) (some 29) rfl rfl (by kernel_rfl) (by decide) (by kernel_rfl) (by kernel_rfl) (by kernel_rfl) (by kernel_rfl) (fun _ _ _ h => h) (Or.inl ⟨by rfl, ?_⟩) (by assumption) ?_
      rotate_left 1
      · (intro w0 hSw; (try dsimp only at hSw); go_simp; try (with_reducible rfl))
      try simp only [Act.put]
      try simp only [List.setIfInBounds_toArray]
      try simp only [List.set_cons_succ]
      try simp only [List.set_cons_zero]
      refine takeZ (i := 5) (v := ?_) (some 30) rfl rfl (by kernel_rfl) (by decide) (by kernel_rfl) (by kernel_rfl) (by kernel_rfl) (by kernel_rfl) (fun _ _ _ h => h) (Or.inl ⟨by rfl, ?_⟩) (by assumption) ?_
      rotate_left 1
      · (intro w0 hSw; (try dsimp only at hSw); go_simp; try (with_reducible rfl))
      try simp only [Act.put]
      try simp only [List.setIfInBounds_toArray]
      try simp only [List.set_cons_succ]
      try simp only [List.set_cons_zero]
      refine takeZ (i := 6) (v := ?_) (some 31) rfl rfl (by kernel_rfl) (by decide) (by kernel_rfl) (by kernel_rfl) (by kernel_rfl) (by kernel_rfl) (fun _ _ _ h => h) (Or.inl ⟨by rfl, ?_⟩) (by assumption) ?_
      rotate_left 1
      · (intro w0 hSw; (try dsimp only at hSw); go_simp; try (with_reducible rfl))
      try simp only [Act.put]
      try simp only [List.setIfInBounds_toArray]
      try simp only [List.set_cons_succ]
      try simp only [List.set_cons_zero]
      refine takeZ (i := 7) (v := ?_) (some 32) rfl rfl (by kernel_rfl) (by decide) (by kernel_rfl) (by kernel_rfl) (by kernel_rfl) (by kernel_rfl) (fun _ _ _ h => h) (Or.inl ⟨by rfl, ?_⟩) (by assumption) ?_
      rotate_left 1
      · (intro w0 hSw; (try dsimp only at hSw); go_simp; try (with_reducible rfl))
      try simp only [Act.put]
      try simp only [List.setIfInBounds_toArray]
      try simp only [List.set_cons_succ]
      try simp only [List.set_cons_zero]
      refine takeZ (i := 8) (v := ?_) (some 33) rfl rfl (by kernel_rfl) (by decide) (by kernel_rfl) (by kernel_rfl) (by kernel_rfl) (by kernel_rfl) (fun _ _ _ h => h) (Or.inl ⟨by rfl, ?_⟩) (by assumption) ?_
      rotate_left 1
      · (intro w0 hSw; (try dsimp only at hSw); go_simp; try (with_reducible rfl))
      try simp only [Act.put]
      try simp only [List.setIfInBounds_toArray]
      try simp only [List.set_cons_succ]
      try simp only [List.set_cons_zero]
      refine takeZ (i := 9) (v := ?_) (some 34) rfl rfl (by kernel_rfl) (by decide) (by kernel_rfl) (by kernel_rfl) (by kernel_rfl) (by kernel_rfl) (fun _ _ _ h => h) (Or.inl ⟨by rfl, ?_⟩) (by assumption) ?_
      rotate_left 1
      · (intro w0 hSw; (try dsimp only at hSw); go_simp; try (with_reducible rfl))
      try simp only [Act.put]
      try simp only [List.setIfInBounds_toArray]
      try simp only [List.set_cons_succ]
      try simp only [List.set_cons_zero]
      refine takeZ (i := 10) (v := ?_) (some 35) rfl rfl (by kernel_rfl) (by decide) (by kernel_rfl) (by kernel_rfl) (by kernel_rfl) (by kernel_rfl) (fun _ _ _ h => h) (Or.inl ⟨by rfl, ?_⟩) (by assumption) ?_
      rotate_left 1
      · (intro w0 hSw; (try dsimp only at hSw); go_simp; try (with_reducible rfl))
      try simp only [Act.put]
      try simp only [List.setIfInBounds_toArray]
      try simp only [List.set_cons_succ]
      try simp only [List.set_cons_zero]
      refine lastZ (by kernel_rfl) rfl (by kernel_rfl) (fun K hK => ?_)
      go_simp
      go_wp2_with fail
      refine hK.out _ _ ?_
      clear hK K
      try simp only [Act.put]
      try simp only [List.setIfInBounds_toArray]
      try simp only [List.set_cons_succ]
      try simp only [List.set_cons_zero]
      have hmx : max (N : Int) ((lv : Int) + 1) = ((max N (lv + 1) : Nat) : Int) := by omega
      rw [hmx]
      obtain ⟨W4, hW4⟩ : ∃ W4, W4 = (W7.setCell ⟨g6, 0, none⟩ (.int .i64 ((max N (lv + 1) : Nat) : Int))).drew := ⟨_, rfl⟩
      rw [← hW4]
      have HRN : Hid (Row W4 g6 58 [.int .i64 ((max N (lv + 1) : Nat) : Int), vn]) := by show Row _ _ _ _; rw [hW4]; exact (HR7.out.set 0 _).drew
      have HON : Hid (W4.ownsRow (g6 + 1) 47 1 vn (E.length + 1) ((E ++ [setN us]).map fun z : Nat => Value.int .u32 (z : Int))) := by
        show World.ownsRow _ _ _ _ _ _ _
        rw [hW4]
        exact own_keep (own_far HO7.out (p := ⟨g6, 0, none⟩) (fun e => by have h1 := own_base HO7.out e; simp only at h1; omega) _) (Below.refl _ _).drew
      have HBN : Hid (Below g6 W2 W4) := by show Below _ _ _; rw [hW4]; exact (HB7.out.setCell (p := ⟨g6, 0, none⟩) (Nat.le_refl _) _).drew
      clear hHeld e0 e1 f0 f3 vc hmx hW4 hd hd1
      go_wp2_with fail
      go_roundw
      case rel => exact ⟨k + 1, _, hkl, by go_num, by rw [HTK.out, HGS2.out]; exact HRN.out, by rw [HTK.out, HGE.out, List.length_append]; exact HON.out, HBN.out⟩
      case measure => simp [intOf]; omega

end Go.Proofs.YthgaflmldbgbnaaDoor
end

section
/- Walk of chapter 36: SemijoinRefuses. -/
namespace Go.Proofs.YthgaflmldbgbnaaDoor
open Go.RowKit Go.Sort

theorem RedPost.sum {X : List RA} {ps : List Int} {w w' : World} {e : Ending} (h : RedPost X ps w e w') : ∃ RA' rl RC, e = .returned (.tuple #[.slice RA' rl RC, .int .i64 (errT X ps)]) ∧ (errT X ps ≠ 0 → rl = 0) ∧ Below w.heap.size w w' := by
  obtain ⟨h1, h2⟩ := h
  by_cases h0 : errT X ps = 0
  · obtain ⟨R, RC, e1, -, -, hb⟩ := h2 h0
    exact ⟨_, _, _, by rw [e1, h0], fun h => absurd h0 h, hb⟩
  · obtain ⟨e1, hb⟩ := h1 h0
    exact ⟨_, _, _, e1, fun _ => rfl, hb⟩
theorem NonePost.sum {X : List RA} {ps : List Int} {w w' : World} {e : Ending} (h : NonePost X ps w e w') : ∃ b, e = .returned (.tuple #[.bool b, .int .i64 (errT X ps)]) ∧ (errT X ps ≠ 0 → b = false) ∧ Below w.heap.size w w' := by
  obtain ⟨h1, h2⟩ := h
  exact ⟨_, h1, fun h => if_neg h, h2⟩
theorem EvalPost.sum {X : List RA} {ps : List Int} {K : Nat} {w w' : World} {e : Ending} (h : EvalPost X ps K w e w') : ∃ VA vl VC ar QA ql QC ec, e = .returned (.tuple #[.agg #[.slice VA vl VC, .int .i64 ar, .slice QA ql QC], .int .i64 ec]) ∧ (errT X ps ≠ 0 → ec = errT X ps ∧ vl = 0 ∧ ql = 0) ∧ (errT X ps = 0 → ec = 0 ∨ ec = 22) ∧ Below w.heap.size w w' := by
  obtain ⟨h1, h2, h3, hb⟩ := h
  by_cases h0 : errT X ps = 0
  · by_cases hd : JT.dif K (orF (X.map RA.at)) = 0
    · obtain ⟨v, a, e1, hat, -⟩ := h3 h0 hd
      obtain ⟨VA, VC, PA, PC, rfl, -⟩ := hat
      exact ⟨_, _, _, _, _, _, _, _, e1, fun h => absurd h0 h, fun _ => .inl rfl, hb⟩
    · exact ⟨_, _, _, _, _, _, _, _, h2 h0 hd, fun h => absurd h0 h, fun _ => .inr rfl, hb⟩
  · exact ⟨_, _, _, _, _, _, _, _, h1 h0, fun _ => ⟨rfl, rfl, rfl⟩, fun h => absurd h h0, hb⟩
/-- Made: the list that it was made of. -/
theorem l35Made3 (A : Option Addr) (C : Nat) (l : List LA) (w : World) (hA : AtsL w.heap.size w A l) (hB : LBytes l) (hl : l.length ≤ 3518437208780) :
    Calls Tryd.prog 5 #[.slice A l.length C] w fun e w' => Below w.heap.size w w' ∧ (e = .returned (.tuple #[.slice none 0 0, .slice none 0 0, .slice none 0 0, .bool false]) ∨ ∃ (X : List RA) (A1 A2 A3 : Option Addr) (C1 C2 C3 : Nat), e = .returned (.tuple #[.slice A1 X.length C1, .slice A2 X.length C2, .slice A3 X.length C3, .bool (decide (X.length ≤ 6))]) ∧
    (X = l.map LA.ra ∧ (∀ a ∈ l, a.Ok)) ∧ AtsM w'.heap.size w' A1 X ∧ AtsR w'.heap.size w' A2 X ∧ SlI .i64 w'.heap.size w' A3 (X.map (·.ar))) := (l35Made_any A C l w hA hB hl).mono fun e w' ⟨h1, h2, hb⟩ => by
  refine ⟨hb, ?_⟩
  by_cases h : ∀ a ∈ l, a.Ok
  · obtain ⟨A1, C1, A2, C2, A3, C3, he, c1, d1, -, -, -, -, ha, hr, hz⟩ := h1 h
    refine .inr ⟨l.map LA.ra, A1, A2, A3, C1, C2, C3, ?_, ⟨rfl, h⟩, ha, hr, ?_⟩
    · rw [List.length_map]; exact he
    · rw [List.map_map]; exact hz
  · exact .inl (h2 h)

set_option maxHeartbeats 32000000 in
set_option maxRecDepth 100000 in
theorem l36Refuses_any (A PA : Option Addr) (C PC : Nat) (l : List LA) (ps : List Int) (K : Nat) (w : World) (hA : AtsL w.heap.size w A l) (hB : LBytes l) (hl : l.length ≤ 3518437208780) (hp : SlI .i64 w.heap.size w PA ps) (hK : K < 4294967296) :
    Calls Tryd.prog 4 #[.slice A l.length C, .slice PA ps.length PC, .int .u32 (K : Nat)] w fun e w' => e = .returned (.bool true) ∧ Below w.heap.size w w' := by
  have HMK := Lib.hid (l35Made3 A C l w hA hB hl)
  have HP := Lib.hid (fun W (hb : Below w.heap.size w W) => (Sl.below hp hb (Nat.le_refl _)).more hb.size)
  clear hA hB hl hp
  go_enter Tryd.func4, Tryd.ntmps4
  go_wp2_with fail
  refine HMK.out.mono ?_
  rintro e w1 ⟨hb1, rfl | ⟨X, A1, A2, A3, C1, C2, C3, rfl, hX, ha, hr, hz⟩⟩
  · clear HMK
    go_wp2_with fail
    refine (l36awake_any _).mono ?_
    rintro e w2 ⟨rfl, hb2⟩
    have hbw := Below.then hb1 hb2 hb1.size
    clear hb1 hb2
    go_wp2
    go_ret
    exact ⟨rfl, hbw⟩
  have HB1 := Lib.hid hb1
  by_cases h6 : X.length ≤ 6
  rotate_left
  · rw [decide_eq_false h6]
    clear HMK hX ha hr hz hb1
    go_wp2_with fail
    refine (l36awake_any _).mono ?_
    rintro e w2 ⟨rfl, hb2⟩
    have hbw := Below.then HB1.out hb2 HB1.out.size
    clear hb2
    go_wp2
    go_ret
    exact ⟨rfl, hbw⟩
  rw [decide_eq_true h6]
  by_cases h20 : ps.length ≤ 20
  rotate_left
  · have hd : (20 : Int) < (ps.length : Int) := by omega
    clear HMK hX ha hr hz hb1
    go_wp2_with fail
    refine (l36awake_any _).mono ?_
    rintro e w2 ⟨rfl, hb2⟩
    have hbw := Below.then HB1.out hb2 HB1.out.size
    clear hb2
    go_wp2
    go_ret
    exact ⟨rfl, hbw⟩
  have hd20 : ¬ (20 : Int) < (ps.length : Int) := by omega
  have HS : Hid (∀ a ∈ X, Small a) := by obtain ⟨rfl, h⟩ := hX; exact LA.smalls h
  have HF : Hid (errT X ps = 0 → Few (atF X) X.length) := fun h => by
    obtain ⟨rfl, hok⟩ := hX
    exact few_made hok (by rw [List.length_map] at h6; exact h6) (errT_zero h).1 _ rfl
  have HAM := Lib.hid (fun W (hb : Below w1.heap.size w1 W) => ha.upB hb)
  have HAR := Lib.hid (fun W (hb : Below w1.heap.size w1 W) => hr.upB hb)
  have HZ := Lib.hid (fun W (hb : Below w1.heap.size w1 W) => (Sl.below hz hb (Nat.le_refl _)).more hb.size)
  have HP1 := Lib.hid (fun W (hb : Below w1.heap.size w1 W) => HP.out W (Below.then HB1.out hb HB1.out.size))
  have HRD := Lib.hid (fun W hb => sjReduceX_any PA A1 PC C1 ps X W (HAM.out W hb) (by omega) HS.out (HP1.out W hb) (by omega))
  have HNE := Lib.hid (fun W hb => sjNonempty_any PA A1 PC C1 ps X W (HAM.out W hb) (by omega) HS.out (HP1.out W hb) (by omega))
  have HEV := Lib.hid (fun W hb => sjEvaluate_any PA A1 PC C1 ps X K W (HAM.out W hb) (by omega) HS.out (HP1.out W hb) (by omega) hK HF.out)
  have HWR := Lib.hid (fun W hb => r36Wrong_any A2 A3 C2 C3 X W (HAR.out W hb) (HZ.out W hb) (by omega) (fun a ha => Nat.le_trans (HS.out a ha).vl (by omega)))
  have hxl : X.length ≤ 6 := h6
  clear HMK hX ha hr hz hb1 h20 hK HAM HZ h6
  obtain ⟨W1, hW1⟩ : ∃ W, W = w1.alloc (.cells #[.slice PA ps.length PC] 49) := ⟨_, rfl⟩
  have HX1 : Hid (Below w1.heap.size w1 W1) := by show Below _ _ _; rw [hW1]; exact ((Ext.refl w1).alloc _).below
  obtain ⟨gt, hgt⟩ : ∃ g, g = w1.heap.size := ⟨_, rfl⟩
  have HRT : Hid (Row W1 gt 49 [.slice PA ps.length PC]) := by show Row _ _ _ _; rw [hW1, hgt]; exact Row.new w1 _ _
  have HW1E := Lib.hid hW1
  have HGTE := Lib.hid hgt
  clear hW1 hgt
  go_upto_region 5 with (fail)
  rw [← HW1E.out, ← HGTE.out]
  have c0 : W1.cell? ⟨gt, 0, none⟩ = some (.slice PA ps.length PC) := HRT.out.cell 0
  have c1 := HRT.out.lt
  clear HW1E HGTE
  go_wp2_with fail
  refine (HRD.out W1 HX1.out).mono ?_
  intro e w2 hpost
  obtain ⟨RA', rl, RC, rfl, hrl, hb2⟩ := hpost.sum
  have HRL := Lib.hid hrl
  have HR2 := Lib.hid (HRT.out.up hb2)
  have HB2 := Lib.hid (Below.then HX1.out hb2 HX1.out.size)
  have c0 : w2.cell? ⟨gt, 0, none⟩ = some (.slice PA ps.length PC) := HR2.out.cell 0
  have c1 := HR2.out.lt
  clear hpost hrl hb2
  obtain ⟨code, hcode⟩ : ∃ c, c = errT X ps := ⟨_, rfl⟩
  have HCODE := Lib.hid hcode
  rw [← hcode] at HRL ⊢
  clear hcode
  go_wp2_with fail
  refine (HNE.out w2 HB2.out).mono ?_
  intro e w3 hpost
  obtain ⟨nb, rfl, hnb, hb3⟩ := hpost.sum
  have HNB := Lib.hid hnb
  have HR3 := Lib.hid (HR2.out.up hb3)
  have HB3 := Lib.hid (Below.then HB2.out hb3 HB2.out.size)
  have c0 : w3.cell? ⟨gt, 0, none⟩ = some (.slice PA ps.length PC) := HR3.out.cell 0
  have c1 := HR3.out.lt
  rw [← HCODE.out] at HNB ⊢
  clear hpost hnb hb3
  go_wp2_with fail
  refine (HEV.out w3 HB3.out).mono ?_
  intro e w4 hpost
  obtain ⟨VA, vl, VC, ar, QA, ql, QC, ec, rfl, he1, he2, hb4⟩ := hpost.sum
  rw [← HCODE.out] at he1 he2
  have HE := Lib.hid (And.intro he1 he2)
  have HR4 := Lib.hid (HR3.out.up hb4)
  have HB4 := Lib.hid (Below.then HB3.out hb4 HB3.out.size)
  obtain ⟨W5, hW5⟩ : ∃ W, W = w4.alloc (.cells #[.slice VA vl VC, .int .i64 ar, .slice QA ql QC] 37) := ⟨_, rfl⟩
  obtain ⟨gc, hgc⟩ : ∃ g, g = w4.heap.size := ⟨_, rfl⟩
  have HB5 : Hid (Below w1.heap.size w1 W5) := by show Below _ _ _; rw [hW5]; exact Below.then HB4.out ((Ext.refl w4).alloc _).below HB4.out.size
  have HRC : Hid (Row W5 gc 37 [.slice VA vl VC, .int .i64 ar, .slice QA ql QC]) := by show Row _ _ _ _; rw [hW5, hgc]; exact Row.new w4 _ _
  have HR5 : Hid (Row W5 gt 49 [.slice PA ps.length PC]) := by show Row _ _ _ _; rw [hW5]; exact HR4.out.alloc _
  have HW5E := Lib.hid hW5
  have HGCE := Lib.hid hgc
  clear hpost he1 he2 hb4 hW5 hgc
  go_upto_region 8 with (fail)
  rw [← HW5E.out, ← HGCE.out]
  clear HW5E HGCE HRD HNE HEV HR2 HR3 HR4 c0 c1
  go_wp2_with fail
  refine (HWR.out W5 HB5.out).mono ?_
  rintro e w6 ⟨rfl, hb6⟩
  have HB6 := Lib.hid (Below.then HB5.out hb6 HB5.out.size)
  have HRC6 := Lib.hid (HRC.out.up hb6)
  have HR6 := Lib.hid (HR5.out.up hb6)
  clear hb6 HWR HRC HR5
  have HFIN := Lib.hid (fun W (hb : Below w6.heap.size w6 W) => (l36awake_any W).mono fun e W' h => (⟨h.1, Below.then hb h.2 hb.size⟩ : e = .returned (.bool true) ∧ Below w6.heap.size w6 W'))
  have HEND : Hid (∀ W, Below w6.heap.size w6 W → Below w.heap.size w W) := fun W hb => Below.then HB1.out (Below.then HB6.out hb HB6.out.size) HB1.out.size
  by_cases h0 : errC X = 0
  rotate_left
  · have hce : errC X = code := by rw [HCODE.out]; unfold errT; rw [if_pos h0]
    have hne : ¬ code = 0 := by rw [← hce]; exact h0
    rw [hce]
    obtain ⟨g1, g2, g3⟩ := HE.out.1 hne
    obtain rfl := HRL.out hne
    obtain rfl := HNB.out hne
    subst g1 g2 g3
    clear hce h0 HE HRL HNB HCODE
    go_wp2_with fail
    refine (HFIN.out w6 (Below.refl _ _)).mono ?_
    rintro e w7 ⟨rfl, hb7⟩
    have rc := HRC6.out.up hb7
    have d0 : w7.cell? ⟨gc, 0, none⟩ = some (.slice VA 0 VC) := rc.cell 0
    have d1 : w7.cell? ⟨gc, 1, none⟩ = some (.int .i64 ar) := rc.cell 1
    have d2 : w7.cell? ⟨gc, 2, none⟩ = some (.slice QA 0 QC) := rc.cell 2
    have d3 := rc.lt
    have HB7 := Lib.hid hb7
    clear hb7 rc
    go_wp2_with fail
    refine (rlLen_any ar QA 0 QC w7).mono ?_
    rintro e w8 ⟨rfl, hx⟩
    have HB8 := Lib.hid (HEND.out w8 (Below.then HB7.out hx.below HB7.out.size))
    clear hx
    go_wp2_with fail
    go_ret
    exact ⟨rfl, HB8.out⟩
  have hce : code = JT.chkF (graphN (X.map RA.at) : Nat) (graphE (X.map RA.at)) ps := by rw [HCODE.out]; unfold errT; rw [if_neg (by simpa using h0)]
  have hra := ra_map h0
  have hgd := gds HS.out h0
  have HGR := Lib.hid (fun W (hb : Below w6.heap.size w6 W) => l36Graph_any A2 C2 (X.map RA.at) W (by rw [hra]; exact HAR.out W (Below.then HB6.out hb HB6.out.size)) (by rw [List.length_map]; omega) hgd)
  rw [List.length_map] at HGR
  have HCK : Hid (∀ QA QC W, Below w6.heap.size w6 W → SlN .u32 W.heap.size W QA (graphE (X.map RA.at)) → Calls Tryd.prog 15 #[.agg #[.int .i64 (graphN (X.map RA.at) : Nat), .slice QA (graphE (X.map RA.at)).length QC], .agg #[.slice PA ps.length PC]] W fun e w' => e = .returned (.int .i64 code) ∧ Below W.heap.size W w') := fun QA QC W hb hs => by
    rw [hce]
    refine jtCheck_any _ QA PA QC PC _ ps W hs (fun z hz => ?_) (HP1.out W (Below.then HB6.out hb HB6.out.size)) ?_ (by omega)
    · unfold graphE at hz
      obtain ⟨b, hb, rfl⟩ := List.mem_map.1 hz
      have := setN_lt (hgd b hb).lt
      omega
    · unfold graphE; rw [List.length_map, List.length_map]; omega
  rw [h0]
  have c0 : w6.cell? ⟨gt, 0, none⟩ = some (.slice PA ps.length PC) := HR6.out.cell 0
  have c1 := HR6.out.lt
  clear hce hra hgd h0
  unfold GraphPost at HGR
  generalize graphN (X.map RA.at) = N at *
  generalize graphE (X.map RA.at) = E at *
  go_upto_region 10 with (fail)
  have HKP : Hid (∀ W, Below w6.heap.size w6 W → W.cell? ⟨gt, 0, none⟩ = some (.slice PA ps.length PC)) := fun W h => (HR6.out.up h).cell 0
  refine wp_region_held_drew (S := (fun w' => w'.cell? ⟨gt, 0, none⟩ = some (.slice PA ps.length PC))) (by kernel_rfl) (HKP.out w6.drew (Below.refl _ _).drew) (fun hHeld => ?_)
  refine takeOp (i := 0) (v := ?_) (some 60) rfl rfl (by kernel_rfl) (by kernel_rfl) (by kernel_rfl) (fun _ _ _ h => h) (Or.inl ⟨by rfl, ?_⟩) (by assumption) ?_
  rotate_left 1
  · (intro w0 hSw; (try dsimp only at hSw); go_simp; try (with_reducible rfl))
  try simp only [Act.put]
  try simp only [List.setIfInBounds_toArray]
  try simp only [List.set_cons_succ]
  try simp only [List.set_cons_zero]
  refine takeOp (i := 2) (v := ?_) (some 62) rfl rfl (by kernel_rfl) (by kernel_rfl) (by kernel_rfl) (fun _ _ _ h => h) (Or.inl ⟨by rfl, ?_⟩) (by assumption) ?_
  rotate_left 1
  · (intro w0 hSw; (try dsimp only at hSw); go_simp; try (with_reducible rfl))
  try simp only [Act.put]
  try simp only [List.setIfInBounds_toArray]
  try simp only [List.set_cons_succ]
  try simp only [List.set_cons_zero]
  refine wpAnyH_ready (rs := [1]) (by kernel_rfl) (by simp) ?_
  refine AllReadyH.cons rfl (fun K hK => ?_) AllReadyH.nil
  go_simp
  refine (HGR.out w6.drew (Below.refl _ _).drew).mono ?_
  rintro e V1 ⟨GA, GC, rfl, hs1, hb⟩
  have HV1 : Hid (Below w6.heap.size w6 V1) := Below.undrew hb
  have HS1 := Lib.hid hs1
  clear hb hs1
  go_wp2_with fail
  refine hK.out _ _ (HKP.out V1 HV1.out) (fun hHeld => ?_)
  clear hK K
  try simp only [Act.put]
  try simp only [List.setIfInBounds_toArray]
  try simp only [List.set_cons_succ]
  try simp only [List.set_cons_zero]
  refine wpAnyH_ready (rs := [3]) (by kernel_rfl) (by simp) ?_
  refine AllReadyH.cons rfl (fun K hK => ?_) AllReadyH.nil
  go_simp
  refine (HCK.out GA GC V1 HV1.out HS1.out).mono ?_
  rintro e V2 ⟨rfl, hb⟩
  have HV2 : Hid (Below w6.heap.size w6 V2) := Below.then HV1.out hb HV1.out.size
  clear hb
  go_wp2_with fail
  refine hK.out _ _ (HKP.out V2 HV2.out) (fun hHeld => ?_)
  clear hK K
  try simp only [Act.put]
  try simp only [List.setIfInBounds_toArray]
  try simp only [List.set_cons_succ]
  try simp only [List.set_cons_zero]
  refine takeOp (i := 4) (v := ?_) (some 18) rfl rfl (by kernel_rfl) (by kernel_rfl) (by kernel_rfl) (fun _ _ _ h => h) (Or.inl ⟨by rfl, ?_⟩) (by assumption) ?_
  rotate_left 1
  · (intro w0 hSw; (try dsimp only at hSw); go_simp; try (with_reducible rfl))
  try simp only [Act.put]
  try simp only [List.setIfInBounds_toArray]
  try simp only [List.set_cons_succ]
  try simp only [List.set_cons_zero]
  refine wpAnyH_done (by kernel_rfl) ?_ _
  clear hHeld
  by_cases hc0 : code = 0
  · obtain hec := HE.out.2 hc0
    have hq : ((ec == 0) || (ec == 22)) = true := by rcases hec with h | h <;> simp [h]
    subst hc0
    clear HE HRL HNB HCODE
    go_wp2_with fail
    refine (HFIN.out V2 HV2.out).mono ?_
    rintro e w7 ⟨rfl, hb7⟩
    have HB7 := Lib.hid (HEND.out w7 hb7)
    clear hb7
    rcases hec with rfl | rfl
    · go_wp2_with fail
      go_ret
      exact ⟨rfl, HB7.out⟩
    · go_wp2_with fail
      go_ret
      exact ⟨rfl, HB7.out⟩
  · obtain ⟨g1, g2, g3⟩ := HE.out.1 hc0
    obtain rfl := HRL.out hc0
    obtain rfl := HNB.out hc0
    subst g1 g2 g3
    clear HE HRL HNB HCODE
    go_wp2_with fail
    refine (HFIN.out V2 HV2.out).mono ?_
    rintro e w7 ⟨rfl, hb7⟩
    have rc := HRC6.out.up hb7
    have d0 : w7.cell? ⟨gc, 0, none⟩ = some (.slice VA 0 VC) := rc.cell 0
    have d1 : w7.cell? ⟨gc, 1, none⟩ = some (.int .i64 ar) := rc.cell 1
    have d2 : w7.cell? ⟨gc, 2, none⟩ = some (.slice QA 0 QC) := rc.cell 2
    have d3 := rc.lt
    have HB7 := Lib.hid hb7
    clear hb7 rc
    go_wp2_with fail
    refine (rlLen_any ar QA 0 QC w7).mono ?_
    rintro e w8 ⟨rfl, hx⟩
    have HB8 := Lib.hid (HEND.out w8 (Below.then HB7.out hx.below HB7.out.size))
    clear hx
    go_wp2_with fail
    go_ret
    exact ⟨rfl, HB8.out⟩

end Go.Proofs.YthgaflmldbgbnaaDoor
end

section
/- Opening the arguments of the laws of chapter 34: Rel, lists of bytes, lists of ints. -/
namespace Go.Proofs.YthgaflmldbgbnaaDoor
open Go.ChangeShapes Go.WideShapes Go.ChangeAt Go.RowKit Go.Joins Go.Deep

theorem cell_addr' {w : World} {a : Addr} {v : Value} (h : w.cell? a = some v) : a = ⟨a.block, a.off, none⟩ ∧ a.block < w.heap.size := by
  obtain ⟨b, o, s⟩ := a
  unfold World.cell? at h
  simp only at h
  cases hh : w.heap[b]? with
  | none => rw [hh] at h; cases h
  | some ob =>
    have hlt : b < w.heap.size := by
      rcases Nat.lt_or_ge b w.heap.size with h1 | h1
      · exact h1
      · rw [Array.getElem?_eq_none h1] at hh; cases hh
    refine ⟨?_, hlt⟩
    rw [hh] at h
    cases ob with
    | cells c _ _ =>
      cases s with
      | none => rfl
      | some s => simp at h
    | _ => simp at h

theorem add_addr' (b o i : Nat) : (Addr.add ⟨b, o, none⟩ i) = ⟨b, o + i, none⟩ := by
  unfold Addr.add
  split
  · next h => subst h; rfl
  · rfl

theorem sl_open' {k : IntKind} {w : World} {a : Addr} {zs : List Int} {len : Nat} (hl : len ≤ zs.length) (hcell : ∀ i, i < zs.length → w.cell? (a.add i) = some (.int k (zs.getD i 0))) :
    SlI k w.heap.size w (some a) (zs.take len) := by
  intro hne
  have hpos : 0 < (zs.take len).length := by
    rcases Nat.eq_zero_or_pos (zs.take len).length with h | h
    · exact absurd (by rw [List.eq_nil_of_length_eq_zero h]; rfl) hne
    · exact h
  rw [List.length_take] at hpos
  have h0 := hcell 0 (by omega)
  rw [show a.add 0 = a by unfold Addr.add; simp] at h0
  obtain ⟨ha, hb⟩ := cell_addr' h0
  refine ⟨a.block, a.off, by rw [← ha], hb, fun i u hu => ?_⟩
  rw [List.getElem?_map] at hu
  cases hz : (zs.take len)[i]? with
  | none => rw [hz] at hu; simp at hu
  | some z =>
    rw [hz] at hu
    simp at hu
    subst hu
    obtain ⟨hi, hzi⟩ := List.getElem?_eq_some_iff.1 hz
    rw [List.length_take] at hi
    have h1 := hcell i (by omega)
    rw [ha, add_addr'] at h1
    rw [h1]
    simp at hzi
    simp [show i < zs.length by omega, hzi]

section
variable {H : Type} {enc : TypeId × Value → H} {W : World} {n : Nat} {x : DataW H × List MemPlace}

/-- A slice of ints that reads. -/
theorem open_cols {cs : List Value} (h : DataW.trod enc Tryd.prog W 0 (fun _ => true) true n 27 cs = some x) :
    ∃ A c zs, cs = [.slice A zs.length c] ∧ SlI .i64 W.heap.size W A zs ∧ zs.length ≤ 9223372036854775807 ∧ zs.length ≤ c ∧ c ≤ 9223372036854775807 := by
  rcases open_ints Tryd.underlying27 Tryd.underlying3 (by kernel_rfl) h with ⟨hcs, _⟩ | ⟨a, len, cap, zs, hcs, _, hl, hm, hz, _, hcell, hwz⟩
  · exact ⟨none, 0, [], hcs, Sl.nil, by simp, by simp, by simp⟩
  · simp at hz
    have hlz : len ≤ zs.length := by omega
    have hm' : cap ≤ 9223372036854775807 := hm
    refine ⟨some a, cap, zs.take len, ?_, sl_open' hlz hcell, ?_, ?_, hm'⟩
    · rw [List.length_take, Nat.min_eq_left hlz]; exact hcs
    · rw [List.length_take]; omega
    · rw [List.length_take]; omega

theorem cells_Tu8 : Tryd.prog.cellsOf 5 = 1 := by kernel_rfl

end

end Go.Proofs.YthgaflmldbgbnaaDoor
end

section
/- Opening the arguments of the laws of chapter 35: lists of atoms. -/
namespace Go.Proofs.YthgaflmldbgbnaaDoor
open Go.ChangeShapes Go.WideShapes Go.ChangeAt Go.RowKit Go.Joins Go.Deep

section
variable {H : Type} {enc : TypeId × Value → H} {W : World} {n : Nat} {x : DataW H × List MemPlace}

theorem cells_TU8x4 : Tryd.prog.cellsOf 62 = 4 := by kernel_rfl
theorem cells_TLAtom : Tryd.prog.cellsOf 24 = 3 := by kernel_rfl

set_option maxRecDepth 100000 in
/-- Four bytes that read. -/
theorem open_four {cs : List Value} (h : DataW.trod enc Tryd.prog W 0 (fun _ => true) true n 62 cs = some x) :
    ∃ t : List Nat, (∀ k, k < 4 → cs[k]? = some (.int .u8 (t.getD k 0 : Nat))) ∧ ∀ k, t.getD k 0 < 256 := by
  obtain ⟨ys, m, _, _, hlen, hyl, hf⟩ := DataW.trod_array Tryd.underlying62 h
  rw [cells_TU8x4] at hlen
  rw [cells_Tu8] at hf
  match cs, hlen with
  | [c0, c1, c2, c3], _ =>
    match ys, hyl with
    | [y0, y1, y2, y3], _ =>
      have h0 := hf 0 (by decide)
      have h1 := hf 1 (by decide)
      have h2 := hf 2 (by decide)
      have h3 := hf 3 (by decide)
      obtain ⟨a0, e0, _, w0⟩ := DataW.trod_int (k := .u8) Tryd.underlying5 (h0.trans (b := some y0) rfl)
      obtain ⟨a1, e1, _, w1⟩ := DataW.trod_int (k := .u8) Tryd.underlying5 (h1.trans (b := some y1) rfl)
      obtain ⟨a2, e2, _, w2⟩ := DataW.trod_int (k := .u8) Tryd.underlying5 (h2.trans (b := some y2) rfl)
      obtain ⟨a3, e3, _, w3⟩ := DataW.trod_int (k := .u8) Tryd.underlying5 (h3.trans (b := some y3) rfl)
      have b0 := bounds_u8 w0
      have b1 := bounds_u8 w1
      have b2 := bounds_u8 w2
      have b3 := bounds_u8 w3
      obtain ⟨a0, rfl⟩ := Int.eq_ofNat_of_zero_le b0.1
      obtain ⟨a1, rfl⟩ := Int.eq_ofNat_of_zero_le b1.1
      obtain ⟨a2, rfl⟩ := Int.eq_ofNat_of_zero_le b2.1
      obtain ⟨a3, rfl⟩ := Int.eq_ofNat_of_zero_le b3.1
      simp at e0 e1 e2 e3
      subst e0 e1 e2 e3
      refine ⟨[a0, a1, a2, a3], fun k hk => ?_, fun k => ?_⟩
      · match k, hk with
        | 0, _ => rfl
        | 1, _ => rfl
        | 2, _ => rfl
        | 3, _ => rfl
      · match k with
        | 0 => show a0 < 256; omega
        | 1 => show a1 < 256; omega
        | 2 => show a2 < 256; omega
        | 3 => show a3 < 256; omega
        | k + 4 => show (0 : Nat) < 256; omega

/-- A list of fours that reads. -/
theorem open_fours {cs : List Value} (h : DataW.trod enc Tryd.prog W 0 (fun _ => true) true n 22 cs = some x) :
    ∃ A C X, cs = [.slice A X.length C] ∧ SlA 4 W.heap.size W A X ∧ X.length ≤ 9223372036854775807 ∧ Bytes X := by
  rcases open_slice Tryd.underlying22 h with ⟨hcs, _⟩ | ⟨a, len, cap, m, n', D, Pl, hcs, _, hl, hm, hmm, _, hel⟩
  · exact ⟨none, 0, [], hcs, fun h => absurd rfl h, by simp, fun t ht => by simp at ht⟩
  · rw [cells_TU8x4] at hel
    simp only [if_true] at hmm
    subst hmm
    have hm' : m ≤ 9223372036854775807 := hm
    have hch : ∀ i, i < len → ∃ t : List Nat, (∀ j, j < 4 → W.cell? (a.add (i * 4 + j)) = some (.int .u8 (t.getD j 0 : Nat))) ∧ ∀ k, t.getD k 0 < 256 := by
      intro i hi
      obtain ⟨cs', h1, h2⟩ := hel i (by omega)
      obtain ⟨t, hv, hb⟩ := open_four h2
      obtain ⟨_, _, h3⟩ := World.cells?_some h1
      refine ⟨t, fun j hj => ?_, hb⟩
      rw [← Go.Deep.add_add, h3 j hj]
      exact hv j hj
    obtain ⟨f, hf⟩ := choose_lt hch
    refine ⟨some a, m, (List.range len).map f, by simpa using hcs, fun hne => ?_, by simp only [List.length_map, List.length_range]; omega, ?_⟩
    · have hpos : 0 < len := by
        rcases Nat.eq_zero_or_pos len with h0 | h0
        · subst h0; exact absurd rfl hne
        · exact h0
      have h0 := (hf 0 hpos).1 0 (by omega)
      rw [show a.add (0 * 4 + 0) = a by unfold Addr.add; simp] at h0
      obtain ⟨ha, hb⟩ := cell_addr' h0
      refine ⟨a.block, a.off, by rw [← ha], hb, fun i hi k hk => ?_⟩
      have hi' : i < len := by simpa using hi
      have h1 := (hf i hi').1 k hk
      rw [ha, add_addr', ← Nat.add_assoc] at h1
      rw [h1]
      simp
    · intro t ht
      rw [List.mem_map] at ht
      obtain ⟨i, hi, rfl⟩ := ht
      exact (hf i (by simpa using hi)).2

set_option maxRecDepth 100000 in
/-- One atom that reads. -/
theorem open_latom {cs : List Value} (h : DataW.trod enc Tryd.prog W 0 (fun _ => true) true n 24 cs = some x) :
    ∃ (a : LA) (RA : Option Addr) (RC : Nat), cs = [.int .u8 (a.v : Nat), .slice RA a.R.length RC, .int .u8 (a.b : Nat)] ∧ SlA 4 W.heap.size W RA a.R ∧ a.v < 256 ∧ a.b < 256 ∧ Bytes a.R := by
  obtain ⟨ys, n', _, _, hlen, hyl, hf⟩ := DataW.trod_struct Tryd.underlying24 h
  rw [cells_TLAtom] at hlen
  match cs, hlen with
  | [c0, c1, c2], _ =>
    match ys, hyl with
    | [y0, y1, y2], _ =>
      have h0 := hf 0 _ rfl
      have h1 := hf 1 _ rfl
      have h2 := hf 2 _ rfl
      obtain ⟨a0, e0, _, w0⟩ := DataW.trod_int (k := .u8) (by kernel_rfl) h0
      obtain ⟨RA, RC, X, e1, hs, _, hB⟩ := open_fours h1
      obtain ⟨a2, e2, _, w2⟩ := DataW.trod_int (k := .u8) (by kernel_rfl) h2
      have b0 := bounds_u8 w0
      have b2 := bounds_u8 w2
      obtain ⟨a0, rfl⟩ := Int.eq_ofNat_of_zero_le b0.1
      obtain ⟨a2, rfl⟩ := Int.eq_ofNat_of_zero_le b2.1
      have q0 : List.take (Tryd.prog.cellsOf 5) (List.drop 0 [c0, c1, c2]) = [.int .u8 a0] := e0
      have q1 : List.take (Tryd.prog.cellsOf 22) (List.drop 1 [c0, c1, c2]) = [.slice RA X.length RC] := e1
      have q2 : List.take (Tryd.prog.cellsOf 5) (List.drop 2 [c0, c1, c2]) = [.int .u8 a2] := e2
      rw [cells_Tu8] at q0 q2
      rw [show Tryd.prog.cellsOf 22 = 1 by kernel_rfl] at q1
      simp at q0 q1 q2
      subst q0 q1 q2
      exact ⟨⟨a0, X, a2⟩, RA, RC, rfl, hs, by show a0 < 256; omega, by show a2 < 256; omega, hB⟩

/-- A list of atoms that reads. -/
theorem open_latoms {cs : List Value} (h : DataW.trod enc Tryd.prog W 0 (fun _ => true) true n 30 cs = some x) :
    ∃ A C l, cs = [.slice A l.length C] ∧ AtsL W.heap.size W A l ∧ LBytes l ∧ l.length ≤ C ∧ C ≤ 9223372036854775807 ∧ (C = 0 ∨ ∃ es sp, x.1 = .slice es sp ∧ es.length + sp.length = C) := by
  rcases open_slice Tryd.underlying30 h with ⟨hcs, _⟩ | ⟨a, len, cap, m, n', D, Pl, hcs, _, hl, hm, hmm, hx, hel⟩
  · exact ⟨none, 0, [], hcs, fun h => absurd rfl h, fun a ha => by simp at ha, Nat.le_refl _, by simp, .inl rfl⟩
  · rw [cells_TLAtom] at hel
    simp only [if_true] at hmm
    subst hmm
    have hm' : m ≤ 9223372036854775807 := hm
    have hch : ∀ i, i < len → ∃ t : LA, ∃ RA RC, W.cell? (a.add (i * 3)) = some (.int .u8 (t.v : Nat)) ∧ W.cell? (a.add (i * 3 + 1)) = some (.slice RA t.R.length RC) ∧ W.cell? (a.add (i * 3 + 2)) = some (.int .u8 (t.b : Nat)) ∧ SlA 4 W.heap.size W RA t.R ∧ t.v < 256 ∧ t.b < 256 ∧ Bytes t.R := by
      intro i hi
      obtain ⟨cs', h1, h2⟩ := hel i (by omega)
      obtain ⟨t, RA, RC, rfl, hs, hv, hb, hB⟩ := open_latom h2
      obtain ⟨_, _, h3⟩ := World.cells?_some h1
      refine ⟨t, RA, RC, ?_, ?_, ?_, hs, hv, hb, hB⟩
      · have := h3 0 (by omega)
        rw [Go.Deep.add_add] at this
        exact this
      · have := h3 1 (by omega)
        rw [Go.Deep.add_add] at this
        exact this
      · have := h3 2 (by omega)
        rw [Go.Deep.add_add] at this
        exact this
    haveI : Inhabited LA := ⟨⟨0, [], 0⟩⟩
    obtain ⟨f, hf⟩ := choose_lt hch
    refine ⟨some a, m, (List.range len).map f, by simpa using hcs, fun hne => ?_, ?_, by simpa using hl, hm', .inr ⟨_, _, by rw [hx], by simp; omega⟩⟩
    · have hpos : 0 < len := by
        rcases Nat.eq_zero_or_pos len with h0 | h0
        · subst h0; exact absurd rfl hne
        · exact h0
      obtain ⟨_, _, h0, _⟩ := hf 0 hpos
      rw [show a.add (0 * 3) = a by unfold Addr.add; simp] at h0
      obtain ⟨ha, hb⟩ := cell_addr' h0
      refine ⟨a.block, a.off, by rw [← ha], hb, fun i hi => ?_⟩
      have hi' : i < len := by simpa using hi
      obtain ⟨RA, RC, g0, g1, g2, g3, _⟩ := hf i hi'
      rw [ha, add_addr'] at g0 g1 g2
      refine ⟨RA, RC, ?_, ?_, ?_, ?_⟩
      · simpa using g0
      · simpa [Nat.add_assoc] using g1
      · simpa [Nat.add_assoc] using g2
      · simpa using g3
    · intro t ht
      rw [List.mem_map] at ht
      obtain ⟨i, hi, rfl⟩ := ht
      obtain ⟨_, _, _, _, _, _, g1, g2, g3⟩ := hf i (by simpa using hi)
      exact ⟨g1, g2, g3⟩
end

end Go.Proofs.YthgaflmldbgbnaaDoor
end

section
/- Opening the arguments of the laws of chapter 35: one atom as a value, with the bulk of its rows. -/
namespace Go.Proofs.YthgaflmldbgbnaaDoor
open Go.ChangeShapes Go.WideShapes Go.ChangeAt Go.RowKit Go.Joins Go.Deep

section
variable {H : Type} {enc : TypeId × Value → H} {W : World} {n : Nat} {x : DataW H × List MemPlace}
set_option maxRecDepth 100000 in
/-- A list of fours that reads, with the length of its datum. -/
theorem open_foursD {cs : List Value} (h : DataW.trod enc Tryd.prog W 0 (fun _ => true) true n 22 cs = some x) :
    ∃ A C X, cs = [.slice A X.length C] ∧ SlA 4 W.heap.size W A X ∧ X.length ≤ 9223372036854775807 ∧ Bytes X ∧ (X = [] ∨ ∃ es sp, x.1 = .slice es sp ∧ es.length = X.length) := by
  rcases open_slice Tryd.underlying22 h with ⟨hcs, _⟩ | ⟨a, len, cap, m, n', D, Pl, hcs, _, hl, hm, hmm, hx, hel⟩
  · obtain ⟨A, C, X, e, h1, h2, h3⟩ := open_fours h
    refine ⟨A, C, X, e, h1, h2, h3, .inl ?_⟩
    rw [hcs] at e
    simp at e
    exact List.eq_nil_of_length_eq_zero e.2.1.symm
  · obtain ⟨A, C, X, e, h1, h2, h3⟩ := open_fours h
    refine ⟨A, C, X, e, h1, h2, h3, .inr ⟨_, _, by rw [hx], ?_⟩⟩
    rw [hcs] at e
    simp at e
    simp
    exact e.2.1
set_option maxRecDepth 100000 in
/-- One atom that reads. -/
theorem open_latomV {r : Reach} {b0 : Nat} {v : Value} {d : DataW H} {p : List MemPlace} (hv : Value.okWide Tryd.prog W r b0 24 v) (h : DataW.Trod enc Tryd.prog W 0 (fun _ => true) true 24 v d p) :
    ∃ (a : LA) (RA : Option Addr) (RC : Nat), v = .agg #[.int .u8 (a.v : Nat), .slice RA a.R.length RC, .int .u8 (a.b : Nat)] ∧ SlA 4 W.heap.size W RA a.R ∧ a.v < 256 ∧ a.b < 256 ∧ Bytes a.R ∧ a.R.length ≤ 9223372036854775807 ∧ (a.R = [] ∨ ∃ d0 es sp d2, d = .agg [d0, .slice es sp, d2] ∧ es.length = a.R.length) := by
  obtain ⟨c0, c1, c2, y0, y1, y2, n, rfl, rfl, rfl, h0, h1, h2⟩ := open_agg3 Tryd.underlying24 (by kernel_rfl) cells_TLAtom hv h
  obtain ⟨a0, e0, _, w0⟩ := DataW.trod_int (k := .u8) (by kernel_rfl) h0
  obtain ⟨RA, RC, X, e1, hs, hl, hB, hd⟩ := open_foursD h1
  obtain ⟨a2, e2, _, w2⟩ := DataW.trod_int (k := .u8) (by kernel_rfl) h2
  have b0 := bounds_u8 w0
  have b2 := bounds_u8 w2
  obtain ⟨a0, rfl⟩ := Int.eq_ofNat_of_zero_le b0.1
  obtain ⟨a2, rfl⟩ := Int.eq_ofNat_of_zero_le b2.1
  simp at e0 e1 e2
  subst e0 e1 e2
  refine ⟨⟨a0, X, a2⟩, RA, RC, rfl, hs, by show a0 < 256; omega, by show a2 < 256; omega, hB, hl, ?_⟩
  rcases hd with hd | ⟨es, sp, hd, hl⟩
  · exact .inl hd
  · exact .inr ⟨_, es, sp, _, by rw [hd], hl⟩
end

end Go.Proofs.YthgaflmldbgbnaaDoor
end

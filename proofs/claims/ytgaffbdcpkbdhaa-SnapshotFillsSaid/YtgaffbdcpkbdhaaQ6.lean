/- Parts of the proof, merged: Z21, Z22, F15. -/
import Derived.Test.YtgaffbdcpkbdhaaQ5
import Derived.Test.YtgaffbdcpkbdhaaQ4
import Derived.Test.YtgaffbdcpkbdhaaRows
import Derived.ProofKit
import Derived.OpenShut
import Derived.ShutString
import Derived.ChangeOld
import Derived.ChangeSame
import Derived.Lib.SmallJoins
import Derived.Deep.Slices
import Derived.Deep.Fields

section
/- Walk: the law SnapshotFills (chapter 16). -/
namespace Go.Proofs.Ytgaffbdcpkbdhaa
open Go.RowKit Go.Sort Go.ChangeMaps Go.WideShapes

def nv (a : Int) (k : Nat) : List Ver := (List.range (k + 1)).map fun i => ⟨a + (i : Nat), cont0, 0⟩
theorem putV_last (v : Ver) : ∀ V : List Ver, (∀ x ∈ V, x.num < v.num) → putV V v = V ++ [v]
  | [], _ => rfl
  | x :: t, h => by
    have h1 := h x (List.mem_cons_self ..)
    unfold putV
    rw [if_neg (by omega), if_neg (by omega), putV_last v t fun y hy => h y (List.mem_cons_of_mem _ hy)]
    rfl
theorem nv_len (a : Int) (k : Nat) : (nv a k).length = k + 1 := by simp [nv]
theorem nv_lt (a : Int) (k : Nat) : ∀ x ∈ nv a k, x.num < a + ((k + 1 : Nat) : Int) := fun x hx => by
  obtain ⟨i, hi, rfl⟩ := List.mem_map.1 hx
  have := List.mem_range.1 hi
  show a + (i : Int) < _
  omega
theorem nv_snoc (a : Int) (k : Nat) : nv a (k + 1) = nv a k ++ [⟨a + ((k + 1 : Nat) : Int), cont0, 0⟩] := by
  unfold nv
  rw [List.range_succ (n := k + 1), List.map_append]
  rfl
theorem nv_put (a : Int) (k : Nat) : putV (nv a k) ⟨a + (k : Nat) + 1, cont0, 0⟩ = nv a (k + 1) := by
  have e : a + (k : Int) + 1 = a + ((k + 1 : Nat) : Int) := by omega
  rw [nv_snoc, e]
  exact putV_last _ _ (nv_lt a k)
theorem nv_mem (a : Int) (k : Nat) : (⟨a + (k : Nat), cont0, 0⟩ : Ver) ∈ nv a k := List.mem_map.2 ⟨k, List.mem_range.2 (by omega), rfl⟩
theorem nv_last : ∀ (a : Int) (k : Nat), nv a k = (List.range k).map (fun i => (⟨a + (i : Nat), cont0, 0⟩ : Ver)) ++ [⟨a + (k : Nat), cont0, 0⟩] := fun a k => by
  unfold nv
  rw [List.range_succ, List.map_append]
  rfl
theorem nv_gone (a : Int) (k : Nat) : ((nv a k).filter (goneB (a + (k : Nat)))).length = k := by
  rw [nv_last, List.filter_append, List.length_append]
  rw [List.filter_eq_self.2 fun x hx => by
    obtain ⟨i, hi, rfl⟩ := List.mem_map.1 hx
    have := List.mem_range.1 hi
    unfold goneB
    rw [Bool.and_eq_true]
    exact ⟨decide_eq_true rfl, decide_eq_true (by show a + (i : Int) ≠ _; omega)⟩]
  simp [goneB]
theorem nv_rest (a : Int) (k : Nat) : ((nv a k).filter fun x => !goneB (a + (k : Nat)) x) = [⟨a + (k : Nat), cont0, 0⟩] := by
  rw [nv_last, List.filter_append]
  rw [List.filter_eq_nil_iff.2 fun x hx => by
    obtain ⟨i, hi, rfl⟩ := List.mem_map.1 hx
    have := List.mem_range.1 hi
    have : goneB (a + (k : Nat)) ⟨a + (i : Nat), cont0, 0⟩ = true := by
      unfold goneB
      rw [Bool.and_eq_true]
      exact ⟨decide_eq_true rfl, decide_eq_true (by show a + (i : Int) ≠ _; omega)⟩
    rw [this]
    decide]
  simp [goneB]
theorem schs_nil (w : World) : SchsM w.heap.size w none [] := fun h => absurd rfl h
theorem upds_nil (w : World) : UpdsM w.heap.size w none [] := fun h => absurd rfl h
/-- A box of the call's own behind a call. -/
theorem StM.newBox {P : Nat → Prop} {S : Sch} {w : World} {m : Value} {V : List Ver} (h : StM P S w m V) (l : Int) :
    StM P S (w.alloc (.cells #[m, .int .i64 l] 31)) m V ∧ Row (w.alloc (.cells #[m, .int .i64 l] 31)) w.heap.size 31 [m, .int .i64 l] :=
  ⟨h.up ((Ext.refl w).alloc _).below, Row.new w 31 _⟩

set_option maxHeartbeats 16000000 in
set_option maxRecDepth 100000 in
theorem l16Fills_any (a : Int) (n : Nat) (w : World) (ha : -9223372036854775808 ≤ a ∧ a ≤ 9223372036854775807) (hn : n ≤ 255) : Calls Try.prog 3 #[.int .i64 a, .int .u8 (n : Nat)] w fun e w' => e = .returned (.bool true) ∧ Below w.heap.size w w' := by
  have HA := Lib.hid (l16awake_any w)
  have hwf : (Lit.int .i64 a).wf = true := by simp [Lit.wf, IntKind.min, IntKind.max, IntKind.signed, IntKind.bits]; omega
  go_enter Try.func3, Try.ntmps3
  go_wp2_with fail
  refine HA.out.mono ?_
  rintro e w1 ⟨rfl, hb1⟩
  have HN := Lib.hid (ctNew_any (fun _ => True) none 0 [] w1 (fun _ _ => trivial) (schs_nil w1) (fun p hp => by cases hp) (by decide))
  have HB1 := Lib.hid hb1
  clear hb1 HA
  go_wp2_with fail
  refine HN.out.mono ?_
  rintro e w2 ⟨h2, -, hb2⟩
  obtain ⟨m2, rfl, hdb⟩ := h2 errS_nil
  obtain ⟨bd, rfl⟩ := hdb.form
  obtain ⟨W2, hW2⟩ : ∃ W2, W2 = w2.alloc (.cells #[.map (some bd)] 25) := ⟨_, rfl⟩
  have hx2 : Ext w2 W2 := by rw [hW2]; exact (Ext.refl w2).alloc _
  have HB2 := Lib.hid (Below.then (Below.then HB1.out hb2 HB1.out.size) hx2.below (Nat.le_trans HB1.out.size hb2.size))
  have hr2 : Row W2 w2.heap.size 25 [.map (some bd)] := by rw [hW2]; exact Row.new w2 25 _
  have k0 : W2.cell? ⟨w2.heap.size, 0, none⟩ = some (.map (some bd)) := hr2.cell 0
  have k1 := hr2.lt
  have HDB := Lib.hid (hdb.up hx2.below)
  have HW2 := Lib.hid hW2
  clear h2 hb2 hdb hx2 hr2 hW2 HN HB1
  go_upto_region 4 with (fail)
  rw [← HW2.out]
  clear HW2
  by_cases hneg : a < 0
  · have q1 : ¬ (0 : Int) ≤ a := by omega
    have q0 : decide ((0 : Int) ≤ a) = false := decide_eq_false q1
    go_wp2_with fail
    refine (snNew_neg (.map (some bd)) a hneg W2).mono ?_
    rintro e w3 ⟨rfl, hx3⟩
    have HB3 := Lib.hid (Below.then HB2.out hx3.below HB2.out.size)
    clear hx3 k0 k1
    go_wp2_with fail
    go_ret
    exact ⟨rfl, Below.then HB3.out ((Ext.refl w3).alloc _).below HB3.out.size⟩
  go_wp2_with fail
  have hap : 0 ≤ a := by omega
  refine (snNew_ok (P := fun _ => True) (S := []) (m := .map (some bd)) (F := cont0) a hap hwf W2 HDB.out (fun _ _ => trivial)).mono ?_
  rintro e w3 ⟨m3, rfl, hst3, hb3⟩
  obtain ⟨b3, rfl⟩ := hst3.form
  obtain ⟨W4, hW4⟩ : ∃ W4, W4 = w3.alloc (.cells #[.map (some b3), .int .i64 a] 31) := ⟨_, rfl⟩
  obtain ⟨g, hg⟩ : ∃ g, g = w3.heap.size := ⟨_, rfl⟩
  have hx4 : Ext w3 W4 := by rw [hW4]; exact (Ext.refl w3).alloc _
  have HR4 : Hid (Row W4 g 31 [.map (some b3), .int .i64 a]) := by show Row _ _ _ _; rw [hW4, hg]; exact Row.new w3 31 _
  have HB4 := Lib.hid (Below.then (Below.then HB2.out hb3 HB2.out.size) hx4.below (Nat.le_trans HB2.out.size hb3.size))
  have HS4 : Hid (StM (fun b => b ≠ g) [] W4 (.map (some b3)) [⟨a, cont0, 0⟩]) := (hst3.weak (P' := fun b => b ≠ g) fun b hb _ => by show b ≠ g; omega).up hx4.below
  have hgw : w.heap.size ≤ g := by rw [hg]; exact Nat.le_trans HB2.out.size hb3.size
  have HW4 := Lib.hid hW4
  have HG := Lib.hid hg
  clear hst3 hb3 hx4 hW4 hg k0 k1 HDB HB2
  have q1 : (0 : Int) ≤ a := hap
  by_cases hbig : 1099511627776 < a
  · go_wp2_with fail
    go_ret
    rw [← HW4.out]
    exact ⟨rfl, HB4.out⟩
  have q2 : a ≤ 1099511627776 := by omega
  obtain ⟨m, hm⟩ : ∃ m : Nat, (n : Int) % 80 = (m : Int) := ⟨n % 80, by omega⟩
  have hm80 : m < 80 := by omega
  have HM := Lib.hid hm
  clear hm
  go_wp2_with fail
  rw [← HW4.out, ← HG.out]
  clear HW4 HG
  go_loopw [9, 10] (fun mv c wx => ∃ (k j b : Nat), j ≤ m ∧ k ≤ 63 ∧ c = .int .i64 j ∧ mv = .int .i64 k ∧ Row wx g 31 [.map (some b), .int .i64 (a + (k : Nat))] ∧ StM (fun b => b ≠ g) [] wx (.map (some b)) (nv a k) ∧ Below w.heap.size w wx) (fun _ c _ => m - (intOf c).toNat)
  case atStart =>
    refine ⟨0, 0, b3, Nat.zero_le _, by decide, rfl, rfl, ?_, ?_, HB4.out⟩
    · have h := HR4.out
      rwa [show a + ((0 : Nat) : Int) = a by omega]
    · have h := HS4.out
      rwa [show nv a 0 = [⟨a, cont0, 0⟩] by simp [nv]]
  case round =>
    obtain ⟨k, j, b, hj, hk, rfl, rfl, hr, hst, hbw⟩ := hrel
    have g0 : wr.cell? ⟨g, 0, none⟩ = some (.map (some b)) := hr.cell 0
    have g1 : wr.cell? ⟨g, 1, none⟩ = some (.int .i64 (a + (k : Nat))) := hr.cell 1
    have g2 := hr.lt
    have HR := Lib.hid hr
    have HS := Lib.hid hst
    have HB := Lib.hid hbw
    clear hr hst hbw HR4 HS4 HB4
    by_cases hjl : j < m
    rotate_left
    · obtain rfl : j = m := by omega
      have r1 : ¬ (j : Int) < (n : Int) % 80 := by rw [HM.out]; omega
      obtain ⟨c, hc⟩ : ∃ c : Int, c = a + (k : Nat) := ⟨_, rfl⟩
      have r4 : IntKind.i64.wrap (a + (k : Nat)) = c := by rw [IntWalk.i64_in _ (by omega), hc]
      have r5 : IntKind.i64.wrap (c + 1) = c + 1 := by rw [IntWalk.i64_in _ (by omega)]
      have hgn : ((nv a k).filter (goneB c)).length = k := by rw [hc]; exact nv_gone a k
      have hgr : ((nv a k).filter fun x => !goneB c x) = [⟨c, cont0, 0⟩] := by rw [hc]; exact nv_rest a k
      rw [← hc] at g1 HR
      have hcb : 0 ≤ c ∧ c ≤ 1000000000000000000 := by omega
      have HCO := Lib.hid (snCollect_any (P := fun b => b ≠ g) (l := c) HS.out (fun b hb => by show b ≠ g; omega) (by rw [nv_len]; omega))
      have HC := Lib.hid hc
      have HGN := Lib.hid hgn
      have HGR := Lib.hid hgr
      have HCB := Lib.hid hcb
      clear hc hgn hgr hcb
      go_wp2_with fail
      refine HCO.out.mono ?_
      rintro e w12 ⟨m12, AG, CG, rfl, hst12, -, hb12⟩
      rw [HGN.out]
      rw [HGR.out] at hst12
      obtain ⟨b12, rfl⟩ := hst12.form
      obtain ⟨W13, hW13⟩ : ∃ W, W = w12.alloc (.cells #[.map (some b12), .int .i64 c] 31) := ⟨_, rfl⟩
      have hx13 : Ext w12 W13 := by rw [hW13]; exact (Ext.refl w12).alloc _
      have hr13 : Row W13 w12.heap.size 31 [.map (some b12), .int .i64 c] := by rw [hW13]; exact Row.new w12 31 _
      have HB13 := Lib.hid (Below.then HB.out (Below.then hb12 hx13.below hb12.size) HB.out.size)
      have HCM := Lib.hid (snCommit_any (P := fun b => b ≠ g) (l := c) (hst12.up hx13.below) (fun b hb => by have h := hb12.size; have h2 := hx13.size; show b ≠ g; omega) (List.mem_singleton.2 rfl) rfl (show (1 : Nat) < 64 by decide) HCB.out (by decide) none 0 [] (upds_nil W13) (fun u hu => by cases hu) (by decide))
      have j0 : W13.cell? ⟨w12.heap.size, 0, none⟩ = some (.map (some b12)) := hr13.cell 0
      have j1 : W13.cell? ⟨w12.heap.size, 1, none⟩ = some (.int .i64 c) := hr13.cell 1
      have j2 := hr13.lt
      have HW13 := Lib.hid hW13
      clear hb12 hst12 hx13 hr13 hW13 HCO g0 g1 g2 HR HS HB
      go_upto_region 20 with (fail)
      rw [← HW13.out]
      clear HW13
      go_wp2_with fail
      refine HCM.out.mono ?_
      rintro e w14 ⟨h14, -, hb14⟩
      obtain ⟨m14, rfl, hst14⟩ := h14 rfl
      obtain ⟨b14, rfl⟩ := hst14.form
      obtain ⟨W15, hW15⟩ : ∃ W, W = (w14.alloc (.cells #[.map (some b14), .int .i64 (c + 1)] 31)).alloc (.cells #[.map none, .int .i64 0] 31) := ⟨_, rfl⟩
      have hx15 : Ext w14 W15 := by rw [hW15]; exact ((Ext.refl w14).alloc _).alloc _
      have HR15 : Hid (Row W15 (w14.heap.size + 1) 31 [.map none, .int .i64 0]) := by
        have h := Row.new (w14.alloc (.cells #[.map (some b14), .int .i64 (c + 1)] 31)) 31 [.map none, .int .i64 0]
        rw [World.size_alloc] at h
        show Row _ _ _ _
        rw [hW15]; exact h
      have HB15 := Lib.hid (Below.then HB13.out (Below.then hb14 hx15.below hb14.size) HB13.out.size)
      have HCN := Lib.hid (snCommit_nil W15 none 0 0)
      obtain ⟨z, hz⟩ : ∃ z, z = w14.heap.size + 1 := ⟨_, rfl⟩
      rw [← hz] at HR15
      have HW15 := Lib.hid hW15
      have HZ := Lib.hid hz
      clear h14 hb14 hst14 hx15 hW15 HCM j0 j1 j2 HB13 hz
      go_upto_region 22 with (fail)

      rw [← HW15.out, ← HZ.out]
      clear HW15 HZ
      have j0 : W15.cell? ⟨z, 0, none⟩ = some (.map none) := HR15.out.cell 0
      have j1 : W15.cell? ⟨z, 1, none⟩ = some (.int .i64 0) := HR15.out.cell 1
      have j2 := HR15.out.lt
      go_wp2_with fail
      clear j0 j1 j2
      refine HCN.out.mono ?_
      rintro e w16 ⟨rfl, hx16⟩
      obtain ⟨W17, hW17⟩ : ∃ W, W = w16.alloc (.cells #[.map none, .int .i64 0] 31) := ⟨_, rfl⟩
      have hx17 : Ext W15 W17 := by rw [hW17]; exact hx16.trans ((Ext.refl w16).alloc _)
      have HR17 := Lib.hid (HR15.out.up hx17.below)
      have HB17 := Lib.hid (Below.then HB15.out hx17.below HB15.out.size)
      have HAN := Lib.hid (snAt_nil 0 0 (by decide) W17)
      have HW17 := Lib.hid hW17
      clear hW17 hx16 hx17 HR15 HB15 HCN
      go_upto_region 23 with (fail)
      rw [← HW17.out]
      clear HW17
      have j0 : W17.cell? ⟨z, 0, none⟩ = some (.map none) := HR17.out.cell 0
      have j1 : W17.cell? ⟨z, 1, none⟩ = some (.int .i64 0) := HR17.out.cell 1
      have j2 := HR17.out.lt
      go_wp2_with fail
      clear j0 j1 j2
      refine HAN.out.mono ?_
      rintro e w18 ⟨rfl, hx18⟩
      obtain ⟨W19, hW19⟩ : ∃ W, W = w18.alloc (.cells #[.map none] 25) := ⟨_, rfl⟩
      have hx19 : Ext W17 W19 := by rw [hW19]; exact hx18.trans ((Ext.refl w18).alloc _)
      have HR19 := Lib.hid (HR17.out.up hx19.below)
      have HB19 := Lib.hid (Below.then HB17.out hx19.below HB17.out.size)
      have HCN := Lib.hid (snCollect_nil W19)
      have HW19 := Lib.hid hW19
      clear hW19 hx18 hx19 HR17 HB17 HAN
      go_upto_region 24 with (fail)
      rw [← HW19.out]
      clear HW19
      have j0 : W19.cell? ⟨z, 0, none⟩ = some (.map none) := HR19.out.cell 0
      have j1 : W19.cell? ⟨z, 1, none⟩ = some (.int .i64 0) := HR19.out.cell 1
      have j2 := HR19.out.lt
      go_wp2_with fail
      clear j0 j1 j2
      refine HCN.out.mono ?_
      rintro e w20 ⟨rfl, hb20⟩
      obtain ⟨W21, hW21⟩ : ∃ W, W = w20.alloc (.cells #[.map none, .int .i64 0] 31) := ⟨_, rfl⟩
      have hx21 : Ext w20 W21 := by rw [hW21]; exact (Ext.refl w20).alloc _
      have hr21 : Row W21 w20.heap.size 31 [.map none, .int .i64 0] := by rw [hW21]; exact Row.new w20 31 _
      have hb21 := Below.then hb20 hx21.below hb20.size
      have HR21 := Lib.hid (HR19.out.up hb21)
      have HB21 := Lib.hid (Below.then HB19.out hb21 HB19.out.size)
      have HVN := Lib.hid (Ytgaffbdcpkbdhaa.versions_nil 0 W21)
      have j0 : W21.cell? ⟨w20.heap.size, 0, none⟩ = some (.map none) := hr21.cell 0
      have j1 : W21.cell? ⟨w20.heap.size, 1, none⟩ = some (.int .i64 0) := hr21.cell 1
      have j2 := hr21.lt
      have HW21 := Lib.hid hW21
      clear hW21 hb20 hx21 hr21 hb21 HR19 HB19 HCN
      go_upto_region 25 with (fail)
      rw [← HW21.out]
      clear HW21
      go_wp2_with fail
      clear j0 j1 j2
      refine HVN.out.mono ?_
      rintro e w22 ⟨rfl, hb22⟩
      have HR22 := HR21.out.up hb22
      have HB22 := Lib.hid (Below.then HB21.out hb22 HB21.out.size)
      have HLA := Lib.hid (snLatest_any (.map none) 0 w22)
      have j0 : w22.cell? ⟨z, 0, none⟩ = some (.map none) := HR22.cell 0
      have j1 : w22.cell? ⟨z, 1, none⟩ = some (.int .i64 0) := HR22.cell 1
      have j2 := HR22.lt
      clear hb22 HR22 HR21 HB21 HVN
      go_wp2_with fail
      clear j0 j1 j2
      refine HLA.out.mono ?_
      rintro e w23 ⟨rfl, hx23⟩
      have HB23 := Lib.hid (Below.then HB22.out hx23.below HB22.out.size)
      clear hx23 HB22 HLA
      go_wp2_with fail
      go_ret
      exact ⟨rfl, HB23.out⟩
    have r1 : (j : Int) < (n : Int) % 80 := by rw [HM.out]; omega
    have r2 : IntKind.i64.wrap ((j : Int) + 1) = ((j + 1 : Nat) : Int) := by rw [IntWalk.i64_in _ (by omega)]; omega
    by_cases hk63 : k = 63
    · have hkc : ((k : Int) == 63) = true := by rw [hk63]; rfl
      have HCM := Lib.hid (snCommit_full (l := a + (k : Nat)) HS.out (by rw [nv_len]; omega) (by rw [nv_len]; omega) none 0 0)
      have HK63 := Lib.hid hk63
      clear hk63
      go_wp2_with fail
      refine HCM.out.mono ?_
      rintro e w5 ⟨rfl, hx5⟩
      obtain ⟨W6, hW6⟩ : ∃ W6, W6 = w5.alloc (.cells #[.map (some b), .int .i64 (a + (k : Nat))] 31) := ⟨_, rfl⟩
      have hx6 : Ext w5 W6 := by rw [hW6]; exact (Ext.refl w5).alloc _
      have hr6 : Row W6 w5.heap.size 31 [.map (some b), .int .i64 (a + (k : Nat))] := by rw [hW6]; exact Row.new w5 31 _
      have hx := hx5.trans hx6
      have HR6 := Lib.hid (HR.out.up hx.below)
      have HS6 := Lib.hid (HS.out.up hx.below)
      have HB6 := Lib.hid (Below.then HB.out hx.below HB.out.size)
      have j0 : W6.cell? ⟨w5.heap.size, 0, none⟩ = some (.map (some b)) := hr6.cell 0
      have j1 : W6.cell? ⟨w5.heap.size, 1, none⟩ = some (.int .i64 (a + (k : Nat))) := hr6.cell 1
      have j2 := hr6.lt
      have HV := Lib.hid (snVersions_any (l := a + (k : Nat)) HS6.out (by rw [nv_len]; omega))
      have HW6 := Lib.hid hW6
      clear hW6 hx5 hx6 hr6 hx HCM g0 g1 g2 HB
      go_upto_region 13 with (fail)
      rw [← HW6.out]
      clear HW6
      go_wp2_with fail
      refine HV.out.mono ?_
      rintro e w7 ⟨v, rfl, hrow, hb7⟩
      rw [nv_len] at hrow
      obtain ⟨VA, VC, rfl, -, -⟩ := own_cut hrow (by decide)
      have HR7 := Lib.hid (HR6.out.up hb7)
      have HS7 := Lib.hid (HS6.out.up hb7)
      have HB7 := Lib.hid (Below.then HB6.out hb7 HB6.out.size)
      have hk1 : ((((k + 1 : Nat) : Int)) != 64) = false := by rw [HK63.out]; rfl
      clear hrow hb7 HV HR6 HS6 HB6 j0 j1 j2
      go_wp2_with fail
      go_roundw
      case rel => exact ⟨k, j + 1, b, by omega, hk, by go_num, rfl, HR7.out, HS7.out, HB7.out⟩
      case measure => simp [intOf]; omega
    have hkc : ((k : Int) == 63) = false := by simpa using (show (k : Int) ≠ 63 by omega)
    have hk62 : k ≤ 62 := by omega
    have r3 : IntKind.i64.wrap ((k : Int) + 1) = ((k + 1 : Nat) : Int) := by rw [IntWalk.i64_in _ (by omega)]; omega
    obtain ⟨c, hc⟩ : ∃ c : Int, c = a + ((k + 1 : Nat) : Int) := ⟨_, rfl⟩
    have r4 : IntKind.i64.wrap (a + ((k + 1 : Nat) : Int)) = c := by rw [IntWalk.i64_in _ (by omega), hc]
    have r5 : IntKind.i64.wrap (a + ((k : Int) + 1)) = c := by rw [IntWalk.i64_in _ (by omega), hc]; omega
    have HC := Lib.hid hc
    clear hc
    have HCM := Lib.hid (snCommit_any (P := fun b => b ≠ g) (l := a + (k : Nat)) HS.out (fun b hb => by show b ≠ g; omega) (nv_mem a k) rfl (by rw [nv_len]; omega) (by omega) (by decide) none 0 [] (upds_nil wr) (fun u hu => by cases hu) (by decide))
    clear hk63
    go_wp2_with fail
    refine HCM.out.mono ?_
    rintro e w5 ⟨h5, -, hb5⟩
    obtain ⟨m5, rfl, hst5⟩ := h5 rfl
    have e5 : putV (nv a k) ⟨a + (k : Nat) + 1, (applyF [] cont0 0 []).2.1, 0⟩ = nv a (k + 1) := nv_put a k
    have e6 : a + (k : Int) + 1 = c := by rw [HC.out]; omega
    rw [e5] at hst5
    rw [e6]
    obtain ⟨b5, rfl⟩ := hst5.form
    obtain ⟨W6, hW6⟩ : ∃ W6, W6 = w5.alloc (.cells #[.map (some b5), .int .i64 c] 31) := ⟨_, rfl⟩
    have hx6 : Ext w5 W6 := by rw [hW6]; exact (Ext.refl w5).alloc _
    have hr6 : Row W6 w5.heap.size 31 [.map (some b5), .int .i64 c] := by rw [hW6]; exact Row.new w5 31 _
    have hx := Below.then hb5 hx6.below hb5.size
    have q := HR.out.up hx
    have HR6 := Lib.hid q
    have HS6 := Lib.hid (hst5.up hx6.below)
    have HB6 := Lib.hid (Below.then HB.out hx HB.out.size)
    have j0 : W6.cell? ⟨w5.heap.size, 0, none⟩ = some (.map (some b5)) := hr6.cell 0
    have j1 : W6.cell? ⟨w5.heap.size, 1, none⟩ = some (.int .i64 c) := hr6.cell 1
    have j2 := hr6.lt
    have j3 : W6.cell? ⟨g, 0, none⟩ = some (.map (some b)) := q.cell 0
    have j4 : W6.cell? ⟨g, 1, none⟩ = some (.int .i64 (a + (k : Nat))) := q.cell 1
    have j5 := q.frozen 0
    have j6 := q.frozen 1
    have j7 := q.lt
    have hgne : g < w5.heap.size := by have := hb5.size; omega
    have HW6 := Lib.hid hW6
    clear hW6 hb5 hx6 hr6 hx HCM g0 g1 g2 HB h5 e5 e6 q hst5
    go_upto_region 12 with (fail)
    rw [← HW6.out]
    clear HW6
    go_wp2_with fail
    obtain ⟨W7, hW7⟩ : ∃ W, W = (W6.setCell ⟨g, 0, none⟩ (.map (some b5))).setCell ⟨g, 1, none⟩ (.int .i64 c) := ⟨_, rfl⟩
    rw [← hW7]
    have HR7 : Hid (Row W7 g 31 [.map (some b5), .int .i64 c]) := by show Row _ _ _ _; rw [hW7]; exact HR6.out.set2 _ _
    have HS7 : Hid (StM (fun b => b ≠ g) [] W7 (.map (some b5)) (nv a (k + 1))) := by show StM _ _ _ _ _; rw [hW7]; exact StM.setBox HS6.out _ _
    have HB7 : Hid (Below w.heap.size w W7) := by show Below _ _ _; rw [hW7]; exact (HB6.out.setCell hgw _).setCell hgw _
    clear hW7
    go_roundw
    case rel => exact ⟨k + 1, j + 1, b5, by omega, by omega, by go_num, rfl, by have h := HR7.out; rwa [HC.out] at h, HS7.out, HB7.out⟩
    case measure => simp [intOf]; omega

end Go.Proofs.Ytgaffbdcpkbdhaa
end

section
/- Words for the arguments of the laws of chapter 16: acts, lists of bools. -/
namespace Go.Proofs.Ytgaffbdcpkbdhaa
open Go.RowKit Go.Sort Go.ChangeMaps Go.WideShapes

def BigW (x : RL.R) : Prop := x.length ≤ 9223372036854775807 ∧ ∀ v ∈ x, v.str.size ≤ 9223372036854775807
/-- A list of bools in memory. -/
def BoolsM (B : Nat) (w : World) (A : Option Addr) (l : List Bool) : Prop :=
  l ≠ [] → ∃ b o, A = some ⟨b, o, none⟩ ∧ b < B ∧ ∀ i (h : i < l.length), w.cell? ⟨b, o + i, none⟩ = some (.bool l[i])
/-- An act of the laws. -/
structure ActR where
  kind : Nat
  num : Int
  us : List Upd
def ActOk (a : ActR) : Prop := a.kind ≤ 255 ∧ (Lit.int .i64 a.num).wf = true ∧ a.us.length ≤ 9223372036854775807 ∧ ∀ u ∈ a.us, u.rel.size ≤ 9223372036854775807 ∧ u.row.length ≤ 9223372036854775807 ∧ BigW u.row
/-- Acts in memory. -/
def ActsM (B : Nat) (w : World) (A : Option Addr) (l : List ActR) : Prop :=
  l ≠ [] → ∃ b o, A = some ⟨b, o, none⟩ ∧ b < B ∧ ∀ i (h : i < l.length), ∃ UA UC, w.cell? ⟨b, o + i * 3, none⟩ = some (.int .u8 (l[i].kind : Nat)) ∧ w.cell? ⟨b, o + i * 3 + 1, none⟩ = some (.int .i64 l[i].num) ∧ w.cell? ⟨b, o + i * 3 + 2, none⟩ = some (.slice UA l[i].us.length UC) ∧ l[i].us.length ≤ UC ∧ UpdsM B w UA l[i].us

end Go.Proofs.Ytgaffbdcpkbdhaa
end

section
/- Opening the arguments of the laws of chapter 16: schemas, acts, lists of bools. -/
namespace Go.Proofs.Ytgaffbdcpkbdhaa
open Go.ChangeShapes Go.WideShapes Go.ChangeAt Go.RowKit Go.Joins Go.Deep

theorem cell_addr {w : World} {a : Addr} {v : Value} (h : w.cell? a = some v) : a = ⟨a.block, a.off, none⟩ ∧ a.block < w.heap.size := by
  obtain ⟨b, o, s⟩ := a
  unfold World.cell? at h
  simp only at h
  cases hh : w.heap[b]? with
  | none => rw [hh] at h; cases h
  | some ob =>
    have hlt : b < w.heap.size := by
      rcases Nat.lt_or_ge b w.heap.size with h1 | h1
      · exact h1
      · rw [Array.getElem?_eq_none h1] at hh; cases hh
    refine ⟨?_, hlt⟩
    rw [hh] at h
    cases ob with
    | cells c _ _ =>
      cases s with
      | none => rfl
      | some s => simp at h
    | _ => simp at h

theorem add_addr (b o i : Nat) : (Addr.add ⟨b, o, none⟩ i) = ⟨b, o + i, none⟩ := by
  unfold Addr.add
  split
  · next h => subst h; rfl
  · rfl

theorem rcells_div (y : RL.R) (i : Nat) (u : Value) (h : (rcells y)[i]? = some u) : ∃ v, y[i / 3]? = some v ∧ (vcells v)[i % 3]? = some u := by
  have hl : i < (rcells y).length := (List.getElem?_eq_some_iff.1 h).1
  rw [rcells_length] at hl
  have hq : i / 3 < y.length := by omega
  refine ⟨y[i / 3], List.getElem?_eq_getElem hq, ?_⟩
  obtain ⟨g0, g1, g2⟩ := rcells_get y (i / 3) _ (List.getElem?_eq_getElem hq)
  have hi : i = i / 3 * 3 + i % 3 := by omega
  have hr : i % 3 = 0 ∨ i % 3 = 1 ∨ i % 3 = 2 := by omega
  rcases hr with hr | hr | hr
  · rw [hr, Nat.add_zero] at hi; rw [hr]; rw [hi, g0] at h; exact h
  · rw [hr] at hi; rw [hr]; rw [hi, g1] at h; exact h
  · rw [hr] at hi; rw [hr]; rw [hi, g2] at h; exact h

section
variable {H : Type} {enc : TypeId × Value → H} {W : World} {n : Nat} {x : DataW H × List MemPlace}

theorem cells_TValue : Try.prog.cellsOf 75 = 3 := by kernel_rfl
theorem cells_TRow : Try.prog.cellsOf 54 = 1 := by kernel_rfl

set_option maxRecDepth 100000 in
/-- One value that reads. -/
theorem open_value {cs : List Value} (h : DataW.trod enc Try.prog W 0 (fun _ => true) true n 75 cs = some x) :
    ∃ v : RL.V, cs = vcells v ∧ v.str.size ≤ 9223372036854775807 := by
  obtain ⟨ys, n', _, _, hlen, hyl, hf⟩ := DataW.trod_struct Try.underlying75 h
  rw [cells_TValue] at hlen
  match cs, hlen with
  | [c0, c1, c2], _ =>
    match ys, hyl with
    | [y0, y1, y2], _ =>
      have h0 := hf 0 _ rfl
      have h1 := hf 1 _ rfl
      have h2 := hf 2 _ rfl
      obtain ⟨a0, e0, _, _⟩ := DataW.trod_int (k := .i64) (by kernel_rfl) h0
      obtain ⟨a1, e1, _, _⟩ := DataW.trod_int (k := .i64) (by kernel_rfl) h1
      obtain ⟨a2, e2, _, hz⟩ := DataW.trod_string (by kernel_rfl) h2
      have q0 : List.take (Try.prog.cellsOf 3) (List.drop 0 [c0, c1, c2]) = [.int .i64 a0] := e0
      have q1 : List.take (Try.prog.cellsOf 2) (List.drop 1 [c0, c1, c2]) = [.int .i64 a1] := e1
      have q2 : List.take (Try.prog.cellsOf 9) (List.drop 2 [c0, c1, c2]) = [.string a2] := e2
      rw [show Try.prog.cellsOf 3 = 1 by kernel_rfl] at q0
      rw [show Try.prog.cellsOf 2 = 1 by kernel_rfl] at q1
      rw [show Try.prog.cellsOf 9 = 1 by kernel_rfl] at q2
      simp at q0 q1 q2
      subst q0 q1 q2
      exact ⟨⟨a0, a1, a2⟩, rfl, hz⟩

theorem vcells_length (v : RL.V) : (vcells v).length = 3 := rfl

/-- A row that reads. -/
theorem open_row {cs : List Value} (h : DataW.trod enc Try.prog W 0 (fun _ => true) true n 54 cs = some x) :
    ∃ A C y, cs = [.slice A y.length C] ∧ SlR W.heap.size W A y ∧ y.length ≤ C ∧ C ≤ 9223372036854775807 ∧ BigW y := by
  rcases open_slice Try.underlying54 h with ⟨hcs, _⟩ | ⟨a, len, cap, m, n', D, Pl, hcs, _, hl, hm, hmm, _, hel⟩
  · exact ⟨none, 0, [], hcs, SlR.nil, Nat.le_refl _, by simp, by simp [BigW]⟩
  · rw [cells_TValue] at hel
    simp only [if_true] at hmm
    subst hmm
    have hch : ∀ i, i < len → ∃ v : RL.V, (∀ j, j < 3 → W.cell? (a.add (i * 3 + j)) = (vcells v)[j]?) ∧ v.str.size ≤ 9223372036854775807 := by
      intro i hi
      obtain ⟨cs', h1, h2⟩ := hel i (by omega)
      obtain ⟨v, rfl, hv⟩ := open_value h2
      obtain ⟨_, _, h3⟩ := World.cells?_some h1
      refine ⟨v, fun j hj => ?_, hv⟩
      rw [← Go.Deep.add_add]
      exact h3 j hj
    haveI : Inhabited RL.V := ⟨⟨0, 0, ByteArray.empty⟩⟩
    obtain ⟨f, hf⟩ := choose_lt hch
    refine ⟨some a, m, (List.range len).map f, by simpa using hcs, fun hne => ?_, by simpa using hl, hm, by simp only [List.length_map, List.length_range]; exact Nat.le_trans hl hm, ?_⟩
    · have hpos : 0 < len := by
        rcases Nat.eq_zero_or_pos len with h0 | h0
        · subst h0; exact absurd rfl hne
        · exact h0
      have h0 := (hf 0 hpos).1 0 (by omega)
      rw [show a.add (0 * 3 + 0) = a by unfold Addr.add; simp] at h0
      obtain ⟨ha, hb⟩ := cell_addr (h0.trans rfl)
      refine ⟨a.block, a.off, by rw [← ha], hb, fun i u hu => ?_⟩
      obtain ⟨v, hv, hvu⟩ := rcells_div _ _ _ hu
      rw [List.getElem?_map] at hv
      have hq : i / 3 < len := by
        rcases Nat.lt_or_ge (i / 3) len with h | h
        · exact h
        · rw [List.getElem?_eq_none (by simpa using h)] at hv; simp at hv
      rw [List.getElem?_range hq] at hv
      simp at hv
      subst hv
      have h1 := (hf _ hq).1 (i % 3) (by omega)
      rw [show i / 3 * 3 + i % 3 = i by omega, ha, add_addr] at h1
      rw [h1]
      exact hvu
    · intro v hv
      rw [List.mem_map] at hv
      obtain ⟨i, hi, rfl⟩ := hv
      exact (hf i (by simpa using hi)).2


/-- A slice of bools that reads. -/
theorem open_bools {cs : List Value} (h : DataW.trod enc Try.prog W 0 (fun _ => true) true n 43 cs = some x) :
    ∃ A C l, cs = [.slice A l.length C] ∧ BoolsM W.heap.size W A l ∧ l.length ≤ 9223372036854775807 := by
  rcases open_slice1 Try.underlying43 (by kernel_rfl) h with ⟨hcs, _⟩ | ⟨a, len, cap, m, n', V, D, Pl, hcs, _, hl, hm, hmm, hx, hel⟩
  · exact ⟨none, 0, [], hcs, fun h => absurd rfl h, by simp⟩
  · simp only [if_true] at hmm
    subst hmm
    have hm' : m ≤ 9223372036854775807 := hm
    have hch : ∀ i, i < len → ∃ y : Bool, W.cell? (a.add i) = some (.bool y) := by
      intro i hi
      obtain ⟨h1, h2⟩ := hel i (by omega)
      obtain ⟨b, e, _⟩ := DataW.trod_bool Try.underlying4 h2
      simp at e
      rw [e] at h1
      exact ⟨b, h1⟩
    obtain ⟨f, hf⟩ := choose_lt hch
    refine ⟨some a, m, (List.range len).map f, by simpa using hcs, fun hne => ?_, by simp only [List.length_map, List.length_range]; omega⟩
    have hpos : 0 < len := by
      rcases Nat.eq_zero_or_pos len with h0 | h0
      · subst h0; exact absurd rfl hne
      · exact h0
    have h0 := hf 0 hpos
    rw [show a.add 0 = a by unfold Addr.add; simp] at h0
    obtain ⟨ha, hb⟩ := cell_addr h0
    refine ⟨a.block, a.off, by rw [← ha], hb, fun i hi => ?_⟩
    have hi' : i < len := by simpa using hi
    have g0 := hf i hi'
    rw [ha, add_addr] at g0
    simpa using g0

theorem sl_open {k : IntKind} {w : World} {a : Addr} {zs : List Int} {len : Nat} (hl : len ≤ zs.length) (hcell : ∀ i, i < zs.length → w.cell? (a.add i) = some (.int k (zs.getD i 0))) :
    SlI k w.heap.size w (some a) (zs.take len) := by
  intro hne
  have hpos : 0 < (zs.take len).length := by
    rcases Nat.eq_zero_or_pos (zs.take len).length with h | h
    · exact absurd (by rw [List.eq_nil_of_length_eq_zero h]; rfl) hne
    · exact h
  rw [List.length_take] at hpos
  have h0 := hcell 0 (by omega)
  rw [show a.add 0 = a by unfold Addr.add; simp] at h0
  obtain ⟨ha, hb⟩ := cell_addr h0
  refine ⟨a.block, a.off, by rw [← ha], hb, fun i u hu => ?_⟩
  rw [List.getElem?_map] at hu
  cases hz : (zs.take len)[i]? with
  | none => rw [hz] at hu; simp at hu
  | some z =>
    rw [hz] at hu
    simp at hu
    subst hu
    obtain ⟨hi, hzi⟩ := List.getElem?_eq_some_iff.1 hz
    rw [List.length_take] at hi
    have h1 := hcell i (by omega)
    rw [ha, add_addr] at h1
    rw [h1]
    simp at hzi
    simp [show i < zs.length by omega, hzi]

/-- A slice of ints that reads. -/
theorem open_cols {cs : List Value} (h : DataW.trod enc Try.prog W 0 (fun _ => true) true n 36 cs = some x) :
    ∃ A c zs, cs = [.slice A zs.length c] ∧ SlI .i64 W.heap.size W A zs ∧ zs.length ≤ 9223372036854775807 := by
  rcases open_ints Try.underlying36 Try.underlying3 (by kernel_rfl) h with ⟨hcs, _⟩ | ⟨a, len, cap, zs, hcs, _, hl, hm, hz, _, hcell, hwz⟩
  · exact ⟨none, 0, [], hcs, Sl.nil, by simp⟩
  · simp at hz
    have hlz : len ≤ zs.length := by omega
    have hm' : cap ≤ 9223372036854775807 := hm
    refine ⟨some a, cap, zs.take len, ?_, sl_open hlz hcell, ?_⟩
    · rw [List.length_take, Nat.min_eq_left hlz]; exact hcs
    · rw [List.length_take]; omega

theorem cells_TSchema : Try.prog.cellsOf 73 = 2 := by kernel_rfl
theorem cells_TUpd : Try.prog.cellsOf 56 = 3 := by kernel_rfl
theorem cells_TAct16 : Try.prog.cellsOf 51 = 3 := by kernel_rfl

set_option maxRecDepth 100000 in
/-- One schema that reads. -/
theorem open_schema {cs : List Value} (h : DataW.trod enc Try.prog W 0 (fun _ => true) true n 73 cs = some x) :
    ∃ (s : ByteArray) (ks : List Int) (KA : Option Addr) (KC : Nat), cs = [.string s, .slice KA ks.length KC] ∧ SlI .i64 W.heap.size W KA ks ∧ s.size ≤ 9223372036854775807 ∧ ks.length ≤ 9223372036854775807 := by
  obtain ⟨ys, n', _, _, hlen, hyl, hf⟩ := DataW.trod_struct Try.underlying73 h
  rw [cells_TSchema] at hlen
  match cs, hlen with
  | [c0, c1], _ =>
    match ys, hyl with
    | [y0, y1], _ =>
      have h0 := hf 0 _ rfl
      have h1 := hf 1 _ rfl
      obtain ⟨a0, e0, _, hz⟩ := DataW.trod_string (by kernel_rfl) h0
      obtain ⟨KA, KC, ks, e1, hs, hk⟩ := open_cols h1
      have q0 : List.take (Try.prog.cellsOf 9) (List.drop 0 [c0, c1]) = [.string a0] := e0
      have q1 : List.take (Try.prog.cellsOf 36) (List.drop 1 [c0, c1]) = [.slice KA ks.length KC] := e1
      rw [show Try.prog.cellsOf 9 = 1 by kernel_rfl] at q0
      rw [show Try.prog.cellsOf 36 = 1 by kernel_rfl] at q1
      simp at q0 q1
      subst q0 q1
      exact ⟨a0, ks, KA, KC, rfl, hs, hz, hk⟩

/-- A list of schemas that reads. -/
theorem open_schemas {cs : List Value} (h : DataW.trod enc Try.prog W 0 (fun _ => true) true n 47 cs = some x) :
    ∃ A C X, cs = [.slice A X.length C] ∧ SchsM W.heap.size W A X ∧ SchsOk X ∧ X.length ≤ C ∧ C ≤ 9223372036854775807 := by
  rcases open_slice Try.underlying47 h with ⟨hcs, _⟩ | ⟨a, len, cap, m, n', D, Pl, hcs, _, hl, hm, hmm, hx, hel⟩
  · exact ⟨none, 0, [], hcs, fun h => absurd rfl h, fun p hp => (by cases hp), Nat.le_refl _, by simp⟩
  · rw [cells_TSchema] at hel
    simp only [if_true] at hmm
    subst hmm
    have hm' : m ≤ 9223372036854775807 := hm
    have hch : ∀ i, i < len → ∃ t : ByteArray × List Int, ∃ KA KC, W.cell? (a.add (i * 2)) = some (.string t.1) ∧ W.cell? (a.add (i * 2 + 1)) = some (.slice KA t.2.length KC) ∧ SlI .i64 W.heap.size W KA t.2 ∧ t.1.size ≤ 9223372036854775807 ∧ t.2.length ≤ 9223372036854775807 := by
      intro i hi
      obtain ⟨cs', h1, h2⟩ := hel i (by omega)
      obtain ⟨s, ks, KA, KC, rfl, hs, hz, hk⟩ := open_schema h2
      obtain ⟨_, _, h3⟩ := World.cells?_some h1
      refine ⟨(s, ks), KA, KC, ?_, ?_, hs, hz, hk⟩
      · have := h3 0 (by omega)
        rw [Go.Deep.add_add] at this
        exact this
      · have := h3 1 (by omega)
        rw [Go.Deep.add_add] at this
        exact this
    haveI : Inhabited (ByteArray × List Int) := ⟨⟨ByteArray.empty, []⟩⟩
    obtain ⟨f, hf⟩ := choose_lt hch
    refine ⟨some a, m, (List.range len).map f, by simpa using hcs, fun hne => ?_, ?_, by simpa using hl, hm'⟩
    · have hpos : 0 < len := by
        rcases Nat.eq_zero_or_pos len with h0 | h0
        · subst h0; exact absurd rfl hne
        · exact h0
      obtain ⟨_, _, h0, _⟩ := hf 0 hpos
      rw [show a.add (0 * 2) = a by unfold Addr.add; simp] at h0
      obtain ⟨ha, hb⟩ := cell_addr h0
      refine ⟨a.block, a.off, by rw [← ha], hb, fun i hi => ?_⟩
      have hi' : i < len := by simpa using hi
      obtain ⟨KA, KC, g0, g1, g2, _⟩ := hf i hi'
      rw [ha, add_addr] at g0 g1
      refine ⟨KA, KC, ?_, ?_, ?_⟩
      · simpa using g0
      · rw [← Nat.add_assoc] at g1
        simpa using g1
      · simpa using g2
    · intro p hp
      rw [List.mem_map] at hp
      obtain ⟨i, hi, rfl⟩ := hp
      obtain ⟨_, _, _, _, _, g⟩ := hf i (by simpa using hi)
      exact g

set_option maxRecDepth 100000 in
/-- One update that reads. -/
theorem open_upd {cs : List Value} (h : DataW.trod enc Try.prog W 0 (fun _ => true) true n 56 cs = some x) :
    ∃ (u : Upd) (RA : Option Addr) (RC : Nat), cs = [.bool u.del, .string u.rel, .slice RA u.row.length RC] ∧ SlR W.heap.size W RA u.row ∧ u.rel.size ≤ 9223372036854775807 ∧ u.row.length ≤ 9223372036854775807 ∧ BigW u.row := by
  obtain ⟨ys, n', _, _, hlen, hyl, hf⟩ := DataW.trod_struct Try.underlying56 h
  rw [cells_TUpd] at hlen
  match cs, hlen with
  | [c0, c1, c2], _ =>
    match ys, hyl with
    | [y0, y1, y2], _ =>
      have h0 := hf 0 _ rfl
      have h1 := hf 1 _ rfl
      have h2 := hf 2 _ rfl
      obtain ⟨a0, e0, _⟩ := DataW.trod_bool (by kernel_rfl) h0
      obtain ⟨a1, e1, _, hz⟩ := DataW.trod_string (by kernel_rfl) h1
      obtain ⟨RA, RC, y, e2, hs, hk, hk2, hbr⟩ := open_row h2
      have q0 : List.take (Try.prog.cellsOf 4) (List.drop 0 [c0, c1, c2]) = [.bool a0] := e0
      have q1 : List.take (Try.prog.cellsOf 9) (List.drop 1 [c0, c1, c2]) = [.string a1] := e1
      have q2 : List.take (Try.prog.cellsOf 54) (List.drop 2 [c0, c1, c2]) = [.slice RA y.length RC] := e2
      rw [show Try.prog.cellsOf 4 = 1 by kernel_rfl] at q0
      rw [show Try.prog.cellsOf 9 = 1 by kernel_rfl] at q1
      rw [cells_TRow] at q2
      simp at q0 q1 q2
      subst q0 q1 q2
      exact ⟨⟨a0, a1, y⟩, RA, RC, rfl, hs, hz, Nat.le_trans hk hk2, hbr⟩

/-- A list of updates that reads. -/
theorem open_upds {cs : List Value} (h : DataW.trod enc Try.prog W 0 (fun _ => true) true n 49 cs = some x) :
    ∃ A C X, cs = [.slice A X.length C] ∧ UpdsM W.heap.size W A X ∧ (∀ u ∈ X, u.rel.size ≤ 9223372036854775807 ∧ u.row.length ≤ 9223372036854775807 ∧ BigW u.row) ∧ X.length ≤ C ∧ C ≤ 9223372036854775807 := by
  rcases open_slice Try.underlying49 h with ⟨hcs, _⟩ | ⟨a, len, cap, m, n', D, Pl, hcs, _, hl, hm, hmm, hx, hel⟩
  · exact ⟨none, 0, [], hcs, fun h => absurd rfl h, fun p hp => (by cases hp), Nat.le_refl _, by simp⟩
  · rw [cells_TUpd] at hel
    simp only [if_true] at hmm
    subst hmm
    have hm' : m ≤ 9223372036854775807 := hm
    have hch : ∀ i, i < len → ∃ t : Upd, ∃ RA RC, W.cell? (a.add (i * 3)) = some (.bool t.del) ∧ W.cell? (a.add (i * 3 + 1)) = some (.string t.rel) ∧ W.cell? (a.add (i * 3 + 2)) = some (.slice RA t.row.length RC) ∧ SlR W.heap.size W RA t.row ∧ t.rel.size ≤ 9223372036854775807 ∧ t.row.length ≤ 9223372036854775807 ∧ BigW t.row := by
      intro i hi
      obtain ⟨cs', h1, h2⟩ := hel i (by omega)
      obtain ⟨u, RA, RC, rfl, hs, g⟩ := open_upd h2
      obtain ⟨_, _, h3⟩ := World.cells?_some h1
      refine ⟨u, RA, RC, ?_, ?_, ?_, hs, g⟩
      · have := h3 0 (by omega)
        rw [Go.Deep.add_add] at this
        exact this
      · have := h3 1 (by omega)
        rw [Go.Deep.add_add] at this
        exact this
      · have := h3 2 (by omega)
        rw [Go.Deep.add_add] at this
        exact this
    haveI : Inhabited Upd := ⟨⟨false, ByteArray.empty, []⟩⟩
    obtain ⟨f, hf⟩ := choose_lt hch
    refine ⟨some a, m, (List.range len).map f, by simpa using hcs, fun hne => ?_, ?_, by simpa using hl, hm'⟩
    · have hpos : 0 < len := by
        rcases Nat.eq_zero_or_pos len with h0 | h0
        · subst h0; exact absurd rfl hne
        · exact h0
      obtain ⟨_, _, h0, _⟩ := hf 0 hpos
      rw [show a.add (0 * 3) = a by unfold Addr.add; simp] at h0
      obtain ⟨ha, hb⟩ := cell_addr h0
      refine ⟨a.block, a.off, by rw [← ha], hb, fun i hi => ?_⟩
      have hi' : i < len := by simpa using hi
      obtain ⟨RA, RC, g0, g1, g2, g3, _⟩ := hf i hi'
      rw [ha, add_addr] at g0 g1 g2
      rw [← Nat.add_assoc] at g1 g2
      refine ⟨RA, RC, ?_, ?_, ?_, ?_⟩
      · simpa using g0
      · simpa using g1
      · simpa using g2
      · simpa using g3
    · intro p hp
      rw [List.mem_map] at hp
      obtain ⟨i, hi, rfl⟩ := hp
      obtain ⟨_, _, _, _, _, _, g⟩ := hf i (by simpa using hi)
      exact g

set_option maxRecDepth 100000 in
/-- One act that reads. -/
theorem open_act {cs : List Value} (h : DataW.trod enc Try.prog W 0 (fun _ => true) true n 51 cs = some x) :
    ∃ (a : ActR) (UA : Option Addr) (UC : Nat), cs = [.int .u8 (a.kind : Nat), .int .i64 a.num, .slice UA a.us.length UC] ∧ UpdsM W.heap.size W UA a.us ∧ a.us.length ≤ UC ∧ ActOk a := by
  obtain ⟨ys, n', _, _, hlen, hyl, hf⟩ := DataW.trod_struct Try.underlying51 h
  rw [cells_TAct16] at hlen
  match cs, hlen with
  | [c0, c1, c2], _ =>
    match ys, hyl with
    | [y0, y1, y2], _ =>
      have h0 := hf 0 _ rfl
      have h1 := hf 1 _ rfl
      have h2 := hf 2 _ rfl
      obtain ⟨a0, e0, _, w0⟩ := DataW.trod_int (k := .u8) (by kernel_rfl) h0
      obtain ⟨a1, e1, _, w1⟩ := DataW.trod_int (k := .i64) (by kernel_rfl) h1
      obtain ⟨UA, UC, us, e2, hs, ho, hc, hc2⟩ := open_upds h2
      have b0 := bounds_u8 w0
      obtain ⟨a0, rfl⟩ := Int.eq_ofNat_of_zero_le b0.1
      have q0 : List.take (Try.prog.cellsOf 5) (List.drop 0 [c0, c1, c2]) = [.int .u8 a0] := e0
      have q1 : List.take (Try.prog.cellsOf 3) (List.drop 1 [c0, c1, c2]) = [.int .i64 a1] := e1
      have q2 : List.take (Try.prog.cellsOf 49) (List.drop 2 [c0, c1, c2]) = [.slice UA us.length UC] := e2
      rw [show Try.prog.cellsOf 5 = 1 by kernel_rfl] at q0
      rw [show Try.prog.cellsOf 3 = 1 by kernel_rfl] at q1
      rw [show Try.prog.cellsOf 49 = 1 by kernel_rfl] at q2
      simp at q0 q1 q2
      subst q0 q1 q2
      exact ⟨⟨a0, a1, us⟩, UA, UC, rfl, hs, hc, by show a0 ≤ 255; omega, w1, Nat.le_trans hc hc2, ho⟩

/-- A list of acts that reads. -/
theorem open_act16s {cs : List Value} (h : DataW.trod enc Try.prog W 0 (fun _ => true) true n 48 cs = some x) :
    ∃ A C X, cs = [.slice A X.length C] ∧ ActsM W.heap.size W A X ∧ (∀ a ∈ X, ActOk a) ∧ X.length ≤ C ∧ C ≤ 9223372036854775807 := by
  rcases open_slice Try.underlying48 h with ⟨hcs, _⟩ | ⟨a, len, cap, m, n', D, Pl, hcs, _, hl, hm, hmm, hx, hel⟩
  · exact ⟨none, 0, [], hcs, fun h => absurd rfl h, fun p hp => (by cases hp), Nat.le_refl _, by simp⟩
  · rw [cells_TAct16] at hel
    simp only [if_true] at hmm
    subst hmm
    have hm' : m ≤ 9223372036854775807 := hm
    have hch : ∀ i, i < len → ∃ t : ActR, ∃ UA UC, W.cell? (a.add (i * 3)) = some (.int .u8 (t.kind : Nat)) ∧ W.cell? (a.add (i * 3 + 1)) = some (.int .i64 t.num) ∧ W.cell? (a.add (i * 3 + 2)) = some (.slice UA t.us.length UC) ∧ t.us.length ≤ UC ∧ UpdsM W.heap.size W UA t.us ∧ ActOk t := by
      intro i hi
      obtain ⟨cs', h1, h2⟩ := hel i (by omega)
      obtain ⟨u, UA, UC, rfl, hs, g, go⟩ := open_act h2
      obtain ⟨_, _, h3⟩ := World.cells?_some h1
      refine ⟨u, UA, UC, ?_, ?_, ?_, g, hs, go⟩
      · have := h3 0 (by omega)
        rw [Go.Deep.add_add] at this
        exact this
      · have := h3 1 (by omega)
        rw [Go.Deep.add_add] at this
        exact this
      · have := h3 2 (by omega)
        rw [Go.Deep.add_add] at this
        exact this
    haveI : Inhabited ActR := ⟨⟨0, 0, []⟩⟩
    obtain ⟨f, hf⟩ := choose_lt hch
    refine ⟨some a, m, (List.range len).map f, by simpa using hcs, fun hne => ?_, ?_, by simpa using hl, hm'⟩
    · have hpos : 0 < len := by
        rcases Nat.eq_zero_or_pos len with h0 | h0
        · subst h0; exact absurd rfl hne
        · exact h0
      obtain ⟨_, _, h0, _⟩ := hf 0 hpos
      rw [show a.add (0 * 3) = a by unfold Addr.add; simp] at h0
      obtain ⟨ha, hb⟩ := cell_addr h0
      refine ⟨a.block, a.off, by rw [← ha], hb, fun i hi => ?_⟩
      have hi' : i < len := by simpa using hi
      obtain ⟨UA, UC, g0, g1, g2, g3, g4, _⟩ := hf i hi'
      rw [ha, add_addr] at g0 g1 g2
      rw [← Nat.add_assoc] at g1 g2
      refine ⟨UA, UC, ?_, ?_, ?_, ?_, ?_⟩
      · simpa using g0
      · simpa using g1
      · simpa using g2
      · simpa using g3
      · simpa using g4
    · intro p hp
      rw [List.mem_map] at hp
      obtain ⟨i, hi, rfl⟩ := hp
      obtain ⟨_, _, _, _, _, _, _, g⟩ := hf i (by simpa using hi)
      exact g
end
end Go.Proofs.Ytgaffbdcpkbdhaa
end

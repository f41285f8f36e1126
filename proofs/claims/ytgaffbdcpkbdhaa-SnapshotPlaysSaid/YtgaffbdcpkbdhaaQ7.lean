/- Parts of the proof, merged: Z21, Z32, Z33, Z34, Z35, E9, Z36. -/
import Derived.Test.YtgaffbdcpkbdhaaQ6
import Derived.Test.YtgaffbdcpkbdhaaQ3
import Derived.RegionTactic

section
/- Walk: the law SnapshotFills (chapter 16). -/
namespace Go.Proofs.Ytgaffbdcpkbdhaa
open Go.RowKit Go.Sort Go.ChangeMaps Go.WideShapes

def nv (a : Int) (k : Nat) : List Ver := (List.range (k + 1)).map fun i => ⟨a + (i : Nat), cont0, 0⟩
theorem putV_last (v : Ver) : ∀ V : List Ver, (∀ x ∈ V, x.num < v.num) → putV V v = V ++ [v]
  | [], _ => rfl
  | x :: t, h => by
    have h1 := h x (List.mem_cons_self ..)
    unfold putV
    rw [if_neg (by omega), if_neg (by omega), putV_last v t fun y hy => h y (List.mem_cons_of_mem _ hy)]
    rfl
theorem nv_len (a : Int) (k : Nat) : (nv a k).length = k + 1 := by simp [nv]
theorem nv_lt (a : Int) (k : Nat) : ∀ x ∈ nv a k, x.num < a + ((k + 1 : Nat) : Int) := fun x hx => by
  obtain ⟨i, hi, rfl⟩ := List.mem_map.1 hx
  have := List.mem_range.1 hi
  show a + (i : Int) < _
  omega
theorem nv_snoc (a : Int) (k : Nat) : nv a (k + 1) = nv a k ++ [⟨a + ((k + 1 : Nat) : Int), cont0, 0⟩] := by
  unfold nv
  rw [List.range_succ (n := k + 1), List.map_append]
  rfl
theorem nv_put (a : Int) (k : Nat) : putV (nv a k) ⟨a + (k : Nat) + 1, cont0, 0⟩ = nv a (k + 1) := by
  have e : a + (k : Int) + 1 = a + ((k + 1 : Nat) : Int) := by omega
  rw [nv_snoc, e]
  exact putV_last _ _ (nv_lt a k)
theorem nv_mem (a : Int) (k : Nat) : (⟨a + (k : Nat), cont0, 0⟩ : Ver) ∈ nv a k := List.mem_map.2 ⟨k, List.mem_range.2 (by omega), rfl⟩
theorem nv_last : ∀ (a : Int) (k : Nat), nv a k = (List.range k).map (fun i => (⟨a + (i : Nat), cont0, 0⟩ : Ver)) ++ [⟨a + (k : Nat), cont0, 0⟩] := fun a k => by
  unfold nv
  rw [List.range_succ, List.map_append]
  rfl
theorem nv_gone (a : Int) (k : Nat) : ((nv a k).filter (goneB (a + (k : Nat)))).length = k := by
  rw [nv_last, List.filter_append, List.length_append]
  rw [List.filter_eq_self.2 fun x hx => by
    obtain ⟨i, hi, rfl⟩ := List.mem_map.1 hx
    have := List.mem_range.1 hi
    unfold goneB
    rw [Bool.and_eq_true]
    exact ⟨decide_eq_true rfl, decide_eq_true (by show a + (i : Int) ≠ _; omega)⟩]
  simp [goneB]
theorem nv_rest (a : Int) (k : Nat) : ((nv a k).filter fun x => !goneB (a + (k : Nat)) x) = [⟨a + (k : Nat), cont0, 0⟩] := by
  rw [nv_last, List.filter_append]
  rw [List.filter_eq_nil_iff.2 fun x hx => by
    obtain ⟨i, hi, rfl⟩ := List.mem_map.1 hx
    have := List.mem_range.1 hi
    have : goneB (a + (k : Nat)) ⟨a + (i : Nat), cont0, 0⟩ = true := by
      unfold goneB
      rw [Bool.and_eq_true]
      exact ⟨decide_eq_true rfl, decide_eq_true (by show a + (i : Int) ≠ _; omega)⟩
    rw [this]
    decide]
  simp [goneB]
theorem schs_nil (w : World) : SchsM w.heap.size w none [] := fun h => absurd rfl h
theorem upds_nil (w : World) : UpdsM w.heap.size w none [] := fun h => absurd rfl h
/-- A box of the call's own behind a call. -/
theorem StM.newBox {P : Nat → Prop} {S : Sch} {w : World} {m : Value} {V : List Ver} (h : StM P S w m V) (l : Int) :
    StM P S (w.alloc (.cells #[m, .int .i64 l] 31)) m V ∧ Row (w.alloc (.cells #[m, .int .i64 l] 31)) w.heap.size 31 [m, .int .i64 l] :=
  ⟨h.up ((Ext.refl w).alloc _).below, Row.new w 31 _⟩

set_option maxHeartbeats 16000000 in
set_option maxRecDepth 100000 in
theorem l16Fills_any (a : Int) (n : Nat) (w : World) (ha : -9223372036854775808 ≤ a ∧ a ≤ 9223372036854775807) (hn : n ≤ 255) : Calls Try.prog 3 #[.int .i64 a, .int .u8 (n : Nat)] w fun e w' => e = .returned (.bool true) ∧ Below w.heap.size w w' := by
  have HA := Lib.hid (l16awake_any w)
  have hwf : (Lit.int .i64 a).wf = true := by simp [Lit.wf, IntKind.min, IntKind.max, IntKind.signed, IntKind.bits]; omega
  go_enter Try.func3, Try.ntmps3
  go_wp2_with fail
  refine HA.out.mono ?_
  rintro e w1 ⟨rfl, hb1⟩
  have HN := Lib.hid (ctNew_any (fun _ => True) none 0 [] w1 (fun _ _ => trivial) (schs_nil w1) (fun p hp => by cases hp) (by decide))
  have HB1 := Lib.hid hb1
  clear hb1 HA
  go_wp2_with fail
  refine HN.out.mono ?_
  rintro e w2 ⟨h2, -, hb2⟩
  obtain ⟨m2, rfl, hdb⟩ := h2 errS_nil
  obtain ⟨bd, rfl⟩ := hdb.form
  obtain ⟨W2, hW2⟩ : ∃ W2, W2 = w2.alloc (.cells #[.map (some bd)] 25) := ⟨_, rfl⟩
  have hx2 : Ext w2 W2 := by rw [hW2]; exact (Ext.refl w2).alloc _
  have HB2 := Lib.hid (Below.then (Below.then HB1.out hb2 HB1.out.size) hx2.below (Nat.le_trans HB1.out.size hb2.size))
  have hr2 : Row W2 w2.heap.size 25 [.map (some bd)] := by rw [hW2]; exact Row.new w2 25 _
  have k0 : W2.cell? ⟨w2.heap.size, 0, none⟩ = some (.map (some bd)) := hr2.cell 0
  have k1 := hr2.lt
  have HDB := Lib.hid (hdb.up hx2.below)
  have HW2 := Lib.hid hW2
  clear h2 hb2 hdb hx2 hr2 hW2 HN HB1
  go_upto_region 4 with (fail)
  rw [← HW2.out]
  clear HW2
  by_cases hneg : a < 0
  · have q1 : ¬ (0 : Int) ≤ a := by omega
    have q0 : decide ((0 : Int) ≤ a) = false := decide_eq_false q1
    go_wp2_with fail
    refine (snNew_neg (.map (some bd)) a hneg W2).mono ?_
    rintro e w3 ⟨rfl, hx3⟩
    have HB3 := Lib.hid (Below.then HB2.out hx3.below HB2.out.size)
    clear hx3 k0 k1
    go_wp2_with fail
    go_ret
    exact ⟨rfl, Below.then HB3.out ((Ext.refl w3).alloc _).below HB3.out.size⟩
  go_wp2_with fail
  have hap : 0 ≤ a := by omega
  refine (snNew_ok (P := fun _ => True) (S := []) (m := .map (some bd)) (F := cont0) a hap hwf W2 HDB.out (fun _ _ => trivial)).mono ?_
  rintro e w3 ⟨m3, rfl, hst3, hb3⟩
  obtain ⟨b3, rfl⟩ := hst3.form
  obtain ⟨W4, hW4⟩ : ∃ W4, W4 = w3.alloc (.cells #[.map (some b3), .int .i64 a] 31) := ⟨_, rfl⟩
  obtain ⟨g, hg⟩ : ∃ g, g = w3.heap.size := ⟨_, rfl⟩
  have hx4 : Ext w3 W4 := by rw [hW4]; exact (Ext.refl w3).alloc _
  have HR4 : Hid (Row W4 g 31 [.map (some b3), .int .i64 a]) := by show Row _ _ _ _; rw [hW4, hg]; exact Row.new w3 31 _
  have HB4 := Lib.hid (Below.then (Below.then HB2.out hb3 HB2.out.size) hx4.below (Nat.le_trans HB2.out.size hb3.size))
  have HS4 : Hid (StM (fun b => b ≠ g) [] W4 (.map (some b3)) [⟨a, cont0, 0⟩]) := (hst3.weak (P' := fun b => b ≠ g) fun b hb _ => by show b ≠ g; omega).up hx4.below
  have hgw : w.heap.size ≤ g := by rw [hg]; exact Nat.le_trans HB2.out.size hb3.size
  have HW4 := Lib.hid hW4
  have HG := Lib.hid hg
  clear hst3 hb3 hx4 hW4 hg k0 k1 HDB HB2
  have q1 : (0 : Int) ≤ a := hap
  by_cases hbig : 1099511627776 < a
  · go_wp2_with fail
    go_ret
    rw [← HW4.out]
    exact ⟨rfl, HB4.out⟩
  have q2 : a ≤ 1099511627776 := by omega
  obtain ⟨m, hm⟩ : ∃ m : Nat, (n : Int) % 80 = (m : Int) := ⟨n % 80, by omega⟩
  have hm80 : m < 80 := by omega
  have HM := Lib.hid hm
  clear hm
  go_wp2_with fail
  rw [← HW4.out, ← HG.out]
  clear HW4 HG
  go_loopw [9, 10] (fun mv c wx => ∃ (k j b : Nat), j ≤ m ∧ k ≤ 63 ∧ c = .int .i64 j ∧ mv = .int .i64 k ∧ Row wx g 31 [.map (some b), .int .i64 (a + (k : Nat))] ∧ StM (fun b => b ≠ g) [] wx (.map (some b)) (nv a k) ∧ Below w.heap.size w wx) (fun _ c _ => m - (intOf c).toNat)
  case atStart =>
    refine ⟨0, 0, b3, Nat.zero_le _, by decide, rfl, rfl, ?_, ?_, HB4.out⟩
    · have h := HR4.out
      rwa [show a + ((0 : Nat) : Int) = a by omega]
    · have h := HS4.out
      rwa [show nv a 0 = [⟨a, cont0, 0⟩] by simp [nv]]
  case round =>
    obtain ⟨k, j, b, hj, hk, rfl, rfl, hr, hst, hbw⟩ := hrel
    have g0 : wr.cell? ⟨g, 0, none⟩ = some (.map (some b)) := hr.cell 0
    have g1 : wr.cell? ⟨g, 1, none⟩ = some (.int .i64 (a + (k : Nat))) := hr.cell 1
    have g2 := hr.lt
    have HR := Lib.hid hr
    have HS := Lib.hid hst
    have HB := Lib.hid hbw
    clear hr hst hbw HR4 HS4 HB4
    by_cases hjl : j < m
    rotate_left
    · obtain rfl : j = m := by omega
      have r1 : ¬ (j : Int) < (n : Int) % 80 := by rw [HM.out]; omega
      obtain ⟨c, hc⟩ : ∃ c : Int, c = a + (k : Nat) := ⟨_, rfl⟩
      have r4 : IntKind.i64.wrap (a + (k : Nat)) = c := by rw [IntWalk.i64_in _ (by omega), hc]
      have r5 : IntKind.i64.wrap (c + 1) = c + 1 := by rw [IntWalk.i64_in _ (by omega)]
      have hgn : ((nv a k).filter (goneB c)).length = k := by rw [hc]; exact nv_gone a k
      have hgr : ((nv a k).filter fun x => !goneB c x) = [⟨c, cont0, 0⟩] := by rw [hc]; exact nv_rest a k
      rw [← hc] at g1 HR
      have hcb : 0 ≤ c ∧ c ≤ 1000000000000000000 := by omega
      have HCO := Lib.hid (snCollect_any (P := fun b => b ≠ g) (l := c) HS.out (fun b hb => by show b ≠ g; omega) (by rw [nv_len]; omega))
      have HC := Lib.hid hc
      have HGN := Lib.hid hgn
      have HGR := Lib.hid hgr
      have HCB := Lib.hid hcb
      clear hc hgn hgr hcb
      go_wp2_with fail
      refine HCO.out.mono ?_
      rintro e w12 ⟨m12, AG, CG, rfl, hst12, -, hb12⟩
      rw [HGN.out]
      rw [HGR.out] at hst12
      obtain ⟨b12, rfl⟩ := hst12.form
      obtain ⟨W13, hW13⟩ : ∃ W, W = w12.alloc (.cells #[.map (some b12), .int .i64 c] 31) := ⟨_, rfl⟩
      have hx13 : Ext w12 W13 := by rw [hW13]; exact (Ext.refl w12).alloc _
      have hr13 : Row W13 w12.heap.size 31 [.map (some b12), .int .i64 c] := by rw [hW13]; exact Row.new w12 31 _
      have HB13 := Lib.hid (Below.then HB.out (Below.then hb12 hx13.below hb12.size) HB.out.size)
      have HCM := Lib.hid (snCommit_any (P := fun b => b ≠ g) (l := c) (hst12.up hx13.below) (fun b hb => by have h := hb12.size; have h2 := hx13.size; show b ≠ g; omega) (List.mem_singleton.2 rfl) rfl (show (1 : Nat) < 64 by decide) HCB.out (by decide) none 0 [] (upds_nil W13) (fun u hu => by cases hu) (by decide))
      have j0 : W13.cell? ⟨w12.heap.size, 0, none⟩ = some (.map (some b12)) := hr13.cell 0
      have j1 : W13.cell? ⟨w12.heap.size, 1, none⟩ = some (.int .i64 c) := hr13.cell 1
      have j2 := hr13.lt
      have HW13 := Lib.hid hW13
      clear hb12 hst12 hx13 hr13 hW13 HCO g0 g1 g2 HR HS HB
      go_upto_region 20 with (fail)
      rw [← HW13.out]
      clear HW13
      go_wp2_with fail
      refine HCM.out.mono ?_
      rintro e w14 ⟨h14, -, hb14⟩
      obtain ⟨m14, rfl, hst14⟩ := h14 rfl
      obtain ⟨b14, rfl⟩ := hst14.form
      obtain ⟨W15, hW15⟩ : ∃ W, W = (w14.alloc (.cells #[.map (some b14), .int .i64 (c + 1)] 31)).alloc (.cells #[.map none, .int .i64 0] 31) := ⟨_, rfl⟩
      have hx15 : Ext w14 W15 := by rw [hW15]; exact ((Ext.refl w14).alloc _).alloc _
      have HR15 : Hid (Row W15 (w14.heap.size + 1) 31 [.map none, .int .i64 0]) := by
        have h := Row.new (w14.alloc (.cells #[.map (some b14), .int .i64 (c + 1)] 31)) 31 [.map none, .int .i64 0]
        rw [World.size_alloc] at h
        show Row _ _ _ _
        rw [hW15]; exact h
      have HB15 := Lib.hid (Below.then HB13.out (Below.then hb14 hx15.below hb14.size) HB13.out.size)
      have HCN := Lib.hid (snCommit_nil W15 none 0 0)
      obtain ⟨z, hz⟩ : ∃ z, z = w14.heap.size + 1 := ⟨_, rfl⟩
      rw [← hz] at HR15
      have HW15 := Lib.hid hW15
      have HZ := Lib.hid hz
      clear h14 hb14 hst14 hx15 hW15 HCM j0 j1 j2 HB13 hz
      go_upto_region 22 with (fail)

      rw [← HW15.out, ← HZ.out]
      clear HW15 HZ
      have j0 : W15.cell? ⟨z, 0, none⟩ = some (.map none) := HR15.out.cell 0
      have j1 : W15.cell? ⟨z, 1, none⟩ = some (.int .i64 0) := HR15.out.cell 1
      have j2 := HR15.out.lt
      go_wp2_with fail
      clear j0 j1 j2
      refine HCN.out.mono ?_
      rintro e w16 ⟨rfl, hx16⟩
      obtain ⟨W17, hW17⟩ : ∃ W, W = w16.alloc (.cells #[.map none, .int .i64 0] 31) := ⟨_, rfl⟩
      have hx17 : Ext W15 W17 := by rw [hW17]; exact hx16.trans ((Ext.refl w16).alloc _)
      have HR17 := Lib.hid (HR15.out.up hx17.below)
      have HB17 := Lib.hid (Below.then HB15.out hx17.below HB15.out.size)
      have HAN := Lib.hid (snAt_nil 0 0 (by decide) W17)
      have HW17 := Lib.hid hW17
      clear hW17 hx16 hx17 HR15 HB15 HCN
      go_upto_region 23 with (fail)
      rw [← HW17.out]
      clear HW17
      have j0 : W17.cell? ⟨z, 0, none⟩ = some (.map none) := HR17.out.cell 0
      have j1 : W17.cell? ⟨z, 1, none⟩ = some (.int .i64 0) := HR17.out.cell 1
      have j2 := HR17.out.lt
      go_wp2_with fail
      clear j0 j1 j2
      refine HAN.out.mono ?_
      rintro e w18 ⟨rfl, hx18⟩
      obtain ⟨W19, hW19⟩ : ∃ W, W = w18.alloc (.cells #[.map none] 25) := ⟨_, rfl⟩
      have hx19 : Ext W17 W19 := by rw [hW19]; exact hx18.trans ((Ext.refl w18).alloc _)
      have HR19 := Lib.hid (HR17.out.up hx19.below)
      have HB19 := Lib.hid (Below.then HB17.out hx19.below HB17.out.size)
      have HCN := Lib.hid (snCollect_nil W19)
      have HW19 := Lib.hid hW19
      clear hW19 hx18 hx19 HR17 HB17 HAN
      go_upto_region 24 with (fail)
      rw [← HW19.out]
      clear HW19
      have j0 : W19.cell? ⟨z, 0, none⟩ = some (.map none) := HR19.out.cell 0
      have j1 : W19.cell? ⟨z, 1, none⟩ = some (.int .i64 0) := HR19.out.cell 1
      have j2 := HR19.out.lt
      go_wp2_with fail
      clear j0 j1 j2
      refine HCN.out.mono ?_
      rintro e w20 ⟨rfl, hb20⟩
      obtain ⟨W21, hW21⟩ : ∃ W, W = w20.alloc (.cells #[.map none, .int .i64 0] 31) := ⟨_, rfl⟩
      have hx21 : Ext w20 W21 := by rw [hW21]; exact (Ext.refl w20).alloc _
      have hr21 : Row W21 w20.heap.size 31 [.map none, .int .i64 0] := by rw [hW21]; exact Row.new w20 31 _
      have hb21 := Below.then hb20 hx21.below hb20.size
      have HR21 := Lib.hid (HR19.out.up hb21)
      have HB21 := Lib.hid (Below.then HB19.out hb21 HB19.out.size)
      have HVN := Lib.hid (Ytgaffbdcpkbdhaa.versions_nil 0 W21)
      have j0 : W21.cell? ⟨w20.heap.size, 0, none⟩ = some (.map none) := hr21.cell 0
      have j1 : W21.cell? ⟨w20.heap.size, 1, none⟩ = some (.int .i64 0) := hr21.cell 1
      have j2 := hr21.lt
      have HW21 := Lib.hid hW21
      clear hW21 hb20 hx21 hr21 hb21 HR19 HB19 HCN
      go_upto_region 25 with (fail)
      rw [← HW21.out]
      clear HW21
      go_wp2_with fail
      clear j0 j1 j2
      refine HVN.out.mono ?_
      rintro e w22 ⟨rfl, hb22⟩
      have HR22 := HR21.out.up hb22
      have HB22 := Lib.hid (Below.then HB21.out hb22 HB21.out.size)
      have HLA := Lib.hid (snLatest_any (.map none) 0 w22)
      have j0 : w22.cell? ⟨z, 0, none⟩ = some (.map none) := HR22.cell 0
      have j1 : w22.cell? ⟨z, 1, none⟩ = some (.int .i64 0) := HR22.cell 1
      have j2 := HR22.lt
      clear hb22 HR22 HR21 HB21 HVN
      go_wp2_with fail
      clear j0 j1 j2
      refine HLA.out.mono ?_
      rintro e w23 ⟨rfl, hx23⟩
      have HB23 := Lib.hid (Below.then HB22.out hx23.below HB22.out.size)
      clear hx23 HB22 HLA
      go_wp2_with fail
      go_ret
      exact ⟨rfl, HB23.out⟩
    have r1 : (j : Int) < (n : Int) % 80 := by rw [HM.out]; omega
    have r2 : IntKind.i64.wrap ((j : Int) + 1) = ((j + 1 : Nat) : Int) := by rw [IntWalk.i64_in _ (by omega)]; omega
    by_cases hk63 : k = 63
    · have hkc : ((k : Int) == 63) = true := by rw [hk63]; rfl
      have HCM := Lib.hid (snCommit_full (l := a + (k : Nat)) HS.out (by rw [nv_len]; omega) (by rw [nv_len]; omega) none 0 0)
      have HK63 := Lib.hid hk63
      clear hk63
      go_wp2_with fail
      refine HCM.out.mono ?_
      rintro e w5 ⟨rfl, hx5⟩
      obtain ⟨W6, hW6⟩ : ∃ W6, W6 = w5.alloc (.cells #[.map (some b), .int .i64 (a + (k : Nat))] 31) := ⟨_, rfl⟩
      have hx6 : Ext w5 W6 := by rw [hW6]; exact (Ext.refl w5).alloc _
      have hr6 : Row W6 w5.heap.size 31 [.map (some b), .int .i64 (a + (k : Nat))] := by rw [hW6]; exact Row.new w5 31 _
      have hx := hx5.trans hx6
      have HR6 := Lib.hid (HR.out.up hx.below)
      have HS6 := Lib.hid (HS.out.up hx.below)
      have HB6 := Lib.hid (Below.then HB.out hx.below HB.out.size)
      have j0 : W6.cell? ⟨w5.heap.size, 0, none⟩ = some (.map (some b)) := hr6.cell 0
      have j1 : W6.cell? ⟨w5.heap.size, 1, none⟩ = some (.int .i64 (a + (k : Nat))) := hr6.cell 1
      have j2 := hr6.lt
      have HV := Lib.hid (snVersions_any (l := a + (k : Nat)) HS6.out (by rw [nv_len]; omega))
      have HW6 := Lib.hid hW6
      clear hW6 hx5 hx6 hr6 hx HCM g0 g1 g2 HB
      go_upto_region 13 with (fail)
      rw [← HW6.out]
      clear HW6
      go_wp2_with fail
      refine HV.out.mono ?_
      rintro e w7 ⟨v, rfl, hrow, hb7⟩
      rw [nv_len] at hrow
      obtain ⟨VA, VC, rfl, -, -⟩ := own_cut hrow (by decide)
      have HR7 := Lib.hid (HR6.out.up hb7)
      have HS7 := Lib.hid (HS6.out.up hb7)
      have HB7 := Lib.hid (Below.then HB6.out hb7 HB6.out.size)
      have hk1 : ((((k + 1 : Nat) : Int)) != 64) = false := by rw [HK63.out]; rfl
      clear hrow hb7 HV HR6 HS6 HB6 j0 j1 j2
      go_wp2_with fail
      go_roundw
      case rel => exact ⟨k, j + 1, b, by omega, hk, by go_num, rfl, HR7.out, HS7.out, HB7.out⟩
      case measure => simp [intOf]; omega
    have hkc : ((k : Int) == 63) = false := by simpa using (show (k : Int) ≠ 63 by omega)
    have hk62 : k ≤ 62 := by omega
    have r3 : IntKind.i64.wrap ((k : Int) + 1) = ((k + 1 : Nat) : Int) := by rw [IntWalk.i64_in _ (by omega)]; omega
    obtain ⟨c, hc⟩ : ∃ c : Int, c = a + ((k + 1 : Nat) : Int) := ⟨_, rfl⟩
    have r4 : IntKind.i64.wrap (a + ((k + 1 : Nat) : Int)) = c := by rw [IntWalk.i64_in _ (by omega), hc]
    have r5 : IntKind.i64.wrap (a + ((k : Int) + 1)) = c := by rw [IntWalk.i64_in _ (by omega), hc]; omega
    have HC := Lib.hid hc
    clear hc
    have HCM := Lib.hid (snCommit_any (P := fun b => b ≠ g) (l := a + (k : Nat)) HS.out (fun b hb => by show b ≠ g; omega) (nv_mem a k) rfl (by rw [nv_len]; omega) (by omega) (by decide) none 0 [] (upds_nil wr) (fun u hu => by cases hu) (by decide))
    clear hk63
    go_wp2_with fail
    refine HCM.out.mono ?_
    rintro e w5 ⟨h5, -, hb5⟩
    obtain ⟨m5, rfl, hst5⟩ := h5 rfl
    have e5 : putV (nv a k) ⟨a + (k : Nat) + 1, (applyF [] cont0 0 []).2.1, 0⟩ = nv a (k + 1) := nv_put a k
    have e6 : a + (k : Int) + 1 = c := by rw [HC.out]; omega
    rw [e5] at hst5
    rw [e6]
    obtain ⟨b5, rfl⟩ := hst5.form
    obtain ⟨W6, hW6⟩ : ∃ W6, W6 = w5.alloc (.cells #[.map (some b5), .int .i64 c] 31) := ⟨_, rfl⟩
    have hx6 : Ext w5 W6 := by rw [hW6]; exact (Ext.refl w5).alloc _
    have hr6 : Row W6 w5.heap.size 31 [.map (some b5), .int .i64 c] := by rw [hW6]; exact Row.new w5 31 _
    have hx := Below.then hb5 hx6.below hb5.size
    have q := HR.out.up hx
    have HR6 := Lib.hid q
    have HS6 := Lib.hid (hst5.up hx6.below)
    have HB6 := Lib.hid (Below.then HB.out hx HB.out.size)
    have j0 : W6.cell? ⟨w5.heap.size, 0, none⟩ = some (.map (some b5)) := hr6.cell 0
    have j1 : W6.cell? ⟨w5.heap.size, 1, none⟩ = some (.int .i64 c) := hr6.cell 1
    have j2 := hr6.lt
    have j3 : W6.cell? ⟨g, 0, none⟩ = some (.map (some b)) := q.cell 0
    have j4 : W6.cell? ⟨g, 1, none⟩ = some (.int .i64 (a + (k : Nat))) := q.cell 1
    have j5 := q.frozen 0
    have j6 := q.frozen 1
    have j7 := q.lt
    have hgne : g < w5.heap.size := by have := hb5.size; omega
    have HW6 := Lib.hid hW6
    clear hW6 hb5 hx6 hr6 hx HCM g0 g1 g2 HB h5 e5 e6 q hst5
    go_upto_region 12 with (fail)
    rw [← HW6.out]
    clear HW6
    go_wp2_with fail
    obtain ⟨W7, hW7⟩ : ∃ W, W = (W6.setCell ⟨g, 0, none⟩ (.map (some b5))).setCell ⟨g, 1, none⟩ (.int .i64 c) := ⟨_, rfl⟩
    rw [← hW7]
    have HR7 : Hid (Row W7 g 31 [.map (some b5), .int .i64 c]) := by show Row _ _ _ _; rw [hW7]; exact HR6.out.set2 _ _
    have HS7 : Hid (StM (fun b => b ≠ g) [] W7 (.map (some b5)) (nv a (k + 1))) := by show StM _ _ _ _ _; rw [hW7]; exact StM.setBox HS6.out _ _
    have HB7 : Hid (Below w.heap.size w W7) := by show Below _ _ _; rw [hW7]; exact (HB6.out.setCell hgw _).setCell hgw _
    clear hW7
    go_roundw
    case rel => exact ⟨k + 1, j + 1, b5, by omega, by omega, by go_num, rfl, by have h := HR7.out; rwa [HC.out] at h, HS7.out, HB7.out⟩
    case measure => simp [intOf]; omega

end Go.Proofs.Ytgaffbdcpkbdhaa
end

section
/- The reference's store in memory; plain facts. -/
namespace Go.Proofs.Ytgaffbdcpkbdhaa
open Go.RowKit Go.Sort Go.ChangeMaps Go.WideShapes

structure RV where
  num : Int
  pins : Int
  bat : Nat
def rvC (r : RV) : List Value := [.int .i64 r.num, .int .i64 r.pins, .int .i64 (r.bat : Nat)]
theorem rvC_len : ∀ vs : List RV, (vs.flatMap rvC).length = vs.length * 3
  | [] => rfl
  | r :: t => by rw [List.flatMap_cons, List.length_append, rvC_len t, List.length_cons]; show 3 + _ = _; omega
theorem rvC_one (vs : List RV) : ∀ u ∈ vs.flatMap rvC, u.oneCell' = true := fun u hu => by
  obtain ⟨r, _, hu⟩ := List.mem_flatMap.1 hu
  simp [rvC] at hu
  rcases hu with rfl | rfl | rfl <;> rfl
theorem rvC_get : ∀ (vs : List RV) (i j : Nat) (hi : i < vs.length), j < 3 → (vs.flatMap rvC)[i * 3 + j]? = (rvC vs[i])[j]?
  | [], _, _, hi, _ => absurd hi (Nat.not_lt_zero _)
  | r :: t, 0, j, _, hj => by
    rw [List.flatMap_cons, Nat.zero_mul, Nat.zero_add, List.getElem?_append_left (by exact hj)]
    rfl
  | r :: t, i + 1, j, hi, hj => by
    have e : (i + 1) * 3 + j - (rvC r).length = i * 3 + j := by show (i + 1) * 3 + j - 3 = _; omega
    rw [List.flatMap_cons, List.getElem?_append_right (by show 3 ≤ _; omega), e]
    exact rvC_get t i j (by simpa using hi) hj
theorem rvs_at {B : Nat} {w : World} {A : Option Addr} {vs : List RV} (h : Sl B w A (vs.flatMap rvC)) {i : Nat} (hi : i < vs.length) : ∃ b o, A = some ⟨b, o, none⟩ ∧ b < B ∧ w.cell? ⟨b, o + i * 3, none⟩ = some (.int .i64 vs[i].num) ∧ w.cell? ⟨b, o + i * 3 + 1, none⟩ = some (.int .i64 vs[i].pins) ∧ w.cell? ⟨b, o + i * 3 + 2, none⟩ = some (.int .i64 (vs[i].bat : Nat)) := by
  obtain ⟨b, o, e, hb, hc⟩ := h (fun h0 => by have := rvC_len vs; rw [h0] at this; simp only [List.length_nil] at this; omega)
  refine ⟨b, o, e, hb, ?_, ?_, ?_⟩
  · exact hc (i * 3) _ (by rw [show i * 3 = i * 3 + 0 from rfl, rvC_get vs i 0 hi (by decide)]; rfl)
  · rw [Nat.add_assoc]; exact hc (i * 3 + 1) _ (by rw [rvC_get vs i 1 hi (by decide)]; rfl)
  · rw [Nat.add_assoc]; exact hc (i * 3 + 2) _ (by rw [rvC_get vs i 2 hi (by decide)]; rfl)
/-- The headers of the batches. -/
structure BatCs (B : Nat) (w : World) (bs : List (List Upd)) (hs : List Value) : Prop where
  len : hs.length = bs.length
  one : ∀ u ∈ hs, u.oneCell' = true
  at_ : ∀ i (h : i < bs.length), ∃ UA UC, hs[i]? = some (.slice UA bs[i].length UC) ∧ UpdsM B w UA bs[i]
theorem BatCs.nil {B : Nat} {w : World} : BatCs B w [] [] := ⟨rfl, fun u hu => (by cases hu), fun i hi => absurd hi (Nat.not_lt_zero _)⟩
theorem BatCs.below {B C : Nat} {w w' : World} {bs : List (List Upd)} {hs : List Value} (h : BatCs B w bs hs) (hb : Below C w w') (hC : B ≤ C) : BatCs B w' bs hs :=
  ⟨h.len, h.one, fun i hi => by obtain ⟨UA, UC, a, b⟩ := h.at_ i hi; exact ⟨UA, UC, a, b.below hb hC⟩⟩
theorem BatCs.more {B B' : Nat} {w : World} {bs : List (List Upd)} {hs : List Value} (h : BatCs B w bs hs) (hB : B ≤ B') : BatCs B' w bs hs :=
  ⟨h.len, h.one, fun i hi => by obtain ⟨UA, UC, a, b⟩ := h.at_ i hi; exact ⟨UA, UC, a, b.more hB⟩⟩
theorem BatCs.snoc {B : Nat} {w : World} {bs : List (List Upd)} {hs : List Value} (h : BatCs B w bs hs) {us : List Upd} {UA : Option Addr} {UC : Nat} (hu : UpdsM B w UA us) : BatCs B w (bs ++ [us]) (hs ++ [.slice UA us.length UC]) := by
  have hl := h.len
  refine ⟨by simp [hl], fun u hu => ?_, fun i hi => ?_⟩
  · rcases List.mem_append.1 hu with hu | hu
    · exact h.one u hu
    · rw [List.mem_singleton.1 hu]; rfl
  · by_cases hib : i < bs.length
    · obtain ⟨UA', UC', a, b⟩ := h.at_ i hib
      refine ⟨UA', UC', ?_, ?_⟩
      · rw [List.getElem?_append_left (by omega), List.getElem_append_left hib]; exact a
      · rw [List.getElem_append_left hib]; exact b
    · obtain rfl : i = bs.length := by simp at hi; omega
      refine ⟨UA, UC, ?_, ?_⟩
      · rw [List.getElem?_append_right (by omega), hl, Nat.sub_self, List.getElem_append_right (Nat.le_refl _)]
        simp
      · rw [List.getElem_append_right (Nat.le_refl _)]
        simpa using hu
/-- The reference's store. -/
def RStM (w : World) (val : Value) (vs : List RV) (bs : List (List Upd)) : Prop :=
  ∃ VA VC BA BC hs, val = .agg #[.slice VA vs.length VC, .slice BA bs.length BC] ∧ Sl w.heap.size w VA (vs.flatMap rvC) ∧ BatCs w.heap.size w bs hs ∧ Sl w.heap.size w BA hs
theorem RStM.up {w w' : World} {val : Value} {vs : List RV} {bs : List (List Upd)} (h : RStM w val vs bs) (hb : Below w.heap.size w w') : RStM w' val vs bs := by
  obtain ⟨VA, VC, BA, BC, hs, e, h1, h2, h3⟩ := h
  exact ⟨VA, VC, BA, BC, hs, e, (Sl.below h1 hb (Nat.le_refl _)).more hb.size, (h2.below hb (Nat.le_refl _)).more hb.size, (Sl.below h3 hb (Nat.le_refl _)).more hb.size⟩

theorem Stay.refl (P : Nat → Prop) (w : World) : Stay P w w := ⟨Nat.le_refl _, fun _ _ _ => rfl⟩
theorem Stay.less {P P' : Nat → Prop} {w w' : World} (h : Stay P w w') (hP : ∀ b, P' b → P b) : Stay P' w w' := ⟨h.1, fun b hb hp => h.2 b hb (hP b hp)⟩
/-- The reference's store, in blocks that P allows. -/
def RStP (P : Nat → Prop) (w : World) (val : Value) (vs : List RV) (bs : List (List Upd)) : Prop :=
  ∃ VA VC BA BC hs, val = .agg #[.slice VA vs.length VC, .slice BA bs.length BC] ∧ ∀ w', Stay P w w' → Sl w'.heap.size w' VA (vs.flatMap rvC) ∧ BatCs w'.heap.size w' bs hs ∧ Sl w'.heap.size w' BA hs
section
variable {P : Nat → Prop} {w w' : World} {val : Value} {vs : List RV} {bs : List (List Upd)}
theorem RStP.plain (h : RStP P w val vs bs) : RStM w val vs bs := by
  obtain ⟨VA, VC, BA, BC, hs, e, h⟩ := h
  exact ⟨VA, VC, BA, BC, hs, e, h w (Stay.refl _ _)⟩
theorem RStP.keep (h : RStP P w val vs bs) (hs : Stay P w w') : RStP P w' val vs bs := by
  obtain ⟨VA, VC, BA, BC, hds, e, h⟩ := h
  exact ⟨VA, VC, BA, BC, hds, e, fun w'' h'' => h w'' (hs.trans h'')⟩
theorem RStP.up (h : RStP P w val vs bs) (hb : Below w.heap.size w w') : RStP P w' val vs bs := h.keep (Stay.of hb)
theorem RStP.weak {P' : Nat → Prop} (h : RStP P w val vs bs) (hP : ∀ b, P b → P' b) : RStP P' w val vs bs := by
  obtain ⟨VA, VC, BA, BC, hds, e, h⟩ := h
  exact ⟨VA, VC, BA, BC, hds, e, fun w' hs => h w' (hs.less hP)⟩
theorem RStP.sub {P' : Nat → Prop} (h : RStP P w val vs bs) (hb : Below w.heap.size w w') (hP : ∀ b, b < w.heap.size → P b → P' b) : RStP P' w' val vs bs := by
  obtain ⟨VA, VC, BA, BC, hds, e, h⟩ := h
  exact ⟨VA, VC, BA, BC, hds, e, fun w'' hs =>
    h w'' ⟨Nat.le_trans hb.size hs.1, fun b hlt hp => (hs.2 b (Nat.lt_of_lt_of_le hlt hb.size) (hP b hlt hp)).trans (hb.block b hlt)⟩⟩
end
/-- A row behind worlds in which its block stands. -/
theorem sl_stay {P : Nat → Prop} {w w' : World} {A : Option Addr} {xs : List Value} (h : Sl w.heap.size w A xs) (hP : ∀ ad, A = some ad → P ad.block) (hs : Stay P w w') : Sl w'.heap.size w' A xs := fun hne => by
  obtain ⟨b, o, rfl, hb, hc⟩ := h hne
  exact ⟨b, o, rfl, Nat.lt_of_lt_of_le hb hs.1, fun i u hu => (World.cell?_of_block (hs.2 b hb (hP _ rfl))).trans (hc i u hu)⟩

/-- The reference's answers. -/
def findR (vs : List RV) (n : Int) : Option RV := vs.find? fun r => decide (r.num = n)
def pinRef (vs : List RV) (n d : Int) : Int × List RV := match findR vs n with
  | none => (31, vs)
  | some r => if r.pins + d < 0 then (17, vs) else (0, vs.map fun q => if q.num = n then ⟨q.num, q.pins + d, q.bat⟩ else q)
def goneR (l : Int) (r : RV) : Bool := decide (r.pins = 0) && decide (r.num ≠ l)
def dbR (X : Sch) (bs : List (List Upd)) (k : Nat) : Cont := (applyF X cont0 0 (bs.take k).flatten).2.1
def verR (X : Sch) (bs : List (List Upd)) (r : RV) : Ver := ⟨r.num, dbR X bs r.bat, r.pins⟩
/-- A store and the reference agree. -/
structure RelR (X : Sch) (V : List Ver) (l : Int) (vs : List RV) (bs : List (List Upd)) (B : Nat) : Prop where
  good : Good V l B
  ver : V = vs.map (verR X bs)
  asc : V.Pairwise (fun x y => x.num < y.num)
  bat : ∀ r ∈ vs, r.bat ≤ bs.length
  ok : (applyF X cont0 0 bs.flatten).1 = 0
  last : ∃ t p, vs = t ++ [⟨l, p, bs.length⟩]
  bl : bs.length ≤ B
  us : ∀ us ∈ bs, us.length ≤ 12 ∧ ∀ u ∈ us, UpdOk u
theorem applyF_append (X : Sch) : ∀ (us vs : List Upd) (F : Cont) (n : Nat), (applyF X F n us).1 = 0 → applyF X F n (us ++ vs) = applyF X (applyF X F n us).2.1 (applyF X F n us).2.2 vs
  | [], vs, F, n, _ => rfl
  | u :: t, vs, F, n, h => by
    by_cases h0 : (stepU X F u).1 = 0
    · have e : ∀ l, applyF X F n (u :: l) = applyF X (stepU X F u).2.1 (if (stepU X F u).2.2 then n + 1 else n) l := fun l => by
        show (if (stepU X F u).1 = 0 then _ else _) = _
        rw [if_pos h0]
      rw [List.cons_append, e, e]
      rw [e] at h
      exact applyF_append X t vs _ _ h
    · have e : (applyF X F n (u :: t)).1 = (stepU X F u).1 := by
        show (if (stepU X F u).1 = 0 then _ else ((stepU X F u).1, F, 0) : Int × Cont × Nat).1 = _
        rw [if_neg h0]
      exact absurd (e.symm.trans h) h0
theorem applyF_left (X : Sch) : ∀ (us vs : List Upd) (F : Cont) (n : Nat), (applyF X F n (us ++ vs)).1 = 0 → (applyF X F n us).1 = 0
  | [], _, _, _, _ => rfl
  | u :: t, vs, F, n, h => by
    rw [List.cons_append] at h
    unfold applyF at h ⊢
    by_cases h0 : (stepU X F u).1 = 0
    · rw [if_pos h0] at h ⊢
      exact applyF_left X t vs _ _ h
    · rw [if_neg h0] at h
      exact absurd h h0
theorem applyF_count (X : Sch) : ∀ (us : List Upd) (F : Cont) (n m : Nat), (applyF X F n us).1 = (applyF X F m us).1 ∧ (applyF X F n us).2.1 = (applyF X F m us).2.1
  | [], _, _, _ => ⟨rfl, rfl⟩
  | u :: t, F, n, m => by
    unfold applyF
    by_cases h0 : (stepU X F u).1 = 0
    · rw [if_pos h0, if_pos h0]
      exact applyF_count X t _ _ _
    · rw [if_neg h0, if_neg h0]
      exact ⟨rfl, rfl⟩
theorem flatten_take (bs : List (List Upd)) (k : Nat) : bs.flatten = (bs.take k).flatten ++ (bs.drop k).flatten := by
  rw [← List.flatten_append, List.take_append_drop]
theorem dbR_snoc (X : Sch) (bs : List (List Upd)) (us : List Upd) (k : Nat) (hk : k ≤ bs.length) : dbR X (bs ++ [us]) k = dbR X bs k := by
  unfold dbR
  rw [List.take_append_of_le_length hk]
theorem dbR_all (X : Sch) (bs : List (List Upd)) : dbR X bs bs.length = (applyF X cont0 0 bs.flatten).2.1 := by
  unfold dbR
  rw [List.take_length]
section
variable {X : Sch} {V : List Ver} {l : Int} {vs : List RV} {bs : List (List Upd)} {B : Nat}
theorem RelR.findV (h : RelR X V l vs bs B) (n : Int) : findV V n = (findR vs n).map (verR X bs) := by
  rw [h.ver]
  unfold Go.Proofs.Ytgaffbdcpkbdhaa.findV findR
  rw [List.find?_map]
  rfl
theorem RelR.one {n : Int} (h0 : 0 ≤ n) (h1 : n ≤ 300) : RelR X [⟨n, cont0, 0⟩] n [⟨n, 0, 0⟩] [] 0 :=
  ⟨Good.one h0 h1, rfl, List.pairwise_singleton _ _, fun r hr => by rw [List.mem_singleton.1 hr]; exact Nat.le_refl _, rfl, ⟨[], 0, rfl⟩, Nat.le_refl _, fun us hu => by cases hu⟩
theorem RelR.lastDb (h : RelR X V l vs bs B) : dbV V l = (applyF X cont0 0 bs.flatten).2.1 := by
  obtain ⟨t, p, e⟩ := h.last
  have hf := h.findV l
  have hne : ∀ r ∈ t, r.num ≠ l := fun r hr h0 => by
    have ha := h.asc
    rw [h.ver, e, List.map_append] at ha
    have := (List.pairwise_append.1 ha).2.2 (verR X bs r) (List.mem_map.2 ⟨r, hr, rfl⟩) (verR X bs ⟨l, p, bs.length⟩) (List.mem_map.2 ⟨_, List.mem_singleton.2 rfl, rfl⟩)
    have : r.num < l := this
    omega
  have hr : findR vs l = some ⟨l, p, bs.length⟩ := by
    unfold findR
    rw [e, List.find?_append, List.find?_eq_none.2 fun r hr => by simpa using hne r hr]
    simp
  rw [hr] at hf
  unfold dbV
  rw [hf]
  exact dbR_all X bs
theorem RelR.commit (h : RelR X V l vs bs B) {us : List Upd} (h0 : (applyF X (dbV V l) 0 us).1 = 0) (hu : us.length ≤ 12 ∧ ∀ u ∈ us, UpdOk u) : RelR X (commitR X V l us).2.1 (l + 1) (vs ++ [⟨l + 1, 0, bs.length + 1⟩]) (bs ++ [us]) (B + 1) := by
  have hc : commitR X V l us = (0, putV V ⟨l + 1, (applyF X (dbV V l) 0 us).2.1, 0⟩, l + 1) := by unfold commitR; rw [if_pos h0]
  have hg := h.good.commit h.asc X us
  have hput : putV V ⟨l + 1, (applyF X (dbV V l) 0 us).2.1, 0⟩ = V ++ [⟨l + 1, (applyF X (dbV V l) 0 us).2.1, 0⟩] := putV_last _ _ fun x hx => by
    have := (h.good.all x hx).1
    show x.num < l + 1
    omega
  rw [hc] at hg ⊢
  have hflat : applyF X cont0 0 (bs ++ [us]).flatten = applyF X (dbV V l) (applyF X cont0 0 bs.flatten).2.2 us := by
    rw [List.flatten_append, List.flatten_singleton, applyF_append X _ _ _ _ h.ok, h.lastDb]
  have hcnt := applyF_count X us (dbV V l) (applyF X cont0 0 bs.flatten).2.2 0
  refine ⟨hg, ?_, putV_asc _ h.asc, fun r hr => ?_, ?_, ⟨vs, 0, by rw [List.length_append]; rfl⟩, by rw [List.length_append]; have := h.bl; show bs.length + 1 ≤ _; omega, fun q hq => ?_⟩
  · show putV V _ = _
    rw [hput, List.map_append]
    have e1 : vs.map (verR X (bs ++ [us])) = V := by
      rw [h.ver]
      refine List.map_congr_left fun r hr => ?_
      unfold verR
      rw [dbR_snoc X bs us _ (h.bat r hr)]
    have e2 : dbR X (bs ++ [us]) (bs.length + 1) = (applyF X (dbV V l) 0 us).2.1 := by
      have := dbR_all X (bs ++ [us])
      rw [List.length_append, hflat, hcnt.2] at this
      exact this
    rw [e1, List.map_singleton]
    show _ = V ++ [⟨l + 1, dbR X (bs ++ [us]) (bs.length + 1), 0⟩]
    rw [e2]
  · rw [List.length_append]
    rcases List.mem_append.1 hr with hr | hr
    · have := h.bat r hr
      show r.bat ≤ bs.length + 1
      omega
    · rw [List.mem_singleton.1 hr]; exact Nat.le_refl _
  · rw [hflat, hcnt.1]; exact h0
  · rcases List.mem_append.1 hq with hq | hq
    · exact h.us q hq
    · rw [List.mem_singleton.1 hq]; exact hu
theorem RelR.more (h : RelR X V l vs bs B) {B' : Nat} (hB : B ≤ B') : RelR X V l vs bs B' := ⟨h.good.more hB, h.ver, h.asc, h.bat, h.ok, h.last, by have := h.bl; omega, h.us⟩
theorem putV_map {n : Int} (f : Ver → Ver) (hf : ∀ x, (f x).num = x.num) : ∀ {V : List Ver}, V.Pairwise (fun x y => x.num < y.num) → ∀ {x : Ver}, x ∈ V → x.num = n → putV V (f x) = V.map fun y => if y.num = n then f y else y
  | [], _, _, h, _ => by cases h
  | a :: t, hp, x, hx, e => by
    obtain ⟨h1, h2⟩ := List.pairwise_cons.1 hp
    unfold putV
    rw [hf]
    rcases List.mem_cons.1 hx with rfl | hx
    · rw [if_neg (by omega), if_pos rfl, List.map_cons, if_pos e]
      congr 1
      refine (List.map_id t).symm.trans (List.map_congr_left fun y hy => ?_)
      rw [if_neg (by have := h1 y hy; omega)]
      rfl
    · have := h1 x hx
      rw [if_neg (by omega), if_neg (by omega), List.map_cons, if_neg (by omega), putV_map f hf h2 hx e]
theorem RelR.pinned (h : RelR X V l vs bs B) {n d : Int} (hg : Good (vs.map fun q => verR X bs (if q.num = n then ⟨q.num, q.pins + d, q.bat⟩ else q)) l (B + 1)) : RelR X (vs.map fun q => verR X bs (if q.num = n then ⟨q.num, q.pins + d, q.bat⟩ else q)) l (vs.map fun q => if q.num = n then ⟨q.num, q.pins + d, q.bat⟩ else q) bs (B + 1) := by
  refine ⟨hg, by rw [List.map_map]; rfl, ?_, fun r hr => ?_, h.ok, ?_, by have := h.bl; omega, h.us⟩
  · have ha := h.asc
    rw [h.ver, List.pairwise_map] at ha
    rw [List.pairwise_map]
    refine ha.imp fun {a b} hab => ?_
    have e : ∀ q : RV, (verR X bs (if q.num = n then ⟨q.num, q.pins + d, q.bat⟩ else q)).num = q.num := fun q => by split <;> rfl
    rw [e, e]
    exact hab
  · obtain ⟨q, hq, rfl⟩ := List.mem_map.1 hr
    have := h.bat q hq
    split <;> exact this
  · obtain ⟨t, p, e⟩ := h.last
    rw [e, List.map_append, List.map_singleton]
    refine ⟨t.map fun q => if q.num = n then ⟨q.num, q.pins + d, q.bat⟩ else q, if l = n then p + d else p, ?_⟩
    congr 2
    show (if l = n then (⟨l, p + d, bs.length⟩ : RV) else ⟨l, p, bs.length⟩) = _
    split <;> rfl
theorem RelR.map_eq (h : RelR X V l vs bs B) (n d : Int) : (V.map fun y => if y.num = n then (⟨y.num, y.db, y.pins + d⟩ : Ver) else y) = vs.map fun q => verR X bs (if q.num = n then ⟨q.num, q.pins + d, q.bat⟩ else q) := by
  rw [h.ver, List.map_map]
  refine List.map_congr_left fun q _ => ?_
  show (if q.num = n then (⟨q.num, dbR X bs q.bat, q.pins + d⟩ : Ver) else verR X bs q) = _
  split <;> rfl
theorem RelR.pin (h : RelR X V l vs bs B) (n : Int) : (pinR V n).1 = (pinRef vs n 1).1 ∧ RelR X (pinR V n).2 l (pinRef vs n 1).2 bs (B + 1) := by
  have hf := h.findV n
  have hg := h.good.pin h.asc n
  unfold pinR pinRef at *
  cases hr : findR vs n with
  | none =>
    rw [hr] at hf
    rw [hf] at hg ⊢
    exact ⟨rfl, h.more (by omega)⟩
  | some r =>
    rw [hr] at hf
    have hf : Go.Proofs.Ytgaffbdcpkbdhaa.findV V n = some (verR X bs r) := hf
    rw [hf] at hg ⊢
    obtain ⟨hx, hn⟩ := findV_some hf
    have hp0 := (h.good.all _ hx).2.2.1
    have hp0 : 0 ≤ r.pins := hp0
    show (0 : Int) = (if r.pins + 1 < 0 then ((17 : Int), vs) else _).1 ∧ RelR X (putV V ⟨(verR X bs r).num, (verR X bs r).db, (verR X bs r).pins + 1⟩) l (if r.pins + 1 < 0 then ((17 : Int), vs) else _).2 bs (B + 1)
    rw [if_neg (by omega)]
    refine ⟨rfl, ?_⟩
    have e := putV_map (n := n) (fun y => (⟨y.num, y.db, y.pins + 1⟩ : Ver)) (fun _ => rfl) h.asc hx hn
    have e2 := e.trans (h.map_eq n 1)
    have hg : Good (putV V ⟨(verR X bs r).num, (verR X bs r).db, (verR X bs r).pins + 1⟩) l (B + 1) := hg
    rw [e2] at hg ⊢
    exact h.pinned hg
theorem RelR.unpin (h : RelR X V l vs bs B) (n : Int) : (unpinR V n).1 = (pinRef vs n (-1)).1 ∧ RelR X (unpinR V n).2 l (pinRef vs n (-1)).2 bs (B + 1) := by
  have hf := h.findV n
  have hg := h.good.unpin h.asc n
  unfold unpinR pinRef at *
  cases hr : findR vs n with
  | none =>
    rw [hr] at hf
    rw [hf] at hg ⊢
    exact ⟨rfl, h.more (by omega)⟩
  | some r =>
    rw [hr] at hf
    have hf : Go.Proofs.Ytgaffbdcpkbdhaa.findV V n = some (verR X bs r) := hf
    rw [hf] at hg ⊢
    obtain ⟨hx, hn⟩ := findV_some hf
    have hp0 := (h.good.all _ hx).2.2.1
    have hp0 : 0 ≤ r.pins := hp0
    show (if r.pins = 0 then ((17 : Int), V) else (0, putV V ⟨(verR X bs r).num, (verR X bs r).db, (verR X bs r).pins - 1⟩)).1 = (if r.pins + -1 < 0 then ((17 : Int), vs) else _).1 ∧ RelR X (if r.pins = 0 then ((17 : Int), V) else (0, putV V ⟨(verR X bs r).num, (verR X bs r).db, (verR X bs r).pins - 1⟩)).2 l (if r.pins + -1 < 0 then ((17 : Int), vs) else _).2 bs (B + 1)
    by_cases h0 : r.pins = 0
    · rw [if_pos h0, if_pos (by omega)]
      exact ⟨rfl, h.more (by omega)⟩
    · have hg : Good (if r.pins = 0 then ((17 : Int), V) else (0, putV V ⟨(verR X bs r).num, (verR X bs r).db, (verR X bs r).pins - 1⟩)).2 l (B + 1) := hg
      rw [if_neg h0] at hg
      rw [if_neg h0, if_neg (by omega)]
      refine ⟨rfl, ?_⟩
      have e := putV_map (n := n) (fun y => (⟨y.num, y.db, y.pins - 1⟩ : Ver)) (fun _ => rfl) h.asc hx hn
      have e2 := e.trans (h.map_eq n (-1))
      have hg : Good (putV V ⟨(verR X bs r).num, (verR X bs r).db, (verR X bs r).pins - 1⟩) l (B + 1) := hg
      rw [e2] at hg
      show RelR X (putV V ⟨(verR X bs r).num, (verR X bs r).db, (verR X bs r).pins - 1⟩) l _ bs (B + 1)
      rw [e2]
      exact h.pinned hg
theorem RelR.gone (h : RelR X V l vs bs B) : (V.filter (goneB l)).map (·.num) = (vs.filter (goneR l)).map (·.num) ∧ RelR X (V.filter fun x => !goneB l x) l (vs.filter fun r => !goneR l r) bs (B + 1) := by
  have e1 : V.filter (goneB l) = (vs.filter (goneR l)).map (verR X bs) := by
    rw [h.ver, List.filter_map]
    rfl
  have e2 : (V.filter fun x => !goneB l x) = (vs.filter fun r => !goneR l r).map (verR X bs) := by
    rw [h.ver, List.filter_map]
    rfl
  refine ⟨by rw [e1, List.map_map]; rfl, h.good.gone, e2, h.asc.filter _, fun r hr => h.bat r (List.mem_filter.1 hr).1, h.ok, ?_, by have := h.bl; omega, h.us⟩
  obtain ⟨t, p, e⟩ := h.last
  refine ⟨t.filter fun r => !goneR l r, p, ?_⟩
  rw [e, List.filter_append]
  congr 1
  rw [List.filter_cons_of_pos]
  · rfl
  · show (!goneR l ⟨l, p, bs.length⟩) = true
    unfold goneR
    rw [decide_eq_false (show ¬ (l ≠ l) from fun h => h rfl), Bool.and_false]
    rfl
end
end Go.Proofs.Ytgaffbdcpkbdhaa
end

section
/- Walks: the reference's find, Latest, New, Pin. -/
namespace Go.Proofs.Ytgaffbdcpkbdhaa
open Go.RowKit Go.Sort Go.ChangeMaps Go.WideShapes

theorem box2 (w : World) (u v : Value) (T : TypeId) : Row (w.alloc (.cells #[u, v] T)) w.heap.size T [u, v] := Row.new w T _
theorem findR_at {vs : List RV} {n : Int} {k : Nat} (hk : k < vs.length) (h : vs[k].num = n) (hall : ∀ r ∈ vs.take k, r.num ≠ n) : findR vs n = some vs[k] := by
  unfold findR
  have e : (vs.take k ++ vs.drop k).find? (fun r => decide (r.num = n)) = some vs[k] := by
    rw [List.find?_append, List.find?_eq_none.2 fun r hr => by simpa using hall r hr, List.drop_eq_getElem_cons hk, List.find?_cons_of_pos (by simpa using h)]
    rfl
  rwa [List.take_append_drop] at e
theorem findR_no {vs : List RV} {n : Int} (hall : ∀ r ∈ vs, r.num ≠ n) : findR vs n = none := List.find?_eq_none.2 fun r hr => by simpa using hall r hr
/-- The place of a version. -/
def PlaceR (vs : List RV) (n z : Int) : Prop := (z = -1 ∧ findR vs n = none) ∨ ∃ k : Nat, ∃ h : k < vs.length, z = k ∧ vs[k].num = n ∧ findR vs n = some vs[k]

set_option maxHeartbeats 4000000 in
set_option maxRecDepth 100000 in
theorem r16find_any (VA BA : Option Addr) (VC BC m : Nat) (vs : List RV) (n : Int) (w : World) (hv : Sl w.heap.size w VA (vs.flatMap rvC)) (hl : vs.length ≤ 1000000) :
    Calls Try.prog 56 #[.agg #[.slice VA vs.length VC, .slice BA m BC], .int .i64 n] w fun e w' => ∃ z, e = .returned (.int .i64 z) ∧ PlaceR vs n z ∧ Ext w w' := by
  have HV := Lib.hid hv
  obtain ⟨W0, hW0⟩ : ∃ W0, W0 = w.alloc (.cells #[.slice VA vs.length VC, .slice BA m BC] 66) := ⟨_, rfl⟩
  have HR0 : Hid (Row W0 w.heap.size 66 [.slice VA vs.length VC, .slice BA m BC]) := by show Row _ _ _ _; rw [hW0]; exact Row.new w _ _
  have HX0 : Hid (Ext w W0) := by show Ext _ _; rw [hW0]; exact (Ext.refl w).alloc _
  have HW0 := Lib.hid hW0
  clear hv hW0
  go_enter Try.func56, Try.ntmps56
  go_upto_region 2 with (fail)
  rw [← HW0.out]
  clear HW0
  go_loopw [5] (fun c wx => ∃ k : Nat, k ≤ vs.length ∧ c = .int .i64 k ∧ (∀ r ∈ vs.take k, r.num ≠ n) ∧ Ext W0 wx) (fun c _ => vs.length - (intOf c).toNat)
  case atStart => exact ⟨0, Nat.zero_le _, rfl, fun r hr => (by simp at hr), Ext.refl _⟩
  case round =>
    obtain ⟨k, hk, rfl, hall, hxr⟩ := hrel
    have HALL := Lib.hid hall
    have HXR := Lib.hid hxr
    have hr := HR0.out.up hxr.below
    have t0 : wr.cell? ⟨w.heap.size, 0, none⟩ = some (.slice VA vs.length VC) := hr.cell 0
    have t1 := hr.lt
    clear hall hxr hr
    by_cases hkl : k < vs.length
    · have r0 : (0 : Int) ≤ (k : Int) := by omega
      have r1 : (k : Int) < (vs.length : Int) := by omega
      have r3 : IntKind.i64.wrap ((k : Int) + 1) = ((k + 1 : Nat) : Int) := by rw [IntWalk.i64_in _ (by omega)]; omega
      obtain ⟨b, o, rfl, hb, c0, -, -⟩ := rvs_at HV.out hkl
      have c0 := ((HX0.out.trans HXR.out).cell hb).trans c0
      have c1 := Nat.lt_of_lt_of_le hb (HX0.out.trans HXR.out).size
      have HAT : Hid (vs[k].num = n → findR vs n = some vs[k]) := fun h => findR_at hkl h HALL.out
      have HN : Hid (vs[k].num ≠ n → ∀ r ∈ vs.take (k + 1), r.num ≠ n) := fun h r hr => by
        rw [List.take_succ_eq_append_getElem hkl, List.mem_append] at hr
        rcases hr with hr | hr
        · exact HALL.out r hr
        · rw [List.mem_singleton.1 hr]; exact h
      by_cases he : vs[k].num = n
      · have q : (vs[k].num == n) = true := by simpa using he
        have HE := Lib.hid (And.intro he (HAT.out he))
        clear he HAT HN
        go_wp2
        exact bodyPost_ret (v := .int .i64 k) (by simp [results, Try.results56, go_sem]) rfl ⟨_, rfl, .inr ⟨k, hkl, rfl, HE.out.1, HE.out.2⟩, HX0.out.trans HXR.out⟩
      · have q : (vs[k].num == n) = false := by simpa using he
        have HE := Lib.hid (HN.out he)
        clear he HAT HN
        go_wp2
        go_roundw
        case rel => exact ⟨k + 1, hkl, by go_num, HE.out, HXR.out⟩
        case measure => simp [intOf]; omega
    · obtain rfl : k = vs.length := by omega
      have r1 : ¬ (vs.length : Int) < (vs.length : Int) := by omega
      have HE : Hid (findR vs n = none) := findR_no (by have h := HALL.out; rwa [List.take_length] at h)
      go_wp2
      exact bodyPost_ret (v := .int .i64 (-1)) (by simp [results, Try.results56, go_sem]) rfl ⟨_, rfl, .inl ⟨rfl, HE.out⟩, HX0.out.trans HXR.out⟩

set_option maxHeartbeats 2000000 in
set_option maxRecDepth 100000 in
theorem r16Latest_any (VA BA : Option Addr) (VC BC m : Nat) (t : List RV) (q : RV) (w : World) (hv : Sl w.heap.size w VA ((t ++ [q]).flatMap rvC)) (hl : t.length ≤ 1000000) :
    Calls Try.prog 40 #[.agg #[.slice VA (t ++ [q]).length VC, .slice BA m BC]] w fun e w' => e = .returned (.int .i64 q.num) ∧ Ext w w' := by
  have hlen : (t ++ [q]).length = t.length + 1 := by simp
  obtain ⟨b, o, rfl, hb, c0, -, -⟩ := rvs_at hv (show t.length < (t ++ [q]).length by omega)
  have eq : (t ++ [q])[t.length]'(by omega) = q := by simp
  rw [eq] at c0
  rw [hlen]
  obtain ⟨W0, hW0⟩ : ∃ W0, W0 = w.alloc (.cells #[.slice (some ⟨b, o, none⟩) (t.length + 1) VC, .slice BA m BC] 66) := ⟨_, rfl⟩
  have hr : Row W0 w.heap.size 66 [.slice (some ⟨b, o, none⟩) (t.length + 1) VC, .slice BA m BC] := by rw [hW0]; exact Row.new w _ _
  have hx : Ext w W0 := by rw [hW0]; exact (Ext.refl w).alloc _
  have c1 := (hx.cell (o := o + t.length * 3) hb).trans c0
  have c2 := Nat.lt_of_lt_of_le hb hx.size
  have t0 : W0.cell? ⟨w.heap.size, 0, none⟩ = some (.slice (some ⟨b, o, none⟩) (t.length + 1) VC) := hr.cell 0
  have t1 := hr.lt
  have r3 : IntKind.i64.wrap (((t.length + 1 : Nat) : Int) - 1) = (t.length : Int) := by rw [IntWalk.i64_in _ (by omega)]; omega
  have r4 : IntKind.i64.wrap ((t.length : Int) + 1 - 1) = (t.length : Int) := by rw [IntWalk.i64_in _ (by omega)]; omega
  have r5 : (0 : Int) ≤ (t.length : Int) := by omega
  have r6 : (t.length : Int) < ((t.length + 1 : Nat) : Int) := by omega
  have r7 : (t.length : Int) < (t.length : Int) + 1 := by omega
  have HX := Lib.hid hx
  have HW0 := Lib.hid hW0
  clear hv hlen eq hr hx c0 hb hW0
  go_enter Try.func40, Try.ntmps40
  go_upto_region 1 with (fail)
  rw [← HW0.out]
  clear HW0
  go_wp2
  go_ret
  exact ⟨rfl, HX.out⟩

set_option maxHeartbeats 2000000 in
set_option maxRecDepth 100000 in
theorem r16New_any (P : Nat → Prop) (n : Int) (w : World) (hPn : ∀ b, w.heap.size ≤ b → P b) : Calls Try.prog 22 #[.int .i64 n] w fun e w' => ∃ v, e = .returned v ∧ RStP P w' v [⟨n, 0, 0⟩] [] ∧ Below w.heap.size w w' := by
  have HPN := Lib.hid hPn
  clear hPn
  obtain ⟨W0, hW0⟩ : ∃ W0, W0 = (w.alloc (.cells #[.slice none 0 0, .slice none 0 0] 66)).alloc (.cells #[.int .i64 n, .int .i64 0, .int .i64 0] 103) := ⟨_, rfl⟩
  have HB0 : Hid (Below w.heap.size w W0) := by show Below _ _ _; rw [hW0]; exact (((Ext.refl w).alloc _).alloc _).below
  have hr1 : Row W0 w.heap.size 66 [.slice none 0 0, .slice none 0 0] := by rw [hW0]; exact (Row.new w _ _).alloc _
  have hr2 : Row W0 (w.heap.size + 1) 103 [.int .i64 n, .int .i64 0, .int .i64 0] := by
    have h := Row.new (w.alloc (.cells #[.slice none 0 0, .slice none 0 0] 66)) 103 [.int .i64 n, .int .i64 0, .int .i64 0]
    rw [World.size_alloc] at h
    rw [hW0]; exact h
  have HR1 := Lib.hid hr1
  have HR2 := Lib.hid hr2
  have k0 : W0.cell? ⟨w.heap.size, 0, none⟩ = some (.slice none 0 0) := hr1.cell 0
  have k1 : W0.cell? ⟨w.heap.size, 1, none⟩ = some (.slice none 0 0) := hr1.cell 1
  have k2 := hr1.frozen 0
  have k3 := hr1.frozen 1
  have k4 := hr1.lt
  have HW0 := Lib.hid hW0
  clear hr1 hr2 hW0
  go_enter Try.func22, Try.ntmps22
  go_wp2
  obtain ⟨W1, hW1⟩ : ∃ W1, W1 = (w.alloc (.cells #[.slice (some ⟨w.heap.size + 1, 0, none⟩) 1 1, .slice none 0 0] 66)).alloc (.cells #[.int .i64 n, .int .i64 0, .int .i64 0] 103) := ⟨_, rfl⟩
  have hb1 : Below w.heap.size w W1 := by rw [hW1]; exact (((Ext.refl w).alloc _).alloc _).below
  have hs1 : Row W1 w.heap.size 66 [.slice (some ⟨w.heap.size + 1, 0, none⟩) 1 1, .slice none 0 0] := by rw [hW1]; exact (Row.new w _ _).alloc _
  have hs2 : Row W1 (w.heap.size + 1) 103 [.int .i64 n, .int .i64 0, .int .i64 0] := by
    have h := Row.new (w.alloc (.cells #[.slice (some ⟨w.heap.size + 1, 0, none⟩) 1 1, .slice none 0 0] 66)) 103 [.int .i64 n, .int .i64 0, .int .i64 0]
    rw [World.size_alloc] at h
    rw [hW1]; exact h
  rw [← hW1]
  have c0 := hs1.cell 0
  have c1 := hs1.cell 1
  exact bodyPost_ret (v := .agg #[.slice (some ⟨w.heap.size + 1, 0, none⟩) 1 1, .slice none 0 0]) (by simp [results, Try.results22, go_sem, c0, c1]) rfl
    ⟨_, rfl, ⟨some ⟨w.heap.size + 1, 0, none⟩, 1, none, 0, [], rfl, fun w' hst => ⟨sl_stay (fun _ => ⟨w.heap.size + 1, 0, rfl, hs2.lt, fun i u hu => by rw [Nat.zero_add]; exact (hs2.cell i).trans hu⟩) (fun ad e => by cases e; exact HPN.out _ (by show _ ≤ w.heap.size + 1; omega)) hst, BatCs.nil, (fun h => absurd rfl h)⟩⟩, hb1⟩

theorem own_empty16 (w : World) (base : Nat) (e : TypeId) (size : Nat) (hb : base ≤ w.heap.size) : (w.alloc (.cells #[] e)).ownsRow base e size (.slice (some ⟨w.heap.size, 0, none⟩) 0 0) 0 [] :=
  ⟨by simp, .inr ⟨w.heap.size, 0, #[], rfl, hb, Row.new w e [], Nat.le_refl _, by simp [maxLen], by simp, by simp⟩⟩
/-- A pin count changed. -/
theorem sl_pins {w : World} {g i : Nat} {vs : List RV} {n d : Int} (hc : ∀ j u, (vs.flatMap rvC)[j]? = some u → w.cell? ⟨g, j, none⟩ = some u) (hg : g < w.heap.size) (hi : i < vs.length) (hn : vs[i].num = n) (hp : vs.Pairwise (fun x y => x.num < y.num)) :
    Sl (w.setCell ⟨g, i * 3 + 1, none⟩ (.int .i64 (vs[i].pins + d))).heap.size (w.setCell ⟨g, i * 3 + 1, none⟩ (.int .i64 (vs[i].pins + d))) (some ⟨g, 0, none⟩) ((vs.map fun q => if q.num = n then (⟨q.num, q.pins + d, q.bat⟩ : RV) else q).flatMap rvC) := fun _ => by
  have huniq : ∀ k (hk : k < vs.length), vs[k].num = n → k = i := fun k hk e => by
    rcases Nat.lt_trichotomy k i with h | h | h
    · have := List.pairwise_iff_getElem.1 hp k i hk hi h; omega
    · exact h
    · have := List.pairwise_iff_getElem.1 hp i k hi hk h; omega
  refine ⟨g, 0, rfl, by simpa using hg, fun j u hu => ?_⟩
  rw [Nat.zero_add]
  have hj : j < vs.length * 3 := by
    have := (List.getElem?_eq_some_iff.1 hu).1
    rw [rvC_len, List.length_map] at this
    exact this
  have hq : j / 3 < vs.length := by omega
  have hu2 := rvC_get (vs.map fun q => if q.num = n then (⟨q.num, q.pins + d, q.bat⟩ : RV) else q) (j / 3) (j % 3) (by simpa using hq) (by omega)
  rw [show j / 3 * 3 + j % 3 = j by omega, hu, List.getElem_map] at hu2
  have ho := rvC_get vs (j / 3) (j % 3) hq (by omega)
  rw [show j / 3 * 3 + j % 3 = j by omega] at ho
  by_cases e : j = i * 3 + 1
  · subst e
    have e1 : (i * 3 + 1) / 3 = i := by omega
    have e2 : (i * 3 + 1) % 3 = 1 := by omega
    simp only [e1, e2] at hu2 ho
    rw [if_pos hn] at hu2
    have hu3 : some u = some (.int .i64 (vs[i].pins + d)) := hu2
    injection hu3 with hu3
    subst hu3
    exact World.cell?_setCell_same _ _ _ (hc _ _ (ho.trans rfl))
  · rw [World.cell?_setCell_other _ _ _ _ (by intro e3; simp only [Addr.mk.injEq] at e3; omega)]
    refine hc j u ?_
    rw [ho]
    by_cases e4 : vs[j / 3].num = n
    · have e5 := huniq _ hq e4
      rw [if_pos e4] at hu2
      rw [hu2]
      have hr : j % 3 = 0 ∨ j % 3 = 2 := by omega
      rcases hr with hr | hr
      · rw [hr]; rfl
      · rw [hr]; rfl
    · rw [if_neg e4] at hu2
      exact hu2.symm

def PinPost (P : Nat → Prop) (bs : List (List Upd)) (r : Int × List RV) (w : World) (e : Ending) (w' : World) : Prop :=
  ∃ v', e = .returned (.tuple #[v', .int .i64 r.1]) ∧ RStP P w' v' r.2 bs ∧ Below w.heap.size w w'

set_option maxHeartbeats 8000000 in
set_option maxRecDepth 100000 in
theorem r16Pin_any (P : Nat → Prop) (val : Value) (vs : List RV) (bs : List (List Upd)) (n d : Int) (w : World) (hsP : RStP P w val vs bs) (hPn : ∀ b, w.heap.size ≤ b → P b) (hl : vs.length ≤ 1000) (hp : vs.Pairwise (fun x y => x.num < y.num)) (hpin : ∀ r ∈ vs, 0 ≤ r.pins ∧ r.pins ≤ 1000000) (hd : -1 ≤ d ∧ d ≤ 1) :
    Calls Try.prog 42 #[val, .int .i64 n, .int .i64 d] w (PinPost P bs (pinRef vs n d) w) := by
  have HS := Lib.hid hsP
  have HPN := Lib.hid hPn
  have hs := hsP.plain
  clear hsP hPn
  obtain ⟨VA, VC, BA, BC, hds, rfl, h1, h2, h3⟩ := hs
  obtain ⟨W0, hW0⟩ : ∃ W0, W0 = (w.alloc (.cells #[.slice VA vs.length VC, .slice BA bs.length BC] 66)).alloc (.cells #[.slice none 0 0, .slice none 0 0] 66) := ⟨_, rfl⟩
  have hx0 : Ext w W0 := by rw [hW0]; exact ((Ext.refl w).alloc _).alloc _
  have hr1 : Row W0 w.heap.size 66 [.slice VA vs.length VC, .slice BA bs.length BC] := by rw [hW0]; exact (Row.new w _ _).alloc _
  have hr2 : Row W0 (w.heap.size + 1) 66 [.slice none 0 0, .slice none 0 0] := by
    have h := Row.new (w.alloc (.cells #[.slice VA vs.length VC, .slice BA bs.length BC] 66)) 66 [.slice none 0 0, .slice none 0 0]
    rw [World.size_alloc] at h
    rw [hW0]; exact h
  have HF := Lib.hid (r16find_any VA BA VC BC bs.length vs n W0 ((Sl.below h1 hx0.below (Nat.le_refl _)).more hx0.size) (by omega))
  have HSL := Lib.hid ((Sl.below h1 hx0.below (Nat.le_refl _)).more hx0.size)
  have HX0 := Lib.hid hx0
  have HR1 := Lib.hid hr1
  have HR2 := Lib.hid hr2
  have HP := Lib.hid hp
  have HPI := Lib.hid hpin
  have HBT := Lib.hid (And.intro h2 h3)
  have k0 : W0.cell? ⟨w.heap.size, 0, none⟩ = some (.slice VA vs.length VC) := hr1.cell 0
  have k1 : W0.cell? ⟨w.heap.size, 1, none⟩ = some (.slice BA bs.length BC) := hr1.cell 1
  have k2 := hr1.lt
  have HW0 := Lib.hid hW0
  clear hx0 hr1 hr2 hp hpin h1 h2 h3 hW0
  go_enter Try.func42, Try.ntmps42
  go_upto_region 1 with (fail)
  rw [← HW0.out]
  clear HW0
  go_wp2_with fail
  clear k0 k1 k2
  refine HF.out.mono ?_
  rintro e w1 ⟨z, rfl, hz, hx1⟩
  have HR11 := Lib.hid (HR1.out.up hx1.below)
  have HR21 := Lib.hid (HR2.out.up hx1.below)
  have HB1 := Lib.hid (Below.then HX0.out.below hx1.below HX0.out.size)
  have HSL1 := Lib.hid ((Sl.below HSL.out hx1.below (Nat.le_refl _)).more hx1.size)
  have k0 : w1.cell? ⟨w.heap.size, 0, none⟩ = some (.slice VA vs.length VC) := HR11.out.cell 0
  have k1 : w1.cell? ⟨w.heap.size, 1, none⟩ = some (.slice BA bs.length BC) := HR11.out.cell 1
  have k2 := HR11.out.lt
  have m0 : w1.cell? ⟨w.heap.size + 1, 0, none⟩ = some (.slice none 0 0) := HR21.out.cell 0
  have m1 : w1.cell? ⟨w.heap.size + 1, 1, none⟩ = some (.slice none 0 0) := HR21.out.cell 1
  have m2 := HR21.out.frozen 0
  have m3 := HR21.out.frozen 1
  have m4 := HR21.out.lt
  clear hx1 HF HX0 HR1 HR2 HSL
  rcases hz with ⟨rfl, hz⟩ | ⟨i, hi, rfl, hn, hf⟩
  · have HE : Hid (pinRef vs n d = (31, vs)) := by show _ = _; unfold pinRef; rw [hz]
    clear hz
    go_wp2_with fail
    obtain ⟨W9, hW9⟩ : ∃ W, W = (w1.setCell ⟨w.heap.size + 1, 0, none⟩ (.slice VA vs.length VC)).setCell ⟨w.heap.size + 1, 1, none⟩ (.slice BA bs.length BC) := ⟨_, rfl⟩
    rw [← hW9]
    have q := HR21.out.set2 (.slice VA vs.length VC) (.slice BA bs.length BC)
    rw [← hW9] at q
    have c0 := q.cell 0
    have c1 := q.cell 1
    have hb : Below w.heap.size w W9 := by rw [hW9]; exact (HB1.out.setCell (by show w.heap.size ≤ w.heap.size + 1; omega) _).setCell (by show w.heap.size ≤ w.heap.size + 1; omega) _
    exact bodyPost_ret (v := .tuple #[.agg #[.slice VA vs.length VC, .slice BA bs.length BC], .int .i64 31]) (by simp [results, Try.results42, go_sem, c0, c1]) rfl (by rw [HE.out]; exact ⟨_, rfl, HS.out.up hb, hb⟩)
  obtain ⟨b, o, rfl, hb, -, c1, -⟩ := rvs_at HSL1.out hi
  have g0 : (0 : Int) ≤ (i : Int) := by omega
  have g1 : (i : Int) < (vs.length : Int) := by omega
  have g2 : ¬ (i : Int) < 0 := by omega
  obtain ⟨hp0, hp1⟩ := HPI.out _ (List.getElem_mem hi)
  have g3 : IntKind.i64.wrap (vs[i].pins + d) = vs[i].pins + d := by rw [IntWalk.i64_in _ (by omega)]
  have HN := Lib.hid hn
  have HFI := Lib.hid hf
  clear hn hf
  by_cases hneg : vs[i].pins + d < 0
  · have HE : Hid (pinRef vs n d = (17, vs)) := by show _ = _; unfold pinRef; rw [HFI.out]; show (if vs[i].pins + d < 0 then _ else _) = _; rw [if_pos hneg]
    generalize vs[i].pins = pi at *
    go_wp2_with fail
    obtain ⟨W9, hW9⟩ : ∃ W, W = (w1.setCell ⟨w.heap.size + 1, 0, none⟩ (.slice (some ⟨b, o, none⟩) vs.length VC)).setCell ⟨w.heap.size + 1, 1, none⟩ (.slice BA bs.length BC) := ⟨_, rfl⟩
    rw [← hW9]
    have q := HR21.out.set2 (.slice (some ⟨b, o, none⟩) vs.length VC) (.slice BA bs.length BC)
    rw [← hW9] at q
    have c0 := q.cell 0
    have c1 := q.cell 1
    have hb : Below w.heap.size w W9 := by rw [hW9]; exact (HB1.out.setCell (by show w.heap.size ≤ w.heap.size + 1; omega) _).setCell (by show w.heap.size ≤ w.heap.size + 1; omega) _
    exact bodyPost_ret (v := .tuple #[.agg #[.slice (some ⟨b, o, none⟩) vs.length VC, .slice BA bs.length BC], .int .i64 17]) (by simp [results, Try.results42, go_sem, c0, c1]) rfl (by rw [HE.out]; exact ⟨_, rfl, HS.out.up hb, hb⟩)
  have HE : Hid (pinRef vs n d = (0, vs.map fun q => if q.num = n then ⟨q.num, q.pins + d, q.bat⟩ else q)) := by show _ = _; unfold pinRef; rw [HFI.out]; show (if vs[i].pins + d < 0 then _ else _) = _; rw [if_neg hneg]
  have ho : (w1.alloc (.cells #[] 103)).ownsRow w1.heap.size 103 3 (.slice (some ⟨w1.heap.size, 0, none⟩) 0 0) 0 [] := own_empty16 w1 _ _ _ (Nat.le_refl _)
  have hxa : Ext w1 (w1.alloc (.cells #[] 103)) := (Ext.refl w1).alloc _
  have HO := Lib.hid ho
  have HXA := Lib.hid hxa
  have HSA := Lib.hid ((Sl.below HSL1.out hxa.below (Nat.le_refl _)).more hxa.size)
  have HVL : Hid ((vs.flatMap rvC).length = vs.length * 3) := rvC_len vs
  have HVO := Lib.hid (rvC_one vs)
  clear ho hxa
  go_wp2_with (first
    | (at_builtin; refine appXVer rfl (.tmp 26) (.tmp 28) rfl w1.heap.size (.slice (some ⟨w1.heap.size, 0, none⟩) 0 0) 0 [] rfl HO.out (some ⟨b, o, none⟩) vs.length VC (vs.flatMap rvC) rfl HVL.out HSA.out HVO.out (by omega) HXA.out.size ?_; intro v5 w5 hown hg hat)
    | fail)
  obtain ⟨A5, C5, rfl, h5a, h5b, h5⟩ := own_cut hown (by decide)
  rw [Nat.zero_add]
  obtain ⟨g, rfl, hgl, hgc⟩ := h5 (by intro h0; have := congrArg List.length h0; rw [List.nil_append, rvC_len] at this; simp only [List.length_nil] at this; omega)
  rw [List.nil_append] at hgc hown
  have hgb : w1.heap.size ≤ g := own_base hown rfl
  have HFZ : Hid (w5.frozen? ⟨g, i * 3 + 1, none⟩ = false) := own_frozen hown _ rfl _
  have HB5 : Hid (Below w1.heap.size w1 w5) := HXA.out.below.grown hg HXA.out.size (fun k hk => own_base HO.out hk)
  have HGC := Lib.hid hgc
  have HB05 := Lib.hid (Below.then HB1.out HB5.out HB1.out.size)
  have HR15 := Lib.hid (HR11.out.up HB5.out)
  have HR25 := Lib.hid (HR21.out.up HB5.out)
  have HSP := Lib.hid (sl_pins (d := d) hgc hgl hi HN.out HP.out)
  have hcp := hgc (i * 3 + 1) _ (by rw [rvC_get vs i 1 hi (by decide)]; rfl)
  have hgz : w1.heap.size ≤ w5.heap.size := HB5.out.size
  have hw1z := HR11.out.lt
  have hw2z := HR21.out.lt
  clear hown hg hat h5 h5a h5b hgc k0 k1 k2 m0 m1 m2 m3 m4 HXA HSA HO c1
  have k0 : w5.cell? ⟨w.heap.size, 0, none⟩ = some (.slice (some ⟨b, o, none⟩) vs.length VC) := HR15.out.cell 0
  have k1 : w5.cell? ⟨w.heap.size, 1, none⟩ = some (.slice BA bs.length BC) := HR15.out.cell 1
  have k2 := HR15.out.lt
  have f0 : w5.frozen? ⟨g, i * 3 + 1, none⟩ = false := HFZ.out
  have hfl : (vs.map fun q => if q.num = n then (⟨q.num, q.pins + d, q.bat⟩ : RV) else q).length = vs.length := List.length_map ..
  have HFL := Lib.hid hfl
  clear hfl
  generalize vs[i].pins = pi at *
  have g0 : (0 : Int) ≤ (i : Int) := by omega
  have g1 : (i : Int) < (vs.length : Int) := by omega
  go_upto_region 8 with (fail)
  go_simp
  go_upto_region 8 with (fail)
  try (go_simp; go_upto_region 8 with (fail))
  obtain ⟨W6, hW6⟩ : ∃ W, W = w5.setCell ⟨g, i * 3 + 1, none⟩ (.int .i64 (pi + d)) := ⟨_, rfl⟩
  rw [← hW6] at HSP ⊢
  have HR16 : Hid (Row W6 w.heap.size 66 [.slice (some ⟨b, o, none⟩) vs.length VC, .slice BA bs.length BC]) := by show Row _ _ _ _; rw [hW6]; exact HR15.out.far (show w.heap.size ≠ g by omega) _
  have HR26 : Hid (Row W6 (w.heap.size + 1) 66 [.slice none 0 0, .slice none 0 0]) := by show Row _ _ _ _; rw [hW6]; exact HR25.out.far (show w.heap.size + 1 ≠ g by omega) _
  have HB6 : Hid (Below w.heap.size w W6) := by show Below _ _ _; rw [hW6]; exact HB05.out.setCell (by show w.heap.size ≤ g; omega) _
  have HG6 : Hid (g < W6.heap.size) := by show _ < _; rw [hW6]; simpa using hgl
  clear hW6 k0 k1 k2 f0 hcp HR15 HR25 HB05 HFZ HGC
  have k0 : W6.cell? ⟨w.heap.size, 0, none⟩ = some (.slice (some ⟨b, o, none⟩) vs.length VC) := HR16.out.cell 0
  have k1 : W6.cell? ⟨w.heap.size, 1, none⟩ = some (.slice BA bs.length BC) := HR16.out.cell 1
  have k2 := HR16.out.lt
  have m0 : W6.cell? ⟨w.heap.size + 1, 0, none⟩ = some (.slice none 0 0) := HR26.out.cell 0
  have m1 : W6.cell? ⟨w.heap.size + 1, 1, none⟩ = some (.slice none 0 0) := HR26.out.cell 1
  have m2 := HR26.out.frozen 0
  have m3 := HR26.out.frozen 1
  have m4 := HR26.out.lt
  go_wp2_with fail
  obtain ⟨W9, hW9⟩ : ∃ W, W = (W6.setCell ⟨w.heap.size + 1, 0, none⟩ (.slice (some ⟨g, 0, none⟩) vs.length C5)).setCell ⟨w.heap.size + 1, 1, none⟩ (.slice BA bs.length BC) := ⟨_, rfl⟩
  rw [← hW9]
  have q := HR26.out.set2 (.slice (some ⟨g, 0, none⟩) vs.length C5) (.slice BA bs.length BC)
  rw [← hW9] at q
  have c0 := q.cell 0
  have c1 := q.cell 1
  have hb9 : Below w.heap.size w W9 := by rw [hW9]; exact (HB6.out.setCell (by show w.heap.size ≤ w.heap.size + 1; omega) _).setCell (by show w.heap.size ≤ w.heap.size + 1; omega) _
  have hz9 : W6.heap.size ≤ W9.heap.size := by rw [hW9]; simp
  have hsp9 : Sl W9.heap.size W9 (some ⟨g, 0, none⟩) ((vs.map fun q => if q.num = n then (⟨q.num, q.pins + d, q.bat⟩ : RV) else q).flatMap rvC) := by
    intro hne
    obtain ⟨b', o', e, hlt, hc⟩ := HSP.out hne
    injection e with e
    injection e with e1 e2
    subst e1 e2
    refine ⟨g, 0, rfl, Nat.lt_of_lt_of_le hlt hz9, fun j u hu => ?_⟩
    rw [hW9]
    exact far_cell (show w.heap.size + 1 ≠ g by omega) (far_cell (show w.heap.size + 1 ≠ g by omega) (hc j u hu))
  refine bodyPost_ret (v := .tuple #[.agg #[.slice (some ⟨g, 0, none⟩) vs.length C5, .slice BA bs.length BC], .int .i64 0]) (by simp [results, Try.results42, go_sem, c0, c1]) rfl ?_
  rw [HE.out]
  refine ⟨_, rfl, ?_, hb9⟩
  obtain ⟨VA', VC', BA', BC', hds', e', hall⟩ := HS.out
  simp at e'
  obtain ⟨-, e2, e3⟩ := e'
  subst e2 e3
  exact ⟨some ⟨g, 0, none⟩, C5, BA, BC, hds', by rw [HFL.out], fun w'' hst => ⟨sl_stay hsp9 (fun ad e => by cases e; exact HPN.out _ (by show w.heap.size ≤ g; omega)) hst, (hall w'' ((Stay.of hb9).trans hst)).2⟩⟩

end Go.Proofs.Ytgaffbdcpkbdhaa
end

section
/- Walks: the reference's Collect, Updates. -/
namespace Go.Proofs.Ytgaffbdcpkbdhaa
open Go.RowKit Go.Sort Go.ChangeMaps Go.WideShapes

set_option maxRecDepth 4000 in
theorem runXIntZ {w : World} (ty : TypeId) (base : Nat) (v : Value) (n : Nat) (xs : List Value) (hown : w.ownsRow base 3 1 v n xs)
    (A : Option Addr) (m C : Nat) (news : List Value) (hl : news.length = m * 1) (hz : Sl w.heap.size w A news) (h1 : ∀ u ∈ news, u.oneCell' = true) (hn : n + m ≤ 1000000) (hbase : base ≤ w.heap.size) :
    ∃ v' w', (Builtin.append_ #[36, 36] ty #[v, .slice A m C]).run Try.prog w = .ok v' w' ∧ w'.ownsRow base 3 1 v' (n + m) (xs ++ news) ∧ w.grownBy w' v.ownBlock ∧ (∀ b, v'.ownBlock = some b → v.ownBlock = some b ∨ b = w.heap.size) := by
  obtain ⟨i0, hi0, hz0, hz1, hz2⟩ := info_parts intInfo
  rcases A with _ | ad
  · have hy : m = 0 := by
      rcases Nat.eq_zero_or_pos m with h | h
      · exact h
      · obtain ⟨b, o, e', hb, hc⟩ := hz (fun h0 => by rw [h0] at hl; simp only [List.length_nil] at hl; omega)
        cases e'
    subst hy
    obtain rfl : news = [] := List.eq_nil_of_length_eq_zero (by rw [hl, Nat.zero_mul])
    exact ⟨v, w, run_append_none (P := Try.prog) w base 36 ty 3 i0 1 Try.underlying36 hi0 v n xs hown C, by simpa using hown, ⟨rfl, rfl, rfl, Nat.le_refl _, fun _ _ _ => rfl⟩, fun b hb => .inl hb⟩
  · have hcell : ∀ j u, news[j]? = some u → w.cell? (ad.add j) = some u := fun j u hu => by
      obtain ⟨b, o, e', hb, hc⟩ := hz (by intro h0; rw [h0] at hu; simp at hu)
      injection e' with e'
      subst e'
      rw [Addr.add_lit]
      exact hc j u hu
    obtain ⟨v', w', hrun, k2, k3, _, k5⟩ := run_append_own_at (P := Try.prog) w base 36 ty 3 i0 _ 1 8 Try.underlying36 hi0 hz0 hz1 hz2 rfl (by decide) v n xs hown ad m C news hl hcell h1 (by simp only [maxLen]; omega) (by omega) hbase
    exact ⟨v', w', hrun, k2, k3, fun b hb => by
      rcases k5 with k5 | k5
      · exact .inl (by rw [← k5]; exact hb)
      · rw [k5] at hb; injection hb with hb; exact .inr hb.symm⟩
/-- append(l, more...). -/
theorem appXIntZ {w : World} {ops : Array Oper} {rest : List Oper} {o : Oper} {a : Act} {Q : Exit → Act → World → Prop} (hgd : o.guard = none) (s x : Operand)
    (ho : o.op = .call { callee := .builtin .append, args := #[s, x], argTypes := #[36, 36] })
    (base : Nat) (v : Value) (n : Nat) (xs : List Value) (hs0 : a.eval s = v) (hown : w.ownsRow base 3 1 v n xs)
    (A : Option Addr) (m C : Nat) (news : List Value) (hx : a.eval x = .slice A m C) (hl : news.length = m * 1) (hz : Sl w.heap.size w A news) (h1 : ∀ u ∈ news, u.oneCell' = true)
    (hn : n + m ≤ 1000000) (hbase : base ≤ w.heap.size)
    (h : ∀ v' w', w'.ownsRow base 3 1 v' (n + m) (xs ++ news) → w.grownBy w' v.ownBlock → (∀ b, v'.ownBlock = some b → v.ownBlock = some b ∨ b = w.heap.size) → wpList Try.prog ops Q rest (a.put o.dst v') w') : wpList Try.prog ops Q (o :: rest) a w := by
  refine wpList_plain hgd fun K hK => ?_
  obtain ⟨v', w', hrun, k2, k3, k4⟩ := runXIntZ o.type base v n xs hown A m C news hl hz h1 hn hbase
  unfold Oper.wp execOp
  simp only [ho, resolve, invoke, builtin, Sem.run_bind, Sem.run_pure, Result.andThen_ok, List.map_toArray, List.map_cons, List.map_nil, hs0, hx, hrun]
  exact hK _ _ (h v' w' k2 k3 k4)

theorem rvC_snoc (L : List RV) (r : RV) : (L ++ [r]).flatMap rvC = L.flatMap rvC ++ rvC r := by rw [List.flatMap_append, List.flatMap_singleton]
theorem take_filter_yes {α : Type} (p : α → Bool) (l : List α) (k : Nat) (h : k < l.length) (hp : p l[k] = true) : (l.take (k + 1)).filter p = (l.take k).filter p ++ [l[k]] := by
  rw [List.take_succ_eq_append_getElem h, List.filter_append, List.filter_cons_of_pos hp]; rfl
theorem take_filter_no {α : Type} (p : α → Bool) (l : List α) (k : Nat) (h : k < l.length) (hp : p l[k] = false) : (l.take (k + 1)).filter p = (l.take k).filter p := by
  rw [List.take_succ_eq_append_getElem h, List.filter_append, List.filter_cons_of_neg (by rw [hp]; decide)]
  simp
/-- Behind Collect. -/
def CoPostR (P : Nat → Prop) (bs : List (List Upd)) (l : Int) (vs : List RV) (w : World) (e : Ending) (w' : World) : Prop :=
  ∃ v' A C, e = .returned (.tuple #[v', .slice A (vs.filter (goneR l)).length C]) ∧ RStP P w' v' (vs.filter fun r => !goneR l r) bs ∧ SlI .i64 w'.heap.size w' A ((vs.filter (goneR l)).map (·.num)) ∧ Below w.heap.size w w'

set_option maxHeartbeats 8000000 in
set_option maxRecDepth 100000 in
theorem r16Collect_any (P : Nat → Prop) (val : Value) (vs : List RV) (bs : List (List Upd)) (l : Int) (w : World) (hsP : RStP P w val vs bs) (hPn : ∀ b, w.heap.size ≤ b → P b) (hl : vs.length ≤ 1000) (hlast : ∀ i (h : i < vs.length), (vs[i].num ≠ l ↔ i < vs.length - 1)) :
    Calls Try.prog 43 #[val] w (CoPostR P bs l vs w) := by
  have HS := Lib.hid hsP
  have HPN := Lib.hid hPn
  have hs := hsP.plain
  clear hsP hPn
  obtain ⟨VA, VC, BA, BC, hds, rfl, h1, h2, h3⟩ := hs
  obtain ⟨W0, hW0⟩ : ∃ W0, W0 = (w.alloc (.cells #[.slice VA vs.length VC, .slice BA bs.length BC] 66)).alloc (.cells #[.slice none 0 0, .slice none 0 0] 66) := ⟨_, rfl⟩
  have hx0 : Ext w W0 := by rw [hW0]; exact ((Ext.refl w).alloc _).alloc _
  have hr1 : Row W0 w.heap.size 66 [.slice VA vs.length VC, .slice BA bs.length BC] := by rw [hW0]; exact (Row.new w _ _).alloc _
  have hr2 : Row W0 (w.heap.size + 1) 66 [.slice none 0 0, .slice none 0 0] := by
    have h := Row.new (w.alloc (.cells #[.slice VA vs.length VC, .slice BA bs.length BC] 66)) 66 [.slice none 0 0, .slice none 0 0]
    rw [World.size_alloc] at h
    rw [hW0]; exact h
  have HX0 := Lib.hid hx0
  have HR1 := Lib.hid hr1
  have HR2 := Lib.hid hr2
  have HSL := Lib.hid h1
  have HBT := Lib.hid (And.intro h2 h3)
  have HLA := Lib.hid hlast
  have HW0 := Lib.hid hW0
  have hz0 : w.heap.size + 1 < W0.heap.size := hr2.lt
  obtain ⟨B, hB⟩ : ∃ B, B = W0.heap.size := ⟨_, rfl⟩
  have HBE := Lib.hid hB
  rw [← hB] at hz0
  clear hx0 hr1 hr2 h1 h2 h3 hW0 hlast hB
  go_enter Try.func43, Try.ntmps43
  go_upto_region 4 with (fail)
  rw [← HW0.out]
  clear HW0
  go_loopw [4, 5, 6] (fun vl vg c wx => ∃ k : Nat, k ≤ vs.length ∧ c = .int .i64 k ∧ wx.ownsRow B 103 3 vl ((vs.take k).filter fun r => !goneR l r).length (((vs.take k).filter fun r => !goneR l r).flatMap rvC) ∧ wx.ownsRow B 3 1 vg ((vs.take k).filter (goneR l)).length ((((vs.take k).filter (goneR l)).map (·.num)).map (Value.int .i64)) ∧ (∀ b, vl.ownBlock = some b → vg.ownBlock ≠ some b) ∧ Below B W0 wx) (fun _ _ c _ => vs.length - (intOf c).toNat)
  case atStart => exact ⟨0, Nat.zero_le _, rfl, own_nil _ _ _ _, own_nil _ _ _ _, (fun b h => (by cases h)), Below.refl _ _⟩
  case round =>
    obtain ⟨k, hk, rfl, hol, hog, hne, hbr⟩ := hrel
    have HOL := Lib.hid hol
    have HOG := Lib.hid hog
    have HNE := Lib.hid hne
    have HBR : Hid (Below W0.heap.size W0 wr) := by have := HBE.out; show Below _ _ _; rw [← this]; exact hbr
    have HR1r := Lib.hid (HR1.out.up HBR.out)
    have HR2r := Lib.hid (HR2.out.up HBR.out)
    have HSR := Lib.hid ((Sl.below HSL.out (Below.then HX0.out.below HBR.out HX0.out.size) (Nat.le_refl _)).more (Nat.le_trans HX0.out.size HBR.out.size))
    have t0 : wr.cell? ⟨w.heap.size, 0, none⟩ = some (.slice VA vs.length VC) := HR1r.out.cell 0
    have t1 : wr.cell? ⟨w.heap.size, 1, none⟩ = some (.slice BA bs.length BC) := HR1r.out.cell 1
    have t2 := HR1r.out.lt
    have hBz : B ≤ wr.heap.size := by have := HBR.out.size; rw [← HBE.out] at this; exact this
    clear hol hog hne hbr
    by_cases hkl : k < vs.length
    · have r0 : (0 : Int) ≤ (k : Int) := by omega
      have r1 : (k : Int) < (vs.length : Int) := by omega
      have r3 : IntKind.i64.wrap ((k : Int) + 1) = ((k + 1 : Nat) : Int) := by rw [IntWalk.i64_in _ (by omega)]; omega
      have r4 : IntKind.i64.wrap ((vs.length : Int) - 1) = (vs.length : Int) - 1 := by rw [IntWalk.i64_in _ (by omega)]
      obtain ⟨b, o, rfl, hb, c0, c1, c2⟩ := rvs_at HSR.out hkl
      have HLK := Lib.hid (HLA.out k hkl)
      have HYES : Hid (goneR l vs[k] = true → ((vs.take (k + 1)).filter (goneR l)) = (vs.take k).filter (goneR l) ++ [vs[k]] ∧ ((vs.take (k + 1)).filter fun r => !goneR l r) = (vs.take k).filter fun r => !goneR l r) := fun h => ⟨take_filter_yes _ _ _ hkl h, take_filter_no _ _ _ hkl (by rw [h]; rfl)⟩
      have HNO : Hid (goneR l vs[k] = false → ((vs.take (k + 1)).filter (goneR l)) = (vs.take k).filter (goneR l) ∧ ((vs.take (k + 1)).filter fun r => !goneR l r) = ((vs.take k).filter fun r => !goneR l r) ++ [vs[k]]) := fun h => ⟨take_filter_no _ _ _ hkl h, take_filter_yes _ _ _ hkl (by rw [h]; rfl)⟩
      have HL1 : Hid (((vs.take k).filter fun r => !goneR l r).length ≤ 1000 ∧ ((vs.take k).filter (goneR l)).length ≤ 1000) := by
        have h0 : (vs.take k).length ≤ 1000 := by rw [List.length_take]; omega
        exact ⟨Nat.le_trans (List.length_filter_le _ _) h0, Nat.le_trans (List.length_filter_le _ _) h0⟩
      have HGD : Hid (goneR l vs[k] = (decide (vs[k].pins = 0) && decide (vs[k].num ≠ l))) := rfl
      generalize (vs.take k).filter (goneR l) = G at *
      generalize ((vs.take k).filter fun r => !goneR l r) = L at *
      generalize vs[k] = r at *
      obtain ⟨rn, rp, rb⟩ := r
      have c0 : wr.cell? ⟨b, o + k * 3, none⟩ = some (.int .i64 rn) := c0
      have c1 : wr.cell? ⟨b, o + k * 3 + 1, none⟩ = some (.int .i64 rp) := c1
      have c2 : wr.cell? ⟨b, o + k * 3 + 2, none⟩ = some (.int .i64 (rb : Nat)) := c2
      have HLK : Hid (rn ≠ l ↔ k < vs.length - 1) := HLK.out
      have HGD : Hid (goneR l ⟨rn, rp, rb⟩ = (decide (rp = 0) && decide (rn ≠ l))) := HGD.out
      cases hgo : goneR l ⟨rn, rp, rb⟩ with
      | true =>
        have hh := HGD.out
        rw [hgo] at hh
        have hh2 := Bool.and_eq_true_iff.1 hh.symm
        have q1 : (rp == 0) = true := by have := of_decide_eq_true hh2.1; simpa using this
        have q2 : (k : Int) < (vs.length : Int) - 1 := by have := HLK.out.1 (of_decide_eq_true hh2.2); omega
        have HY := Lib.hid (HYES.out hgo)
        clear hgo hh hh2 HYES HNO HLK HGD
        obtain ⟨W2, hW2⟩ : ∃ W2, W2 = wr.alloc (.cells #[.int .i64 rn] 3) := ⟨_, rfl⟩
        have hx2 : Ext wr W2 := by rw [hW2]; exact (Ext.refl wr).alloc _
        have hr2 : Row W2 wr.heap.size 3 [.int .i64 rn] := by rw [hW2]; exact Row.new wr _ _
        have HSN : Hid (Sl W2.heap.size W2 (some ⟨wr.heap.size, 0, none⟩) [.int .i64 rn]) := fun _ => ⟨wr.heap.size, 0, rfl, hr2.lt, fun i u hu => by rw [Nat.zero_add]; exact (hr2.cell i).trans hu⟩
        have HOL2 := Lib.hid (own_keep HOL.out hx2.below)
        have HOG2 := Lib.hid (own_keep HOG.out hx2.below)
        have HB2 := Lib.hid (Below.then HBR.out hx2.below HBR.out.size)
        have hBz2 : B ≤ W2.heap.size := Nat.le_trans hBz hx2.size
        have HW2 := Lib.hid hW2
        have HL2 : Hid (G.length + 1 ≤ 1000000) := by have := HL1.out.2; show _ ≤ _; omega
        clear hx2 hr2 hW2 HOL HOG HL1
        go_wp2_with (first
          | (at_builtin; rw [← HW2.out]; refine appXIntZ rfl (.tmp 29) (.tmp 36) rfl B u5 G.length ((G.map (·.num)).map (Value.int .i64)) rfl HOG2.out (some ⟨wr.heap.size, 0, none⟩) 1 1 [.int .i64 rn] rfl rfl HSN.out (by simp [Value.oneCell']) HL2.out hBz2 ?_; intro v5 w5 hown hg hat)
          | fail)
        have HO5 := Lib.hid hown
        have HOL5 : Hid (w5.ownsRow B 103 3 u4 L.length (L.flatMap rvC)) := own_grown HOL2.out hg fun x hx e => HNE.out x hx e.symm
        have HN5 : Hid (∀ x, u4.ownBlock = some x → v5.ownBlock ≠ some x) := fun x hx e => by
          rcases hat x e with h | h
          · exact HNE.out x hx h
          · have := own_lt HOL2.out x hx; omega
        have HB5 : Hid (Below B W0 w5) := by
          have h := HB2.out.grown hg HB2.out.size (fun k hk => by have := own_base HOG2.out hk; have := HBE.out; omega)
          show Below _ _ _
          rw [HBE.out]; exact h
        clear hown hg hat HOL2 HOG2 HB2 HSN HW2 t0 t1 t2 c0 c1 c2
        go_wp2_with fail
        go_roundw
        case rel =>
          refine ⟨k + 1, hkl, by go_num, ?_, ?_, HN5.out, HB5.out⟩
          · rw [HY.out.2]; exact HOL5.out
          · rw [HY.out.1, List.length_append, List.map_append, List.map_append]; exact HO5.out
        case measure => simp [intOf]; omega
      | false =>
        have hcs : (¬ rp = 0) ∨ (rp = 0 ∧ ¬ k < vs.length - 1) := by
          by_cases h0 : rp = 0
          · refine .inr ⟨h0, fun h1 => ?_⟩
            have hh := HGD.out
            rw [hgo, decide_eq_true h0, decide_eq_true (HLK.out.2 h1)] at hh
            cases hh
          · exact .inl h0
        have HY := Lib.hid (HNO.out hgo)
        clear hgo HYES HNO HLK HGD
        rcases hcs with h0 | ⟨h0, h1⟩
        · have q1 : (rp == 0) = false := by simpa using h0
          have HX0' := Lib.hid h0
          clear h0
          obtain ⟨W2, hW2⟩ : ∃ W2, W2 = wr.alloc (.cells #[.int .i64 rn, .int .i64 rp, .int .i64 (rb : Nat)] 103) := ⟨_, rfl⟩
          have hx2 : Ext wr W2 := by rw [hW2]; exact (Ext.refl wr).alloc _
          have hr2 : Row W2 wr.heap.size 103 [.int .i64 rn, .int .i64 rp, .int .i64 (rb : Nat)] := by rw [hW2]; exact Row.new wr _ _
          have HSN : Hid (Sl W2.heap.size W2 (some ⟨wr.heap.size, 0, none⟩) [.int .i64 rn, .int .i64 rp, .int .i64 (rb : Nat)]) := fun _ => ⟨wr.heap.size, 0, rfl, hr2.lt, fun i u hu => by rw [Nat.zero_add]; exact (hr2.cell i).trans hu⟩
          have HOL2 := Lib.hid (own_keep HOL.out hx2.below)
          have HOG2 := Lib.hid (own_keep HOG.out hx2.below)
          have HB2 := Lib.hid (Below.then HBR.out hx2.below HBR.out.size)
          have hBz2 : B ≤ W2.heap.size := Nat.le_trans hBz hx2.size
          have HW2 := Lib.hid hW2
          have HL2 : Hid (L.length + 1 ≤ 1000000) := by have := HL1.out.1; show _ ≤ _; omega
          clear hx2 hr2 hW2 HOL HOG HL1
          go_wp2_with (first
            | (at_builtin; rw [← HW2.out]; refine appXVer rfl (.tmp 38) (.tmp 44) rfl B u4 L.length (L.flatMap rvC) rfl HOL2.out (some ⟨wr.heap.size, 0, none⟩) 1 1 [.int .i64 rn, .int .i64 rp, .int .i64 (rb : Nat)] rfl rfl HSN.out (by simp [Value.oneCell']) HL2.out hBz2 ?_; intro v5 w5 hown hg hat)
            | fail)
          have HO5 := Lib.hid hown
          have HOG5 : Hid (w5.ownsRow B 3 1 u5 G.length ((G.map (·.num)).map (Value.int .i64))) := own_grown HOG2.out hg fun x hx e => HNE.out x e.symm hx
          have HN5 : Hid (∀ x, v5.ownBlock = some x → u5.ownBlock ≠ some x) := fun x hx e => by
            rcases hat x hx with h | h
            · exact HNE.out x h e
            · have := own_lt HOG2.out x e; omega
          have HB5 : Hid (Below B W0 w5) := by
            have h := HB2.out.grown hg HB2.out.size (fun k hk => by have := own_base HOL2.out hk; have := HBE.out; omega)
            show Below _ _ _
            rw [HBE.out]; exact h
          clear hown hg hat HOL2 HOG2 HB2 HSN HW2 t0 t1 t2 c0 c1 c2
          go_wp2_with fail
          go_roundw
          case rel =>
            refine ⟨k + 1, hkl, by go_num, ?_, ?_, HN5.out, HB5.out⟩
            · rw [HY.out.2, rvC_snoc, List.length_append]; exact HO5.out
            · rw [HY.out.1]; exact HOG5.out
          case measure => simp [intOf]; omega
        · have q1 : (rp == 0) = true := by simpa using h0
          have q2 : ¬ (k : Int) < (vs.length : Int) - 1 := by omega
          clear h0 h1
          obtain ⟨W2, hW2⟩ : ∃ W2, W2 = wr.alloc (.cells #[.int .i64 rn, .int .i64 rp, .int .i64 (rb : Nat)] 103) := ⟨_, rfl⟩
          have hx2 : Ext wr W2 := by rw [hW2]; exact (Ext.refl wr).alloc _
          have hr2 : Row W2 wr.heap.size 103 [.int .i64 rn, .int .i64 rp, .int .i64 (rb : Nat)] := by rw [hW2]; exact Row.new wr _ _
          have HSN : Hid (Sl W2.heap.size W2 (some ⟨wr.heap.size, 0, none⟩) [.int .i64 rn, .int .i64 rp, .int .i64 (rb : Nat)]) := fun _ => ⟨wr.heap.size, 0, rfl, hr2.lt, fun i u hu => by rw [Nat.zero_add]; exact (hr2.cell i).trans hu⟩
          have HOL2 := Lib.hid (own_keep HOL.out hx2.below)
          have HOG2 := Lib.hid (own_keep HOG.out hx2.below)
          have HB2 := Lib.hid (Below.then HBR.out hx2.below HBR.out.size)
          have hBz2 : B ≤ W2.heap.size := Nat.le_trans hBz hx2.size
          have HW2 := Lib.hid hW2
          have HL2 : Hid (L.length + 1 ≤ 1000000) := by have := HL1.out.1; show _ ≤ _; omega
          clear hx2 hr2 hW2 HOL HOG HL1
          go_wp2_with (first
            | (at_builtin; rw [← HW2.out]; refine appXVer rfl (.tmp 38) (.tmp 44) rfl B u4 L.length (L.flatMap rvC) rfl HOL2.out (some ⟨wr.heap.size, 0, none⟩) 1 1 [.int .i64 rn, .int .i64 rp, .int .i64 (rb : Nat)] rfl rfl HSN.out (by simp [Value.oneCell']) HL2.out hBz2 ?_; intro v5 w5 hown hg hat)
            | fail)
          have HO5 := Lib.hid hown
          have HOG5 : Hid (w5.ownsRow B 3 1 u5 G.length ((G.map (·.num)).map (Value.int .i64))) := own_grown HOG2.out hg fun x hx e => HNE.out x e.symm hx
          have HN5 : Hid (∀ x, v5.ownBlock = some x → u5.ownBlock ≠ some x) := fun x hx e => by
            rcases hat x hx with h | h
            · exact HNE.out x h e
            · have := own_lt HOG2.out x e; omega
          have HB5 : Hid (Below B W0 w5) := by
            have h := HB2.out.grown hg HB2.out.size (fun k hk => by have := own_base HOL2.out hk; have := HBE.out; omega)
            show Below _ _ _
            rw [HBE.out]; exact h
          clear hown hg hat HOL2 HOG2 HB2 HSN HW2 t0 t1 t2 c0 c1 c2
          go_wp2_with fail
          go_roundw
          case rel =>
            refine ⟨k + 1, hkl, by go_num, ?_, ?_, HN5.out, HB5.out⟩
            · rw [HY.out.2, rvC_snoc, List.length_append]; exact HO5.out
            · rw [HY.out.1]; exact HOG5.out
          case measure => simp [intOf]; omega
    · obtain rfl : k = vs.length := by omega
      have r1 : ¬ (vs.length : Int) < (vs.length : Int) := by omega
      rw [List.take_length] at HOL HOG
      obtain ⟨AL, CL, rfl, -, -, hsl⟩ := own_cut HOL.out (by decide)
      obtain ⟨AG, CG, rfl, -, -, hsg⟩ := own_cut HOG.out (by decide)
      have HBL : Hid (Below w.heap.size w wr) := Below.then HX0.out.below HBR.out HX0.out.size
      have m0 : wr.cell? ⟨w.heap.size + 1, 0, none⟩ = some (.slice none 0 0) := HR2r.out.cell 0
      have m1 : wr.cell? ⟨w.heap.size + 1, 1, none⟩ = some (.slice none 0 0) := HR2r.out.cell 1
      have m2 := HR2r.out.frozen 0
      have m3 := HR2r.out.frozen 1
      have m4 := HR2r.out.lt
      have HSLL : Hid (Sl wr.heap.size wr AL ((vs.filter fun r => !goneR l r).flatMap rvC) ∧ ∀ b, AL = some b → b.block ≠ w.heap.size + 1) := ⟨fun hne => by
        obtain ⟨b, rfl, hb, hc⟩ := hsl hne
        exact ⟨b, 0, rfl, hb, fun i u hu => by rw [Nat.zero_add]; exact hc i u hu⟩, fun b hb => by
        have := own_base HOL.out (k := b.block) (by rw [hb]; rfl)
        omega⟩
      have HSLG : Hid (Sl wr.heap.size wr AG (((vs.filter (goneR l)).map (·.num)).map (Value.int .i64)) ∧ ∀ b, AG = some b → b.block ≠ w.heap.size + 1) := ⟨fun hne => by
        obtain ⟨b, rfl, hb, hc⟩ := hsg hne
        exact ⟨b, 0, rfl, hb, fun i u hu => by rw [Nat.zero_add]; exact hc i u hu⟩, fun b hb => by
        have := own_base HOG.out (k := b.block) (by rw [hb]; rfl)
        omega⟩
      clear hsl hsg
      go_wp2_with fail
      obtain ⟨W9, hW9⟩ : ∃ W, W = (wr.setCell ⟨w.heap.size + 1, 0, none⟩ (.slice AL (vs.filter fun r => !goneR l r).length CL)).setCell ⟨w.heap.size + 1, 1, none⟩ (.slice BA bs.length BC) := ⟨_, rfl⟩
      rw [← hW9]
      have q := HR2r.out.set2 (.slice AL (vs.filter fun r => !goneR l r).length CL) (.slice BA bs.length BC)
      rw [← hW9] at q
      have c0 := q.cell 0
      have c1 := q.cell 1
      have hb9 : Below w.heap.size w W9 := by rw [hW9]; exact (HBL.out.setCell (by show w.heap.size ≤ w.heap.size + 1; omega) _).setCell (by show w.heap.size ≤ w.heap.size + 1; omega) _
      have hst : ∀ (A : Option Addr) (xs : List Value), Sl wr.heap.size wr A xs → (∀ b, A = some b → b.block ≠ w.heap.size + 1) → Sl W9.heap.size W9 A xs := fun A xs hA hne hx => by
        obtain ⟨b, o, rfl, hb, hc⟩ := hA hx
        have hn : w.heap.size + 1 ≠ b := fun e => hne _ rfl e.symm
        refine ⟨b, o, rfl, by rw [hW9]; simpa using hb, fun j u hu => ?_⟩
        rw [hW9]
        exact far_cell hn (far_cell hn (hc j u hu))
      exact bodyPost_ret (v := .tuple #[.agg #[.slice AL (vs.filter fun r => !goneR l r).length CL, .slice BA bs.length BC], .slice AG (vs.filter (goneR l)).length CG]) (by simp [results, Try.results43, go_sem, c0, c1]) rfl
        ⟨_, AG, CG, rfl, (by
          obtain ⟨VA', VC', BA', BC', hds', e', hall⟩ := HS.out
          simp at e'
          obtain ⟨-, e2, e3⟩ := e'
          subst e2 e3
          exact ⟨AL, CL, BA, BC, hds', rfl, fun w'' hs'' => ⟨sl_stay (hst _ _ HSLL.out.1 HSLL.out.2) (fun ad e => HPN.out _ (by
            have h1 := own_base HOL.out (k := ad.block) (by rw [e]; rfl)
            omega)) hs'', (hall w'' ((Stay.of hb9).trans hs'')).2⟩⟩), hst _ _ HSLG.out.1 HSLG.out.2, hb9⟩
end Go.Proofs.Ytgaffbdcpkbdhaa
end

section
/- Walk: the reference's Updates. -/
namespace Go.Proofs.Ytgaffbdcpkbdhaa
open Go.RowKit Go.Sort Go.ChangeMaps Go.WideShapes

theorem flatten_len (bs : List (List Upd)) (h : ∀ us ∈ bs, us.length ≤ 12) : bs.flatten.length ≤ bs.length * 12 := by
  induction bs with
  | nil => exact Nat.zero_le _
  | cons a t ih =>
    rw [List.flatten_cons, List.length_append, List.length_cons]
    have h1 := h a List.mem_cons_self
    have h2 := ih fun us hus => h us (List.mem_cons_of_mem _ hus)
    omega
theorem take_flatten (bs : List (List Upd)) (k : Nat) (h : k < bs.length) : (bs.take (k + 1)).flatten = (bs.take k).flatten ++ bs[k] := by
  rw [List.take_succ_eq_append_getElem h, List.flatten_append, List.flatten_singleton]

def UpsPost (U : List Upd) (w : World) (e : Ending) (w' : World) : Prop := ∃ A C, e = .returned (.slice A U.length C) ∧ UpdsM w'.heap.size w' A U ∧ Below w.heap.size w w'

set_option maxHeartbeats 8000000 in
set_option maxRecDepth 100000 in
theorem r16Updates_any (val : Value) (vs : List RV) (bs : List (List Upd)) (n : Int) (w : World) (hs : RStM w val vs bs) (hl : vs.length ≤ 1000) (hbl : bs.length ≤ 1000) (hus : ∀ us ∈ bs, us.length ≤ 12) (r : RV) (hr : findR vs n = some r) (hrb : r.bat ≤ bs.length) :
    Calls Try.prog 41 #[val, .int .i64 n] w (UpsPost (bs.take r.bat).flatten w) := by
  obtain ⟨VA, VC, BA, BC, hds, rfl, h1, h2, h3⟩ := hs
  obtain ⟨U, hU⟩ : ∃ U, U = (bs.take r.bat).flatten := ⟨_, rfl⟩
  rw [← hU]
  have HUE := Lib.hid hU
  clear hU
  obtain ⟨W0, hW0⟩ : ∃ W0, W0 = w.alloc (.cells #[.slice VA vs.length VC, .slice BA bs.length BC] 66) := ⟨_, rfl⟩
  have hx0 : Ext w W0 := by rw [hW0]; exact (Ext.refl w).alloc _
  have hr1 : Row W0 w.heap.size 66 [.slice VA vs.length VC, .slice BA bs.length BC] := by rw [hW0]; exact Row.new w _ _
  have HF := Lib.hid (r16find_any VA BA VC BC bs.length vs n W0 ((Sl.below h1 hx0.below (Nat.le_refl _)).more hx0.size) (by omega))
  have HX0 := Lib.hid hx0
  have HR1 := Lib.hid hr1
  have HSL := Lib.hid h1
  have HBT := Lib.hid (And.intro h2 h3)
  have HRR := Lib.hid hr
  have HUS := Lib.hid hus
  have k0 : W0.cell? ⟨w.heap.size, 0, none⟩ = some (.slice VA vs.length VC) := hr1.cell 0
  have k1 : W0.cell? ⟨w.heap.size, 1, none⟩ = some (.slice BA bs.length BC) := hr1.cell 1
  have k2 := hr1.lt
  have HW0 := Lib.hid hW0
  clear hx0 hr1 h1 h2 h3 hr hus hW0
  go_enter Try.func41, Try.ntmps41
  go_upto_region 2 with (fail)
  rw [← HW0.out]
  clear HW0
  go_wp2_with fail
  clear k0 k1 k2
  refine HF.out.mono ?_
  rintro e w1 ⟨z, rfl, hz, hx1⟩
  rcases hz with ⟨rfl, hz⟩ | ⟨i, hi, rfl, hn, hf⟩
  · have h := HRR.out
    rw [hz] at h
    cases h
  have hri : r = vs[i] := Option.some.inj (HRR.out.symm.trans hf)
  obtain ⟨B, hB⟩ : ∃ B, B = w1.heap.size := ⟨_, rfl⟩
  have HB01 := Lib.hid (Below.then HX0.out.below hx1.below HX0.out.size)
  have HSL1 := Lib.hid ((Sl.below HSL.out HB01.out (Nat.le_refl _)).more HB01.out.size)
  have HBC1 := Lib.hid ((HBT.out.1.below HB01.out (Nat.le_refl _)).more HB01.out.size)
  have HBS1 := Lib.hid ((Sl.below HBT.out.2 HB01.out (Nat.le_refl _)).more HB01.out.size)
  have HR11 := Lib.hid (HR1.out.up hx1.below)
  obtain ⟨b, o, rfl, hb, -, -, c2⟩ := rvs_at HSL1.out hi
  rw [← hri] at c2
  have HC2 := Lib.hid c2
  have HBE := Lib.hid hB
  clear hx1 hn hf HF HR1 c2 hB HRR hri
  go_wp2_with fail
  go_loopw [5, 7] (fun vo c wx => ∃ (k : Nat) (cs : List Value), k ≤ r.bat ∧ c = .int .i64 k ∧ wx.ownsRow B 56 3 vo (bs.take k).flatten.length cs ∧ UpdCs B wx (bs.take k).flatten cs ∧ Below B w1 wx) (fun _ c _ => r.bat - (intOf c).toNat)
  case atStart => exact ⟨0, [], Nat.zero_le _, rfl, own_nil _ _ _ _, UpdCs.nil, Below.refl _ _⟩
  case round =>
    obtain ⟨k, cs, hk, rfl, ho, hcs, hbr⟩ := hrel
    have HO := Lib.hid ho
    have HCS := Lib.hid hcs
    have HBR : Hid (Below w1.heap.size w1 wr) := by have := HBE.out; show Below _ _ _; rw [← this]; exact hbr
    have hr := HR11.out.up HBR.out
    have t0 : wr.cell? ⟨w.heap.size, 0, none⟩ = some (.slice (some ⟨b, o, none⟩) vs.length VC) := hr.cell 0
    have t1 : wr.cell? ⟨w.heap.size, 1, none⟩ = some (.slice BA bs.length BC) := hr.cell 1
    have t2 := hr.lt
    have c2 := (HBR.out.cell (p := ⟨b, o + i * 3 + 2, none⟩) hb).trans HC2.out
    have c3 := Nat.lt_of_lt_of_le hb HBR.out.size
    have hBz : B ≤ wr.heap.size := by have := HBR.out.size; rw [← HBE.out] at this; exact this
    have g0 : (0 : Int) ≤ (i : Int) := by omega
    have g1 : (i : Int) < (vs.length : Int) := by omega
    clear ho hcs hbr hr
    by_cases hkb : k < r.bat
    · have r1 : (k : Int) < (r.bat : Int) := by omega
      have r3 : IntKind.i64.wrap ((k : Int) + 1) = ((k + 1 : Nat) : Int) := by rw [IntWalk.i64_in _ (by omega)]; omega
      have g2 : (0 : Int) ≤ (k : Int) := by omega
      have hkl : k < bs.length := by omega
      have g3 : (k : Int) < (bs.length : Int) := by omega
      obtain ⟨UA, UC, hat, hu⟩ := HBC1.out.at_ k hkl
      obtain ⟨bb, bo, rfl, hbb, hbc⟩ := HBS1.out (by intro h0; rw [h0] at hat; simp at hat)
      have d0 := (HBR.out.cell (p := ⟨bb, bo + k, none⟩) hbb).trans (hbc k _ hat)
      have d1 := Nat.lt_of_lt_of_le hbb HBR.out.size
      obtain ⟨ns, hns, hsl⟩ := hu.cs
      have HNS : Hid (UpdCs B wr bs[k] ns) := by
        show UpdCs _ _ _ _
        have := hns.below HBR.out (Nat.le_refl _)
        rwa [← HBE.out] at this
      have HSN : Hid (Sl wr.heap.size wr UA ns) := (Sl.below hsl HBR.out (Nat.le_refl _)).more HBR.out.size
      have HTF := Lib.hid (take_flatten bs k hkl)
      have HLE : Hid ((bs.take k).flatten.length + bs[k].length ≤ 1000000) := by
        have h1 := flatten_len (bs.take k) fun us hu => HUS.out us (List.mem_of_mem_take hu)
        have h2 := HUS.out bs[k] (List.getElem_mem hkl)
        have h3 : (bs.take k).length ≤ 1000 := by rw [List.length_take]; omega
        show _ ≤ _
        omega
      clear hat hu hbc hns hsl
      generalize bs[k] = ub at *
      generalize (bs.take k).flatten = us at *
      go_wp2_with (first
        | (at_builtin; refine appXUpd rfl (.tmp 25) (.tmp 30) rfl B u5 us.length cs rfl HO.out UA ub.length UC ns rfl HNS.out.len HSN.out HNS.out.one HLE.out hBz ?_; intro v5 w5 hown hg hat)
        | fail)
      have HO5 := Lib.hid hown
      have HB5 : Hid (Below B wr w5) := (Below.refl B wr).grown hg hBz (fun k hk => own_base HO.out hk)
      have HB15 : Hid (Below B w1 w5) := by
        have h := HBR.out.grown hg HBR.out.size (fun k hk => by have := own_base HO.out hk; have := HBE.out; omega)
        show Below _ _ _
        rw [HBE.out]; exact h
      have HC5 : Hid (UpdCs B w5 (us ++ ub) (cs ++ ns)) := (HCS.out.below HB5.out (Nat.le_refl _)).append (HNS.out.below HB5.out (Nat.le_refl _))
      clear hown hg hat t0 t1 t2 c2 c3 d0 d1 HO HCS HBR HNS HSN
      go_wp2_with fail
      go_roundw
      case rel =>
        refine ⟨k + 1, cs ++ ns, hkb, by go_num, ?_, ?_, HB15.out⟩
        · rw [HTF.out, List.length_append]; exact HO5.out
        · rw [HTF.out]; exact HC5.out
      case measure => simp [intOf]; omega
    · obtain rfl : k = r.bat := by omega
      have r1 : ¬ (r.bat : Int) < (r.bat : Int) := by omega
      rw [← HUE.out] at HO HCS
      obtain ⟨A, C, rfl, -, -, hM⟩ := own_updsM HO.out (HCS.out.more hBz)
      have HM := Lib.hid hM
      have HBW := Lib.hid (Below.then HB01.out HBR.out HB01.out.size)
      clear hM
      go_wp2_with fail
      exact bodyPost_ret (v := .slice A U.length C) (by simp [results, Try.results41, go_sem]) rfl ⟨A, C, rfl, HM.out, HBW.out⟩

end Go.Proofs.Ytgaffbdcpkbdhaa
end

section
/- Drawn regions in which many operations are free: an invariant that each operation keeps, whatever order is picked. -/
namespace Go.Proofs.Ytgaffbdcpkbdhaa
open Go.RowKit Go.Sort

section
variable {P : Program} {ops : Array Oper} {Q : Exit → Act → World → Prop} {md : Region.Mode} {S : World → Prop}

theorem wpAnyH_inv (I : Nat → Array Bool → Act → World → Prop) (h0 : ∀ l a w, I 0 l a w → Region.ready md ops l = [] ∧ Q .normal a w) (h1 : ∀ n l a w, I (n + 1) l a w → Region.ready md ops l ≠ [])
    (hs : ∀ n l a w i, I (n + 1) l a w → i ∈ Region.ready md ops l → wpOp P ops Q i (fun a' w' => S w' ∧ I n (l.setIfInBounds i true) a' w') a w) :
    ∀ n l a w, I n l a w → wpAnyH P md ops Q S n l a w
  | 0, l, a, w, h => h0 l a w h
  | n + 1, l, a, w, h => ⟨fun h' => absurd h' (h1 n l a w h), fun i hi => wpOp_mono (fun a' w' h' => ⟨h'.1, wpAnyH_inv I h0 h1 hs n _ a' w' h'.2⟩) (hs n l a w i h hi)⟩
theorem wpOp_shut {i : Nat} {o : Oper} {K : Act → World → Prop} {a : Act} {w : World} (ho : ops[i]? = some o)
    (h : ∀ K' : Act → World → Prop, Shut (∀ a w, K a w → K' a w) → if Region.wanted o (yielded ops a.tmps) = true then Oper.wp P o a w K' Q else K' (a.put o.dst undef) w) : wpOp P ops Q i K a w :=
  wpOp_step ho fun K' hK => h K' hK
theorem ready_pred1 {listed : Array Bool} {i j : Nat} (hr : j ∈ Region.ready md ops listed) (hp : (preds md ops j).contains i = true) : listed.getD i false = true := ready_preds hr i (by simpa using hp)
theorem ready_off {listed : Array Bool} {j : Nat} (hr : j ∈ Region.ready md ops listed) : listed.getD j true = false := (mem_ready.1 hr).1
theorem ready_some {listed : Array Bool} {j : Nat} {o : Oper} (ho : ops[j]? = some o) (hl : listed.getD j true = false) (ha : ∀ e ∈ o.after, Region.binds md e = true → listed.getD e.on false = true) : Region.ready md ops listed ≠ [] := fun h => by
  have : j ∈ Region.ready md ops listed := mem_ready.2 ⟨hl, o, ho, ha⟩
  rw [h] at this
  cases this
end

end Go.Proofs.Ytgaffbdcpkbdhaa
end

section
/- Walk: the reference's Commit. Its region has free allocations: an invariant over all orders. -/
namespace Go.Proofs.Ytgaffbdcpkbdhaa
open Go.RowKit Go.Sort Go.ChangeMaps Go.WideShapes

/-- Two rows of the call's own that grow side by side, and two small blocks. -/
structure TwoOwn (B : Nat) (W0 w : World) (cA : Value) (nA : Nat) (xA : List Value) (cB : Value) (nB : Nat) (xB : List Value) (o12 o19 : Option Nat) (c12 c19 : List Value) : Prop where
  a : w.ownsRow B 103 3 cA nA xA
  b : w.ownsRow B 49 1 cB nB xB
  r12 : ∀ g, o12 = some g → Row w g 103 c12 ∧ B ≤ g ∧ cA.ownBlock ≠ some g ∧ cB.ownBlock ≠ some g
  r19 : ∀ g, o19 = some g → Row w g 49 c19 ∧ B ≤ g ∧ cA.ownBlock ≠ some g ∧ cB.ownBlock ≠ some g
  ab : ∀ g, cA.ownBlock = some g → cB.ownBlock ≠ some g
  bl : Below B W0 w
  sz : B ≤ w.heap.size
section
variable {B : Nat} {W0 w : World} {cA : Value} {nA : Nat} {xA : List Value} {cB : Value} {nB : Nat} {xB : List Value} {o12 o19 : Option Nat} {c12 c19 : List Value}
theorem TwoOwn.ext {w' : World} (h : TwoOwn B W0 w cA nA xA cB nB xB o12 o19 c12 c19) (hx : Ext w w') : TwoOwn B W0 w' cA nA xA cB nB xB o12 o19 c12 c19 :=
  ⟨own_keep h.a hx.below, own_keep h.b hx.below, fun g e => ⟨(h.r12 g e).1.up hx.below, (h.r12 g e).2⟩, fun g e => ⟨(h.r19 g e).1.up hx.below, (h.r19 g e).2⟩, h.ab, Below.then h.bl hx.below h.sz, Nat.le_trans h.sz hx.size⟩
theorem own_ne_new {v : Value} {base : Nat} {e : TypeId} {size n : Nat} {xs : List Value} (h : w.ownsRow base e size v n xs) : v.ownBlock ≠ some w.heap.size := fun e => Nat.lt_irrefl _ (own_lt h _ e)
theorem TwoOwn.newA (h : TwoOwn B W0 w (.slice none 0 0) 0 [] cB nB xB o12 o19 c12 c19) : TwoOwn B W0 (w.alloc (.cells #[] 103)) (.slice (some ⟨w.heap.size, 0, none⟩) 0 0) 0 [] cB nB xB o12 o19 c12 c19 := by
  have k := h.ext ((Ext.refl w).alloc (.cells #[] 103))
  refine ⟨own_empty16 w B _ _ h.sz, k.b, fun g e => ⟨(k.r12 g e).1, (k.r12 g e).2.1, fun e2 => ?_, (k.r12 g e).2.2.2⟩, fun g e => ⟨(k.r19 g e).1, (k.r19 g e).2.1, fun e2 => ?_, (k.r19 g e).2.2.2⟩, fun g e e2 => ?_, k.bl, k.sz⟩
  · have := (h.r12 g e).1.lt; injection e2 with e2; have e2 : w.heap.size = g := e2; omega
  · have := (h.r19 g e).1.lt; injection e2 with e2; have e2 : w.heap.size = g := e2; omega
  · injection e with e; subst e; exact own_ne_new h.b e2
theorem TwoOwn.newB (h : TwoOwn B W0 w cA nA xA (.slice none 0 0) 0 [] o12 o19 c12 c19) : TwoOwn B W0 (w.alloc (.cells #[] 49)) cA nA xA (.slice (some ⟨w.heap.size, 0, none⟩) 0 0) 0 [] o12 o19 c12 c19 := by
  have k := h.ext ((Ext.refl w).alloc (.cells #[] 49))
  refine ⟨k.a, own_empty16 w B _ _ h.sz, fun g e => ⟨(k.r12 g e).1, (k.r12 g e).2.1, (k.r12 g e).2.2.1, fun e2 => ?_⟩, fun g e => ⟨(k.r19 g e).1, (k.r19 g e).2.1, (k.r19 g e).2.2.1, fun e2 => ?_⟩, fun g e e2 => ?_, k.bl, k.sz⟩
  · have := (h.r12 g e).1.lt; injection e2 with e2; have e2 : w.heap.size = g := e2; omega
  · have := (h.r19 g e).1.lt; injection e2 with e2; have e2 : w.heap.size = g := e2; omega
  · injection e2 with e2; subst e2; exact own_ne_new h.a e
theorem TwoOwn.put12 (h : TwoOwn B W0 w cA nA xA cB nB xB o12 o19 c12 c19) (c : List Value) : TwoOwn B W0 (w.alloc (.cells c.toArray 103)) cA nA xA cB nB xB (some w.heap.size) o19 c c19 := by
  have k := h.ext ((Ext.refl w).alloc (.cells c.toArray 103))
  exact ⟨k.a, k.b, fun g e => (by cases e; exact ⟨Row.new w _ _, h.sz, own_ne_new h.a, own_ne_new h.b⟩), k.r19, k.ab, k.bl, k.sz⟩
theorem TwoOwn.put19 (h : TwoOwn B W0 w cA nA xA cB nB xB o12 o19 c12 c19) (c : List Value) : TwoOwn B W0 (w.alloc (.cells c.toArray 49)) cA nA xA cB nB xB o12 (some w.heap.size) c12 c := by
  have k := h.ext ((Ext.refl w).alloc (.cells c.toArray 49))
  exact ⟨k.a, k.b, k.r12, fun g e => (by cases e; exact ⟨Row.new w _ _, h.sz, own_ne_new h.a, own_ne_new h.b⟩), k.ab, k.bl, k.sz⟩
theorem TwoOwn.growA {w' : World} {v : Value} {n : Nat} {xs : List Value} (h : TwoOwn B W0 w cA nA xA cB nB xB o12 o19 c12 c19) (hown : w'.ownsRow B 103 3 v n xs) (hg : w.grownBy w' cA.ownBlock) (hat : ∀ b, v.ownBlock = some b → cA.ownBlock = some b ∨ b = w.heap.size) : TwoOwn B W0 w' v n xs cB nB xB o12 o19 c12 c19 := by
  refine ⟨hown, own_grown h.b hg fun k hk e => h.ab k e.symm hk, fun g e => ?_, fun g e => ?_, fun g e e2 => ?_, h.bl.grown hg h.sz fun k hk => own_base h.a hk, Nat.le_trans h.sz hg.size⟩
  · obtain ⟨a1, a2, a3, a4⟩ := h.r12 g e
    refine ⟨a1.grown hg fun e => a3 e.symm, a2, fun e2 => ?_, a4⟩
    rcases hat g e2 with h1 | h1
    · exact a3 h1
    · have := a1.lt; omega
  · obtain ⟨a1, a2, a3, a4⟩ := h.r19 g e
    refine ⟨a1.grown hg fun e => a3 e.symm, a2, fun e2 => ?_, a4⟩
    rcases hat g e2 with h1 | h1
    · exact a3 h1
    · have := a1.lt; omega
  · rcases hat g e with h1 | h1
    · exact h.ab g h1 e2
    · subst h1; exact own_ne_new h.b e2
theorem TwoOwn.growB {w' : World} {v : Value} {n : Nat} {xs : List Value} (h : TwoOwn B W0 w cA nA xA cB nB xB o12 o19 c12 c19) (hown : w'.ownsRow B 49 1 v n xs) (hg : w.grownBy w' cB.ownBlock) (hat : ∀ b, v.ownBlock = some b → cB.ownBlock = some b ∨ b = w.heap.size) : TwoOwn B W0 w' cA nA xA v n xs o12 o19 c12 c19 := by
  refine ⟨own_grown h.a hg fun k hk e => h.ab k hk e.symm, hown, fun g e => ?_, fun g e => ?_, fun g e e2 => ?_, h.bl.grown hg h.sz fun k hk => own_base h.b hk, Nat.le_trans h.sz hg.size⟩
  · obtain ⟨a1, a2, a3, a4⟩ := h.r12 g e
    refine ⟨a1.grown hg fun e => a4 e.symm, a2, a3, fun e2 => ?_⟩
    rcases hat g e2 with h1 | h1
    · exact a4 h1
    · have := a1.lt; omega
  · obtain ⟨a1, a2, a3, a4⟩ := h.r19 g e
    refine ⟨a1.grown hg fun e => a4 e.symm, a2, a3, fun e2 => ?_⟩
    rcases hat g e2 with h1 | h1
    · exact a4 h1
    · have := a1.lt; omega
  · rcases hat g e2 with h1 | h1
    · exact h.ab g e h1
    · subst h1; exact own_ne_new h.a e
end


def lstC (p : Nat) (d14 d19 : Bool) : Array Bool := #[decide (1 ≤ p), true, true, decide (2 ≤ p), true, decide (3 ≤ p), decide (4 ≤ p), true, true, true, true, decide (5 ≤ p), decide (6 ≤ p), decide (7 ≤ p), d14, true, true, decide (8 ≤ p), true, d19, decide (9 ≤ p), decide (10 ≤ p), decide (11 ≤ p)]
def valC (p : Nat) (d14 d19 : Bool) : Bool := decide (p ≤ 11) && (d14 || decide (p ≤ 7)) && (d19 || decide (p ≤ 8))
def armC (i p : Nat) (d14 d19 : Bool) : Bool := (i == 0 && p == 0) || (i == 3 && p == 1) || (i == 5 && p == 2) || (i == 6 && p == 3) || (i == 11 && p == 4) || (i == 12 && p == 5) || (i == 13 && p == 6) || (i == 17 && (p == 7 && d14)) || (i == 20 && (p == 8 && d19)) || (i == 21 && p == 9) || (i == 22 && p == 10) || (i == 14 && !d14) || (i == 19 && !d19)
def chkC (ops : Array Oper) : Bool := (List.range 12).all fun p => [true, false].all fun d14 => [true, false].all fun d19 => !(valC p d14 d19) || (if p = 11 then (Region.ready .any ops (lstC p d14 d19)).isEmpty else !(Region.ready .any ops (lstC p d14 d19)).isEmpty && (Region.ready .any ops (lstC p d14 d19)).all fun i => armC i p d14 d19)
theorem chkC_spec {ops : Array Oper} (h : chkC ops = true) {p : Nat} {d14 d19 : Bool} (hv : valC p d14 d19 = true) : (p = 11 → Region.ready .any ops (lstC p d14 d19) = []) ∧ (p ≠ 11 → Region.ready .any ops (lstC p d14 d19) ≠ [] ∧ ∀ i ∈ Region.ready .any ops (lstC p d14 d19), armC i p d14 d19 = true) := by
  have hp : p < 12 := by
    unfold valC at hv
    simp only [Bool.and_eq_true, decide_eq_true_eq] at hv
    omega
  unfold chkC at h
  have h1 := List.all_eq_true.1 h p (List.mem_range.2 hp)
  have h2 := List.all_eq_true.1 h1 d14 (by cases d14 <;> simp)
  have h3 := List.all_eq_true.1 h2 d19 (by cases d19 <;> simp)
  simp only [hv, Bool.not_true, Bool.false_or] at h3
  refine ⟨fun e => ?_, fun e => ?_⟩
  · rw [if_pos e] at h3
    exact List.isEmpty_iff.1 h3
  · rw [if_neg e] at h3
    simp only [Bool.and_eq_true, Bool.not_eq_true', List.all_eq_true] at h3
    refine ⟨fun h0 => ?_, h3.2⟩
    rw [h0] at h3
    exact absurd h3.1 (by decide)
def curA (p : Nat) (c1 c2 c3 : Value) : Value := if p = 0 then .slice none 0 0 else if p = 1 then c1 else if p ≤ 6 then c2 else c3
def curB (p : Nat) (d14 : Bool) (c1 c2 c3 : Value) : Value := if d14 = false then .slice none 0 0 else if p ≤ 7 then c1 else if p = 8 then c2 else c3
def actC (z : Nat) (VA : Option Addr) (L VC : Nat) (UA : Option Addr) (ul UC : Nat) (BA : Option Addr) (lb BC m15 : Nat) (q q1 : Int) (p : Nat) (d14 d19 : Bool) (c1 c2 c3 e1 e2 e3 : Value) (g12 g19 : Nat) : Act :=
  ⟨#[.agg #[.slice VA L VC, .slice BA lb BC], .slice UA ul UC, .pointer (some ⟨z, 0, none⟩), undef, .pointer (some ⟨z + 1, 0, none⟩), if 1 ≤ p then c1 else undef,
    .pointer (some ⟨z, 0, none⟩), .slice VA L VC, if 2 ≤ p then c2 else undef, .agg #[.slice VA L VC, .slice BA lb BC], if 3 ≤ p then .int .i64 q else undef, if 4 ≤ p then .int .i64 q1 else undef,
    .pointer (some ⟨z, 1, none⟩), .slice BA lb BC, .int .i64 lb, .int .i64 m15, if 5 ≤ p then .agg #[.int .i64 q1, .int .i64 0, .int .i64 m15] else undef, if 6 ≤ p then .slice (some ⟨g12, 0, none⟩) 1 1 else undef,
    if 7 ≤ p then c3 else undef, if d14 = true then e1 else undef, .pointer (some ⟨z, 1, none⟩), .slice BA lb BC, if 8 ≤ p then e2 else undef, .slice UA ul UC, if d19 = true then .slice (some ⟨g19, 0, none⟩) 1 1 else undef, if 9 ≤ p then e3 else undef, if 10 ≤ p then .agg #[c3, e3] else undef], []⟩
def cntC (b : Bool) : Nat := cond b 0 1
def stC (B : Nat) (W0 : World) (z L : Nat) (X N : List Value) (lb : Nat) (Y M : List Value) (p : Nat) (d14 d19 : Bool) (c1 c2 c3 e1 e2 e3 : Value) (g12 g19 : Nat) (wx : World) : Prop :=
  if p = 11 then ∃ W, TwoOwn B W0 W c3 (L + 1) (X ++ N) e3 (lb + 1) (Y ++ M) (some g12) (some g19) N M ∧ wx = (W.setCell ⟨z + 1, 0, none⟩ c3).setCell ⟨z + 1, 1, none⟩ e3
  else TwoOwn B W0 wx (curA p c1 c2 c3) (if p ≤ 1 then 0 else if p ≤ 6 then L else L + 1) (if p ≤ 1 then [] else if p ≤ 6 then X else X ++ N) (curB p d14 e1 e2 e3) (if p ≤ 7 then 0 else if p = 8 then lb else lb + 1) (if p ≤ 7 then [] else if p = 8 then Y else Y ++ M) (if 6 ≤ p then some g12 else none) (if d19 = true then some g19 else none) N M

end Go.Proofs.Ytgaffbdcpkbdhaa
end

/- Parts of the proof, merged: G10, G11, Y11, Y14, Y20, Y21, Y22, Y23. -/
import Derived.Test.YthgaflmldbgbnaaGreatDoorQ4
import Derived.Test.YthgaflmldbgbnaaGreatDoorQ3
import Derived.Test.YthgaflmldbgbnaaGreatDoorQ1

set_option maxRecDepth 100000
namespace Go.Proofs.YthgaflmldbgbnaaGreatDoor
section
open Go.RowKit Go.Sort

def errC (X : List RA) : Int := if 32 < X.length then 12 else match X.find? (fun a => errAt 32 a != 0) with
  | some a => errAt 32 a
  | none => 0
theorem errC_at {X : List RA} {k : Nat} (hX : ¬ 32 < X.length) (hk : k < X.length) (h0 : ∀ j (hj : j < X.length), j < k → errAt 32 X[j] = 0) (hne : errAt 32 X[k] ≠ 0) : errC X = errAt 32 X[k] := by
  unfold errC
  rw [if_neg hX]
  have e : X.find? (fun a => errAt 32 a != 0) = some X[k] := by
    rw [List.find?_eq_some_iff_getElem]
    refine ⟨by simpa using hne, k, hk, rfl, fun j hj => ?_⟩
    simp [h0 j (by omega) hj]
  rw [e]
theorem errC_end {X : List RA} (hX : ¬ 32 < X.length) (h0 : ∀ j (hj : j < X.length), errAt 32 X[j] = 0) : errC X = 0 := by
  unfold errC
  rw [if_neg hX]
  have e : X.find? (fun a => errAt 32 a != 0) = none := by
    rw [List.find?_eq_none]
    intro a ha
    obtain ⟨j, hj, rfl⟩ := List.getElem_of_mem ha
    simp [h0 j hj]
  rw [e]
theorem errC_zero {X : List RA} (h : errC X = 0) : X.length ≤ 32 ∧ ∀ a ∈ X, errAt 32 a = 0 := by
  unfold errC at h
  split at h
  · cases h
  · rename_i h1
    refine ⟨by omega, fun a ha => ?_⟩
    split at h
    · rename_i b hb
      have := List.find?_some hb
      rw [h] at this
      simp at this
    · rename_i hb
      have := List.find?_eq_none.1 hb a ha
      simpa using this

set_option maxHeartbeats 8000000 in
theorem sjCheck_any (AA : Option Addr) (AC : Nat) (X : List RA) (w : World) (hA : AtsM w.heap.size w AA X) (hXl : X.length ≤ 9223372036854775807) (hvl : ∀ a ∈ X, a.vs.length ≤ 1000000) :
    Calls Tryz.prog 28 #[.slice AA X.length AC] w fun e w' => e = .returned (.int .i64 (errC X)) ∧ Below w.heap.size w w' := by
  have HA := Lib.hid hA
  have HVL := Lib.hid hvl
  clear hA hvl
  by_cases hX : 32 < X.length
  · have HE : Hid (errC X = 12) := by show _ = _; unfold errC; rw [if_pos hX]
    have hd3 : decide ((32 : Int) < (X.length : Int)) = true := decide_eq_true (by omega)
    go_enter Tryz.func28, Tryz.ntmps28
    go_wp2
    go_ret
    exact ⟨by rw [HE.out]; rfl, Below.refl _ _⟩
  have hd3 : decide ((32 : Int) < (X.length : Int)) = false := decide_eq_false (by omega)
  have HAR := Lib.hid (fun (a : RA) PA PC W => rlArity_any a.ar PA a.P.length PC W)
  go_enter Tryz.func28, Tryz.ntmps28
  go_wp2
  clear hd3
  go_loopw [13] (fun c wr => ∃ k : Nat, k ≤ X.length ∧ c = .int .i64 k ∧ Below w.heap.size w wr ∧ ∀ j (hj : j < X.length), j < k → errAt 32 X[j] = 0) (fun c _ => X.length - (intOf c).toNat)
  case atStart => exact ⟨0, Nat.zero_le _, rfl, Below.refl _ _, fun j _ h => absurd h (by omega)⟩
  case round =>
    obtain ⟨k, hk, rfl, hbw, hall⟩ := hrel
    have HBW := Lib.hid hbw
    have HALL := Lib.hid hall
    clear hbw hall
    by_cases h1 : k < X.length
    · obtain ⟨b, o, VA, VC, PA, PC, rfl, hbl, c0, c1, c2, q1, q2, q3, q4, q5, q6⟩ := ats_at HA.out h1
      have c0 := (HBW.out.cell (p := ⟨b, o + k * 3, none⟩) hbl).trans c0
      have c1 := (HBW.out.cell (p := ⟨b, o + k * 3 + 1, none⟩) hbl).trans c1
      have c2 := (HBW.out.cell (p := ⟨b, o + k * 3 + 2, none⟩) hbl).trans c2
      have hb := Nat.lt_of_lt_of_le hbl HBW.out.size
      have hvl := HVL.out _ (List.getElem_mem h1)
      have HVS := Lib.hid q5
      have HERR : Hid (errAt 32 X[k] ≠ 0 → errC X = errAt 32 X[k]) := fun hne => errC_at hX h1 HALL.out hne
      have HNX : Hid (errAt 32 X[k] = 0 → ∀ j (hj : j < X.length), j < k + 1 → errAt 32 X[j] = 0) := fun h0 j hj hlt => by
        rcases Nat.lt_or_ge j k with h | h
        · exact HALL.out j hj h
        · have : j = k := by omega
          subst this
          exact h0
      clear q5 q6 q1 q2 q3 q4
      generalize X[k] = r at *
      have g1 : (0 : Int) ≤ (k : Int) := by omega
      have g2 : (k : Int) < (X.length : Int) := by omega
      have hw1 : IntKind.i64.wrap ((k : Int) + 1) = ((k + 1 : Nat) : Int) := by rw [IntWalk.i64_in _ (by omega)]; omega
      obtain ⟨wo, hwo⟩ : ∃ wo, wo = wr := ⟨_, rfl⟩
      subst hwo
      obtain ⟨W2, hW2⟩ : ∃ W2, W2 = wo.alloc (.cells #[.slice VA r.vs.length VC, .int .i64 r.ar, .slice PA r.P.length PC] 36) := ⟨_, rfl⟩
      have hr2 : Row W2 wo.heap.size 36 [.slice VA r.vs.length VC, .int .i64 r.ar, .slice PA r.P.length PC] := by rw [hW2]; exact Row.new wo 36 _
      have hx2 : Ext wo W2 := by rw [hW2]; exact (Ext.refl wo).alloc _
      have HR2 := Lib.hid hr2
      have HX2 := Lib.hid hx2
      have HBW2 := Lib.hid (Below.trans HBW.out (hx2.below.mono HBW.out.size))
      clear hr2 hx2
      go_wp2_with fail
      rw [← hW2]
      clear hW2 c0 c1 c2
      go_loopw [5] (fun c wx => ∃ i : Nat, 1 ≤ i ∧ c = .int .i64 i ∧ (∀ p (h : p + 1 < r.vs.length), p + 1 < i → r.vs[p] < r.vs[p + 1]) ∧ Ext W2 wx) (fun c _ => r.vs.length - (intOf c).toNat)
      case atStart => exact ⟨1, Nat.le_refl _, rfl, fun p _ h => absurd h (by omega), Ext.refl _⟩
      case round =>
        obtain ⟨i, hi1, rfl, hasc, hxi⟩ := hrel
        have HASC := Lib.hid hasc
        have HXI := Lib.hid hxi
        have hrx := HR2.out.up hxi.below
        have HRX := Lib.hid hrx
        have x0 : wr.cell? ⟨wo.heap.size, 0, none⟩ = some (.slice VA r.vs.length VC) := hrx.cell 0
        have x1 : wr.cell? ⟨wo.heap.size, 1, none⟩ = some (.int .i64 r.ar) := hrx.cell 1
        have x2 : wr.cell? ⟨wo.heap.size, 2, none⟩ = some (.slice PA r.P.length PC) := hrx.cell 2
        have hxz := hrx.lt
        have HBX := Lib.hid (Below.trans HBW2.out (hxi.below.mono HBW2.out.size))
        clear hasc hxi hrx
        by_cases h2 : i < r.vs.length
        · obtain ⟨vb, vo, hva, hvb, va⟩ := slI_at HVS.out (show i - 1 < r.vs.length by omega)
          obtain ⟨vb2, vo2, hva2, -, vc⟩ := slI_at HVS.out h2
          rw [hva] at hva2
          injection hva2 with hva2
          injection hva2 with e1 e2
          subst e1 e2 hva
          have va := (HBX.out.cell (p := ⟨vb, vo + (i - 1), none⟩) hvb).trans va
          have vc := (HBX.out.cell (p := ⟨vb, vo + i, none⟩) hvb).trans vc
          have hvb2 := Nat.lt_of_lt_of_le hvb HBX.out.size
          have HG : Hid (r.vs[i] ≤ r.vs[i - 1] → errAt 32 r = 16) := fun hge => by
            refine errAt_order (p := i - 1) (by omega) ?_
            have e : i - 1 + 1 = i := by omega
            simp only [e]
            exact hge
          have HL : Hid (¬ r.vs[i] ≤ r.vs[i - 1] → ∀ p (h : p + 1 < r.vs.length), p + 1 < i + 1 → r.vs[p] < r.vs[p + 1]) := fun hlt p h hp => by
            rcases Nat.lt_or_ge (p + 1) i with h3 | h3
            · exact HASC.out p h h3
            · have : i = p + 1 := by omega
              subst this
              have e : p + 1 - 1 = p := by omega
              simp only [e] at hlt
              omega
          generalize r.vs[i] = y at *
          generalize r.vs[i - 1] = z at *
          have hws : IntKind.i64.wrap ((i : Int) - 1) = ((i - 1 : Nat) : Int) := by rw [IntWalk.i64_in _ (by omega)]; omega
          have hwi : IntKind.i64.wrap ((i : Int) + 1) = ((i + 1 : Nat) : Int) := by rw [IntWalk.i64_in _ (by omega)]; omega
          have g3 : (0 : Int) ≤ ((i - 1 : Nat) : Int) := by omega
          have g4 : ((i - 1 : Nat) : Int) < (r.vs.length : Int) := by omega
          have g5 : (0 : Int) ≤ (i : Int) := by omega
          have g6 : (i : Int) < (r.vs.length : Int) := by omega
          by_cases hge : y ≤ z
          · have hdd : decide (y ≤ z) = true := decide_eq_true hge
            have HE := Lib.hid (HERR.out (by rw [HG.out hge]; decide))
            have HE2 := Lib.hid (HG.out hge)
            go_wp2
            go_quiet (fail)
            go_wp2
            go_ret
            exact ⟨by rw [HE.out, HE2.out]; rfl, Below.then HBX.out ((Ext.refl wr).drewN _).below HBX.out.size⟩
          · have hdd : decide (y ≤ z) = false := decide_eq_false hge
            have HL2 := Lib.hid (HL.out hge)
            clear HG HL
            go_wp2
            go_quiet (fail)
            go_wp2
            go_roundw
            case rel => exact ⟨i + 1, by omega, by go_num, HL2.out, HXI.out.drewN _⟩
            case measure => simp [intOf]; omega
        have HP : Hid (r.vs.Pairwise (· < ·)) := pairwise_adj _ fun p h => HASC.out p h (by omega)
        obtain ⟨wp, hwp⟩ : ∃ wp, wp = wr := ⟨_, rfl⟩
        subst hwp
        clear HASC
        go_wp2_with fail
        go_loopw [39] (fun c wx => ∃ j : Nat, j ≤ r.vs.length ∧ c = .int .i64 j ∧ wx = wp ∧ (∀ v ∈ r.vs.take j, 0 ≤ v ∧ v < (32 : Int))) (fun c _ => r.vs.length - (intOf c).toNat)
        case atStart => exact ⟨0, Nat.zero_le _, rfl, rfl, fun v hv => by simp at hv⟩
        case round =>
          obtain ⟨j, hj, rfl, rfl, hrg⟩ := hrel
          have HRG := Lib.hid hrg
          clear hrg
          by_cases h3 : j < r.vs.length
          · obtain ⟨vb, vo, hva, hvb, vc⟩ := slI_at HVS.out h3
            subst hva
            have vc := (HBX.out.cell (p := ⟨vb, vo + j, none⟩) hvb).trans vc
            have hvb2 := Nat.lt_of_lt_of_le hvb HBX.out.size
            have HVM : Hid (r.vs[j] ∈ r.vs) := List.getElem_mem h3
            have HTJ : Hid (r.vs.take (j + 1) = r.vs.take j ++ [r.vs[j]]) := List.take_succ_eq_append_getElem h3
            generalize r.vs[j] = v at *
            have g3 : (0 : Int) ≤ (j : Int) := by omega
            have g4 : (j : Int) < (r.vs.length : Int) := by omega
            have hwj : IntKind.i64.wrap ((j : Int) + 1) = ((j + 1 : Nat) : Int) := by rw [IntWalk.i64_in _ (by omega)]; omega
            by_cases hv0 : v < 0
            · have hE2 := errAt_range HP.out HVM.out (.inl hv0 : v < 0 ∨ (32 : Int) ≤ v)
              have HE := Lib.hid (HERR.out (by rw [hE2]; decide))
              have HE2 := Lib.hid hE2
              have hdd : decide (v < 0) = true := decide_eq_true hv0
              clear hE2
              go_wp2
              go_ret
              exact ⟨by rw [HE.out, HE2.out]; rfl, HBX.out⟩
            by_cases hvm : (32 : Int) ≤ v
            · have hE2 := errAt_range HP.out HVM.out (.inr hvm : v < 0 ∨ (32 : Int) ≤ v)
              have HE := Lib.hid (HERR.out (by rw [hE2]; decide))
              have HE2 := Lib.hid hE2
              have hdd : decide (v < 0) = false := decide_eq_false hv0
              have hdd2 : decide ((32 : Int) ≤ v) = true := decide_eq_true hvm
              clear hE2
              go_wp2
              go_ret
              exact ⟨by rw [HE.out, HE2.out]; rfl, HBX.out⟩
            have hdd : decide (v < 0) = false := decide_eq_false hv0
            have hdd2 : decide ((32 : Int) ≤ v) = false := decide_eq_false hvm
            have HRV : Hid (0 ≤ v ∧ v < (32 : Int)) := ⟨by omega, by omega⟩
            go_wp2
            go_roundw
            case rel =>
              refine ⟨j + 1, h3, by go_num, by first | rfl | trivial, fun v hv => ?_⟩
              rw [HTJ.out] at hv
              rcases List.mem_append.1 hv with h | h
              · exact HRG.out v h
              · simp at h; subst h; exact HRV.out
            case measure => simp [intOf]; omega
          have HJE : Hid (j = r.vs.length) := by show _ = _; omega
          have hEA : errAt 32 r = if (r.vs.length : Int) = r.ar then 0 else 6 := errAt_arity HP.out (fun v hv => HRG.out v (by rw [HJE.out, List.take_length]; exact hv))
          have HEA := Lib.hid hEA
          have HA1 := Lib.hid (HAR.out r PA PC)
          have HHX := Lib.hid (And.intro hxz HBX.out.size)
          clear hEA
          generalize r.vs.length = vl at *
          generalize r.P.length = pl at *
          generalize r.ar = ar at *
          go_wp2_with fail
          refine wp_region_held_drew (S := (fun w' => w'.cell? ⟨wo.heap.size, 0, none⟩ = some (.slice VA vl VC) ∧ w'.cell? ⟨wo.heap.size, 1, none⟩ = some (.int .i64 ar) ∧ w'.cell? ⟨wo.heap.size, 2, none⟩ = some (.slice PA pl PC))) (by kernel_rfl) ⟨x0, x1, x2⟩ (fun hHeld => ?_)
          refine takeOp (i := 0) (v := ?_) (some 50) rfl rfl (by kernel_rfl) (by kernel_rfl) (by kernel_rfl) (fun _ _ _ h => h) (Or.inl ⟨by rfl, ?_⟩) (by assumption) ?_
          rotate_left 1
          · (intro w0 hSw; (try dsimp only at hSw); go_simp; try (with_reducible rfl))
          try simp only [Act.put, List.setIfInBounds_toArray, List.set_cons_succ, List.set_cons_zero]
          refine takeOp (i := 1) (v := ?_) (some 51) rfl rfl (by kernel_rfl) (by kernel_rfl) (by kernel_rfl) (fun _ _ _ h => h) (Or.inl ⟨by rfl, ?_⟩) (by assumption) ?_
          rotate_left 1
          · (intro w0 hSw; (try dsimp only at hSw); go_simp; try (with_reducible rfl))
          try simp only [Act.put, List.setIfInBounds_toArray, List.set_cons_succ, List.set_cons_zero]
          refine takeOp (i := 2) (v := ?_) (some 52) rfl rfl (by kernel_rfl) (by kernel_rfl) (by kernel_rfl) (fun _ _ _ h => h) (Or.inl ⟨by rfl, ?_⟩) (by assumption) ?_
          rotate_left 1
          · (intro w0 hSw; (try dsimp only at hSw); go_simp; try (with_reducible rfl))
          try simp only [Act.put, List.setIfInBounds_toArray, List.set_cons_succ, List.set_cons_zero]
          refine takeOp (i := 3) (v := ?_) (some 53) rfl rfl (by kernel_rfl) (by kernel_rfl) (by kernel_rfl) (fun _ _ _ h => h) (Or.inl ⟨by rfl, ?_⟩) (by assumption) ?_
          rotate_left 1
          · (intro w0 hSw; (try dsimp only at hSw); go_simp; try (with_reducible rfl))
          try simp only [Act.put, List.setIfInBounds_toArray, List.set_cons_succ, List.set_cons_zero]
          refine takeOp (i := 4) (v := ?_) (some 54) rfl rfl (by kernel_rfl) (by kernel_rfl) (by kernel_rfl) (fun _ _ _ h => h) (Or.inl ⟨by rfl, ?_⟩) (by assumption) ?_
          rotate_left 1
          · (intro w0 hSw; (try dsimp only at hSw); go_simp; try (with_reducible rfl))
          try simp only [Act.put, List.setIfInBounds_toArray, List.set_cons_succ, List.set_cons_zero]
          refine wpAnyH_ready (rs := [5]) (by kernel_rfl) (by simp) ?_
          refine AllReadyH.cons rfl (fun K hK => ?_) AllReadyH.nil
          go_simp
          refine (HA1.out wr.drew).mono ?_
          rintro e w6 ⟨rfl, hx6⟩
          have hx7 : Ext wr w6 := (Ext.refl wr).drew.trans hx6
          have KEEP : w6.cell? ⟨wo.heap.size, 0, none⟩ = some (.slice VA vl VC) ∧ w6.cell? ⟨wo.heap.size, 1, none⟩ = some (.int .i64 ar) ∧ w6.cell? ⟨wo.heap.size, 2, none⟩ = some (.slice PA pl PC) := ⟨(hx7.cell HHX.out.1).trans x0, (hx7.cell HHX.out.1).trans x1, (hx7.cell HHX.out.1).trans x2⟩
          have HX7 := Lib.hid hx7
          clear hx6 hx7
          go_wp2_with fail
          refine hK.out _ _ KEEP (fun hHeld => ?_)
          clear hK K
          try simp only [Act.put, List.setIfInBounds_toArray, List.set_cons_succ, List.set_cons_zero]
          refine takeOp (i := 6) (v := ?_) (some 56) rfl rfl (by kernel_rfl) (by kernel_rfl) (by kernel_rfl) (fun _ _ _ h => h) (Or.inl ⟨by rfl, ?_⟩) (by assumption) ?_
          rotate_left 1
          · (intro w0 hSw; (try dsimp only at hSw); go_simp; try (with_reducible rfl))
          try simp only [Act.put, List.setIfInBounds_toArray, List.set_cons_succ, List.set_cons_zero]
          refine wpAnyH_done (by kernel_rfl) ?_ _
          have HBW7 := Lib.hid (Below.then HBX.out HX7.out.below HBX.out.size)
          by_cases he : (vl : Int) = ar
          · have hnb : ((vl : Int) != ar) = false := by simp [he]
            have HZ := Lib.hid (HNX.out (by rw [HEA.out, if_pos he]))
            clear he
            go_wp2
            go_roundw
            case rel => exact ⟨k + 1, h1, by go_num, HBW7.out, HZ.out⟩
            case measure => simp [intOf]; omega
          · have hnb : ((vl : Int) != ar) = true := by simpa using he
            have HE := Lib.hid (HERR.out (by rw [HEA.out, if_neg he]; decide))
            have HE2 := Lib.hid (HEA.out.trans (if_neg he))
            clear he
            go_wp2
            go_ret
            exact ⟨by rw [HE.out, HE2.out]; rfl, HBW7.out⟩
    have HKE : Hid (k = X.length) := by show _ = _; omega
    have HE : Hid (errC X = 0) := errC_end hX (fun j hj => HALL.out j hj (by rw [HKE.out]; exact hj))
    go_wp2
    go_ret
    exact ⟨by rw [HE.out]; rfl, HBW.out⟩
end
section
open Go.RowKit Go.Sort

theorem makeRow0 (n : Nat) (hn : n ≤ 1000000) (w : World) : (Instr.makeSlice 69 (.int .i64 0) (.int .i64 (n : Int))).run Tryz.prog w = .ok (.slice (some ⟨w.heap.size, 0, none⟩) 0 n) (w.alloc (.cells (zerosV n) 71)) := by
  obtain ⟨i0, hi0, hz0, hz1, hz2⟩ := info_parts valInfo
  have h1 := makeVals n hn w
  rw [run_make (P := Tryz.prog) w 69 71 i0 _ Tryz.underlying69 hi0 hz0 .i64 .i64 n n (by omega) (by omega) (by rw [hz2]; omega) (by omega)] at h1
  rw [run_make (P := Tryz.prog) w 69 71 i0 _ Tryz.underlying69 hi0 hz0 .i64 .i64 0 n (by omega) (by omega) (by rw [hz2]; omega) (by omega)]
  injection h1 with h1 h2
  rw [h2]
  simp
theorem own_made0 (n : Nat) (hn : n ≤ 1000000) (w : World) : (w.alloc (.cells (zerosV n) 71)).ownsRow w.heap.size 71 3 (.slice (some ⟨w.heap.size, 0, none⟩) 0 n) 0 [] :=
  ⟨rfl, .inr ⟨w.heap.size, n, zerosV n, rfl, Nat.le_refl _, heap_alloc_new w _, Nat.zero_le _, by simp only [maxLen]; omega, by unfold zerosV; rw [List.size_toArray, rcells_length, List.length_replicate], by simp⟩⟩

def cntU (U us : List Nat) (p : Nat) : Nat := ((U.take p).filter fun v => decide (v ∈ us)).length
theorem sub_filter {U us : List Nat} (hU : U.Pairwise (· < ·)) (hu : us.Pairwise (· < ·)) (hs : ∀ v ∈ us, v ∈ U) : U.filter (fun v => decide (v ∈ us)) = us := by
  have hUn : U.Nodup := hU.imp fun h e => by omega
  have hun : us.Nodup := hu.imp fun h e => by omega
  refine ((List.perm_ext_iff_of_nodup (hUn.filter _) hun).2 fun v => ?_).eq_of_pairwise (le := fun a b => a < b) (fun a b _ _ h1 h2 => absurd (Nat.lt_trans h1 h2) (Nat.lt_irrefl _)) (hU.filter _) hu
  rw [List.mem_filter, decide_eq_true_eq]
  exact ⟨fun h => h.2, fun h => ⟨hs v h, h⟩⟩
theorem cntU_succ {U us : List Nat} {p : Nat} (hp : p < U.length) : cntU U us (p + 1) = cntU U us p + if U[p] ∈ us then 1 else 0 := by
  unfold cntU
  rw [List.take_succ_eq_append_getElem hp, List.filter_append, List.length_append]
  congr 1
  by_cases h : U[p] ∈ us
  · rw [if_pos h, List.filter_cons_of_pos (by simpa using h)]; rfl
  · rw [if_neg h, List.filter_cons_of_neg (by simpa using h)]; rfl
theorem cntU_at {U us : List Nat} (hU : U.Pairwise (· < ·)) (hu : us.Pairwise (· < ·)) (hs : ∀ v ∈ us, v ∈ U) {p : Nat} (hp : p < U.length) : (U[p] ∈ us → us[cntU U us p]? = some U[p]) ∧ (U[p] ∉ us → us[cntU U us p]? ≠ some U[p]) ∧ cntU U us p ≤ us.length := by
  have e := sub_filter hU hu hs
  have e2 : us = (U.take p).filter (fun v => decide (v ∈ us)) ++ (U.drop p).filter (fun v => decide (v ∈ us)) := by
    rw [← List.filter_append, List.take_append_drop, e]
  refine ⟨fun hm => ?_, fun hm h => hm (List.mem_of_getElem? h), ?_⟩
  · rw [e2, List.getElem?_append_right (by rw [← e2]; exact Nat.le_refl _), ← e2]
    have e3 : cntU U us p - ((U.take p).filter fun v => decide (v ∈ us)).length = 0 := by unfold cntU; omega
    rw [e3, List.drop_eq_getElem_cons hp, List.filter_cons_of_pos (by simpa using hm)]
    rfl
  · have := congrArg List.length e2
    rw [List.length_append] at this
    unfold cntU
    omega

def mergeP (U us vs : List Nat) (x y : RL.R) (p : Nat) : RL.R := mergeF (U.take p) us vs x y
theorem mergeP_succ {U us vs : List Nat} {x y : RL.R} {p : Nat} (hp : p < U.length) : mergeP U us vs x y (p + 1) = mergeP U us vs x y p ++ [if U[p] ∈ us then getF us x U[p] else getF vs y U[p]] := by
  unfold mergeP mergeF rowF
  rw [List.take_succ_eq_append_getElem hp, List.map_append]
  rfl
theorem getF_cnt {U us : List Nat} (hU : U.Pairwise (· < ·)) (hu : us.Pairwise (· < ·)) (hs : ∀ v ∈ us, v ∈ U) {p : Nat} (hp : p < U.length) (hm : U[p] ∈ us) {x : RL.R} (hx : x.length = us.length) : ∃ h : cntU U us p < x.length, x[cntU U us p] = getF us x U[p] := by
  have h1 := (cntU_at hU hu hs hp).1 hm
  obtain ⟨hl, he⟩ := List.getElem?_eq_some_iff.1 h1
  refine ⟨by omega, ?_⟩
  rw [← he, getF_at (hu.imp fun h e => by omega) hl (by omega)]

set_option maxHeartbeats 8000000 in
theorem sjMerge_any (UA AA BA XA YA : Option Addr) (UC AC BC XC YC : Nat) (U us vs : List Nat) (x y : RL.R) (w : World) (hU : SlI .i64 w.heap.size w UA (U.map Int.ofNat)) (hA : SlI .i64 w.heap.size w AA (us.map Int.ofNat)) (hB : SlI .i64 w.heap.size w BA (vs.map Int.ofNat)) (hx : SlR w.heap.size w XA x) (hy : SlR w.heap.size w YA y)
    (pU : U.Pairwise (· < ·)) (pu : us.Pairwise (· < ·)) (pv : vs.Pairwise (· < ·)) (su : ∀ v ∈ us, v ∈ U) (sv : ∀ v ∈ vs, v ∈ U) (cov : ∀ v ∈ U, v ∈ us ∨ v ∈ vs) (lx : x.length = us.length) (ly : y.length = vs.length) (lU : U.length ≤ 1000) :
    Calls Tryz.prog 55 #[.slice UA U.length UC, .slice AA us.length AC, .slice XA x.length XC, .slice BA vs.length BC, .slice YA y.length YC] w fun e w' => ∃ v, e = .returned v ∧ w'.ownsRow w.heap.size 71 3 v (mergeF U us vs x y).length (rcells (mergeF U us vs x y)) ∧ Below w.heap.size w w' := by
  have HU := Lib.hid hU
  have HA := Lib.hid hA
  have HB := Lib.hid hB
  have HX := Lib.hid hx
  have HY := Lib.hid hy
  have HCA := Lib.hid (fun p (hp : p < U.length) => cntU_at pU pu su hp)
  have HCB := Lib.hid (fun p (hp : p < U.length) => cntU_at pU pv sv hp)
  have HGA := Lib.hid (fun p (hp : p < U.length) hm => getF_cnt pU pu su hp hm lx)
  have HGB := Lib.hid (fun p (hp : p < U.length) hm => getF_cnt pU pv sv hp hm ly)
  have HCV := Lib.hid cov
  have HLX := Lib.hid (And.intro lx ly)
  have hul : us.length ≤ 1000 := by
    have := congrArg List.length (sub_filter pU pu su)
    have h2 := List.length_filter_le (fun v => decide (v ∈ us)) U
    omega
  have hvl : vs.length ≤ 1000 := by
    have := congrArg List.length (sub_filter pU pv sv)
    have h2 := List.length_filter_le (fun v => decide (v ∈ vs)) U
    omega
  have hmk := makeRow0 U.length (by omega) w
  obtain ⟨W0, hW0⟩ : ∃ W0, W0 = w.alloc (.cells (zerosV U.length) 71) := ⟨_, rfl⟩
  have HX0 : Hid (Ext w W0) := by show Ext _ _; rw [hW0]; exact (Ext.refl w).alloc _
  have HO0 : Hid (W0.ownsRow w.heap.size 71 3 (.slice (some ⟨w.heap.size, 0, none⟩) 0 U.length) 0 []) := by show World.ownsRow _ _ _ _ _ _ _; rw [hW0]; exact own_made0 U.length (by omega) w
  clear hU hA hB hx hy pU pu pv su sv cov lx ly
  go_enter Tryz.func55, Tryz.ntmps55
  go_wp2_with fail
  rw [← hW0]
  clear hW0 hmk
  go_loopw [11, 12, 13, 23] (fun vo ci ck c wx => ∃ p : Nat, p ≤ U.length ∧ c = .int .i64 p ∧ ci = .int .i64 (cntU U us p) ∧ ck = .int .i64 (cntU U vs p) ∧ wx.ownsRow w.heap.size 71 3 vo (mergeP U us vs x y p).length (rcells (mergeP U us vs x y p)) ∧ Below w.heap.size w wx) (fun _ _ _ c _ => U.length - (intOf c).toNat)
  case atStart => exact ⟨0, Nat.zero_le _, rfl, rfl, rfl, HO0.out, HX0.out.below⟩
  case round =>
    obtain ⟨p, hp, rfl, rfl, rfl, hown, hbw⟩ := hrel
    have HO := Lib.hid hown
    have HBW := Lib.hid hbw
    have hzz := hbw.size
    clear hown hbw HO0 HX0
    by_cases hpl : p < U.length
    rotate_left
    · obtain rfl : p = U.length := by omega
      have r1 : ¬ (U.length : Int) < (U.length : Int) := by omega
      have HE : Hid (mergeP U us vs x y U.length = mergeF U us vs x y) := by show _ = _; unfold mergeP; rw [List.take_length]
      rw [HE.out] at HO
      clear HE
      go_wp2_with fail
      go_ret
      exact ⟨_, rfl, HO.out, HBW.out⟩
    have r0 : (0 : Int) ≤ (p : Int) := by omega
    have r1 : (p : Int) < (U.length : Int) := by omega
    have r3 : IntKind.i64.wrap ((p : Int) + 1) = ((p + 1 : Nat) : Int) := by rw [IntWalk.i64_in _ (by omega)]; omega
    obtain ⟨ub, uo, hua, hub, uc⟩ := slI_at HU.out (show p < (U.map Int.ofNat).length by simpa using hpl)
    subst hua
    have uc := (HBW.out.cell (p := ⟨ub, uo + p, none⟩) hub).trans uc
    rw [List.getElem_map] at uc
    have hub2 := Nat.lt_of_lt_of_le hub hzz
    have HMS := Lib.hid (mergeP_succ (us := us) (vs := vs) (x := x) (y := y) hpl)
    have HSA := Lib.hid (cntU_succ (us := us) hpl)
    have HSB := Lib.hid (cntU_succ (us := vs) hpl)
    obtain ⟨a1, a2, a3⟩ := HCA.out p hpl
    obtain ⟨b1, b2, b3⟩ := HCB.out p hpl
    have ga := HGA.out p hpl
    have gb := HGB.out p hpl
    have cv := HCV.out U[p] (List.getElem_mem hpl)
    have HML : Hid ((mergeP U us vs x y p).length ≤ 1000) := by show _ ≤ _; unfold mergeP mergeF; rw [row_len, List.length_take]; omega
    have HA1 := Lib.hid a1
    have HA2 := Lib.hid a2
    have HB1 := Lib.hid b1
    have HB2 := Lib.hid b2
    have HGA1 := Lib.hid ga
    have HGB1 := Lib.hid gb
    clear a1 a2 b1 b2 ga gb
    generalize mergeP U us vs x y p = M at *
    generalize cntU U us p = i at *
    generalize cntU U vs p = k at *
    change wr.cell? ⟨ub, uo + p, none⟩ = some (.int .i64 (U[p] : Nat)) at uc
    generalize U[p] = v at *
    by_cases hvu : v ∈ us
    · obtain ⟨hil, hie⟩ := List.getElem?_eq_some_iff.1 (HA1.out hvu)
      obtain ⟨ab, ao, haa, hab, ac⟩ := slI_at HA.out (show i < (us.map Int.ofNat).length by rw [List.length_map]; exact hil)
      subst haa
      have ac := (HBW.out.cell (p := ⟨ab, ao + i, none⟩) hab).trans ac
      rw [List.getElem_map] at ac
      have hab2 := Nat.lt_of_lt_of_le hab hzz
      have ai0 : (0 : Int) ≤ (i : Int) := by omega
      have ai1 : (i : Int) < (us.length : Int) := by omega
      have hdA : decide ((i : Int) < (us.length : Int)) = true := decide_eq_true ai1
      rw [hie] at ac
      change wr.cell? ⟨ab, ao + i, none⟩ = some (.int .i64 (v : Nat)) at ac
      clear hie
      by_cases hvv : v ∈ vs
      · obtain ⟨hkl, hke⟩ := List.getElem?_eq_some_iff.1 (HB1.out hvv)
        obtain ⟨bb, bo, hbb, hbb1, bc⟩ := slI_at HB.out (show k < (vs.map Int.ofNat).length by rw [List.length_map]; exact hkl)
        subst hbb
        have bc := (HBW.out.cell (p := ⟨bb, bo + k, none⟩) hbb1).trans bc
        rw [List.getElem_map] at bc
        have hbb2 := Nat.lt_of_lt_of_le hbb1 hzz
        have bi0 : (0 : Int) ≤ (k : Int) := by omega
        have bi1 : (k : Int) < (vs.length : Int) := by omega
        have hdB : decide ((k : Int) < (vs.length : Int)) = true := decide_eq_true bi1
        rw [hke] at bc
        change wr.cell? ⟨bb, bo + k, none⟩ = some (.int .i64 (v : Nat)) at bc
        clear hke
        obtain ⟨gl, ge⟩ := HGA1.out hvu
        obtain ⟨yb, yo, hxa, hyb, y1, y2, y3⟩ := slR_at HX.out gl
        subst hxa
        have y1 := (HBW.out.cell (p := ⟨yb, yo + i * 3, none⟩) hyb).trans y1
        have y2 := (HBW.out.cell (p := ⟨yb, yo + i * 3 + 1, none⟩) hyb).trans y2
        have y3 := (HBW.out.cell (p := ⟨yb, yo + i * 3 + 2, none⟩) hyb).trans y3
        have hyb2 := Nat.lt_of_lt_of_le hyb hzz
        have gi0 : (0 : Int) ≤ (i : Int) := by omega
        have gi1 : (i : Int) < (x.length : Int) := by omega
        have hms := HMS.out
        rw [if_pos hvu, ← ge] at hms
        have HMS2 := Lib.hid hms
        clear hms ge
        generalize x[i] = z at *
        have HSA2 : Hid (_ = i + 1) := HSA.out.trans (by rw [if_pos hvu])
        have HSB2 : Hid (_ = k + 1) := HSB.out.trans (by rw [if_pos hvv])
        have wi : IntKind.i64.wrap ((i : Int) + 1) = ((i + 1 : Nat) : Int) := by rw [IntWalk.i64_in _ (by omega)]; omega
        have wk : IntKind.i64.wrap ((k : Int) + 1) = ((k + 1 : Nat) : Int) := by rw [IntWalk.i64_in _ (by omega)]; omega
        clear HSA HSB HMS HA1 HA2 HB1 HB2 HGA1 HGB1 hvu hvv cv
        go_wp2_with fail
        go_quiet (fail)
        have HOW1 := Lib.hid (fun n (o : Obj) => own_keep HO.out (((Ext.refl wr).drewN n).alloc o).below)
        have HRW1 := Lib.hid (fun n => Row.new (wr.drewN n) 71 [.int .i64 z.kind, .int .i64 z.int, .string z.str])
        have HBZ1 := Lib.hid (fun n (o : Obj) => Nat.le_trans hzz ((((Ext.refl wr).drewN n).alloc o).size))
        have HML1 : Hid (M.length ≤ 100000000) := by have := HML.out; show _ ≤ _; omega
        go_wp2_with (at_builtin; refine app1V rfl (.tmp 52) (.tmp 57) rfl w.heap.size u11 M rfl (HOW1.out _ _) wr.heap.size z rfl ((HRW1.out _).cell 0) ((HRW1.out _).cell 1) ((HRW1.out _).cell 2) HML1.out (HBZ1.out _ _) ?_
                     intro v5 w5 hown hg
                     have HO5 := Lib.hid hown
                     have HB5 : Hid (Below w.heap.size w w5) := by
                       exact Below.grown (Below.then HBW.out (((Ext.refl wr).drewN _).alloc _).below hzz) hg (HBZ1.out _ _) (fun j hj => own_base HO.out hj)
                     clear hown hg)
        go_roundw
        case rel => exact ⟨p + 1, hpl, by go_num, by rw [HSA2.out] <;> go_num, by rw [HSB2.out] <;> go_num, by rw [HMS2.out]; exact HO5.out, HB5.out⟩
        case measure => simp [intOf]; omega
      · by_cases hkl : k < vs.length
        · obtain ⟨bb, bo, hbb, hbb1, bc⟩ := slI_at HB.out (show k < (vs.map Int.ofNat).length by rw [List.length_map]; exact hkl)
          subst hbb
          have bc := (HBW.out.cell (p := ⟨bb, bo + k, none⟩) hbb1).trans bc
          rw [List.getElem_map] at bc
          have hbb2 := Nat.lt_of_lt_of_le hbb1 hzz
          have bi0 : (0 : Int) ≤ (k : Int) := by omega
          have bi1 : (k : Int) < (vs.length : Int) := by omega
          have hdB : decide ((k : Int) < (vs.length : Int)) = true := decide_eq_true bi1
          have hne : vs[k] ≠ v := fun e => HB2.out hvv (by rw [List.getElem?_eq_getElem hkl, e])
          change wr.cell? ⟨bb, bo + k, none⟩ = some (.int .i64 (vs[k] : Nat)) at bc
          generalize vs[k] = q at *
          have hqe : ((q : Int) == (v : Int)) = false := by simpa using (show ¬ (q : Int) = (v : Int) by omega)
          obtain ⟨gl, ge⟩ := HGA1.out hvu
          obtain ⟨yb, yo, hxa, hyb, y1, y2, y3⟩ := slR_at HX.out gl
          subst hxa
          have y1 := (HBW.out.cell (p := ⟨yb, yo + i * 3, none⟩) hyb).trans y1
          have y2 := (HBW.out.cell (p := ⟨yb, yo + i * 3 + 1, none⟩) hyb).trans y2
          have y3 := (HBW.out.cell (p := ⟨yb, yo + i * 3 + 2, none⟩) hyb).trans y3
          have hyb2 := Nat.lt_of_lt_of_le hyb hzz
          have gi0 : (0 : Int) ≤ (i : Int) := by omega
          have gi1 : (i : Int) < (x.length : Int) := by omega
          have hms := HMS.out
          rw [if_pos hvu, ← ge] at hms
          have HMS2 := Lib.hid hms
          clear hms ge
          generalize x[i] = z at *
          have HSA2 : Hid (_ = i + 1) := HSA.out.trans (by rw [if_pos hvu])
          have HSB2 : Hid (_ = k) := HSB.out.trans (by rw [if_neg hvv]; rfl)
          have wi : IntKind.i64.wrap ((i : Int) + 1) = ((i + 1 : Nat) : Int) := by rw [IntWalk.i64_in _ (by omega)]; omega
          clear HSA HSB HMS HA1 HA2 HB1 HB2 HGA1 HGB1 hvu hvv cv
          go_wp2_with fail
          go_quiet (fail)
          have HOW1 := Lib.hid (fun n (o : Obj) => own_keep HO.out (((Ext.refl wr).drewN n).alloc o).below)
          have HRW1 := Lib.hid (fun n => Row.new (wr.drewN n) 71 [.int .i64 z.kind, .int .i64 z.int, .string z.str])
          have HBZ1 := Lib.hid (fun n (o : Obj) => Nat.le_trans hzz ((((Ext.refl wr).drewN n).alloc o).size))
          have HML1 : Hid (M.length ≤ 100000000) := by have := HML.out; show _ ≤ _; omega
          go_wp2_with (at_builtin; refine app1V rfl (.tmp 52) (.tmp 57) rfl w.heap.size u11 M rfl (HOW1.out _ _) wr.heap.size z rfl ((HRW1.out _).cell 0) ((HRW1.out _).cell 1) ((HRW1.out _).cell 2) HML1.out (HBZ1.out _ _) ?_
                       intro v5 w5 hown hg
                       have HO5 := Lib.hid hown
                       have HB5 : Hid (Below w.heap.size w w5) := by
                         exact Below.grown (Below.then HBW.out (((Ext.refl wr).drewN _).alloc _).below hzz) hg (HBZ1.out _ _) (fun j hj => own_base HO.out hj)
                       clear hown hg)
          go_roundw
          case rel => exact ⟨p + 1, hpl, by go_num, by rw [HSA2.out] <;> go_num, by rw [HSB2.out] <;> go_num, by rw [HMS2.out]; exact HO5.out, HB5.out⟩
          case measure => simp [intOf]; omega
        · have hdB : decide ((k : Int) < (vs.length : Int)) = false := decide_eq_false (by omega)
          obtain ⟨gl, ge⟩ := HGA1.out hvu
          obtain ⟨yb, yo, hxa, hyb, y1, y2, y3⟩ := slR_at HX.out gl
          subst hxa
          have y1 := (HBW.out.cell (p := ⟨yb, yo + i * 3, none⟩) hyb).trans y1
          have y2 := (HBW.out.cell (p := ⟨yb, yo + i * 3 + 1, none⟩) hyb).trans y2
          have y3 := (HBW.out.cell (p := ⟨yb, yo + i * 3 + 2, none⟩) hyb).trans y3
          have hyb2 := Nat.lt_of_lt_of_le hyb hzz
          have gi0 : (0 : Int) ≤ (i : Int) := by omega
          have gi1 : (i : Int) < (x.length : Int) := by omega
          have hms := HMS.out
          rw [if_pos hvu, ← ge] at hms
          have HMS2 := Lib.hid hms
          clear hms ge
          generalize x[i] = z at *
          have HSA2 : Hid (_ = i + 1) := HSA.out.trans (by rw [if_pos hvu])
          have HSB2 : Hid (_ = k) := HSB.out.trans (by rw [if_neg hvv]; rfl)
          have wi : IntKind.i64.wrap ((i : Int) + 1) = ((i + 1 : Nat) : Int) := by rw [IntWalk.i64_in _ (by omega)]; omega
          clear HSA HSB HMS HA1 HA2 HB1 HB2 HGA1 HGB1 hvu hvv cv
          go_wp2_with fail
          go_quiet (fail)
          have HOW1 := Lib.hid (fun n (o : Obj) => own_keep HO.out (((Ext.refl wr).drewN n).alloc o).below)
          have HRW1 := Lib.hid (fun n => Row.new (wr.drewN n) 71 [.int .i64 z.kind, .int .i64 z.int, .string z.str])
          have HBZ1 := Lib.hid (fun n (o : Obj) => Nat.le_trans hzz ((((Ext.refl wr).drewN n).alloc o).size))
          have HML1 : Hid (M.length ≤ 100000000) := by have := HML.out; show _ ≤ _; omega
          go_wp2_with (at_builtin; refine app1V rfl (.tmp 52) (.tmp 57) rfl w.heap.size u11 M rfl (HOW1.out _ _) wr.heap.size z rfl ((HRW1.out _).cell 0) ((HRW1.out _).cell 1) ((HRW1.out _).cell 2) HML1.out (HBZ1.out _ _) ?_
                       intro v5 w5 hown hg
                       have HO5 := Lib.hid hown
                       have HB5 : Hid (Below w.heap.size w w5) := by
                         exact Below.grown (Below.then HBW.out (((Ext.refl wr).drewN _).alloc _).below hzz) hg (HBZ1.out _ _) (fun j hj => own_base HO.out hj)
                       clear hown hg)
          go_roundw
          case rel => exact ⟨p + 1, hpl, by go_num, by rw [HSA2.out] <;> go_num, by rw [HSB2.out] <;> go_num, by rw [HMS2.out]; exact HO5.out, HB5.out⟩
          case measure => simp [intOf]; omega
    · have hvv : v ∈ vs := cv.resolve_left hvu
      obtain ⟨hkl, hke⟩ := List.getElem?_eq_some_iff.1 (HB1.out hvv)
      obtain ⟨bb, bo, hbb, hbb1, bc⟩ := slI_at HB.out (show k < (vs.map Int.ofNat).length by rw [List.length_map]; exact hkl)
      subst hbb
      have bc := (HBW.out.cell (p := ⟨bb, bo + k, none⟩) hbb1).trans bc
      rw [List.getElem_map] at bc
      have hbb2 := Nat.lt_of_lt_of_le hbb1 hzz
      have bi0 : (0 : Int) ≤ (k : Int) := by omega
      have bi1 : (k : Int) < (vs.length : Int) := by omega
      have hdB : decide ((k : Int) < (vs.length : Int)) = true := decide_eq_true bi1
      rw [hke] at bc
      change wr.cell? ⟨bb, bo + k, none⟩ = some (.int .i64 (v : Nat)) at bc
      clear hke
      by_cases hil : i < us.length
      · obtain ⟨ab, ao, haa, hab, ac⟩ := slI_at HA.out (show i < (us.map Int.ofNat).length by rw [List.length_map]; exact hil)
        subst haa
        have ac := (HBW.out.cell (p := ⟨ab, ao + i, none⟩) hab).trans ac
        rw [List.getElem_map] at ac
        have hab2 := Nat.lt_of_lt_of_le hab hzz
        have ai0 : (0 : Int) ≤ (i : Int) := by omega
        have ai1 : (i : Int) < (us.length : Int) := by omega
        have hdA : decide ((i : Int) < (us.length : Int)) = true := decide_eq_true ai1
        have hne : us[i] ≠ v := fun e => HA2.out hvu (by rw [List.getElem?_eq_getElem hil, e])
        change wr.cell? ⟨ab, ao + i, none⟩ = some (.int .i64 (us[i] : Nat)) at ac
        generalize us[i] = q at *
        have hqe : ((q : Int) == (v : Int)) = false := by simpa using (show ¬ (q : Int) = (v : Int) by omega)
        obtain ⟨gl, ge⟩ := HGB1.out hvv
        obtain ⟨yb, yo, hxa, hyb, y1, y2, y3⟩ := slR_at HY.out gl
        subst hxa
        have y1 := (HBW.out.cell (p := ⟨yb, yo + k * 3, none⟩) hyb).trans y1
        have y2 := (HBW.out.cell (p := ⟨yb, yo + k * 3 + 1, none⟩) hyb).trans y2
        have y3 := (HBW.out.cell (p := ⟨yb, yo + k * 3 + 2, none⟩) hyb).trans y3
        have hyb2 := Nat.lt_of_lt_of_le hyb hzz
        have gi0 : (0 : Int) ≤ (k : Int) := by omega
        have gi1 : (k : Int) < (y.length : Int) := by omega
        have hms := HMS.out
        rw [if_neg hvu, ← ge] at hms
        have HMS2 := Lib.hid hms
        clear hms ge
        generalize y[k] = z at *
        have HSA2 : Hid (_ = i) := HSA.out.trans (by rw [if_neg hvu]; rfl)
        have HSB2 : Hid (_ = k + 1) := HSB.out.trans (by rw [if_pos hvv])
        have wk : IntKind.i64.wrap ((k : Int) + 1) = ((k + 1 : Nat) : Int) := by rw [IntWalk.i64_in _ (by omega)]; omega
        clear HSA HSB HMS HA1 HA2 HB1 HB2 HGA1 HGB1 hvu hvv cv
        go_wp2_with fail
        go_quiet (fail)
        have HOW1 := Lib.hid (fun n (o : Obj) => own_keep HO.out (((Ext.refl wr).drewN n).alloc o).below)
        have HRW1 := Lib.hid (fun n => Row.new (wr.drewN n) 71 [.int .i64 z.kind, .int .i64 z.int, .string z.str])
        have HBZ1 := Lib.hid (fun n (o : Obj) => Nat.le_trans hzz ((((Ext.refl wr).drewN n).alloc o).size))
        have HML1 : Hid (M.length ≤ 100000000) := by have := HML.out; show _ ≤ _; omega
        go_wp2_with (at_builtin; refine app1V rfl (.tmp 61) (.tmp 66) rfl w.heap.size u11 M rfl (HOW1.out _ _) wr.heap.size z rfl ((HRW1.out _).cell 0) ((HRW1.out _).cell 1) ((HRW1.out _).cell 2) HML1.out (HBZ1.out _ _) ?_
                     intro v5 w5 hown hg
                     have HO5 := Lib.hid hown
                     have HB5 : Hid (Below w.heap.size w w5) := by
                       exact Below.grown (Below.then HBW.out (((Ext.refl wr).drewN _).alloc _).below hzz) hg (HBZ1.out _ _) (fun j hj => own_base HO.out hj)
                     clear hown hg)
        go_roundw
        case rel => exact ⟨p + 1, hpl, by go_num, by rw [HSA2.out] <;> go_num, by rw [HSB2.out] <;> go_num, by rw [HMS2.out]; exact HO5.out, HB5.out⟩
        case measure => simp [intOf]; omega
      · have hdA : decide ((i : Int) < (us.length : Int)) = false := decide_eq_false (by omega)
        obtain ⟨gl, ge⟩ := HGB1.out hvv
        obtain ⟨yb, yo, hxa, hyb, y1, y2, y3⟩ := slR_at HY.out gl
        subst hxa
        have y1 := (HBW.out.cell (p := ⟨yb, yo + k * 3, none⟩) hyb).trans y1
        have y2 := (HBW.out.cell (p := ⟨yb, yo + k * 3 + 1, none⟩) hyb).trans y2
        have y3 := (HBW.out.cell (p := ⟨yb, yo + k * 3 + 2, none⟩) hyb).trans y3
        have hyb2 := Nat.lt_of_lt_of_le hyb hzz
        have gi0 : (0 : Int) ≤ (k : Int) := by omega
        have gi1 : (k : Int) < (y.length : Int) := by omega
        have hms := HMS.out
        rw [if_neg hvu, ← ge] at hms
        have HMS2 := Lib.hid hms
        clear hms ge
        generalize y[k] = z at *
        have HSA2 : Hid (_ = i) := HSA.out.trans (by rw [if_neg hvu]; rfl)
        have HSB2 : Hid (_ = k + 1) := HSB.out.trans (by rw [if_pos hvv])
        have wk : IntKind.i64.wrap ((k : Int) + 1) = ((k + 1 : Nat) : Int) := by rw [IntWalk.i64_in _ (by omega)]; omega
        clear HSA HSB HMS HA1 HA2 HB1 HB2 HGA1 HGB1 hvu hvv cv
        go_wp2_with fail
        go_quiet (fail)
        have HOW1 := Lib.hid (fun n (o : Obj) => own_keep HO.out (((Ext.refl wr).drewN n).alloc o).below)
        have HRW1 := Lib.hid (fun n => Row.new (wr.drewN n) 71 [.int .i64 z.kind, .int .i64 z.int, .string z.str])
        have HBZ1 := Lib.hid (fun n (o : Obj) => Nat.le_trans hzz ((((Ext.refl wr).drewN n).alloc o).size))
        have HML1 : Hid (M.length ≤ 100000000) := by have := HML.out; show _ ≤ _; omega
        go_wp2_with (at_builtin; refine app1V rfl (.tmp 61) (.tmp 66) rfl w.heap.size u11 M rfl (HOW1.out _ _) wr.heap.size z rfl ((HRW1.out _).cell 0) ((HRW1.out _).cell 1) ((HRW1.out _).cell 2) HML1.out (HBZ1.out _ _) ?_
                     intro v5 w5 hown hg
                     have HO5 := Lib.hid hown
                     have HB5 : Hid (Below w.heap.size w w5) := by
                       exact Below.grown (Below.then HBW.out (((Ext.refl wr).drewN _).alloc _).below hzz) hg (HBZ1.out _ _) (fun j hj => own_base HO.out hj)
                     clear hown hg)
        go_roundw
        case rel => exact ⟨p + 1, hpl, by go_num, by rw [HSA2.out] <;> go_num, by rw [HSB2.out] <;> go_num, by rw [HMS2.out]; exact HO5.out, HB5.out⟩
        case measure => simp [intOf]; omega
end
section
open Go.RowKit Go.Sort

structure RAOk (n M : Nat) (a : RA) : Prop where
  at_ : a.at.Ok n
  nn : ∀ v ∈ a.vs, 0 ≤ v
  ar : a.ar = a.vs.length
  ok : RsOk a.P
  len : a.P.length ≤ 60000
  M : ∀ q, (RL.kids a.at.d a.at.P q).length ≤ M
end
section
open Go.RowKit Go.Sort

structure RelOk (M : Nat) (a : RA) : Prop where
  ss : RL.SS a.P
  len : ∀ r ∈ a.P, (r.length : Int) = a.ar
  ok : RsOk a.P
  many : a.P.length ≤ 60000
  M : ∀ q, (RL.kids a.at.d a.at.P q).length ≤ M
theorem errAt_zero {n : Int} {a : RA} (h : errAt n a = 0) : a.vs.Pairwise (· < ·) ∧ (∀ v ∈ a.vs, 0 ≤ v ∧ v < n) ∧ (a.vs.length : Int) = a.ar := by
  unfold errAt at h
  split at h
  · cases h
  · rename_i h1
    split at h
    · cases h
    · rename_i h2
      split at h
      · cases h
      · rename_i h3
        refine ⟨by simpa using h1, fun v hv => ?_, by simpa using h3⟩
        exact ⟨Int.not_lt.1 fun hb => h2 ⟨v, hv, .inl hb⟩, Int.not_le.1 fun hb => h2 ⟨v, hv, .inr hb⟩⟩
theorem raOk_of {m M : Nat} {a : RA} (h : errAt (m : Int) a = 0) (hr : RelOk M a) : RAOk m M a := by
  obtain ⟨h1, h2, h3⟩ := errAt_zero h
  refine ⟨⟨?_, fun v hv => ?_, fun r hm => ?_, hr.ss⟩, fun v hv => (h2 v hv).1, h3.symm, hr.ok, hr.many, hr.M⟩
  · show (a.vs.map Int.toNat).Pairwise (· < ·)
    refine List.pairwise_map.2 (h1.imp_of_mem fun {x y} hx hy hxy => ?_)
    have := h2 x hx
    have := h2 y hy
    omega
  · obtain ⟨u, hu, rfl⟩ := List.mem_map.1 hv
    have := h2 u hu
    omega
  · have h4 := hr.len r hm
    show r.length = (a.vs.map Int.toNat).length
    rw [List.length_map]
    omega
theorem used_of {m : Nat} {X : List RA} (h : ∀ v : Nat, v < m → ∃ a ∈ X, (v : Int) ∈ a.vs) : ∀ v, v < m → ∃ a ∈ X, v ∈ a.at.vs := fun v hv => by
  obtain ⟨a, ha, hm⟩ := h v hv
  exact ⟨a, ha, List.mem_map.2 ⟨_, hm, by simp⟩⟩
end
section
open Go.RowKit Go.Sort

def agreeB (a : RA) (x r : RL.R) (j : Nat) : Bool := (List.range j).all fun k => decide ((x.length : Int) ≤ a.vs.getD k 0) || decide (r.getD k default = x.getD (a.vs.getD k 0).toNat default)
theorem agreeB_succ (a : RA) (x r : RL.R) (j : Nat) : agreeB a x r (j + 1) = (agreeB a x r j && (decide ((x.length : Int) ≤ a.vs.getD j 0) || decide (r.getD j default = x.getD (a.vs.getD j 0).toNat default))) := by
  unfold agreeB
  rw [List.range_succ, List.all_append]
  simp
def allowsB (a : RA) (x : RL.R) : Bool := a.P.any fun r => agreeB a x r a.vs.length
theorem allowsB_pre {n : Nat} {a : RA} (h : a.at.Ok n) (hnn : ∀ v ∈ a.vs, 0 ≤ v) (x : RL.R) : allowsB a x = true ↔ preA a.at x := by
  unfold allowsB preA
  rw [List.any_eq_true]
  have hd : a.at.vs.length = a.vs.length := by show (a.vs.map Int.toNat).length = _; simp
  have hpre := List.prefix_iff_eq_take.1 (filter_lt_prefix h.asc x.length)
  have hlen : (pj a.at x).length = (a.at.vs.filter fun v => decide (v < x.length)).length := by unfold pj; rw [List.length_map]
  have hcl : (pj a.at x).length ≤ a.vs.length := by rw [← hd]; exact pj_le a.at x
  have hget : ∀ k (hk : k < a.vs.length), a.at.vs[k]'(by omega) = (a.vs[k]).toNat := fun k hk => List.getElem_map (l := a.vs) Int.toNat
  have hin : ∀ k (hk : k < a.vs.length), k < (pj a.at x).length ↔ a.vs[k] < (x.length : Int) := fun k hk => by
    have h0 := hnn _ (List.getElem_mem hk)
    have hk' : k < a.at.vs.length := by omega
    rw [hlen]
    constructor
    · intro hlt
      have hm : (a.at.vs.filter fun v => decide (v < x.length))[k] ∈ a.at.vs.filter fun v => decide (v < x.length) := List.getElem_mem hlt
      have h1 := of_decide_eq_true (List.mem_filter.1 hm).2
      have e : (a.at.vs.filter fun v => decide (v < x.length))[k] = a.at.vs[k] := by
        have := List.getElem_of_eq hpre hlt
        rw [this, List.getElem_take]
      rw [e, hget k hk] at h1
      omega
    · intro hlt
      refine Nat.lt_of_not_le fun hge => ?_
      have hm : a.at.vs[k] ∈ a.at.vs.filter fun v => decide (v < x.length) := List.mem_filter.2 ⟨List.getElem_mem hk', decide_eq_true (by rw [hget k hk]; omega)⟩
      obtain ⟨j, hj, e⟩ := List.getElem_of_mem hm
      have e2 : (a.at.vs.filter fun v => decide (v < x.length))[j] = a.at.vs[j]'(by omega) := by
        have := List.getElem_of_eq hpre hj
        rw [this, List.getElem_take]
      rw [e2] at e
      have := List.pairwise_iff_getElem.1 h.asc j k (by omega) hk' (by omega)
      omega
  have hpj : ∀ k (hk : k < a.vs.length) (hkc : k < (pj a.at x).length), (pj a.at x)[k] = x.getD (a.vs[k]).toNat default := fun k hk hkc => by
    unfold pj dv at *
    rw [List.getElem_map]
    have hlt : k < (a.at.vs.filter fun v => decide (v < x.length)).length := by simpa using hkc
    have e : (a.at.vs.filter fun v => decide (v < x.length))[k] = a.at.vs[k]'(by omega) := by
      have := List.getElem_of_eq hpre hlt
      rw [this, List.getElem_take]
    rw [e, hget k hk]
  constructor
  · rintro ⟨r, hr, hag⟩
    refine ⟨r, hr, ?_⟩
    have hrl : r.length = a.vs.length := by rw [h.len r hr, hd]
    refine List.ext_getElem (by rw [List.length_take]; omega) fun k h1 h2 => ?_
    have hk : k < a.vs.length := by omega
    have h3 := List.all_eq_true.1 hag k (List.mem_range.2 hk)
    rw [Bool.or_eq_true] at h3
    rw [List.getElem_take, hpj k hk h2]
    have hvk : a.vs.getD k 0 = a.vs[k] := by rw [List.getD_eq_getElem?_getD, List.getElem?_eq_getElem hk]; rfl
    rw [hvk] at h3
    rcases h3 with h3 | h3
    · have h4 := of_decide_eq_true h3
      have := (hin k hk).1 h2
      omega
    · have h4 := of_decide_eq_true h3
      rw [← h4, List.getD_eq_getElem?_getD, List.getElem?_eq_getElem (by omega)]
      rfl
  · rintro ⟨r, hr, he⟩
    refine ⟨r, hr, List.all_eq_true.2 fun k hk => ?_⟩
    have hk := List.mem_range.1 hk
    have hrl : r.length = a.vs.length := by rw [h.len r hr, hd]
    have hvk : a.vs.getD k 0 = a.vs[k] := by rw [List.getD_eq_getElem?_getD, List.getElem?_eq_getElem hk]; rfl
    rw [hvk, Bool.or_eq_true]
    by_cases hc : a.vs[k] < (x.length : Int)
    · have hkc := (hin k hk).2 hc
      refine .inr (decide_eq_true ?_)
      rw [← hpj k hk hkc]
      have e := List.getElem_of_eq he (i := k) (by rw [List.length_take]; omega)
      rw [List.getElem_take] at e
      rw [← e, List.getD_eq_getElem?_getD, List.getElem?_eq_getElem (by omega)]
      rfl
    · exact .inl (decide_eq_true (by omega))
end
section
open Go.RowKit Go.Sort

set_option maxHeartbeats 8000000 in
theorem r35allows_any (VA PA XA : Option Addr) (VC PC XC : Nat) (a : RA) (x : RL.R) (w : World) (hvs : SlI .i64 w.heap.size w VA a.vs) (hP : SlRs w.heap.size w PA a.P) (hx : SlR w.heap.size w XA x) (hlen : ∀ r ∈ a.P, r.length = a.vs.length) (hnn : ∀ v ∈ a.vs, 0 ≤ v) (hvl : a.vs.length ≤ 1000000) (hPl : a.P.length ≤ 1000000) (_hxl : x.length ≤ 1000000) (hPo : RsOk a.P) (hxo : ROk x) :
    Calls Tryz.prog 56 #[.agg #[.slice VA a.vs.length VC, .slice PA a.P.length PC], .slice XA x.length XC] w fun e w' => e = .returned (.bool (allowsB a x)) ∧ Ext w w' := by
  obtain ⟨W1, hW1⟩ : ∃ W1, W1 = w.alloc (.cells #[.slice VA a.vs.length VC, .slice PA a.P.length PC] 45) := ⟨_, rfl⟩
  have hr1 : Row W1 w.heap.size 45 [.slice VA a.vs.length VC, .slice PA a.P.length PC] := by rw [hW1]; exact Row.new w 45 _
  have hx1 : Ext w W1 := by rw [hW1]; exact (Ext.refl w).alloc _
  have HR1 := Lib.hid hr1
  have HX1 := Lib.hid hx1
  have HVS := Lib.hid hvs
  have HP := Lib.hid hP
  have HX := Lib.hid hx
  have HLEN := Lib.hid hlen
  have HNN := Lib.hid hnn
  have HPO := Lib.hid hPo
  have HXO := Lib.hid hxo
  clear hr1 hx1 hvs hP hx hlen hnn hPo hxo
  go_enter Tryz.func56, Tryz.ntmps56
  go_wp2
  rw [← hW1]
  clear hW1
  go_loopw [5] (fun c wr => ∃ i : Nat, i ≤ a.P.length ∧ c = .int .i64 i ∧ (∀ r ∈ a.P.take i, agreeB a x r a.vs.length = false) ∧ Ext W1 wr) (fun c _ => a.P.length - (intOf c).toNat)
  case atStart => exact ⟨0, Nat.zero_le _, rfl, fun r hr => by simp at hr, Ext.refl _⟩
  case round =>
    obtain ⟨i, hi, rfl, hall, hxr⟩ := hrel
    have HALL := Lib.hid hall
    have HXR := Lib.hid hxr
    have hb := HR1.out.up hxr.below
    have b0 : wr.cell? ⟨w.heap.size, 0, none⟩ = some (.slice VA a.vs.length VC) := hb.cell 0
    have b1 : wr.cell? ⟨w.heap.size, 1, none⟩ = some (.slice PA a.P.length PC) := hb.cell 1
    have hbz := hb.lt
    clear hall hxr hb
    by_cases h1 : i < a.P.length
    rotate_left
    · have HE : Hid (allowsB a x = false) := by
        show _ = _
        unfold allowsB
        rw [List.any_eq_false]
        intro r hr
        rw [List.take_of_length_le (by omega)] at HALL
        rw [HALL.out r hr]
        decide
      go_wp2
      go_ret
      exact ⟨by rw [HE.out]; rfl, HX1.out.trans HXR.out⟩
    obtain ⟨wo, hwo⟩ : ∃ wo, wo = wr := ⟨_, rfl⟩
    subst hwo
    go_wp2_with fail
    go_loopw [6, 7] (fun s c wx => ∃ k : Nat, k ≤ a.vs.length ∧ c = .int .i64 k ∧ s = .bool (agreeB a x a.P[i] k) ∧ Ext W1 wx) (fun _ c _ => a.vs.length - (intOf c).toNat)
    case atStart => exact ⟨0, Nat.zero_le _, rfl, rfl, HXR.out⟩
    case round =>
      obtain ⟨k, hk, rfl, rfl, hxw⟩ := hrel
      have HXW := Lib.hid hxw
      have hb := HR1.out.up hxw.below
      have b0 : wr.cell? ⟨w.heap.size, 0, none⟩ = some (.slice VA a.vs.length VC) := hb.cell 0
      have b1 : wr.cell? ⟨w.heap.size, 1, none⟩ = some (.slice PA a.P.length PC) := hb.cell 1
      have hbz2 := hb.lt
      have hxx := HX1.out.trans hxw
      have HXX := Lib.hid hxx
      clear hxw hb hxx
      by_cases h2 : k < a.vs.length
      · obtain ⟨vb, vo, hva, hvb, vc⟩ := slI_at HVS.out h2
        have vc := (HXX.out.cell (o := vo + k) hvb).trans vc
        have hvb2 := Nat.lt_of_lt_of_le hvb HXX.out.size
        have hv0 := HNN.out _ (List.getElem_mem h2)
        obtain ⟨pb, po, RA', RC, hpa, hpb, pc, -, -, hrs⟩ := slRs_at HP.out h1
        have pc := (HXX.out.cell (o := po + i) hpb).trans pc
        have hpb2 := Nat.lt_of_lt_of_le hpb HXX.out.size
        have hrl := HLEN.out _ (List.getElem_mem h1)
        obtain ⟨rb, ro, hra, hrb, r0, r1, r2⟩ := slR_at hrs (i := k) (by omega)
        have r0 := (HXX.out.cell (o := ro + k * 3) hrb).trans r0
        have r1 := (HXX.out.cell (o := ro + k * 3 + 1) hrb).trans r1
        have r2 := (HXX.out.cell (o := ro + k * 3 + 2) hrb).trans r2
        have hrb2 := Nat.lt_of_lt_of_le hrb HXX.out.size
        subst hva hpa hra
        have HAS : Hid (agreeB a x a.P[i] (k + 1) = (agreeB a x a.P[i] k && (decide ((x.length : Int) ≤ a.vs[k]) || decide ((a.P[i])[k] = x.getD (a.vs[k]).toNat default)))) := by
          show _ = _
          rw [agreeB_succ, List.getD_eq_getElem?_getD, List.getElem?_eq_getElem h2, List.getD_eq_getElem?_getD (l := a.P[i]), List.getElem?_eq_getElem (by omega : k < (a.P[i]).length)]
          rfl
        have HSO := (HPO.out _ (List.getElem_mem h1)).2 _ (List.getElem_mem (by omega : k < (a.P[i]).length))
        have hrl2 : k < (a.P[i]).length := by omega
        have hw1 : IntKind.i64.wrap ((k : Int) + 1) = ((k + 1 : Nat) : Int) := by rw [IntWalk.i64_in _ (by omega)]; omega
        have g1 : (0 : Int) ≤ (k : Int) := by omega
        have g2 : (k : Int) < (a.vs.length : Int) := by omega
        have g3 : (0 : Int) ≤ (i : Int) := by omega
        have g4 : (i : Int) < (a.P.length : Int) := by omega
        have g5 : (k : Int) < ((a.P[i]).length : Int) := by omega
        generalize hag : agreeB a x a.P[i] k = ag at *
        generalize (a.P[i])[k] = u at *
        generalize (a.P[i]).length = rl at *
        obtain ⟨y, hy⟩ : ∃ y : Nat, a.vs[k] = (y : Int) := ⟨(a.vs[k]).toNat, by omega⟩
        rw [hy] at vc HAS
        rw [Int.toNat_natCast] at HAS
        clear hy hv0 hrl
        have HAG := Lib.hid hag
        clear hag
        by_cases hyx : y < x.length
        rotate_left
        · have hd : decide ((y : Int) < (x.length : Int)) = false := decide_eq_false (by omega)
          have HN : Hid (agreeB a x a.P[i] (k + 1) = ag) := by
            show _ = _
            rw [HAS.out, decide_eq_true (by omega : (x.length : Int) ≤ (y : Int))]
            simp
          clear HAS
          go_wp2_with fail
          refine wp_region_held_drew (S := (fun w' => w'.cell? ⟨w.heap.size, 0, none⟩ = some (.slice (some ⟨vb, vo, none⟩) a.vs.length VC) ∧ w'.cell? ⟨vb, vo + k, none⟩ = some (.int .i64 (y : Nat)))) (by kernel_rfl) ⟨b0, vc⟩ (fun hHeld => ?_)
          refine takeOp (i := 0) (v := ?_) (some 22) rfl rfl (by kernel_rfl) (by kernel_rfl) (by kernel_rfl) (fun _ _ _ h => h) (Or.inl ⟨by rfl, ?_⟩) (by assumption) ?_
          rotate_left 1
          · (intro w0 hSw; (try dsimp only at hSw); go_simp; try (with_reducible rfl))
          try simp only [Act.put, List.setIfInBounds_toArray, List.set_cons_succ, List.set_cons_zero]
          refine takeOp (i := 1) (v := ?_) (some 23) rfl rfl (by kernel_rfl) (by kernel_rfl) (by kernel_rfl) (fun _ _ _ h => h) (Or.inl ⟨by rfl, ?_⟩) (by assumption) ?_
          rotate_left 1
          · (intro w0 hSw; (try dsimp only at hSw); go_simp; try (with_reducible rfl))
          try simp only [Act.put, List.setIfInBounds_toArray, List.set_cons_succ, List.set_cons_zero]
          refine takeOp (i := 2) (v := ?_) (some 24) rfl rfl (by kernel_rfl) (by kernel_rfl) (by kernel_rfl) (fun _ _ _ h => h) (Or.inl ⟨by rfl, ?_⟩) (by assumption) ?_
          rotate_left 1
          · (intro w0 hSw; (try dsimp only at hSw); go_simp; try (with_reducible rfl))
          try simp only [Act.put, List.setIfInBounds_toArray, List.set_cons_succ, List.set_cons_zero]
          refine takeOp (i := 3) (v := ?_) (some 25) rfl rfl (by kernel_rfl) (by kernel_rfl) (by kernel_rfl) (fun _ _ _ h => h) (Or.inl ⟨by rfl, ?_⟩) (by assumption) ?_
          rotate_left 1
          · (intro w0 hSw; (try dsimp only at hSw); go_simp; try (with_reducible rfl))
          try simp only [Act.put, List.setIfInBounds_toArray, List.set_cons_succ, List.set_cons_zero]
          refine takeOp (i := 4) (v := ?_) (some 26) rfl rfl (by kernel_rfl) (by kernel_rfl) (by kernel_rfl) (fun _ _ _ h => h) (Or.inl ⟨by rfl, ?_⟩) (by assumption) ?_
          rotate_left 1
          · (intro w0 hSw; (try dsimp only at hSw); go_simp; try (with_reducible rfl))
          try simp only [Act.put, List.setIfInBounds_toArray, List.set_cons_succ, List.set_cons_zero]
          refine takeOp (i := 5) (v := ?_) (some 27) rfl rfl (by kernel_rfl) (by kernel_rfl) (by kernel_rfl) (fun _ _ _ h => h) (Or.inl ⟨by rfl, ?_⟩) (by assumption) ?_
          rotate_left 1
          · (intro w0 hSw; (try dsimp only at hSw); go_simp; try (with_reducible rfl))
          try simp only [Act.put, List.setIfInBounds_toArray, List.set_cons_succ, List.set_cons_zero]
          refine takeOp (i := 6) (v := ?_) (some 28) rfl rfl (by kernel_rfl) (by kernel_rfl) (by kernel_rfl) (fun _ _ _ h => h) (Or.inl ⟨by rfl, ?_⟩) (by assumption) ?_
          rotate_left 1
          · (intro w0 hSw; (try dsimp only at hSw); go_simp; try (with_reducible rfl))
          try simp only [Act.put, List.setIfInBounds_toArray, List.set_cons_succ, List.set_cons_zero]
          refine takeOp (i := 7) (v := ?_) (some 29) rfl rfl (by kernel_rfl) (by kernel_rfl) (by kernel_rfl) (fun _ _ _ h => h) (Or.inl ⟨by rfl, ?_⟩) (by assumption) ?_
          rotate_left 1
          · (intro w0 hSw; (try dsimp only at hSw); go_simp; try (with_reducible rfl))
          try simp only [Act.put, List.setIfInBounds_toArray, List.set_cons_succ, List.set_cons_zero]
          refine takeOp (i := 8) (v := ?_) (some 30) rfl rfl (by kernel_rfl) (by kernel_rfl) (by kernel_rfl) (fun _ _ _ h => h) (Or.inl ⟨by rfl, ?_⟩) (by assumption) ?_
          rotate_left 1
          · (intro w0 hSw; (try dsimp only at hSw); go_simp; try (with_reducible rfl))
          try simp only [Act.put, List.setIfInBounds_toArray, List.set_cons_succ, List.set_cons_zero]
          refine takeOp (i := 9) (v := undef) (some 31) rfl rfl (by kernel_rfl) (by kernel_rfl) (by kernel_rfl) (fun _ _ _ h => h) (Or.inr ⟨by rfl, rfl⟩) (by assumption) ?_
          try simp only [Act.put, List.setIfInBounds_toArray, List.set_cons_succ, List.set_cons_zero]
          refine takeOp (i := 10) (v := undef) (some 32) rfl rfl (by kernel_rfl) (by kernel_rfl) (by kernel_rfl) (fun _ _ _ h => h) (Or.inr ⟨by rfl, rfl⟩) (by assumption) ?_
          try simp only [Act.put, List.setIfInBounds_toArray, List.set_cons_succ, List.set_cons_zero]
          refine takeOp (i := 11) (v := undef) (some 33) rfl rfl (by kernel_rfl) (by kernel_rfl) (by kernel_rfl) (fun _ _ _ h => h) (Or.inr ⟨by rfl, rfl⟩) (by assumption) ?_
          try simp only [Act.put, List.setIfInBounds_toArray, List.set_cons_succ, List.set_cons_zero]
          refine takeOp (i := 12) (v := undef) (some 34) rfl rfl (by kernel_rfl) (by kernel_rfl) (by kernel_rfl) (fun _ _ _ h => h) (Or.inr ⟨by rfl, rfl⟩) (by assumption) ?_
          try simp only [Act.put, List.setIfInBounds_toArray, List.set_cons_succ, List.set_cons_zero]
          refine takeOp (i := 13) (v := undef) (some 35) rfl rfl (by kernel_rfl) (by kernel_rfl) (by kernel_rfl) (fun _ _ _ h => h) (Or.inr ⟨by rfl, rfl⟩) (by assumption) ?_
          try simp only [Act.put, List.setIfInBounds_toArray, List.set_cons_succ, List.set_cons_zero]
          refine takeOp (i := 14) (v := undef) (some 36) rfl rfl (by kernel_rfl) (by kernel_rfl) (by kernel_rfl) (fun _ _ _ h => h) (Or.inr ⟨by rfl, rfl⟩) (by assumption) ?_
          try simp only [Act.put, List.setIfInBounds_toArray, List.set_cons_succ, List.set_cons_zero]
          refine takeOp (i := 15) (v := undef) (some 37) rfl rfl (by kernel_rfl) (by kernel_rfl) (by kernel_rfl) (fun _ _ _ h => h) (Or.inr ⟨by rfl, rfl⟩) (by assumption) ?_
          try simp only [Act.put, List.setIfInBounds_toArray, List.set_cons_succ, List.set_cons_zero]
          refine takeOp (i := 16) (v := undef) (some 38) rfl rfl (by kernel_rfl) (by kernel_rfl) (by kernel_rfl) (fun _ _ _ h => h) (Or.inr ⟨by rfl, rfl⟩) (by assumption) ?_
          try simp only [Act.put, List.setIfInBounds_toArray, List.set_cons_succ, List.set_cons_zero]
          refine takeOp (i := 17) (v := undef) (some 39) rfl rfl (by kernel_rfl) (by kernel_rfl) (by kernel_rfl) (fun _ _ _ h => h) (Or.inr ⟨by rfl, rfl⟩) (by assumption) ?_
          try simp only [Act.put, List.setIfInBounds_toArray, List.set_cons_succ, List.set_cons_zero]
          refine takeOp (i := 18) (v := undef) (some 40) rfl rfl (by kernel_rfl) (by kernel_rfl) (by kernel_rfl) (fun _ _ _ h => h) (Or.inr ⟨by rfl, rfl⟩) (by assumption) ?_
          try simp only [Act.put, List.setIfInBounds_toArray, List.set_cons_succ, List.set_cons_zero]
          refine takeOp (i := 19) (v := undef) (some 41) rfl rfl (by kernel_rfl) (by kernel_rfl) (by kernel_rfl) (fun _ _ _ h => h) (Or.inr ⟨by rfl, rfl⟩) (by assumption) ?_
          try simp only [Act.put, List.setIfInBounds_toArray, List.set_cons_succ, List.set_cons_zero]
          refine takeOp (i := 20) (v := undef) (some 42) rfl rfl (by kernel_rfl) (by kernel_rfl) (by kernel_rfl) (fun _ _ _ h => h) (Or.inr ⟨by rfl, rfl⟩) (by assumption) ?_
          try simp only [Act.put, List.setIfInBounds_toArray, List.set_cons_succ, List.set_cons_zero]
          refine takeOp (i := 21) (v := undef) (some 43) rfl rfl (by kernel_rfl) (by kernel_rfl) (by kernel_rfl) (fun _ _ _ h => h) (Or.inr ⟨by rfl, rfl⟩) (by assumption) ?_
          try simp only [Act.put, List.setIfInBounds_toArray, List.set_cons_succ, List.set_cons_zero]
          refine takeOp (i := 22) (v := undef) (some 44) rfl rfl (by kernel_rfl) (by kernel_rfl) (by kernel_rfl) (fun _ _ _ h => h) (Or.inr ⟨by rfl, rfl⟩) (by assumption) ?_
          try simp only [Act.put, List.setIfInBounds_toArray, List.set_cons_succ, List.set_cons_zero]
          refine takeOp (i := 23) (v := undef) (some 45) rfl rfl (by kernel_rfl) (by kernel_rfl) (by kernel_rfl) (fun _ _ _ h => h) (Or.inr ⟨by rfl, rfl⟩) (by assumption) ?_
          try simp only [Act.put, List.setIfInBounds_toArray, List.set_cons_succ, List.set_cons_zero]
          refine takeOp (i := 24) (v := undef) (some 46) rfl rfl (by kernel_rfl) (by kernel_rfl) (by kernel_rfl) (fun _ _ _ h => h) (Or.inr ⟨by rfl, rfl⟩) (by assumption) ?_
          try simp only [Act.put, List.setIfInBounds_toArray, List.set_cons_succ, List.set_cons_zero]
          refine takeOp (i := 25) (v := undef) (some 47) rfl rfl (by kernel_rfl) (by kernel_rfl) (by kernel_rfl) (fun _ _ _ h => h) (Or.inr ⟨by rfl, rfl⟩) (by assumption) ?_
          try simp only [Act.put, List.setIfInBounds_toArray, List.set_cons_succ, List.set_cons_zero]
          refine takeOp (i := 26) (v := undef) (some 48) rfl rfl (by kernel_rfl) (by kernel_rfl) (by kernel_rfl) (fun _ _ _ h => h) (Or.inr ⟨by rfl, rfl⟩) (by assumption) ?_
          try simp only [Act.put, List.setIfInBounds_toArray, List.set_cons_succ, List.set_cons_zero]
          refine takeOp (i := 27) (v := ?_) (some 49) rfl rfl (by kernel_rfl) (by kernel_rfl) (by kernel_rfl) (fun _ _ _ h => h) (Or.inl ⟨by rfl, ?_⟩) (by assumption) ?_
          rotate_left 1
          · (intro w0 hSw; (try dsimp only at hSw); go_simp; try (with_reducible rfl))
          try simp only [Act.put, List.setIfInBounds_toArray, List.set_cons_succ, List.set_cons_zero]
          refine wpAnyH_done (by kernel_rfl) ?_ _
          go_wp2
          go_roundw
          case rel => exact ⟨k + 1, h2, by go_num, by rw [HN.out], HXW.out.drew⟩
          case measure => simp [intOf]; omega
        have hd : decide ((y : Int) < (x.length : Int)) = true := decide_eq_true (by omega)
        obtain ⟨xb, xo, hxa, hxb, x0, x1, x2⟩ := slR_at HX.out hyx
        subst hxa
        have x0 := (HXX.out.cell (o := xo + y * 3) hxb).trans x0
        have x1 := (HXX.out.cell (o := xo + y * 3 + 1) hxb).trans x1
        have x2 := (HXX.out.cell (o := xo + y * 3 + 2) hxb).trans x2
        have hxb2 := Nat.lt_of_lt_of_le hxb HXX.out.size
        have HXS := Lib.hid (HXO.out.2 _ (List.getElem_mem hyx))
        have HN : Hid (agreeB a x a.P[i] (k + 1) = (ag && decide (u = x[y]))) := by
          show _ = _
          rw [HAS.out, decide_eq_false (by omega : ¬ (x.length : Int) ≤ (y : Int)), Bool.false_or, List.getD_eq_getElem?_getD, List.getElem?_eq_getElem hyx]
          rfl
        have HSO2 := Lib.hid HSO
        clear HAS HSO
        generalize x[y] = z at *
        have g6 : (0 : Int) ≤ (y : Int) := by omega
        have g7 : (y : Int) < (x.length : Int) := by omega
        go_wp2_with fail
        refine wp_region_held_drew (S := (fun w' => w'.cell? ⟨w.heap.size, 0, none⟩ = some (.slice (some ⟨vb, vo, none⟩) a.vs.length VC) ∧ w'.cell? ⟨w.heap.size, 1, none⟩ = some (.slice (some ⟨pb, po, none⟩) a.P.length PC) ∧ w'.cell? ⟨vb, vo + k, none⟩ = some (.int .i64 (y : Nat)) ∧ w'.cell? ⟨pb, po + i, none⟩ = some (.slice (some ⟨rb, ro, none⟩) rl RC) ∧ w'.cell? ⟨rb, ro + k * 3, none⟩ = some (.int .i64 u.kind) ∧ w'.cell? ⟨rb, ro + k * 3 + 1, none⟩ = some (.int .i64 u.int) ∧ w'.cell? ⟨rb, ro + k * 3 + 2, none⟩ = some (.string u.str) ∧ w'.cell? ⟨xb, xo + y * 3, none⟩ = some (.int .i64 z.kind) ∧ w'.cell? ⟨xb, xo + y * 3 + 1, none⟩ = some (.int .i64 z.int) ∧ w'.cell? ⟨xb, xo + y * 3 + 2, none⟩ = some (.string z.str))) (by kernel_rfl) ⟨b0, b1, vc, pc, r0, r1, r2, x0, x1, x2⟩ (fun hHeld => ?_)
        refine takeOp (i := 0) (v := ?_) (some 22) rfl rfl (by kernel_rfl) (by kernel_rfl) (by kernel_rfl) (fun _ _ _ h => h) (Or.inl ⟨by rfl, ?_⟩) (by assumption) ?_
        rotate_left 1
        · (intro w0 hSw; (try dsimp only at hSw); go_simp; try (with_reducible rfl))
        try simp only [Act.put, List.setIfInBounds_toArray, List.set_cons_succ, List.set_cons_zero]
        refine takeOp (i := 1) (v := ?_) (some 23) rfl rfl (by kernel_rfl) (by kernel_rfl) (by kernel_rfl) (fun _ _ _ h => h) (Or.inl ⟨by rfl, ?_⟩) (by assumption) ?_
        rotate_left 1
        · (intro w0 hSw; (try dsimp only at hSw); go_simp; try (with_reducible rfl))
        try simp only [Act.put, List.setIfInBounds_toArray, List.set_cons_succ, List.set_cons_zero]
        refine takeOp (i := 2) (v := ?_) (some 24) rfl rfl (by kernel_rfl) (by kernel_rfl) (by kernel_rfl) (fun _ _ _ h => h) (Or.inl ⟨by rfl, ?_⟩) (by assumption) ?_
        rotate_left 1
        · (intro w0 hSw; (try dsimp only at hSw); go_simp; try (with_reducible rfl))
        try simp only [Act.put, List.setIfInBounds_toArray, List.set_cons_succ, List.set_cons_zero]
        refine takeOp (i := 3) (v := ?_) (some 25) rfl rfl (by kernel_rfl) (by kernel_rfl) (by kernel_rfl) (fun _ _ _ h => h) (Or.inl ⟨by rfl, ?_⟩) (by assumption) ?_
        rotate_left 1
        · (intro w0 hSw; (try dsimp only at hSw); go_simp; try (with_reducible rfl))
        try simp only [Act.put, List.setIfInBounds_toArray, List.set_cons_succ, List.set_cons_zero]
        refine takeOp (i := 4) (v := ?_) (some 26) rfl rfl (by kernel_rfl) (by kernel_rfl) (by kernel_rfl) (fun _ _ _ h => h) (Or.inl ⟨by rfl, ?_⟩) (by assumption) ?_
        rotate_left 1
        · (intro w0 hSw; (try dsimp only at hSw); go_simp; try (with_reducible rfl))
        try simp only [Act.put, List.setIfInBounds_toArray, List.set_cons_succ, List.set_cons_zero]
        refine takeOp (i := 5) (v := ?_) (some 27) rfl rfl (by kernel_rfl) (by kernel_rfl) (by kernel_rfl) (fun _ _ _ h => h) (Or.inl ⟨by rfl, ?_⟩) (by assumption) ?_
        rotate_left 1
        · (intro w0 hSw; (try dsimp only at hSw); go_simp; try (with_reducible rfl))
        try simp only [Act.put, List.setIfInBounds_toArray, List.set_cons_succ, List.set_cons_zero]
        refine takeOp (i := 6) (v := ?_) (some 28) rfl rfl (by kernel_rfl) (by kernel_rfl) (by kernel_rfl) (fun _ _ _ h => h) (Or.inl ⟨by rfl, ?_⟩) (by assumption) ?_
        rotate_left 1
        · (intro w0 hSw; (try dsimp only at hSw); go_simp; try (with_reducible rfl))
        try simp only [Act.put, List.setIfInBounds_toArray, List.set_cons_succ, List.set_cons_zero]
        refine takeOp (i := 7) (v := ?_) (some 29) rfl rfl (by kernel_rfl) (by kernel_rfl) (by kernel_rfl) (fun _ _ _ h => h) (Or.inl ⟨by rfl, ?_⟩) (by assumption) ?_
        rotate_left 1
        · (intro w0 hSw; (try dsimp only at hSw); go_simp; try (with_reducible rfl))
        try simp only [Act.put, List.setIfInBounds_toArray, List.set_cons_succ, List.set_cons_zero]
        refine takeOp (i := 8) (v := ?_) (some 30) rfl rfl (by kernel_rfl) (by kernel_rfl) (by kernel_rfl) (fun _ _ _ h => h) (Or.inl ⟨by rfl, ?_⟩) (by assumption) ?_
        rotate_left 1
        · (intro w0 hSw; (try dsimp only at hSw); go_simp; try (with_reducible rfl))
        try simp only [Act.put, List.setIfInBounds_toArray, List.set_cons_succ, List.set_cons_zero]
        refine takeOp (i := 9) (v := ?_) (some 31) rfl rfl (by kernel_rfl) (by kernel_rfl) (by kernel_rfl) (fun _ _ _ h => h) (Or.inl ⟨by rfl, ?_⟩) (by assumption) ?_
        rotate_left 1
        · (intro w0 hSw; (try dsimp only at hSw); go_simp; try (with_reducible rfl))
        try simp only [Act.put, List.setIfInBounds_toArray, List.set_cons_succ, List.set_cons_zero]
        refine takeOp (i := 10) (v := ?_) (some 32) rfl rfl (by kernel_rfl) (by kernel_rfl) (by kernel_rfl) (fun _ _ _ h => h) (Or.inl ⟨by rfl, ?_⟩) (by assumption) ?_
        rotate_left 1
        · (intro w0 hSw; (try dsimp only at hSw); go_simp; try (with_reducible rfl))
        try simp only [Act.put, List.setIfInBounds_toArray, List.set_cons_succ, List.set_cons_zero]
        refine takeOp (i := 11) (v := ?_) (some 33) rfl rfl (by kernel_rfl) (by kernel_rfl) (by kernel_rfl) (fun _ _ _ h => h) (Or.inl ⟨by rfl, ?_⟩) (by assumption) ?_
        rotate_left 1
        · (intro w0 hSw; (try dsimp only at hSw); go_simp; try (with_reducible rfl))
        try simp only [Act.put, List.setIfInBounds_toArray, List.set_cons_succ, List.set_cons_zero]
        refine takeOp (i := 12) (v := ?_) (some 34) rfl rfl (by kernel_rfl) (by kernel_rfl) (by kernel_rfl) (fun _ _ _ h => h) (Or.inl ⟨by rfl, ?_⟩) (by assumption) ?_
        rotate_left 1
        · (intro w0 hSw; (try dsimp only at hSw); go_simp; try (with_reducible rfl))
        try simp only [Act.put, List.setIfInBounds_toArray, List.set_cons_succ, List.set_cons_zero]
        refine takeOp (i := 13) (v := ?_) (some 35) rfl rfl (by kernel_rfl) (by kernel_rfl) (by kernel_rfl) (fun _ _ _ h => h) (Or.inl ⟨by rfl, ?_⟩) (by assumption) ?_
        rotate_left 1
        · (intro w0 hSw; (try dsimp only at hSw); go_simp; try (with_reducible rfl))
        try simp only [Act.put, List.setIfInBounds_toArray, List.set_cons_succ, List.set_cons_zero]
        refine takeOp (i := 14) (v := ?_) (some 36) rfl rfl (by kernel_rfl) (by kernel_rfl) (by kernel_rfl) (fun _ _ _ h => h) (Or.inl ⟨by rfl, ?_⟩) (by assumption) ?_
        rotate_left 1
        · (intro w0 hSw; (try dsimp only at hSw); go_simp; try (with_reducible rfl))
        try simp only [Act.put, List.setIfInBounds_toArray, List.set_cons_succ, List.set_cons_zero]
        refine takeOp (i := 15) (v := ?_) (some 37) rfl rfl (by kernel_rfl) (by kernel_rfl) (by kernel_rfl) (fun _ _ _ h => h) (Or.inl ⟨by rfl, ?_⟩) (by assumption) ?_
        rotate_left 1
        · (intro w0 hSw; (try dsimp only at hSw); go_simp; try (with_reducible rfl))
        try simp only [Act.put, List.setIfInBounds_toArray, List.set_cons_succ, List.set_cons_zero]
        refine takeOp (i := 16) (v := ?_) (some 38) rfl rfl (by kernel_rfl) (by kernel_rfl) (by kernel_rfl) (fun _ _ _ h => h) (Or.inl ⟨by rfl, ?_⟩) (by assumption) ?_
        rotate_left 1
        · (intro w0 hSw; (try dsimp only at hSw); go_simp; try (with_reducible rfl))
        try simp only [Act.put, List.setIfInBounds_toArray, List.set_cons_succ, List.set_cons_zero]
        refine takeOp (i := 17) (v := ?_) (some 39) rfl rfl (by kernel_rfl) (by kernel_rfl) (by kernel_rfl) (fun _ _ _ h => h) (Or.inl ⟨by rfl, ?_⟩) (by assumption) ?_
        rotate_left 1
        · (intro w0 hSw; (try dsimp only at hSw); go_simp; try (with_reducible rfl))
        try simp only [Act.put, List.setIfInBounds_toArray, List.set_cons_succ, List.set_cons_zero]
        refine takeOp (i := 18) (v := ?_) (some 40) rfl rfl (by kernel_rfl) (by kernel_rfl) (by kernel_rfl) (fun _ _ _ h => h) (Or.inl ⟨by rfl, ?_⟩) (by assumption) ?_
        rotate_left 1
        · (intro w0 hSw; (try dsimp only at hSw); go_simp; try (with_reducible rfl))
        try simp only [Act.put, List.setIfInBounds_toArray, List.set_cons_succ, List.set_cons_zero]
        refine takeOp (i := 19) (v := ?_) (some 41) rfl rfl (by kernel_rfl) (by kernel_rfl) (by kernel_rfl) (fun _ _ _ h => h) (Or.inl ⟨by rfl, ?_⟩) (by assumption) ?_
        rotate_left 1
        · (intro w0 hSw; (try dsimp only at hSw); go_simp; try (with_reducible rfl))
        try simp only [Act.put, List.setIfInBounds_toArray, List.set_cons_succ, List.set_cons_zero]
        refine takeOp (i := 20) (v := ?_) (some 42) rfl rfl (by kernel_rfl) (by kernel_rfl) (by kernel_rfl) (fun _ _ _ h => h) (Or.inl ⟨by rfl, ?_⟩) (by assumption) ?_
        rotate_left 1
        · (intro w0 hSw; (try dsimp only at hSw); go_simp; try (with_reducible rfl))
        try simp only [Act.put, List.setIfInBounds_toArray, List.set_cons_succ, List.set_cons_zero]
        refine takeOp (i := 21) (v := ?_) (some 43) rfl rfl (by kernel_rfl) (by kernel_rfl) (by kernel_rfl) (fun _ _ _ h => h) (Or.inl ⟨by rfl, ?_⟩) (by assumption) ?_
        rotate_left 1
        · (intro w0 hSw; (try dsimp only at hSw); go_simp; try (with_reducible rfl))
        try simp only [Act.put, List.setIfInBounds_toArray, List.set_cons_succ, List.set_cons_zero]
        refine takeOp (i := 22) (v := ?_) (some 44) rfl rfl (by kernel_rfl) (by kernel_rfl) (by kernel_rfl) (fun _ _ _ h => h) (Or.inl ⟨by rfl, ?_⟩) (by assumption) ?_
        rotate_left 1
        · (intro w0 hSw; (try dsimp only at hSw); go_simp; try (with_reducible rfl))
        try simp only [Act.put, List.setIfInBounds_toArray, List.set_cons_succ, List.set_cons_zero]
        refine takeOp (i := 23) (v := ?_) (some 45) rfl rfl (by kernel_rfl) (by kernel_rfl) (by kernel_rfl) (fun _ _ _ h => h) (Or.inl ⟨by rfl, ?_⟩) (by assumption) ?_
        rotate_left 1
        · (intro w0 hSw; (try dsimp only at hSw); go_simp; try (with_reducible rfl))
        try simp only [Act.put, List.setIfInBounds_toArray, List.set_cons_succ, List.set_cons_zero]
        refine takeOp (i := 24) (v := ?_) (some 46) rfl rfl (by kernel_rfl) (by kernel_rfl) (by kernel_rfl) (fun _ _ _ h => h) (Or.inl ⟨by rfl, ?_⟩) (by assumption) ?_
        rotate_left 1
        · (intro w0 hSw; (try dsimp only at hSw); go_simp; try (with_reducible rfl))
        try simp only [Act.put, List.setIfInBounds_toArray, List.set_cons_succ, List.set_cons_zero]
        refine wpAnyH_ready (rs := [25]) (by kernel_rfl) (by simp) ?_
        refine AllReadyH.cons rfl (fun K hK => ?_) AllReadyH.nil
        go_simp
        refine (r1Compare_any u z wr.drew HSO2.out HXS.out).mono ?_
        rintro e w6 ⟨rfl, hx6⟩
        have hx7 : Ext wr w6 := (Ext.refl wr).drew.trans hx6
        have KEEP := (⟨(hx7.cell hbz2).trans b0, (hx7.cell hbz2).trans b1, (hx7.cell hvb2).trans vc, (hx7.cell hpb2).trans pc, (hx7.cell hrb2).trans r0, (hx7.cell hrb2).trans r1, (hx7.cell hrb2).trans r2, (hx7.cell hxb2).trans x0, (hx7.cell hxb2).trans x1, (hx7.cell hxb2).trans x2⟩ : _ ∧ _ ∧ _ ∧ _ ∧ _ ∧ _ ∧ _ ∧ _ ∧ _ ∧ _)
        have HX7 := Lib.hid (HXW.out.trans hx7)
        clear hx6 hx7
        go_wp2_with fail
        refine hK.out _ _ KEEP (fun hHeld => ?_)
        clear hK K
        try simp only [Act.put, List.setIfInBounds_toArray, List.set_cons_succ, List.set_cons_zero]
        refine takeOp (i := 26) (v := ?_) (some 48) rfl rfl (by kernel_rfl) (by kernel_rfl) (by kernel_rfl) (fun _ _ _ h => h) (Or.inl ⟨by rfl, ?_⟩) (by assumption) ?_
        rotate_left 1
        · (intro w0 hSw; (try dsimp only at hSw); go_simp; try (with_reducible rfl))
        try simp only [Act.put, List.setIfInBounds_toArray, List.set_cons_succ, List.set_cons_zero]
        refine takeOp (i := 27) (v := ?_) (some 49) rfl rfl (by kernel_rfl) (by kernel_rfl) (by kernel_rfl) (fun _ _ _ h => h) (Or.inl ⟨by rfl, ?_⟩) (by assumption) ?_
        rotate_left 1
        · (intro w0 hSw; (try dsimp only at hSw); go_simp; try (with_reducible rfl))
        try simp only [Act.put, List.setIfInBounds_toArray, List.set_cons_succ, List.set_cons_zero]
        refine wpAnyH_done (by kernel_rfl) ?_ _
        clear KEEP b0 b1 vc pc r0 r1 r2 x0 x1 x2
        by_cases huz : u = z
        · have hnb : (RL.cmpV u z != 0) = false := by simp [(RL.tot_cmpV.z u z).2 huz]
          have HN2 : Hid (agreeB a x a.P[i] (k + 1) = ag) := by show _ = _; rw [HN.out, decide_eq_true huz, Bool.and_true]
          clear huz HN
          go_wp2
          go_roundw
          case rel => exact ⟨k + 1, h2, by go_num, by rw [HN2.out], HX7.out⟩
          case measure => simp [intOf]; omega
        · have hnb : (RL.cmpV u z != 0) = true := by
            have : RL.cmpV u z ≠ 0 := fun e => huz ((RL.tot_cmpV.z u z).1 e)
            simpa using this
          have HN2 : Hid (agreeB a x a.P[i] (k + 1) = false) := by show _ = _; rw [HN.out, decide_eq_false huz, Bool.and_false]
          clear huz HN
          go_wp2
          go_roundw
          case rel => exact ⟨k + 1, h2, by go_num, by rw [HN2.out], HX7.out⟩
          case measure => simp [intOf]; omega
      have HKE : Hid (k = a.vs.length) := by show _ = _; omega
      have HTP : Hid (a.P.take (i + 1) = a.P.take i ++ [a.P[i]]) := List.take_succ_eq_append_getElem h1
      have HMP : Hid (a.P[i] ∈ a.P) := List.getElem_mem h1
      cases hag : agreeB a x a.P[i] k
      · have HAG := Lib.hid hag
        have hwi : IntKind.i64.wrap ((i : Int) + 1) = ((i + 1 : Nat) : Int) := by rw [IntWalk.i64_in _ (by omega)]; omega
        clear hag
        go_wp2
        go_roundw
        case rel =>
          refine ⟨i + 1, h1, by go_num, fun r hr => ?_, HXW.out⟩
          rw [HTP.out] at hr
          rcases List.mem_append.1 hr with h | h
          · exact HALL.out r h
          · simp at h; subst h; rw [← HKE.out]; exact HAG.out
        case measure => simp [intOf]; omega
      · have HAG := Lib.hid hag
        have HE : Hid (allowsB a x = true) := by
          show _ = _
          unfold allowsB
          rw [List.any_eq_true]
          exact ⟨_, HMP.out, by rw [← HKE.out]; exact HAG.out⟩
        clear hag
        go_wp2
        go_ret
        exact ⟨by rw [HE.out]; rfl, HXX.out⟩
end
section
open Go.RowKit Go.Sort

def colF (X : List RA) (v : Int) : Option (RA × Nat) := X.findSome? fun a => (a.vs.findIdx? (· == v)).map fun k => (a, k)
def valsF (X : List RA) (v : Int) : RL.R :=
  match colF X v with
  | some (a, k) => (RL.ofF (a.P.map (projF · [(k : Int)]))).map fun r => r.getD 0 default
  | none => []
def AtsR (B : Nat) (w : World) (A : Option Addr) (X : List RA) : Prop :=
  X ≠ [] → ∃ b o, A = some ⟨b, o, none⟩ ∧ b < B ∧ ∀ i (h : i < X.length), ∃ VA VC PA PC, w.cell? ⟨b, o + i * 2, none⟩ = some (.slice VA X[i].vs.length VC) ∧ w.cell? ⟨b, o + i * 2 + 1, none⟩ = some (.slice PA X[i].P.length PC) ∧ X[i].vs.length ≤ VC ∧ VC ≤ 9223372036854775807 ∧ X[i].P.length ≤ PC ∧ PC ≤ 9223372036854775807 ∧ SlI .i64 B w VA X[i].vs ∧ SlRs B w PA X[i].P
section
variable {B : Nat} {w w' : World} {A : Option Addr} {X : List RA}
theorem AtsR.upB (h : AtsR w.heap.size w A X) (hb : Below w.heap.size w w') : AtsR w'.heap.size w' A X := fun hn => by
  obtain ⟨b, o, e, hlt, hc⟩ := h hn
  refine ⟨b, o, e, Nat.lt_of_lt_of_le hlt hb.size, fun i hi => ?_⟩
  obtain ⟨VA, VC, PA, PC, h1, h3, h4, h5, h6, h7, h8, h9⟩ := hc i hi
  exact ⟨VA, VC, PA, PC, (hb.cell (p := ⟨b, o + i * 2, none⟩) hlt).trans h1, (hb.cell (p := ⟨b, o + i * 2 + 1, none⟩) hlt).trans h3, h4, h5, h6, h7, (h8.below hb (Nat.le_refl _)).more hb.size, h9.upB hb⟩
theorem atsR_at (h : AtsR B w A X) {i : Nat} (hi : i < X.length) : ∃ b o VA VC PA PC, A = some ⟨b, o, none⟩ ∧ b < B ∧ w.cell? ⟨b, o + i * 2, none⟩ = some (.slice VA X[i].vs.length VC) ∧ w.cell? ⟨b, o + i * 2 + 1, none⟩ = some (.slice PA X[i].P.length PC) ∧ X[i].vs.length ≤ VC ∧ VC ≤ 9223372036854775807 ∧ X[i].P.length ≤ PC ∧ PC ≤ 9223372036854775807 ∧ SlI .i64 B w VA X[i].vs ∧ SlRs B w PA X[i].P := by
  obtain ⟨b, o, e, hlt, hc⟩ := h (by intro h0; subst h0; simp at hi)
  obtain ⟨VA, VC, PA, PC, h⟩ := hc i hi
  exact ⟨b, o, VA, VC, PA, PC, e, hlt, h⟩
end
theorem ones_asc {Y : List RL.R} (h : RL.SS Y) (h1 : ∀ r ∈ Y, r.length = 1) : (Y.map fun r => r.getD 0 default).Pairwise fun a b => RL.cmpV a b < 0 := by
  refine List.pairwise_map.2 (h.imp_of_mem fun {a b} ha hb hab => ?_)
  have ea := h1 a ha
  have eb := h1 b hb
  match a, b, ea, eb with
  | [u], [v], _, _ => rw [RL.cmpR_one] at hab; exact hab
theorem valsF_asc (X : List RA) (v : Int) : (valsF X v).Pairwise fun a b => RL.cmpV a b < 0 := by
  unfold valsF
  split
  · refine ones_asc (RL.SS.of _) fun r hr => ?_
    obtain ⟨y, _, rfl⟩ := List.mem_map.1 ((RL.mem_ofF _ _).1 hr)
    rfl
  · exact List.Pairwise.nil
theorem colF_some {X : List RA} {v : Int} (h : ∃ a ∈ X, v ∈ a.vs) : ∃ a k, colF X v = some (a, k) ∧ a ∈ X ∧ ∃ hk : k < a.vs.length, a.vs[k] = v := by
  unfold colF
  cases hq : X.findSome? (fun a => (a.vs.findIdx? (· == v)).map fun k => (a, k)) with
  | none =>
    obtain ⟨a, ha, hv⟩ := h
    have h1 := List.findSome?_eq_none_iff.1 hq a ha
    rw [Option.map_eq_none_iff, List.findIdx?_eq_none_iff] at h1
    have := h1 v hv
    simp at this
  | some p =>
    obtain ⟨a, ha, h1⟩ := List.exists_of_findSome?_eq_some hq
    obtain ⟨k, hk, rfl⟩ := Option.map_eq_some_iff.1 h1
    rw [List.findIdx?_eq_some_iff_getElem] at hk
    obtain ⟨hk1, hk2, -⟩ := hk
    exact ⟨a, k, rfl, ha, hk1, by simpa using hk2⟩
theorem pj_len_at {n : Nat} {a : RA} (h : a.at.Ok n) {x : RL.R} {k : Nat} (hk : k < a.vs.length) (hv : a.vs[k] = (x.length : Int)) : (pj a.at x).length = k := by
  have hd : a.at.vs.length = a.vs.length := by show (a.vs.map Int.toNat).length = _; simp
  have hpre := List.prefix_iff_eq_take.1 (filter_lt_prefix h.asc x.length)
  have hlen : (pj a.at x).length = (a.at.vs.filter fun v => decide (v < x.length)).length := by unfold pj; rw [List.length_map]
  have hk' : k < a.at.vs.length := by omega
  have e1 : a.at.vs[k] = x.length := by
    have : a.at.vs[k] = (a.vs[k]).toNat := List.getElem_map (l := a.vs) Int.toNat
    rw [this, hv, Int.toNat_natCast]
  rw [hlen]
  refine Nat.le_antisymm (Nat.le_of_not_lt fun hlt => ?_) (Nat.le_of_not_lt fun hlt => ?_)
  · have hm : (a.at.vs.filter fun v => decide (v < x.length))[k] ∈ a.at.vs.filter fun v => decide (v < x.length) := List.getElem_mem hlt
    have h1 := of_decide_eq_true (List.mem_filter.1 hm).2
    have e : (a.at.vs.filter fun v => decide (v < x.length))[k] = a.at.vs[k] := by
      have := List.getElem_of_eq hpre hlt
      rw [this, List.getElem_take]
    rw [e, e1] at h1
    exact Nat.lt_irrefl _ h1
  · have hc : (a.at.vs.filter fun v => decide (v < x.length)).length < a.at.vs.length := by omega
    have h2 := List.pairwise_iff_getElem.1 h.asc _ k hc hk' hlt
    rw [e1] at h2
    have hm : a.at.vs[(a.at.vs.filter fun v => decide (v < x.length)).length] ∈ a.at.vs.filter fun v => decide (v < x.length) := List.mem_filter.2 ⟨List.getElem_mem hc, decide_eq_true h2⟩
    obtain ⟨j, hj, e⟩ := List.getElem_of_mem hm
    have e3 : (a.at.vs.filter fun v => decide (v < x.length))[j] = a.at.vs[j]'(by omega) := by
      have := List.getElem_of_eq hpre hj
      rw [this, List.getElem_take]
    rw [e3] at e
    have := List.pairwise_iff_getElem.1 h.asc j _ (by omega) hc hj
    omega
theorem valsF_mem {n : Nat} {X : List RA} (hat : ∀ a ∈ X, a.at.Ok n) (hu : ∀ v : Nat, v < n → ∃ a ∈ X, (v : Int) ∈ a.vs) (x : RL.R) (c : RL.V) (hx : x.length < n) (hp : preB (X.map RA.at) (x ++ [c])) : c ∈ valsF X (x.length : Int) := by
  obtain ⟨a, k, hcol, ha, hk, hv⟩ := colF_some (hu x.length hx)
  unfold valsF
  rw [hcol]
  obtain ⟨y, hy, he⟩ := hp a.at (List.mem_map.2 ⟨a, ha, rfl⟩)
  have hin : x.length ∈ a.at.vs := List.mem_map.2 ⟨a.vs[k], List.getElem_mem hk, by rw [hv, Int.toNat_natCast]⟩
  rw [pj_snoc (hat a ha).asc, if_pos hin, List.length_append, List.length_singleton, pj_len_at (hat a ha) hk hv] at he
  have hyl : k < y.length := by
    have := congrArg List.length he
    rw [List.length_take, List.length_append, List.length_singleton, pj_len_at (hat a ha) hk hv] at this
    omega
  have hyk : y[k] = c := by
    have h1 := List.getElem_of_eq he (i := k) (by rw [List.length_take]; omega)
    rw [List.getElem_take, List.getElem_append_right (by rw [pj_len_at (hat a ha) hk hv]; exact Nat.le_refl _)] at h1
    simpa using h1
  refine List.mem_map.2 ⟨[c], (RL.mem_ofF _ _).2 (List.mem_map.2 ⟨y, hy, ?_⟩), rfl⟩
  show [y.getD (k : Int).toNat zV] = [c]
  rw [Int.toNat_natCast, List.getD_eq_getElem?_getD, List.getElem?_eq_getElem hyl, ← hyk]
  rfl
end
section
open Go.RowKit Go.Sort

theorem refJ_join {n : Nat} {X : List RA} (hat : ∀ a ∈ X, a.at.Ok n) (hu : ∀ v : Nat, v < n → ∃ a ∈ X, (v : Int) ∈ a.vs) : refJ (X.map RA.at) (fun v => valsF X (v : Int)) n [] = joinF n (X.map RA.at) :=
  refJ_all (fun a ha => by obtain ⟨r, hr, rfl⟩ := List.mem_map.1 ha; exact hat r hr) (fun v hv => by
    obtain ⟨a, ha, h⟩ := hu v hv
    exact ⟨a.at, List.mem_map.2 ⟨a, ha, rfl⟩, List.mem_map.2 ⟨_, h, by simp⟩⟩) (fun v _ => valsF_asc X _) (fun x _ c hx hp => valsF_mem hat hu x c hx hp)

theorem colF_none {X : List RA} {v : Int} (h : ∀ a ∈ X, v ∉ a.vs) : colF X v = none := by
  unfold colF
  rw [List.findSome?_eq_none_iff]
  intro a ha
  rw [Option.map_eq_none_iff, List.findIdx?_eq_none_iff]
  intro u hu
  have : u ≠ v := fun e => h a ha (e ▸ hu)
  simpa using this
theorem colF_at {X : List RA} {v : Int} {i k : Nat} (hi : i < X.length) (h0 : ∀ j (hj : j < X.length), j < i → v ∉ X[j].vs) (hk : k < X[i].vs.length) (hv : X[i].vs[k] = v) (hn : ∀ j (hj : j < X[i].vs.length), j < k → X[i].vs[j] ≠ v) : colF X v = some (X[i], k) := by
  unfold colF
  rw [List.findSome?_eq_some_iff]
  refine ⟨X.take i, X[i], X.drop (i + 1), by rw [← List.drop_eq_getElem_cons hi, List.take_append_drop], ?_, fun a ha => ?_⟩
  · rw [Option.map_eq_some_iff]
    refine ⟨k, ?_, rfl⟩
    rw [List.findIdx?_eq_some_iff_getElem]
    exact ⟨hk, by simpa using hv, fun j hj => by simpa using hn j (by omega) hj⟩
  · obtain ⟨j, hj, rfl⟩ := List.mem_take_iff_getElem.1 ha
    rw [Option.map_eq_none_iff, List.findIdx?_eq_none_iff]
    intro u hu
    have : u ≠ v := fun e => h0 j (by omega) (by omega) (e ▸ hu)
    simpa using this

theorem appRV {w : World} {ops : Array Oper} {rest : List Oper} {o : Oper} {a : Act} {Q : Exit → Act → World → Prop} (hgd : o.guard = none) (s x : Operand)
    (ho : o.op = .call { callee := .builtin .append, args := #[s, x], argTypes := #[102, 102] })
    (base : Nat) (v : Value) (l : RL.R) (hs : a.eval s = v) (hown : w.ownsRow base 114 3 v l.length (rcells l))
    (gt : Nat) (z : RL.V) (hx : a.eval x = .slice (some ⟨gt, 0, none⟩) 1 1) (hg : Row w gt 114 (vcells z))
    (hn : l.length ≤ 100000000) (hbase : base ≤ w.heap.size)
    (h : ∀ v' w', w'.ownsRow base 114 3 v' (l ++ [z]).length (rcells (l ++ [z])) → w.grownBy w' v.ownBlock → wpList Tryz.prog ops Q rest (a.put o.dst v') w') : wpList Tryz.prog ops Q (o :: rest) a w := by
  obtain ⟨i0, hi0, hz0, hz1, hz2⟩ := info_parts r1Info
  refine wpList_append_own w hgd s x 102 ho base 114 i0 _ 3 32 Tryz.underlying102 hi0 hz0 hz1 hz2 rfl (by decide) v l.length (rcells l) hs hown ⟨gt, 0, none⟩ 1 1 (vcells z) hx rfl ?_ ?_ (by simp only [maxLen]; omega) (by omega) hbase ?_
  · intro j u hu
    have := hg.cell j
    rw [hu] at this
    rw [Addr.add_lit, Nat.zero_add]
    exact this
  · intro u hu; simp [vcells] at hu; rcases hu with rfl | rfl | rfl <;> rfl
  · intro v' w' h1 h2 _
    refine h v' w' ?_ h2
    rw [rcells_append, List.length_append]
    have : rcells [z] = vcells z := by simp [rcells]
    rw [this]
    exact h1
structure RefOk (a : RA) : Prop where
  vl : a.vs.length ≤ 1000
  Pl : a.P.length ≤ 60000
  ok : RsOk a.P
  len : ∀ r ∈ a.P, r.length = a.vs.length
  nn : ∀ v ∈ a.vs, 0 ≤ v
def ValR (X : List RA) (v : Int) (w : World) (out c : Value) (wr : World) : Prop :=
  ((∃ i : Nat, i ≤ X.length ∧ c = .int .i64 i ∧ out = .slice none 0 0 ∧ ∀ j (hj : j < X.length), j < i → v ∉ X[j].vs) ∨ (c = .int .i64 ((X.length + 1 : Nat) : Int) ∧ ∃ a k, colF X v = some (a, k) ∧ a ∈ X ∧ RowsIs wr (RL.ofF (a.P.map (projF · [(k : Int)]))) out)) ∧ Below w.heap.size w wr

set_option maxHeartbeats 8000000 in
theorem r35values_any (AA : Option Addr) (AC : Nat) (X : List RA) (v : Int) (w : World) (hA : AtsR w.heap.size w AA X) (hXl : X.length ≤ 1000000) (hok : ∀ a ∈ X, RefOk a) :
    Calls Tryz.prog 57 #[.int .i64 v, .slice AA X.length AC] w fun e w' => ∃ u, e = .returned u ∧ w'.ownsRow w.heap.size 114 3 u (valsF X v).length (rcells (valsF X v)) ∧ Below w.heap.size w w' := by
  have HA := Lib.hid hA
  have HOK := Lib.hid hok
  clear hA hok
  go_enter Tryz.func57, Tryz.ntmps57
  go_wp2
  go_loopw [5, 6] (ValR X v w) (fun _ c _ => X.length + 1 - (intOf c).toNat)
  case atStart => exact ⟨.inl ⟨0, Nat.zero_le _, rfl, rfl, fun j _ h => absurd h (by omega)⟩, Below.refl _ _⟩
  case round =>
    obtain ⟨hcase, hb⟩ := hrel
    have HB := Lib.hid hb
    clear hb
    by_cases hgo : ∃ i : Nat, i < X.length ∧ u6 = .int .i64 i ∧ u5 = .slice none 0 0 ∧ ∀ j (hj : j < X.length), j < i → v ∉ X[j].vs
    rotate_left
    · have hex : ∃ (Y : List RL.R) (z : Nat), RowsIs wr Y u5 ∧ (∀ r ∈ Y, r.length = 1) ∧ Y.length ≤ 60000 ∧ valsF X v = Y.map (fun r => r.getD 0 default) ∧ u6 = .int .i64 (z : Nat) ∧ ¬ z < X.length := by
        rcases hcase with ⟨i, hi, h1, h2, h3⟩ | ⟨h1, a, k, hcol, ha, hrows⟩
        · have hie : i = X.length := by
            rcases Nat.lt_or_ge i X.length with h | h
            · exact absurd ⟨i, h, h1, h2, h3⟩ hgo
            · omega
          have hc : colF X v = none := colF_none fun a ha => by
            obtain ⟨j, hj, rfl⟩ := List.getElem_of_mem ha
            exact h3 j hj (by omega)
          refine ⟨[], i, ⟨none, 0, h2, Nat.le_refl _, by omega, SlRs.nil⟩, fun r hr => by simp at hr, by simp, ?_, h1, by omega⟩
          unfold valsF
          rw [hc]
          rfl
        · refine ⟨_, X.length + 1, hrows, fun r hr => ?_, ?_, ?_, h1, by omega⟩
          · obtain ⟨y, _, rfl⟩ := List.mem_map.1 ((RL.mem_ofF _ _).1 hr)
            rfl
          · have := RL.ofF_length_le (a.P.map (projF · [(k : Int)]))
            rw [List.length_map] at this
            exact Nat.le_trans this (HOK.out a ha).Pl
          · unfold valsF
            rw [hcol]
      obtain ⟨Y, z, ⟨YA, YC, rfl, hy1, hy2, hys⟩, hone, hYl, hval, rfl, hz⟩ := hex
      have HYS := Lib.hid hys
      have HONE := Lib.hid hone
      have HVAL := Lib.hid hval
      clear hys hone hval hcase hgo
      have hz2 : ¬ (z : Int) < (X.length : Int) := by omega
      obtain ⟨w1, hw1⟩ : ∃ w1, w1 = wr := ⟨_, rfl⟩
      subst hw1
      go_wp2_with fail
      go_loopw [8, 9] (fun o c wx => ∃ j : Nat, j ≤ Y.length ∧ c = .int .i64 j ∧ wx.ownsRow w1.heap.size 114 3 o ((Y.take j).map fun r => r.getD 0 default).length (rcells ((Y.take j).map fun r => r.getD 0 default)) ∧ Below w1.heap.size w1 wx) (fun _ c _ => Y.length - (intOf c).toNat)
      case atStart => exact ⟨0, Nat.zero_le _, rfl, own_nil _ _ _ _, Below.refl _ _⟩
      case round =>
        obtain ⟨j, hj, rfl, hown, hb⟩ := hrel
        have HOWN := Lib.hid hown
        have HBJ := Lib.hid hb
        have hzz := hb.size
        clear hown hb
        by_cases h3 : j < Y.length
        · obtain ⟨yb, yo, RA', RC, hya, hyb, yc, -, -, hrs⟩ := slRs_at HYS.out h3
          have hl1 := HONE.out _ (List.getElem_mem h3)
          obtain ⟨rb, ro, hra, hrb, r0, r1, r2⟩ := slR_at hrs (i := 0) (by omega)
          subst hya hra
          have yc := (HBJ.out.cell (p := ⟨yb, yo + j, none⟩) hyb).trans yc
          have hyb2 := Nat.lt_of_lt_of_le hyb hzz
          have r0 := (HBJ.out.cell (p := ⟨rb, ro + 0 * 3, none⟩) hrb).trans r0
          have r1 := (HBJ.out.cell (p := ⟨rb, ro + 0 * 3 + 1, none⟩) hrb).trans r1
          have r2 := (HBJ.out.cell (p := ⟨rb, ro + 0 * 3 + 2, none⟩) hrb).trans r2
          simp only [Nat.zero_mul, Nat.add_zero] at r0 r1 r2
          have hrb2 := Nat.lt_of_lt_of_le hrb hzz
          have HT : Hid ((Y.take (j + 1)).map (fun r => r.getD 0 default) = (Y.take j).map (fun r => r.getD 0 default) ++ [(Y[j])[0]]) := by
            show _ = _
            rw [List.take_succ_eq_append_getElem h3, List.map_append]
            congr 1
            rw [List.map_singleton, List.getD_eq_getElem?_getD, List.getElem?_eq_getElem (by omega : 0 < (Y[j]).length)]
            rfl
          rw [hl1] at yc
          generalize (Y[j])[0] = z at *
          have g1 : (0 : Int) ≤ (j : Int) := by omega
          have g2 : (j : Int) < (Y.length : Int) := by omega
          have hw1 : IntKind.i64.wrap ((j : Int) + 1) = ((j + 1 : Nat) : Int) := by rw [IntWalk.i64_in _ (by omega)]; omega
          have hll : ((Y.take j).map fun r => r.getD 0 default).length ≤ 60000 := by simp; omega
          have hwz : w.heap.size ≤ wr.heap.size := Nat.le_trans HB.out.size hzz
          clear hl1
          go_wp2_with
            (at_builtin
             refine appRV rfl (.tmp 52) (.tmp 59) rfl w1.heap.size u8 _ rfl (HOWN.out.alloc _) wr.heap.size z rfl (Row.new wr 114 (vcells z)) (by omega) (by simp; omega) ?_
             intro v' w6 hown6 hg6
             rw [← HT.out] at hown6
             have HO6 := Lib.hid hown6
             have HB6 : Hid (Below w1.heap.size w1 w6) := HBJ.out.trans (app_kept (fun k hk => own_base HOWN.out hk) hzz hg6)
             clear hown6 hg6)
          go_wp2
          go_roundw
          case rel => exact ⟨j + 1, h3, by go_num, HO6.out, HB6.out⟩
          case measure => simp [intOf]; omega
        · have HJ : Hid (j = Y.length) := by show _ = _; omega
          have HFIN : Hid (wr.ownsRow w.heap.size 114 3 u8 (valsF X v).length (rcells (valsF X v))) := by
            have h := HOWN.out
            rw [HJ.out, List.take_length, ← HVAL.out] at h
            exact own_weaken h HB.out.size
          go_wp2
          go_ret
          exact ⟨_, rfl, HFIN.out, HB.out.trans (HBJ.out.mono HB.out.size)⟩
    obtain ⟨i, h1, rfl, rfl, hall⟩ := hgo
    have HALL := Lib.hid hall
    clear hall hcase
    obtain ⟨ab, ao, VA, VC, PA, PC, rfl, hab, c0, c1, q1, q2, q3, q4, q5, q6⟩ := atsR_at HA.out h1
    have c0 := (HB.out.cell (p := ⟨ab, ao + i * 2, none⟩) hab).trans c0
    have c1 := (HB.out.cell (p := ⟨ab, ao + i * 2 + 1, none⟩) hab).trans c1
    have hab2 := Nat.lt_of_lt_of_le hab HB.out.size
    have HVS := Lib.hid q5
    have HPS := Lib.hid q6
    have HRO := Lib.hid (HOK.out _ (List.getElem_mem h1))
    have hvl := (HOK.out _ (List.getElem_mem h1)).vl
    have g1 : (0 : Int) ≤ (i : Int) := by omega
    have g2 : (i : Int) < (X.length : Int) := by omega
    have hw1 : IntKind.i64.wrap ((i : Int) + 1) = ((i + 1 : Nat) : Int) := by rw [IntWalk.i64_in _ (by omega)]; omega
    have hw2 : IntKind.i64.wrap ((X.length : Int) + 1) = ((X.length + 1 : Nat) : Int) := by rw [IntWalk.i64_in _ (by omega)]; omega
    clear q5 q6 q1 q2 q3 q4
    obtain ⟨w1, hw0⟩ : ∃ w1, w1 = wr := ⟨_, rfl⟩
    subst hw0
    go_wp2_with fail
    go_loopw [5, 6, 7] (fun o s c wx => o = .slice none 0 0 ∧ s = .int .i64 i ∧ ∃ k : Nat, k ≤ X[i].vs.length ∧ c = .int .i64 k ∧ (∀ j (hj : j < X[i].vs.length), j < k → X[i].vs[j] ≠ v) ∧ wx = w1) (fun _ _ c _ => X[i].vs.length - (intOf c).toNat)
    case atStart => exact ⟨rfl, rfl, 0, Nat.zero_le _, rfl, fun j _ h => absurd h (by omega), rfl⟩
    case round =>
      obtain ⟨rfl, rfl, k, hk, rfl, hno, rfl⟩ := hrel
      have HNO := Lib.hid hno
      clear hno
      by_cases h2 : k < X[i].vs.length
      · obtain ⟨vb, vo, rfl, hvb, vc⟩ := slI_at HVS.out h2
        have vc := (HB.out.cell (p := ⟨vb, vo + k, none⟩) hvb).trans vc
        have hvb2 := Nat.lt_of_lt_of_le hvb HB.out.size
        have g3 : (0 : Int) ≤ (k : Int) := by omega
        have g4 : (k : Int) < (X[i].vs.length : Int) := by omega
        have hwk : IntKind.i64.wrap ((k : Int) + 1) = ((k + 1 : Nat) : Int) := by rw [IntWalk.i64_in _ (by omega)]; omega
        by_cases hv : X[i].vs[k] = v
        · have HCOL := Lib.hid (colF_at h1 HALL.out h2 hv HNO.out)
          have hnb : (X[i].vs[k] == v) = true := by simp [hv]
          obtain ⟨W2, hW2⟩ : ∃ W2, W2 = wr.alloc (.cells #[.int .i64 (k : Int)] 3) := ⟨_, rfl⟩
          have hr2 : Row W2 wr.heap.size 3 [.int .i64 (k : Int)] := by rw [hW2]; exact Row.new wr 3 _
          have hx2 : Ext wr W2 := by rw [hW2]; exact (Ext.refl wr).alloc _
          have HPR := Lib.hid (r7Project_any PA (some ⟨wr.heap.size, 0, none⟩) PC 1 X[i].P [(k : Int)] W2 ((HPS.out.upB HB.out).up hx2) (fun _ => ⟨wr.heap.size, 0, rfl, hr2.lt, fun j u hu => by rw [Nat.zero_add, hr2.cell]; exact hu⟩) (Nat.le_trans HRO.out.Pl (by omega)) (by simp) HRO.out.ok (fun x hx c hc => by
            simp at hc
            subst hc
            have := HRO.out.len x hx
            omega))
          have HX2 := Lib.hid hx2
          have HMEM : Hid (X[i] ∈ X) := List.getElem_mem h1
          rw [hv] at vc
          have hnb2 : (v == v) = true := by simp
          clear hr2 hx2 hv hnb
          go_wp2_with fail
          rw [← hW2]
          clear hW2
          refine HPR.out.mono ?_
          rintro e w5 ⟨u, rfl, hrows, hb5⟩
          have HROWS := Lib.hid hrows
          have HB5 := Lib.hid (Below.then HB.out (Below.then HX2.out.below hb5 HX2.out.size) HB.out.size)
          clear hrows hb5 HPR
          go_wp2
          go_roundw
          case rel => exact ⟨.inr ⟨by go_num, X[i], k, HCOL.out, HMEM.out, HROWS.out⟩, HB5.out⟩
          case measure => simp [intOf]; omega
        · have hnb : (X[i].vs[k] == v) = false := by simpa using hv
          have HV : Hid (X[i].vs[k] ≠ v) := hv
          clear hv
          generalize hu : X[i].vs[k] = u at vc hnb HV
          have HU := Lib.hid hu
          clear hu
          go_wp2
          go_roundw
          case rel =>
            refine ⟨rfl, rfl, k + 1, h2, by go_num, fun j hj hlt => ?_, by first | rfl | trivial⟩
            rcases Nat.lt_or_ge j k with h | h
            · exact HNO.out j hj h
            · have : j = k := by omega
              subst this
              rw [HU.out]; exact HV.out
          case measure => simp [intOf]; omega
      · have HN2 : Hid (v ∉ X[i].vs) := fun hm => by
          obtain ⟨j, hj, e⟩ := List.getElem_of_mem hm
          exact HNO.out j hj (by omega) e
        go_wp2
        go_roundw
        case rel =>
          refine ⟨.inl ⟨i + 1, h1, by go_num, rfl, fun j hj hlt => ?_⟩, HB.out⟩
          rcases Nat.lt_or_ge j i with h | h
          · exact HALL.out j hj h
          · have : j = i := by omega
            subst this
            exact HN2.out
        case measure => simp [intOf]; omega
end
end Go.Proofs.YthgaflmldbgbnaaGreatDoor

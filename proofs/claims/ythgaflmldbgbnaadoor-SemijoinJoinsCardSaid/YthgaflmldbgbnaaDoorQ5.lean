/- Parts of the proof, merged: G10, G11, Y11, Y14, Y15, Y16, Y17, Y18, Y22, Y23, Y24, Y25, Y26, Y31. -/
import Derived.Test.YthgaflmldbgbnaaDoorQ4
import Derived.Test.YthgaflmldbgbnaaDoorQ3
import Derived.Test.YthgaflmldbgbnaaDoorQ2
import Derived.Test.YthgaflmldbgbnaaDoorQ1
import Derived.Deep.RegionLaw
import Derived.Deep.AppendLies

section
/- Walk of chapter 36: check. -/
namespace Go.Proofs.YthgaflmldbgbnaaDoor
open Go.RowKit Go.Sort

/-- The first error of a list of atoms. -/
def errC (X : List RA) : Int := if 32 < X.length then 12 else match X.find? (fun a => errAt 32 a != 0) with
  | some a => errAt 32 a
  | none => 0
theorem errC_at {X : List RA} {k : Nat} (hX : ¬ 32 < X.length) (hk : k < X.length) (h0 : ∀ j (hj : j < X.length), j < k → errAt 32 X[j] = 0) (hne : errAt 32 X[k] ≠ 0) : errC X = errAt 32 X[k] := by
  unfold errC
  rw [if_neg hX]
  have e : X.find? (fun a => errAt 32 a != 0) = some X[k] := by
    rw [List.find?_eq_some_iff_getElem]
    refine ⟨by simpa using hne, k, hk, rfl, fun j hj => ?_⟩
    simp [h0 j (by omega) hj]
  rw [e]
theorem errC_end {X : List RA} (hX : ¬ 32 < X.length) (h0 : ∀ j (hj : j < X.length), errAt 32 X[j] = 0) : errC X = 0 := by
  unfold errC
  rw [if_neg hX]
  have e : X.find? (fun a => errAt 32 a != 0) = none := by
    rw [List.find?_eq_none]
    intro a ha
    obtain ⟨j, hj, rfl⟩ := List.getElem_of_mem ha
    simp [h0 j hj]
  rw [e]
theorem errC_zero {X : List RA} (h : errC X = 0) : X.length ≤ 32 ∧ ∀ a ∈ X, errAt 32 a = 0 := by
  unfold errC at h
  split at h
  · cases h
  · rename_i h1
    refine ⟨by omega, fun a ha => ?_⟩
    split at h
    · rename_i b hb
      have := List.find?_some hb
      rw [h] at this
      simp at this
    · rename_i hb
      have := List.find?_eq_none.1 hb a ha
      simpa using this

set_option maxHeartbeats 8000000 in
set_option maxRecDepth 100000 in
theorem sjCheck_any (AA : Option Addr) (AC : Nat) (X : List RA) (w : World) (hA : AtsM w.heap.size w AA X) (hXl : X.length ≤ 9223372036854775807) (hvl : ∀ a ∈ X, a.vs.length ≤ 1000000) :
    Calls Tryd.prog 22 #[.slice AA X.length AC] w fun e w' => e = .returned (.int .i64 (errC X)) ∧ Below w.heap.size w w' := by
  have HA := Lib.hid hA
  have HVL := Lib.hid hvl
  clear hA hvl
  by_cases hX : 32 < X.length
  · have HE : Hid (errC X = 12) := by show _ = _; unfold errC; rw [if_pos hX]
    have hd3 : decide ((32 : Int) < (X.length : Int)) = true := decide_eq_true (by omega)
    go_enter Tryd.func22, Tryd.ntmps22
    go_wp2
    go_ret
    exact ⟨by rw [HE.out]; rfl, Below.refl _ _⟩
  have hd3 : decide ((32 : Int) < (X.length : Int)) = false := decide_eq_false (by omega)
  have HAR := Lib.hid (fun (a : RA) PA PC W => rlArity_any a.ar PA a.P.length PC W)
  go_enter Tryd.func22, Tryd.ntmps22
  go_wp2
  clear hd3
  go_loopw [13] (fun c wr => ∃ k : Nat, k ≤ X.length ∧ c = .int .i64 k ∧ Below w.heap.size w wr ∧ ∀ j (hj : j < X.length), j < k → errAt 32 X[j] = 0) (fun c _ => X.length - (intOf c).toNat)
  case atStart => exact ⟨0, Nat.zero_le _, rfl, Below.refl _ _, fun j _ h => absurd h (by omega)⟩
  case round =>
    obtain ⟨k, hk, rfl, hbw, hall⟩ := hrel
    have HBW := Lib.hid hbw
    have HALL := Lib.hid hall
    clear hbw hall
    by_cases h1 : k < X.length
    · obtain ⟨b, o, VA, VC, PA, PC, rfl, hbl, c0, c1, c2, q1, q2, q3, q4, q5, q6⟩ := ats_at HA.out h1
      have c0 := (HBW.out.cell (p := ⟨b, o + k * 3, none⟩) hbl).trans c0
      have c1 := (HBW.out.cell (p := ⟨b, o + k * 3 + 1, none⟩) hbl).trans c1
      have c2 := (HBW.out.cell (p := ⟨b, o + k * 3 + 2, none⟩) hbl).trans c2
      have hb := Nat.lt_of_lt_of_le hbl HBW.out.size
      have hvl := HVL.out _ (List.getElem_mem h1)
      have HVS := Lib.hid q5
      have HERR : Hid (errAt 32 X[k] ≠ 0 → errC X = errAt 32 X[k]) := fun hne => errC_at hX h1 HALL.out hne
      have HNX : Hid (errAt 32 X[k] = 0 → ∀ j (hj : j < X.length), j < k + 1 → errAt 32 X[j] = 0) := fun h0 j hj hlt => by
        rcases Nat.lt_or_ge j k with h | h
        · exact HALL.out j hj h
        · have : j = k := by omega
          subst this
          exact h0
      clear q5 q6 q1 q2 q3 q4
      generalize X[k] = r at *
      have g1 : (0 : Int) ≤ (k : Int) := by omega
      have g2 : (k : Int) < (X.length : Int) := by omega
      have hw1 : IntKind.i64.wrap ((k : Int) + 1) = ((k + 1 : Nat) : Int) := by rw [IntWalk.i64_in _ (by omega)]; omega
      obtain ⟨wo, hwo⟩ : ∃ wo, wo = wr := ⟨_, rfl⟩
      subst hwo
      obtain ⟨W2, hW2⟩ : ∃ W2, W2 = wo.alloc (.cells #[.slice VA r.vs.length VC, .int .i64 r.ar, .slice PA r.P.length PC] 37) := ⟨_, rfl⟩
      have hr2 : Row W2 wo.heap.size 37 [.slice VA r.vs.length VC, .int .i64 r.ar, .slice PA r.P.length PC] := by rw [hW2]; exact Row.new wo 37 _
      have hx2 : Ext wo W2 := by rw [hW2]; exact (Ext.refl wo).alloc _
      have HR2 := Lib.hid hr2
      have HX2 := Lib.hid hx2
      have HBW2 := Lib.hid (Below.trans HBW.out (hx2.below.mono HBW.out.size))
      clear hr2 hx2
      go_wp2_with fail
      rw [← hW2]
      clear hW2 c0 c1 c2
      go_loopw [5] (fun c wx => ∃ i : Nat, 1 ≤ i ∧ c = .int .i64 i ∧ (∀ p (h : p + 1 < r.vs.length), p + 1 < i → r.vs[p] < r.vs[p + 1]) ∧ Ext W2 wx) (fun c _ => r.vs.length - (intOf c).toNat)
      case atStart => exact ⟨1, Nat.le_refl _, rfl, fun p _ h => absurd h (by omega), Ext.refl _⟩
      case round =>
        obtain ⟨i, hi1, rfl, hasc, hxi⟩ := hrel
        have HASC := Lib.hid hasc
        have HXI := Lib.hid hxi
        have hrx := HR2.out.up hxi.below
        have HRX := Lib.hid hrx
        have x0 : wr.cell? ⟨wo.heap.size, 0, none⟩ = some (.slice VA r.vs.length VC) := hrx.cell 0
        have x1 : wr.cell? ⟨wo.heap.size, 1, none⟩ = some (.int .i64 r.ar) := hrx.cell 1
        have x2 : wr.cell? ⟨wo.heap.size, 2, none⟩ = some (.slice PA r.P.length PC) := hrx.cell 2
        have hxz := hrx.lt
        have HBX := Lib.hid (Below.trans HBW2.out (hxi.below.mono HBW2.out.size))
        clear hasc hxi hrx
        by_cases h2 : i < r.vs.length
        · obtain ⟨vb, vo, hva, hvb, va⟩ := slI_at HVS.out (show i - 1 < r.vs.length by omega)
          obtain ⟨vb2, vo2, hva2, -, vc⟩ := slI_at HVS.out h2
          rw [hva] at hva2
          injection hva2 with hva2
          injection hva2 with e1 e2
          subst e1 e2 hva
          have va := (HBX.out.cell (p := ⟨vb, vo + (i - 1), none⟩) hvb).trans va
          have vc := (HBX.out.cell (p := ⟨vb, vo + i, none⟩) hvb).trans vc
          have hvb2 := Nat.lt_of_lt_of_le hvb HBX.out.size
          have HG : Hid (r.vs[i] ≤ r.vs[i - 1] → errAt 32 r = 16) := fun hge => by
            refine errAt_order (p := i - 1) (by omega) ?_
            have e : i - 1 + 1 = i := by omega
            simp only [e]
            exact hge
          have HL : Hid (¬ r.vs[i] ≤ r.vs[i - 1] → ∀ p (h : p + 1 < r.vs.length), p + 1 < i + 1 → r.vs[p] < r.vs[p + 1]) := fun hlt p h hp => by
            rcases Nat.lt_or_ge (p + 1) i with h3 | h3
            · exact HASC.out p h h3
            · have : i = p + 1 := by omega
              subst this
              have e : p + 1 - 1 = p := by omega
              simp only [e] at hlt
              omega
          generalize r.vs[i] = y at *
          generalize r.vs[i - 1] = z at *
          have hws : IntKind.i64.wrap ((i : Int) - 1) = ((i - 1 : Nat) : Int) := by rw [IntWalk.i64_in _ (by omega)]; omega
          have hwi : IntKind.i64.wrap ((i : Int) + 1) = ((i + 1 : Nat) : Int) := by rw [IntWalk.i64_in _ (by omega)]; omega
          have g3 : (0 : Int) ≤ ((i - 1 : Nat) : Int) := by omega
          have g4 : ((i - 1 : Nat) : Int) < (r.vs.length : Int) := by omega
          have g5 : (0 : Int) ≤ (i : Int) := by omega
          have g6 : (i : Int) < (r.vs.length : Int) := by omega
          by_cases hge : y ≤ z
          · have hdd : decide (y ≤ z) = true := decide_eq_true hge
            have HE := Lib.hid (HERR.out (by rw [HG.out hge]; decide))
            have HE2 := Lib.hid (HG.out hge)
            go_wp2
            go_quiet (fail)
            go_wp2
            go_ret
            exact ⟨by rw [HE.out, HE2.out]; rfl, Below.then HBX.out ((Ext.refl wr).drewN _).below HBX.out.size⟩
          · have hdd : decide (y ≤ z) = false := decide_eq_false hge
            have HL2 := Lib.hid (HL.out hge)
            clear HG HL
            go_wp2
            go_quiet (fail)
            go_wp2
            go_roundw
            case rel => exact ⟨i + 1, by omega, by go_num, HL2.out, HXI.out.drewN _⟩
            case measure => simp [intOf]; omega
        have HP : Hid (r.vs.Pairwise (· < ·)) := pairwise_adj _ fun p h => HASC.out p h (by omega)
        obtain ⟨wp, hwp⟩ : ∃ wp, wp = wr := ⟨_, rfl⟩
        subst hwp
        clear HASC
        go_wp2_with fail
        go_loopw [39] (fun c wx => ∃ j : Nat, j ≤ r.vs.length ∧ c = .int .i64 j ∧ wx = wp ∧ (∀ v ∈ r.vs.take j, 0 ≤ v ∧ v < (32 : Int))) (fun c _ => r.vs.length - (intOf c).toNat)
        case atStart => exact ⟨0, Nat.zero_le _, rfl, rfl, fun v hv => by simp at hv⟩
        case round =>
          obtain ⟨j, hj, rfl, rfl, hrg⟩ := hrel
          have HRG := Lib.hid hrg
          clear hrg
          by_cases h3 : j < r.vs.length
          · obtain ⟨vb, vo, hva, hvb, vc⟩ := slI_at HVS.out h3
            subst hva
            have vc := (HBX.out.cell (p := ⟨vb, vo + j, none⟩) hvb).trans vc
            have hvb2 := Nat.lt_of_lt_of_le hvb HBX.out.size
            have HVM : Hid (r.vs[j] ∈ r.vs) := List.getElem_mem h3
            have HTJ : Hid (r.vs.take (j + 1) = r.vs.take j ++ [r.vs[j]]) := List.take_succ_eq_append_getElem h3
            generalize r.vs[j] = v at *
            have g3 : (0 : Int) ≤ (j : Int) := by omega
            have g4 : (j : Int) < (r.vs.length : Int) := by omega
            have hwj : IntKind.i64.wrap ((j : Int) + 1) = ((j + 1 : Nat) : Int) := by rw [IntWalk.i64_in _ (by omega)]; omega
            by_cases hv0 : v < 0
            · have hE2 := errAt_range HP.out HVM.out (.inl hv0 : v < 0 ∨ (32 : Int) ≤ v)
              have HE := Lib.hid (HERR.out (by rw [hE2]; decide))
              have HE2 := Lib.hid hE2
              have hdd : decide (v < 0) = true := decide_eq_true hv0
              clear hE2
              go_wp2
              go_ret
              exact ⟨by rw [HE.out, HE2.out]; rfl, HBX.out⟩
            by_cases hvm : (32 : Int) ≤ v
            · have hE2 := errAt_range HP.out HVM.out (.inr hvm : v < 0 ∨ (32 : Int) ≤ v)
              have HE := Lib.hid (HERR.out (by rw [hE2]; decide))
              have HE2 := Lib.hid hE2
              have hdd : decide (v < 0) = false := decide_eq_false hv0
              have hdd2 : decide ((32 : Int) ≤ v) = true := decide_eq_true hvm
              clear hE2
              go_wp2
              go_ret
              exact ⟨by rw [HE.out, HE2.out]; rfl, HBX.out⟩
            have hdd : decide (v < 0) = false := decide_eq_false hv0
            have hdd2 : decide ((32 : Int) ≤ v) = false := decide_eq_false hvm
            have HRV : Hid (0 ≤ v ∧ v < (32 : Int)) := ⟨by omega, by omega⟩
            go_wp2
            go_roundw
            case rel =>
              refine ⟨j + 1, h3, by go_num, by first | rfl | trivial, fun v hv => ?_⟩
              rw [HTJ.out] at hv
              rcases List.mem_append.1 hv with h | h
              · exact HRG.out v h
              · simp at h; subst h; exact HRV.out
            case measure => simp [intOf]; omega
          have HJE : Hid (j = r.vs.length) := by show _ = _; omega
          have hEA : errAt 32 r = if (r.vs.length : Int) = r.ar then 0 else 6 := errAt_arity HP.out (fun v hv => HRG.out v (by rw [HJE.out, List.take_length]; exact hv))
          have HEA := Lib.hid hEA
          have HA1 := Lib.hid (HAR.out r PA PC)
          have HHX := Lib.hid (And.intro hxz HBX.out.size)
          clear hEA
          generalize r.vs.length = vl at *
          generalize r.P.length = pl at *
          generalize r.ar = ar at *
          go_wp2_with fail
          refine wp_region_held_drew (S := (fun w' => w'.cell? ⟨wo.heap.size, 0, none⟩ = some (.slice VA vl VC) ∧ w'.cell? ⟨wo.heap.size, 1, none⟩ = some (.int .i64 ar) ∧ w'.cell? ⟨wo.heap.size, 2, none⟩ = some (.slice PA pl PC))) (by kernel_rfl) ⟨x0, x1, x2⟩ (fun hHeld => ?_)
          refine takeOp (i := 0) (v := ?_) (some 50) rfl rfl (by kernel_rfl) (by kernel_rfl) (by kernel_rfl) (fun _ _ _ h => h) (Or.inl ⟨by rfl, ?_⟩) (by assumption) ?_
          rotate_left 1
          · (intro w0 hSw; (try dsimp only at hSw); go_simp; try (with_reducible rfl))
          try simp only [Act.put]
          try simp only [List.setIfInBounds_toArray]
          try simp only [List.set_cons_succ]
          try simp only [List.set_cons_zero]
          refine takeOp (i := 1) (v := ?_) (some 51) rfl rfl (by kernel_rfl) (by kernel_rfl) (by kernel_rfl) (fun _ _ _ h => h) (Or.inl ⟨by rfl, ?_⟩) (by assumption) ?_
          rotate_left 1
          · (intro w0 hSw; (try dsimp only at hSw); go_simp; try (with_reducible rfl))
          try simp only [Act.put]
          try simp only [List.setIfInBounds_toArray]
          try simp only [List.set_cons_succ]
          try simp only [List.set_cons_zero]
          refine takeOp (i := 2) (v := ?_) (some 52) rfl rfl (by kernel_rfl) (by kernel_rfl) (by kernel_rfl) (fun _ _ _ h => h) (Or.inl ⟨by rfl, ?_⟩) (by assumption) ?_
          rotate_left 1
          · (intro w0 hSw; (try dsimp only at hSw); go_simp; try (with_reducible rfl))
          try simp only [Act.put]
          try simp only [List.setIfInBounds_toArray]
          try simp only [List.set_cons_succ]
          try simp only [List.set_cons_zero]
          refine takeOp (i := 3) (v := ?_) (some 53) rfl rfl (by kernel_rfl) (by kernel_rfl) (by kernel_rfl) (fun _ _ _ h => h) (Or.inl ⟨by rfl, ?_⟩) (by assumption) ?_
          rotate_left 1
          · (intro w0 hSw; (try dsimp only at hSw); go_simp; try (with_reducible rfl))
          try simp only [Act.put]
          try simp only [List.setIfInBounds_toArray]
          try simp only [List.set_cons_succ]
          try simp only [List.set_cons_zero]
          refine takeOp (i := 4) (v := ?_) (some 54) rfl rfl (by kernel_rfl) (by kernel_rfl) (by kernel_rfl) (fun _ _ _ h => h) (Or.inl ⟨by rfl, ?_⟩) (by assumption) ?_
          rotate_left 1
          · (intro w0 hSw; (try dsimp only at hSw); go_simp; try (with_reducible rfl))
          try simp only [Act.put]
          try simp only [List.setIfInBounds_toArray]
          try simp only [List.set_cons_succ]
          try simp only [List.set_cons_zero]
          refine wpAnyH_ready (rs := [5]) (by kernel_rfl) (by simp) ?_
          refine AllReadyH.cons rfl (fun K hK => ?_) AllReadyH.nil
          go_simp
          refine (HA1.out wr.drew).mono ?_
          rintro e w6 ⟨rfl, hx6⟩
          have hx7 : Ext wr w6 := (Ext.refl wr).drew.trans hx6
          have KEEP : w6.cell? ⟨wo.heap.size, 0, none⟩ = some (.slice VA vl VC) ∧ w6.cell? ⟨wo.heap.size, 1, none⟩ = some (.int .i64 ar) ∧ w6.cell? ⟨wo.heap.size, 2, none⟩ = some (.slice PA pl PC) := ⟨(hx7.cell HHX.out.1).trans x0, (hx7.cell HHX.out.1).trans x1, (hx7.cell HHX.out.1).trans x2⟩
          have HX7 := Lib.hid hx7
          clear hx6 hx7
          go_wp2_with fail
          refine hK.out _ _ KEEP (fun hHeld => ?_)
          clear hK K
          try simp only [Act.put]
          try simp only [List.setIfInBounds_toArray]
          try simp only [List.set_cons_succ]
          try simp only [List.set_cons_zero]
          refine takeOp (i := 6) (v := ?_) (some 56) rfl rfl (by kernel_rfl) (by kernel_rfl) (by kernel_rfl) (fun _ _ _ h => h) (Or.inl ⟨by rfl, ?_⟩) (by assumption) ?_
          rotate_left 1
          · (intro w0 hSw; (try dsimp only at hSw); go_simp; try (with_reducible rfl))
          try simp only [Act.put]
          try simp only [List.setIfInBounds_toArray]
          try simp only [List.set_cons_succ]
          try simp only [List.set_cons_zero]
          refine wpAnyH_done (by kernel_rfl) ?_ _
          have HBW7 := Lib.hid (Below.then HBX.out HX7.out.below HBX.out.size)
          by_cases he : (vl : Int) = ar
          · have hnb : ((vl : Int) != ar) = false := by simp [he]
            have HZ := Lib.hid (HNX.out (by rw [HEA.out, if_pos he]))
            clear he
            go_wp2
            go_roundw
            case rel => exact ⟨k + 1, h1, by go_num, HBW7.out, HZ.out⟩
            case measure => simp [intOf]; omega
          · have hnb : ((vl : Int) != ar) = true := by simpa using he
            have HE := Lib.hid (HERR.out (by rw [HEA.out, if_neg he]; decide))
            have HE2 := Lib.hid (HEA.out.trans (if_neg he))
            clear he
            go_wp2
            go_ret
            exact ⟨by rw [HE.out, HE2.out]; rfl, HBW7.out⟩
    have HKE : Hid (k = X.length) := by show _ = _; omega
    have HE : Hid (errC X = 0) := errC_end hX (fun j hj => HALL.out j hj (by rw [HKE.out]; exact hj))
    go_wp2
    go_ret
    exact ⟨by rw [HE.out]; rfl, HBW.out⟩

end Go.Proofs.YthgaflmldbgbnaaDoor
end

section
/- Walk of chapter 36: merge. -/
namespace Go.Proofs.YthgaflmldbgbnaaDoor
open Go.RowKit Go.Sort

set_option maxRecDepth 100000 in
theorem makeRow0 (n : Nat) (hn : n ≤ 1000000) (w : World) : (Instr.makeSlice 64 (.int .i64 0) (.int .i64 (n : Int))).run Tryd.prog w = .ok (.slice (some ⟨w.heap.size, 0, none⟩) 0 n) (w.alloc (.cells (zerosV n) 66)) := by
  obtain ⟨i0, hi0, hz0, hz1, hz2⟩ := info_parts valInfo
  have h1 := makeVals n hn w
  rw [run_make (P := Tryd.prog) w 64 66 i0 _ Tryd.underlying64 hi0 hz0 .i64 .i64 n n (by omega) (by omega) (by rw [hz2]; omega) (by omega)] at h1
  rw [run_make (P := Tryd.prog) w 64 66 i0 _ Tryd.underlying64 hi0 hz0 .i64 .i64 0 n (by omega) (by omega) (by rw [hz2]; omega) (by omega)]
  injection h1 with h1 h2
  rw [h2]
  simp
theorem own_made0 (n : Nat) (hn : n ≤ 1000000) (w : World) : (w.alloc (.cells (zerosV n) 66)).ownsRow w.heap.size 66 3 (.slice (some ⟨w.heap.size, 0, none⟩) 0 n) 0 [] :=
  ⟨rfl, .inr ⟨w.heap.size, n, zerosV n, rfl, Nat.le_refl _, heap_alloc_new w _, Nat.zero_le _, by simp only [maxLen]; omega, by unfold zerosV; rw [List.size_toArray, rcells_length, List.length_replicate], by simp⟩⟩

/-- How many of the first p variables are in us. -/
def cntU (U us : List Nat) (p : Nat) : Nat := ((U.take p).filter fun v => decide (v ∈ us)).length
theorem sub_filter {U us : List Nat} (hU : U.Pairwise (· < ·)) (hu : us.Pairwise (· < ·)) (hs : ∀ v ∈ us, v ∈ U) : U.filter (fun v => decide (v ∈ us)) = us := by
  have hUn : U.Nodup := hU.imp fun h e => by omega
  have hun : us.Nodup := hu.imp fun h e => by omega
  refine ((List.perm_ext_iff_of_nodup (hUn.filter _) hun).2 fun v => ?_).eq_of_pairwise (le := fun a b => a < b) (fun a b _ _ h1 h2 => absurd (Nat.lt_trans h1 h2) (Nat.lt_irrefl _)) (hU.filter _) hu
  rw [List.mem_filter, decide_eq_true_eq]
  exact ⟨fun h => h.2, fun h => ⟨hs v h, h⟩⟩
theorem cntU_succ {U us : List Nat} {p : Nat} (hp : p < U.length) : cntU U us (p + 1) = cntU U us p + if U[p] ∈ us then 1 else 0 := by
  unfold cntU
  rw [List.take_succ_eq_append_getElem hp, List.filter_append, List.length_append]
  congr 1
  by_cases h : U[p] ∈ us
  · rw [if_pos h, List.filter_cons_of_pos (by simpa using h)]; rfl
  · rw [if_neg h, List.filter_cons_of_neg (by simpa using h)]; rfl
theorem cntU_at {U us : List Nat} (hU : U.Pairwise (· < ·)) (hu : us.Pairwise (· < ·)) (hs : ∀ v ∈ us, v ∈ U) {p : Nat} (hp : p < U.length) : (U[p] ∈ us → us[cntU U us p]? = some U[p]) ∧ (U[p] ∉ us → us[cntU U us p]? ≠ some U[p]) ∧ cntU U us p ≤ us.length := by
  have e := sub_filter hU hu hs
  have e2 : us = (U.take p).filter (fun v => decide (v ∈ us)) ++ (U.drop p).filter (fun v => decide (v ∈ us)) := by
    rw [← List.filter_append, List.take_append_drop, e]
  refine ⟨fun hm => ?_, fun hm h => hm (List.mem_of_getElem? h), ?_⟩
  · rw [e2, List.getElem?_append_right (by rw [← e2]; exact Nat.le_refl _), ← e2]
    have e3 : cntU U us p - ((U.take p).filter fun v => decide (v ∈ us)).length = 0 := by unfold cntU; omega
    rw [e3, List.drop_eq_getElem_cons hp, List.filter_cons_of_pos (by simpa using hm)]
    rfl
  · have := congrArg List.length e2
    rw [List.length_append] at this
    unfold cntU
    omega

/-- What merge has behind p variables. -/
def mergeP (U us vs : List Nat) (x y : RL.R) (p : Nat) : RL.R := mergeF (U.take p) us vs x y
theorem mergeP_succ {U us vs : List Nat} {x y : RL.R} {p : Nat} (hp : p < U.length) : mergeP U us vs x y (p + 1) = mergeP U us vs x y p ++ [if U[p] ∈ us then getF us x U[p] else getF vs y U[p]] := by
  unfold mergeP mergeF rowF
  rw [List.take_succ_eq_append_getElem hp, List.map_append]
  rfl
theorem getF_cnt {U us : List Nat} (hU : U.Pairwise (· < ·)) (hu : us.Pairwise (· < ·)) (hs : ∀ v ∈ us, v ∈ U) {p : Nat} (hp : p < U.length) (hm : U[p] ∈ us) {x : RL.R} (hx : x.length = us.length) : ∃ h : cntU U us p < x.length, x[cntU U us p] = getF us x U[p] := by
  have h1 := (cntU_at hU hu hs hp).1 hm
  obtain ⟨hl, he⟩ := List.getElem?_eq_some_iff.1 h1
  refine ⟨by omega, ?_⟩
  rw [← he, getF_at (hu.imp fun h e => by omega) hl (by omega)]

set_option maxHeartbeats 8000000 in
set_option maxRecDepth 100000 in
theorem sjMerge_any (UA AA BA XA YA : Option Addr) (UC AC BC XC YC : Nat) (U us vs : List Nat) (x y : RL.R) (w : World) (hU : SlI .i64 w.heap.size w UA (U.map Int.ofNat)) (hA : SlI .i64 w.heap.size w AA (us.map Int.ofNat)) (hB : SlI .i64 w.heap.size w BA (vs.map Int.ofNat)) (hx : SlR w.heap.size w XA x) (hy : SlR w.heap.size w YA y)
    (pU : U.Pairwise (· < ·)) (pu : us.Pairwise (· < ·)) (pv : vs.Pairwise (· < ·)) (su : ∀ v ∈ us, v ∈ U) (sv : ∀ v ∈ vs, v ∈ U) (cov : ∀ v ∈ U, v ∈ us ∨ v ∈ vs) (lx : x.length = us.length) (ly : y.length = vs.length) (lU : U.length ≤ 1000) :
    Calls Tryd.prog 45 #[.slice UA U.length UC, .slice AA us.length AC, .slice XA x.length XC, .slice BA vs.length BC, .slice YA y.length YC] w fun e w' => ∃ v, e = .returned v ∧ w'.ownsRow w.heap.size 66 3 v (mergeF U us vs x y).length (rcells (mergeF U us vs x y)) ∧ Below w.heap.size w w' := by
  have HU := Lib.hid hU
  have HA := Lib.hid hA
  have HB := Lib.hid hB
  have HX := Lib.hid hx
  have HY := Lib.hid hy
  have HCA := Lib.hid (fun p (hp : p < U.length) => cntU_at pU pu su hp)
  have HCB := Lib.hid (fun p (hp : p < U.length) => cntU_at pU pv sv hp)
  have HGA := Lib.hid (fun p (hp : p < U.length) hm => getF_cnt pU pu su hp hm lx)
  have HGB := Lib.hid (fun p (hp : p < U.length) hm => getF_cnt pU pv sv hp hm ly)
  have HCV := Lib.hid cov
  have HLX := Lib.hid (And.intro lx ly)
  have hul : us.length ≤ 1000 := by
    have := congrArg List.length (sub_filter pU pu su)
    have h2 := List.length_filter_le (fun v => decide (v ∈ us)) U
    omega
  have hvl : vs.length ≤ 1000 := by
    have := congrArg List.length (sub_filter pU pv sv)
    have h2 := List.length_filter_le (fun v => decide (v ∈ vs)) U
    omega
  have hmk := makeRow0 U.length (by omega) w
  obtain ⟨W0, hW0⟩ : ∃ W0, W0 = w.alloc (.cells (zerosV U.length) 66) := ⟨_, rfl⟩
  have HX0 : Hid (Ext w W0) := by show Ext _ _; rw [hW0]; exact (Ext.refl w).alloc _
  have HO0 : Hid (W0.ownsRow w.heap.size 66 3 (.slice (some ⟨w.heap.size, 0, none⟩) 0 U.length) 0 []) := by show World.ownsRow _ _ _ _ _ _ _; rw [hW0]; exact own_made0 U.length (by omega) w
  clear hU hA hB hx hy pU pu pv su sv cov lx ly
  go_enter Tryd.func45, Tryd.ntmps45
  go_wp2_with fail
  rw [← hW0]
  clear hW0 hmk
  go_loopw [11, 12, 13, 23] (fun vo ci ck c wx => ∃ p : Nat, p ≤ U.length ∧ c = .int .i64 p ∧ ci = .int .i64 (cntU U us p) ∧ ck = .int .i64 (cntU U vs p) ∧ wx.ownsRow w.heap.size 66 3 vo (mergeP U us vs x y p).length (rcells (mergeP U us vs x y p)) ∧ Below w.heap.size w wx) (fun _ _ _ c _ => U.length - (intOf c).toNat)
  case atStart => exact ⟨0, Nat.zero_le _, rfl, rfl, rfl, HO0.out, HX0.out.below⟩
  case round =>
    obtain ⟨p, hp, rfl, rfl, rfl, hown, hbw⟩ := hrel
    have HO := Lib.hid hown
    have HBW := Lib.hid hbw
    have hzz := hbw.size
    clear hown hbw HO0 HX0
    by_cases hpl : p < U.length
    rotate_left
    · obtain rfl : p = U.length := by omega
      have r1 : ¬ (U.length : Int) < (U.length : Int) := by omega
      have HE : Hid (mergeP U us vs x y U.length = mergeF U us vs x y) := by show _ = _; unfold mergeP; rw [List.take_length]
      rw [HE.out] at HO
      clear HE
      go_wp2_with fail
      go_ret
      exact ⟨_, rfl, HO.out, HBW.out⟩
    have r0 : (0 : Int) ≤ (p : Int) := by omega
    have r1 : (p : Int) < (U.length : Int) := by omega
    have r3 : IntKind.i64.wrap ((p : Int) + 1) = ((p + 1 : Nat) : Int) := by rw [IntWalk.i64_in _ (by omega)]; omega
    obtain ⟨ub, uo, hua, hub, uc⟩ := slI_at HU.out (show p < (U.map Int.ofNat).length by simpa using hpl)
    subst hua
    have uc := (HBW.out.cell (p := ⟨ub, uo + p, none⟩) hub).trans uc
    rw [List.getElem_map] at uc
    have hub2 := Nat.lt_of_lt_of_le hub hzz
    have HMS := Lib.hid (mergeP_succ (us := us) (vs := vs) (x := x) (y := y) hpl)
    have HSA := Lib.hid (cntU_succ (us := us) hpl)
    have HSB := Lib.hid (cntU_succ (us := vs) hpl)
    obtain ⟨a1, a2, a3⟩ := HCA.out p hpl
    obtain ⟨b1, b2, b3⟩ := HCB.out p hpl
    have ga := HGA.out p hpl
    have gb := HGB.out p hpl
    have cv := HCV.out U[p] (List.getElem_mem hpl)
    have HML : Hid ((mergeP U us vs x y p).length ≤ 1000) := by show _ ≤ _; unfold mergeP mergeF; rw [row_len, List.length_take]; omega
    have HA1 := Lib.hid a1
    have HA2 := Lib.hid a2
    have HB1 := Lib.hid b1
    have HB2 := Lib.hid b2
    have HGA1 := Lib.hid ga
    have HGB1 := Lib.hid gb
    clear a1 a2 b1 b2 ga gb
    generalize mergeP U us vs x y p = M at *
    generalize cntU U us p = i at *
    generalize cntU U vs p = k at *
    change wr.cell? ⟨ub, uo + p, none⟩ = some (.int .i64 (U[p] : Nat)) at uc
    generalize U[p] = v at *
    by_cases hvu : v ∈ us
    · obtain ⟨hil, hie⟩ := List.getElem?_eq_some_iff.1 (HA1.out hvu)
      obtain ⟨ab, ao, haa, hab, ac⟩ := slI_at HA.out (show i < (us.map Int.ofNat).length by rw [List.length_map]; exact hil)
      subst haa
      have ac := (HBW.out.cell (p := ⟨ab, ao + i, none⟩) hab).trans ac
      rw [List.getElem_map] at ac
      have hab2 := Nat.lt_of_lt_of_le hab hzz
      have ai0 : (0 : Int) ≤ (i : Int) := by omega
      have ai1 : (i : Int) < (us.length : Int) := by omega
      have hdA : decide ((i : Int) < (us.length : Int)) = true := decide_eq_true ai1
      rw [hie] at ac
      change wr.cell? ⟨ab, ao + i, none⟩ = some (.int .i64 (v : Nat)) at ac
      clear hie
      by_cases hvv : v ∈ vs
      · obtain ⟨hkl, hke⟩ := List.getElem?_eq_some_iff.1 (HB1.out hvv)
        obtain ⟨bb, bo, hbb, hbb1, bc⟩ := slI_at HB.out (show k < (vs.map Int.ofNat).length by rw [List.length_map]; exact hkl)
        subst hbb
        have bc := (HBW.out.cell (p := ⟨bb, bo + k, none⟩) hbb1).trans bc
        rw [List.getElem_map] at bc
        have hbb2 := Nat.lt_of_lt_of_le hbb1 hzz
        have bi0 : (0 : Int) ≤ (k : Int) := by omega
        have bi1 : (k : Int) < (vs.length : Int) := by omega
        have hdB : decide ((k : Int) < (vs.length : Int)) = true := decide_eq_true bi1
        rw [hke] at bc
        change wr.cell? ⟨bb, bo + k, none⟩ = some (.int .i64 (v : Nat)) at bc
        clear hke
        obtain ⟨gl, ge⟩ := HGA1.out hvu
        obtain ⟨yb, yo, hxa, hyb, y1, y2, y3⟩ := slR_at HX.out gl
        subst hxa
        have y1 := (HBW.out.cell (p := ⟨yb, yo + i * 3, none⟩) hyb).trans y1
        have y2 := (HBW.out.cell (p := ⟨yb, yo + i * 3 + 1, none⟩) hyb).trans y2
        have y3 := (HBW.out.cell (p := ⟨yb, yo + i * 3 + 2, none⟩) hyb).trans y3
        have hyb2 := Nat.lt_of_lt_of_le hyb hzz
        have gi0 : (0 : Int) ≤ (i : Int) := by omega
        have gi1 : (i : Int) < (x.length : Int) := by omega
        have hms := HMS.out
        rw [if_pos hvu, ← ge] at hms
        have HMS2 := Lib.hid hms
        clear hms ge
        generalize x[i] = z at *
        have HSA2 : Hid (_ = i + 1) := HSA.out.trans (by rw [if_pos hvu])
        have HSB2 : Hid (_ = k + 1) := HSB.out.trans (by rw [if_pos hvv])
        have wi : IntKind.i64.wrap ((i : Int) + 1) = ((i + 1 : Nat) : Int) := by rw [IntWalk.i64_in _ (by omega)]; omega
        have wk : IntKind.i64.wrap ((k : Int) + 1) = ((k + 1 : Nat) : Int) := by rw [IntWalk.i64_in _ (by omega)]; omega
        clear HSA HSB HMS HA1 HA2 HB1 HB2 HGA1 HGB1 hvu hvv cv
        go_wp2_with fail
        go_quiet (fail)
        have HOW1 := Lib.hid (fun n (o : Obj) => own_keep HO.out (((Ext.refl wr).drewN n).alloc o).below)
        have HRW1 := Lib.hid (fun n => Row.new (wr.drewN n) 66 [.int .i64 z.kind, .int .i64 z.int, .string z.str])
        have HBZ1 := Lib.hid (fun n (o : Obj) => Nat.le_trans hzz ((((Ext.refl wr).drewN n).alloc o).size))
        have HML1 : Hid (M.length ≤ 100000000) := by have := HML.out; show _ ≤ _; omega
        go_wp2_with (at_builtin; refine app1V rfl (.tmp 52) (.tmp 57) rfl w.heap.size u11 M rfl (HOW1.out _ _) wr.heap.size z rfl ((HRW1.out _).cell 0) ((HRW1.out _).cell 1) ((HRW1.out _).cell 2) HML1.out (HBZ1.out _ _) ?_
                     intro v5 w5 hown hg
                     have HO5 := Lib.hid hown
                     have HB5 : Hid (Below w.heap.size w w5) := by
                       exact Below.grown (Below.then HBW.out (((Ext.refl wr).drewN _).alloc _).below hzz) hg (HBZ1.out _ _) (fun j hj => own_base HO.out hj)
                     clear hown hg)
        go_roundw
        case rel => exact ⟨p + 1, hpl, by go_num, by rw [HSA2.out] <;> go_num, by rw [HSB2.out] <;> go_num, by rw [HMS2.out]; exact HO5.out, HB5.out⟩
        case measure => simp [intOf]; omega
      · by_cases hkl : k < vs.length
        · obtain ⟨bb, bo, hbb, hbb1, bc⟩ := slI_at HB.out (show k < (vs.map Int.ofNat).length by rw [List.length_map]; exact hkl)
          subst hbb
          have bc := (HBW.out.cell (p := ⟨bb, bo + k, none⟩) hbb1).trans bc
          rw [List.getElem_map] at bc
          have hbb2 := Nat.lt_of_lt_of_le hbb1 hzz
          have bi0 : (0 : Int) ≤ (k : Int) := by omega
          have bi1 : (k : Int) < (vs.length : Int) := by omega
          have hdB : decide ((k : Int) < (vs.length : Int)) = true := decide_eq_true bi1
          have hne : vs[k] ≠ v := fun e => HB2.out hvv (by rw [List.getElem?_eq_getElem hkl, e])
          change wr.cell? ⟨bb, bo + k, none⟩ = some (.int .i64 (vs[k] : Nat)) at bc
          generalize vs[k] = q at *
          have hqe : ((q : Int) == (v : Int)) = false := by simpa using (show ¬ (q : Int) = (v : Int) by omega)
          obtain ⟨gl, ge⟩ := HGA1.out hvu
          obtain ⟨yb, yo, hxa, hyb, y1, y2, y3⟩ := slR_at HX.out gl
          subst hxa
          have y1 := (HBW.out.cell (p := ⟨yb, yo + i * 3, none⟩) hyb).trans y1
          have y2 := (HBW.out.cell (p := ⟨yb, yo + i * 3 + 1, none⟩) hyb).trans y2
          have y3 := (HBW.out.cell (p := ⟨yb, yo + i * 3 + 2, none⟩) hyb).trans y3
          have hyb2 := Nat.lt_of_lt_of_le hyb hzz
          have gi0 : (0 : Int) ≤ (i : Int) := by omega
          have gi1 : (i : Int) < (x.length : Int) := by omega
          have hms := HMS.out
          rw [if_pos hvu, ← ge] at hms
          have HMS2 := Lib.hid hms
          clear hms ge
          generalize x[i] = z at *
          have HSA2 : Hid (_ = i + 1) := HSA.out.trans (by rw [if_pos hvu])
          have HSB2 : Hid (_ = k) := HSB.out.trans (by rw [if_neg hvv]; rfl)
          have wi : IntKind.i64.wrap ((i : Int) + 1) = ((i + 1 : Nat) : Int) := by rw [IntWalk.i64_in _ (by omega)]; omega
          clear HSA HSB HMS HA1 HA2 HB1 HB2 HGA1 HGB1 hvu hvv cv
          go_wp2_with fail
          go_quiet (fail)
          have HOW1 := Lib.hid (fun n (o : Obj) => own_keep HO.out (((Ext.refl wr).drewN n).alloc o).below)
          have HRW1 := Lib.hid (fun n => Row.new (wr.drewN n) 66 [.int .i64 z.kind, .int .i64 z.int, .string z.str])
          have HBZ1 := Lib.hid (fun n (o : Obj) => Nat.le_trans hzz ((((Ext.refl wr).drewN n).alloc o).size))
          have HML1 : Hid (M.length ≤ 100000000) := by have := HML.out; show _ ≤ _; omega
          go_wp2_with (at_builtin; refine app1V rfl (.tmp 52) (.tmp 57) rfl w.heap.size u11 M rfl (HOW1.out _ _) wr.heap.size z rfl ((HRW1.out _).cell 0) ((HRW1.out _).cell 1) ((HRW1.out _).cell 2) HML1.out (HBZ1.out _ _) ?_
                       intro v5 w5 hown hg
                       have HO5 := Lib.hid hown
                       have HB5 : Hid (Below w.heap.size w w5) := by
                         exact Below.grown (Below.then HBW.out (((Ext.refl wr).drewN _).alloc _).below hzz) hg (HBZ1.out _ _) (fun j hj => own_base HO.out hj)
                       clear hown hg)
          go_roundw
          case rel => exact ⟨p + 1, hpl, by go_num, by rw [HSA2.out] <;> go_num, by rw [HSB2.out] <;> go_num, by rw [HMS2.out]; exact HO5.out, HB5.out⟩
          case measure => simp [intOf]; omega
        · have hdB : decide ((k : Int) < (vs.length : Int)) = false := decide_eq_false (by omega)
          obtain ⟨gl, ge⟩ := HGA1.out hvu
          obtain ⟨yb, yo, hxa, hyb, y1, y2, y3⟩ := slR_at HX.out gl
          subst hxa
          have y1 := (HBW.out.cell (p := ⟨yb, yo + i * 3, none⟩) hyb).trans y1
          have y2 := (HBW.out.cell (p := ⟨yb, yo + i * 3 + 1, none⟩) hyb).trans y2
          have y3 := (HBW.out.cell (p := ⟨yb, yo + i * 3 + 2, none⟩) hyb).trans y3
          have hyb2 := Nat.lt_of_lt_of_le hyb hzz
          have gi0 : (0 : Int) ≤ (i : Int) := by omega
          have gi1 : (i : Int) < (x.length : Int) := by omega
          have hms := HMS.out
          rw [if_pos hvu, ← ge] at hms
          have HMS2 := Lib.hid hms
          clear hms ge
          generalize x[i] = z at *
          have HSA2 : Hid (_ = i + 1) := HSA.out.trans (by rw [if_pos hvu])
          have HSB2 : Hid (_ = k) := HSB.out.trans (by rw [if_neg hvv]; rfl)
          have wi : IntKind.i64.wrap ((i : Int) + 1) = ((i + 1 : Nat) : Int) := by rw [IntWalk.i64_in _ (by omega)]; omega
          clear HSA HSB HMS HA1 HA2 HB1 HB2 HGA1 HGB1 hvu hvv cv
          go_wp2_with fail
          go_quiet (fail)
          have HOW1 := Lib.hid (fun n (o : Obj) => own_keep HO.out (((Ext.refl wr).drewN n).alloc o).below)
          have HRW1 := Lib.hid (fun n => Row.new (wr.drewN n) 66 [.int .i64 z.kind, .int .i64 z.int, .string z.str])
          have HBZ1 := Lib.hid (fun n (o : Obj) => Nat.le_trans hzz ((((Ext.refl wr).drewN n).alloc o).size))
          have HML1 : Hid (M.length ≤ 100000000) := by have := HML.out; show _ ≤ _; omega
          go_wp2_with (at_builtin; refine app1V rfl (.tmp 52) (.tmp 57) rfl w.heap.size u11 M rfl (HOW1.out _ _) wr.heap.size z rfl ((HRW1.out _).cell 0) ((HRW1.out _).cell 1) ((HRW1.out _).cell 2) HML1.out (HBZ1.out _ _) ?_
                       intro v5 w5 hown hg
                       have HO5 := Lib.hid hown
                       have HB5 : Hid (Below w.heap.size w w5) := by
                         exact Below.grown (Below.then HBW.out (((Ext.refl wr).drewN _).alloc _).below hzz) hg (HBZ1.out _ _) (fun j hj => own_base HO.out hj)
                       clear hown hg)
          go_roundw
          case rel => exact ⟨p + 1, hpl, by go_num, by rw [HSA2.out] <;> go_num, by rw [HSB2.out] <;> go_num, by rw [HMS2.out]; exact HO5.out, HB5.out⟩
          case measure => simp [intOf]; omega
    · have hvv : v ∈ vs := cv.resolve_left hvu
      obtain ⟨hkl, hke⟩ := List.getElem?_eq_some_iff.1 (HB1.out hvv)
      obtain ⟨bb, bo, hbb, hbb1, bc⟩ := slI_at HB.out (show k < (vs.map Int.ofNat).length by rw [List.length_map]; exact hkl)
      subst hbb
      have bc := (HBW.out.cell (p := ⟨bb, bo + k, none⟩) hbb1).trans bc
      rw [List.getElem_map] at bc
      have hbb2 := Nat.lt_of_lt_of_le hbb1 hzz
      have bi0 : (0 : Int) ≤ (k : Int) := by omega
      have bi1 : (k : Int) < (vs.length : Int) := by omega
      have hdB : decide ((k : Int) < (vs.length : Int)) = true := decide_eq_true bi1
      rw [hke] at bc
      change wr.cell? ⟨bb, bo + k, none⟩ = some (.int .i64 (v : Nat)) at bc
      clear hke
      by_cases hil : i < us.length
      · obtain ⟨ab, ao, haa, hab, ac⟩ := slI_at HA.out (show i < (us.map Int.ofNat).length by rw [List.length_map]; exact hil)
        subst haa
        have ac := (HBW.out.cell (p := ⟨ab, ao + i, none⟩) hab).trans ac
        rw [List.getElem_map] at ac
        have hab2 := Nat.lt_of_lt_of_le hab hzz
        have ai0 : (0 : Int) ≤ (i : Int) := by omega
        have ai1 : (i : Int) < (us.length : Int) := by omega
        have hdA : decide ((i : Int) < (us.length : Int)) = true := decide_eq_true ai1
        have hne : us[i] ≠ v := fun e => HA2.out hvu (by rw [List.getElem?_eq_getElem hil, e])
        change wr.cell? ⟨ab, ao + i, none⟩ = some (.int .i64 (us[i] : Nat)) at ac
        generalize us[i] = q at *
        have hqe : ((q : Int) == (v : Int)) = false := by simpa using (show ¬ (q : Int) = (v : Int) by omega)
        obtain ⟨gl, ge⟩ := HGB1.out hvv
        obtain ⟨yb, yo, hxa, hyb, y1, y2, y3⟩ := slR_at HY.out gl
        subst hxa
        have y1 := (HBW.out.cell (p := ⟨yb, yo + k * 3, none⟩) hyb).trans y1
        have y2 := (HBW.out.cell (p := ⟨yb, yo + k * 3 + 1, none⟩) hyb).trans y2
        have y3 := (HBW.out.cell (p := ⟨yb, yo + k * 3 + 2, none⟩) hyb).trans y3
        have hyb2 := Nat.lt_of_lt_of_le hyb hzz
        have gi0 : (0 : Int) ≤ (k : Int) := by omega
        have gi1 : (k : Int) < (y.length : Int) := by omega
        have hms := HMS.out
        rw [if_neg hvu, ← ge] at hms
        have HMS2 := Lib.hid hms
        clear hms ge
        generalize y[k] = z at *
        have HSA2 : Hid (_ = i) := HSA.out.trans (by rw [if_neg hvu]; rfl)
        have HSB2 : Hid (_ = k + 1) := HSB.out.trans (by rw [if_pos hvv])
        have wk : IntKind.i64.wrap ((k : Int) + 1) = ((k + 1 : Nat) : Int) := by rw [IntWalk.i64_in _ (by omega)]; omega
        clear HSA HSB HMS HA1 HA2 HB1 HB2 HGA1 HGB1 hvu hvv cv
        go_wp2_with fail
        go_quiet (fail)
        have HOW1 := Lib.hid (fun n (o : Obj) => own_keep HO.out (((Ext.refl wr).drewN n).alloc o).below)
        have HRW1 := Lib.hid (fun n => Row.new (wr.drewN n) 66 [.int .i64 z.kind, .int .i64 z.int, .string z.str])
        have HBZ1 := Lib.hid (fun n (o : Obj) => Nat.le_trans hzz ((((Ext.refl wr).drewN n).alloc o).size))
        have HML1 : Hid (M.length ≤ 100000000) := by have := HML.out; show _ ≤ _; omega
        go_wp2_with (at_builtin; refine app1V rfl (.tmp 61) (.tmp 66) rfl w.heap.size u11 M rfl (HOW1.out _ _) wr.heap.size z rfl ((HRW1.out _).cell 0) ((HRW1.out _).cell 1) ((HRW1.out _).cell 2) HML1.out (HBZ1.out _ _) ?_
                     intro v5 w5 hown hg
                     have HO5 := Lib.hid hown
                     have HB5 : Hid (Below w.heap.size w w5) := by
                       exact Below.grown (Below.then HBW.out (((Ext.refl wr).drewN _).alloc _).below hzz) hg (HBZ1.out _ _) (fun j hj => own_base HO.out hj)
                     clear hown hg)
        go_roundw
        case rel => exact ⟨p + 1, hpl, by go_num, by rw [HSA2.out] <;> go_num, by rw [HSB2.out] <;> go_num, by rw [HMS2.out]; exact HO5.out, HB5.out⟩
        case measure => simp [intOf]; omega
      · have hdA : decide ((i : Int) < (us.length : Int)) = false := decide_eq_false (by omega)
        obtain ⟨gl, ge⟩ := HGB1.out hvv
        obtain ⟨yb, yo, hxa, hyb, y1, y2, y3⟩ := slR_at HY.out gl
        subst hxa
        have y1 := (HBW.out.cell (p := ⟨yb, yo + k * 3, none⟩) hyb).trans y1
        have y2 := (HBW.out.cell (p := ⟨yb, yo + k * 3 + 1, none⟩) hyb).trans y2
        have y3 := (HBW.out.cell (p := ⟨yb, yo + k * 3 + 2, none⟩) hyb).trans y3
        have hyb2 := Nat.lt_of_lt_of_le hyb hzz
        have gi0 : (0 : Int) ≤ (k : Int) := by omega
        have gi1 : (k : Int) < (y.length : Int) := by omega
        have hms := HMS.out
        rw [if_neg hvu, ← ge] at hms
        have HMS2 := Lib.hid hms
        clear hms ge
        generalize y[k] = z at *
        have HSA2 : Hid (_ = i) := HSA.out.trans (by rw [if_neg hvu]; rfl)
        have HSB2 : Hid (_ = k + 1) := HSB.out.trans (by rw [if_pos hvv])
        have wk : IntKind.i64.wrap ((k : Int) + 1) = ((k + 1 : Nat) : Int) := by rw [IntWalk.i64_in _ (by omega)]; omega
        clear HSA HSB HMS HA1 HA2 HB1 HB2 HGA1 HGB1 hvu hvv cv
        go_wp2_with fail
        go_quiet (fail)
        have HOW1 := Lib.hid (fun n (o : Obj) => own_keep HO.out (((Ext.refl wr).drewN n).alloc o).below)
        have HRW1 := Lib.hid (fun n => Row.new (wr.drewN n) 66 [.int .i64 z.kind, .int .i64 z.int, .string z.str])
        have HBZ1 := Lib.hid (fun n (o : Obj) => Nat.le_trans hzz ((((Ext.refl wr).drewN n).alloc o).size))
        have HML1 : Hid (M.length ≤ 100000000) := by have := HML.out; show _ ≤ _; omega
        go_wp2_with (at_builtin; refine app1V rfl (.tmp 61) (.tmp 66) rfl w.heap.size u11 M rfl (HOW1.out _ _) wr.heap.size z rfl ((HRW1.out _).cell 0) ((HRW1.out _).cell 1) ((HRW1.out _).cell 2) HML1.out (HBZ1.out _ _) ?_
                     intro v5 w5 hown hg
                     have HO5 := Lib.hid hown
                     have HB5 : Hid (Below w.heap.size w w5) := by
                       exact Below.grown (Below.then HBW.out (((Ext.refl wr).drewN _).alloc _).below hzz) hg (HBZ1.out _ _) (fun j hj => own_base HO.out hj)
                     clear hown hg)
        go_roundw
        case rel => exact ⟨p + 1, hpl, by go_num, by rw [HSA2.out] <;> go_num, by rw [HSB2.out] <;> go_num, by rw [HMS2.out]; exact HO5.out, HB5.out⟩
        case measure => simp [intOf]; omega

end Go.Proofs.YthgaflmldbgbnaaDoor
end

section
/- Walk: leapfrog's run. -/
namespace Go.Proofs.YthgaflmldbgbnaaDoor
open Go.RowKit Go.Sort

/-- What run asks of its atoms. -/
structure RAOk (n M : Nat) (a : RA) : Prop where
  at_ : a.at.Ok n
  nn : ∀ v ∈ a.vs, 0 ≤ v
  ar : a.ar = a.vs.length
  ok : RsOk a.P
  len : a.P.length ≤ 60000
  M : ∀ q, (RL.kids a.at.d a.at.P q).length ≤ M
end Go.Proofs.YthgaflmldbgbnaaDoor
end

section
/- Walk: leapfrog's Each. -/
namespace Go.Proofs.YthgaflmldbgbnaaDoor
open Go.RowKit Go.Sort

/-- What is asked of an atom's relation. -/
structure RelOk (M : Nat) (a : RA) : Prop where
  ss : RL.SS a.P
  len : ∀ r ∈ a.P, (r.length : Int) = a.ar
  ok : RsOk a.P
  many : a.P.length ≤ 60000
  M : ∀ q, (RL.kids a.at.d a.at.P q).length ≤ M
theorem errAt_zero {n : Int} {a : RA} (h : errAt n a = 0) : a.vs.Pairwise (· < ·) ∧ (∀ v ∈ a.vs, 0 ≤ v ∧ v < n) ∧ (a.vs.length : Int) = a.ar := by
  unfold errAt at h
  split at h
  · cases h
  · rename_i h1
    split at h
    · cases h
    · rename_i h2
      split at h
      · cases h
      · rename_i h3
        refine ⟨by simpa using h1, fun v hv => ?_, by simpa using h3⟩
        exact ⟨Int.not_lt.1 fun hb => h2 ⟨v, hv, .inl hb⟩, Int.not_le.1 fun hb => h2 ⟨v, hv, .inr hb⟩⟩
theorem errA_zero {n : Int} {X : List RA} (h : errA n X = 0) : ∃ m : Nat, n = (m : Int) ∧ m ≤ 32 ∧ X.length ≤ 32 ∧ (∀ a ∈ X, errAt n a = 0) ∧ ∀ v : Nat, v < m → ∃ a ∈ X, (v : Int) ∈ a.vs := by
  unfold errA at h
  split at h
  · cases h
  · rename_i h1
    split at h
    · cases h
    · rename_i h2
      split at h
      · rename_i a ha
        have := List.find?_some ha
        simp [h] at this
      · rename_i ha
        refine ⟨n.toNat, by omega, by omega, by omega, fun a hm => ?_, fun v hv => ?_⟩
        · have := List.find?_eq_none.1 ha a hm
          simpa using this
        · split at h
          · cases h
          · rename_i h3
            refine Classical.byContradiction fun hno => h3 (List.any_eq_true.2 ⟨v, List.mem_range.2 hv, List.all_eq_true.2 fun a hm => decide_eq_true fun hv2 => hno ⟨a, hm, hv2⟩⟩)
theorem raOk_of {m M : Nat} {a : RA} (h : errAt (m : Int) a = 0) (hr : RelOk M a) : RAOk m M a := by
  obtain ⟨h1, h2, h3⟩ := errAt_zero h
  refine ⟨⟨?_, fun v hv => ?_, fun r hm => ?_, hr.ss⟩, fun v hv => (h2 v hv).1, h3.symm, hr.ok, hr.many, hr.M⟩
  · show (a.vs.map Int.toNat).Pairwise (· < ·)
    refine List.pairwise_map.2 (h1.imp_of_mem fun {x y} hx hy hxy => ?_)
    have := h2 x hx
    have := h2 y hy
    omega
  · obtain ⟨u, hu, rfl⟩ := List.mem_map.1 hv
    have := h2 u hu
    omega
  · have h4 := hr.len r hm
    show r.length = (a.vs.map Int.toNat).length
    rw [List.length_map]
    omega
theorem used_of {m : Nat} {X : List RA} (h : ∀ v : Nat, v < m → ∃ a ∈ X, (v : Int) ∈ a.vs) : ∀ v, v < m → ∃ a ∈ X, v ∈ a.at.vs := fun v hv => by
  obtain ⟨a, ha, hm⟩ := h v hv
  exact ⟨a, ha, List.mem_map.2 ⟨_, hm, by simp⟩⟩

end Go.Proofs.YthgaflmldbgbnaaDoor
end

section
/- A box in which a function collects the rows passed to it; leapfrog's Join. -/
namespace Go.Proofs.YthgaflmldbgbnaaDoor
open Go.RowKit Go.Sort

structure ColM (gb B : Nat) (L : List RL.R) (O : Nat → Prop) (w : World) (v : Value) (hs : List Value) : Prop where
  row : Row w gb 33 [v]
  own : w.ownsRow B 64 1 v L.length hs
  lt : gb < B
  el : ∀ i (h : i < L.length), ∃ A' C', hs[i]? = some (.slice A' L[i].length C') ∧ L[i].length ≤ C' ∧ C' ≤ 9223372036854775807 ∧ SlR w.heap.size w A' L[i]
  blk : ∀ (i : Nat) (u : Value) (b : Nat), hs[i]? = some u → u.ownBlock = some b → O b ∧ b ≠ gb ∧ v.ownBlock ≠ some b
  sep : ∀ (i j : Nat) (u u' : Value) (b : Nat), hs[i]? = some u → hs[j]? = some u' → i ≠ j → u.ownBlock = some b → u'.ownBlock ≠ some b
  og : O gb
  ov : ∀ b, v.ownBlock = some b → O b
  z : B ≤ w.heap.size
  fz : ∀ (i : Nat) (u : Value) (b : Nat), hs[i]? = some u → u.ownBlock = some b → ∀ o, w.frozen? ⟨b, o, none⟩ = false
theorem frozen_same {w w' : World} {b o : Nat} (h : w'.heap[b]? = w.heap[b]?) : w'.frozen? ⟨b, o, none⟩ = w.frozen? ⟨b, o, none⟩ := by simp [World.frozen?, h]
theorem own_same {w w' : World} {base size : Nat} {e : TypeId} {v : Value} {n : Nat} {xs : List Value} (h : w.ownsRow base e size v n xs) (hk : ∀ b, v.ownBlock = some b → w'.heap[b]? = w.heap[b]?) : w'.ownsRow base e size v n xs := by
  refine ⟨h.1, ?_⟩
  rcases h.2 with h1 | ⟨g, cap, cur, rfl, h2, h3, h4⟩
  · exact .inl h1
  · exact .inr ⟨g, cap, cur, rfl, h2, (hk g rfl).trans h3, h4⟩
theorem SlR.same {w w' : World} {A : Option Addr} {x : RL.R} (h : SlR w.heap.size w A x) (hk : ∀ ad, A = some ad → w'.heap[ad.block]? = w.heap[ad.block]?) (hz : w.heap.size ≤ w'.heap.size) : SlR w'.heap.size w' A x := fun hn => by
  obtain ⟨b, o, e, hb, hc⟩ := h hn
  exact ⟨b, o, e, by omega, fun i u hu => (World.cell?_of_block (a := ⟨b, o + i, none⟩) (hk ⟨b, o, none⟩ e)).trans (hc i u hu)⟩

section
variable {gb B : Nat} {L : List RL.R} {O : Nat → Prop} {w w' : World} {v : Value} {hs : List Value}
theorem ColM.len (h : ColM gb B L O w v hs) : hs.length = L.length := by have := h.own.1; omega
theorem ColM.keep (h : ColM gb B L O w v hs) (hk : ∀ b, O b → w'.heap[b]? = w.heap[b]?) (hz : w.heap.size ≤ w'.heap.size) : ColM gb B L O w' v hs where
  row := (hk gb h.og).trans h.row
  own := own_same h.own fun b hb => hk b (h.ov b hb)
  lt := h.lt
  el := fun i hi => by
    obtain ⟨A', C', h1, h2, h3, h4⟩ := h.el i hi
    exact ⟨A', C', h1, h2, h3, h4.same (fun ad e => hk ad.block (h.blk i _ ad.block h1 (by rw [e]; rfl)).1) hz⟩
  blk := h.blk
  sep := h.sep
  og := h.og
  ov := h.ov
  z := Nat.le_trans h.z hz
  fz := fun i u b hu hb o => (frozen_same (hk b (h.blk i u b hu hb).1)).trans (h.fz i u b hu hb o)
/-- The next row has been appended, and the header stored. -/
theorem ColM.put {bo : Obj} {v' : Value} {w6 : World} {x : RL.R} {A : Option Addr} {C : Nat} (h : ColM gb B L O w v hs) (hO : ∀ b, O b → b < w.heap.size) (hx : SlR w.heap.size w A x) (hc : x.length ≤ C) (hm : C ≤ 9223372036854775807) (hA : ∀ ad, A = some ad → ¬ O ad.block ∧ ad.block < w.heap.size) (hfz : ∀ ad, A = some ad → ∀ o, w.frozen? ⟨ad.block, o, none⟩ = false)
    (hown : w6.ownsRow B 64 1 v' (L.length + 1) (hs ++ [.slice A x.length C])) (hg : (w.alloc bo).grownBy w6 v.ownBlock) (hat : v'.ownBlock = v.ownBlock ∨ v'.ownBlock = some (w.alloc bo).heap.size) :
    ∃ O' : Nat → Prop, ColM gb B (L ++ [x]) O' (w6.setCell ⟨gb, 0, none⟩ v') v' (hs ++ [.slice A x.length C]) ∧ (∀ b, O' b → b < (w6.setCell ⟨gb, 0, none⟩ v').heap.size ∧ (O b ∨ (Value.slice A x.length C).ownBlock = some b ∨ w.heap.size ≤ b)) ∧ Chg O w (w6.setCell ⟨gb, 0, none⟩ v') := by
  have hva : ∀ b, v'.ownBlock = some b → v.ownBlock = some b ∨ w.heap.size ≤ b := fun b hb => by
    rcases hat with e | e
    · exact .inl (by rw [← e]; exact hb)
    · rw [e] at hb; injection hb with hb; simp at hb; exact .inr (by omega)
  have hal : Chg O w (w.alloc bo) := Chg.of_ext ((Ext.refl w).alloc bo)
  have hc6 : Chg O w w6 := hal.then (Chg.of_grown (F := fun b => v.ownBlock = some b) hg fun _ e => e) fun b _ hb => h.ov b hb
  have hcF : Chg (fun b => v.ownBlock = some b ∨ b = gb) w (w6.setCell ⟨gb, 0, none⟩ v') := ((Chg.of_ext ((Ext.refl w).alloc bo)).trans (Chg.of_grown hg fun b e => .inl e)).trans (Chg.set _ _ _ _ (.inr rfl))
  have hgbv : v.ownBlock ≠ some gb := fun e => by have := own_base h.own e; have := h.lt; omega
  have hgbv' : v'.ownBlock ≠ some gb := fun e => by have := own_base hown e; have := h.lt; omega
  have hz6 := hc6.size
  have hgz := h.row.lt
  have hsz : (w6.setCell ⟨gb, 0, none⟩ v').heap.size = w6.heap.size := by simp
  have hl := h.len
  have hxb : ∀ b, (Value.slice A x.length C).ownBlock = some b → ∃ ad, A = some ad ∧ ad.block = b := fun b hb => by
    rcases A with _ | ad
    · cases hb
    · simp [Value.ownBlock] at hb; exact ⟨ad, rfl, hb⟩
  refine ⟨fun b => O b ∨ (Value.slice A x.length C).ownBlock = some b ∨ v'.ownBlock = some b, ⟨?_, by rw [List.length_append, List.length_singleton]; exact own_far hown hgbv' _, h.lt, fun i hi => ?_, fun i u b hu hb => ?_, fun i j u u' b hu hu' hne hb => ?_, .inl h.og, fun b hb => .inr (.inr hb), by rw [hsz]; exact Nat.le_trans h.z hz6, fun i u b hu hb o => ?_⟩, fun b hb => ?_, hc6.trans (Chg.set _ _ _ _ h.og)⟩
  · have h1 : Row (w.alloc bo) gb 33 [v] := h.row.alloc bo
    exact (h1.grown hg (fun e => hgbv e.symm)).set 0 v'
  · by_cases hi2 : i < L.length
    · obtain ⟨A', C', h1, h2, h3, h4⟩ := h.el i hi2
      have e : (L ++ [x])[i] = L[i] := List.getElem_append_left hi2
      rw [e]
      refine ⟨A', C', by rw [List.getElem?_append_left (by omega)]; exact h1, h2, h3, h4.same (fun ad ea => ?_) hcF.size⟩
      have hb := h.blk i _ ad.block h1 (by rw [ea]; rfl)
      exact hcF.block _ (hO _ hb.1) (fun hh => hh.elim (fun e2 => hb.2.2 e2) (fun e2 => hb.2.1 e2))
    · have hie : i = L.length := by simp at hi; omega
      subst hie
      have e : (L ++ [x])[L.length] = x := by simp
      rw [e]
      refine ⟨A, C, by rw [List.getElem?_append_right (by omega), hl, Nat.sub_self]; rfl, hc, hm, hx.same (fun ad ea => hcF.block _ (hA ad ea).2 fun hh => ?_) hcF.size⟩
      rcases hh with hh | hh
      · exact (hA ad ea).1 (h.ov _ hh)
      · exact (hA ad ea).1 (by rw [hh]; exact h.og)
  · have hnew : ∀ c, O c ∨ c < w.heap.size → v.ownBlock ≠ some c → v'.ownBlock ≠ some c := fun c hc hv e => by
      rcases hva c e with h1 | h1
      · exact hv h1
      · rcases hc with hc | hc
        · have := hO c hc; omega
        · omega
    by_cases hi2 : i < hs.length
    · rw [List.getElem?_append_left hi2] at hu
      have hb2 := h.blk i u b hu hb
      exact ⟨.inl hb2.1, hb2.2.1, hnew b (.inl hb2.1) hb2.2.2⟩
    · have hie : i = hs.length := by
        have := (List.getElem?_eq_some_iff.1 hu).1
        simp at this
        omega
      subst hie
      rw [List.getElem?_append_right (Nat.le_refl _), Nat.sub_self] at hu
      simp at hu
      subst hu
      obtain ⟨ad, ea, rfl⟩ := hxb b hb
      have ha := hA ad ea
      exact ⟨.inr (.inl hb), fun e => ha.1 (by rw [e]; exact h.og), hnew _ (.inr ha.2) (fun e => ha.1 (h.ov _ e))⟩
  · have hget : ∀ i u, (hs ++ [Value.slice A x.length C])[i]? = some u → (i < hs.length ∧ hs[i]? = some u) ∨ (i = hs.length ∧ u = .slice A x.length C) := fun i u hu => by
      by_cases hi2 : i < hs.length
      · rw [List.getElem?_append_left hi2] at hu; exact .inl ⟨hi2, hu⟩
      · have hie : i = hs.length := by
          have := (List.getElem?_eq_some_iff.1 hu).1
          simp at this
          omega
        subst hie
        rw [List.getElem?_append_right (Nat.le_refl _), Nat.sub_self] at hu
        simp at hu
        exact .inr ⟨rfl, hu.symm⟩
    rcases hget i u hu with ⟨_, h1⟩ | ⟨e1, rfl⟩ <;> rcases hget j u' hu' with ⟨_, h2⟩ | ⟨e2, rfl⟩
    · exact h.sep i j u u' b h1 h2 hne hb
    · intro e
      obtain ⟨ad, ea, rfl⟩ := hxb b e
      exact (hA ad ea).1 (h.blk i u _ h1 hb).1
    · intro e
      obtain ⟨ad, ea, rfl⟩ := hxb b hb
      exact (hA ad ea).1 (h.blk j u' _ h2 e).1
    · omega
  · by_cases hi2 : i < hs.length
    · rw [List.getElem?_append_left hi2] at hu
      have hb2 := h.blk i u b hu hb
      refine (frozen_same (hcF.block _ (hO _ hb2.1) fun hh => ?_)).trans (h.fz i u b hu hb o)
      exact hh.elim (fun e2 => hb2.2.2 e2) (fun e2 => hb2.2.1 e2)
    · have hie : i = hs.length := by
        have := (List.getElem?_eq_some_iff.1 hu).1
        simp at this
        omega
      subst hie
      rw [List.getElem?_append_right (Nat.le_refl _), Nat.sub_self] at hu
      simp at hu
      subst hu
      obtain ⟨ad, ea, rfl⟩ := hxb b hb
      refine (frozen_same (hcF.block _ (hA ad ea).2 fun hh => ?_)).trans (hfz ad ea o)
      rcases hh with hh | hh
      · exact (hA ad ea).1 (h.ov _ hh)
      · exact (hA ad ea).1 (by rw [hh]; exact h.og)
  · rw [hsz]
    rcases hb with hb | hb | hb
    · exact ⟨Nat.lt_of_lt_of_le (hO b hb) hz6, .inl hb⟩
    · obtain ⟨ad, ea, rfl⟩ := hxb b hb
      exact ⟨Nat.lt_of_lt_of_le (hA ad ea).2 hz6, .inr (.inl hb)⟩
    · refine ⟨own_lt hown b hb, ?_⟩
      rcases hva b hb with h1 | h1
      · exact .inl (h.ov b h1)
      · exact .inr (.inr h1)
end

end Go.Proofs.YthgaflmldbgbnaaDoor
end

section
/- Walk: leapfrog's Join. -/
namespace Go.Proofs.YthgaflmldbgbnaaDoor
open Go.RowKit Go.Sort

theorem ColM.sl {gb B : Nat} {L : List RL.R} {O : Nat → Prop} {w : World} {v : Value} {hs : List Value} (h : ColM gb B L O w v hs) : ∃ A C, v = .slice A L.length C ∧ L.length ≤ C ∧ C ≤ 9223372036854775807 ∧ SlRs w.heap.size w A L := by
  have ho : OwnRs w B 64 v L := ⟨hs, h.own, fun i hi => by
    obtain ⟨A', C', h1, h2, h3, h4⟩ := h.el i hi
    exact ⟨A', C', h1, h2, h3, h4, fun _ ad e => (h.blk i _ ad.block h1 (by rw [e]; rfl)).2.2⟩⟩
  exact ho.sl

end Go.Proofs.YthgaflmldbgbnaaDoor
end

section
/- Walks: natural numbers below 2^32 (nat.Of, trim); leapfrog's Count. -/
namespace Go.Proofs.YthgaflmldbgbnaaDoor
open Go.RowKit Go.Sort

/-- How many digits are left without leading zeros. -/
def trimN (l : List Nat) : Nat := (l.reverse.dropWhile (· == 0)).length
theorem trimN_snoc_zero (l : List Nat) : trimN (l ++ [0]) = trimN l := by unfold trimN; simp
theorem trimN_snoc (l : List Nat) {z : Nat} (h : z ≠ 0) : trimN (l ++ [z]) = l.length + 1 := by
  unfold trimN
  rw [List.reverse_append]
  simp [h]
end Go.Proofs.YthgaflmldbgbnaaDoor
end

section
/- Walk: nat.Cmp at numbers below 2^32. -/
namespace Go.Proofs.YthgaflmldbgbnaaDoor
open Go.RowKit Go.Sort

/-- The digits of a number below 2^32. -/
def digs (x : Nat) : List Nat := if x = 0 then [] else [x]
theorem trim_pair (x : Nat) : trimN [x, 0] = (digs x).length := by
  show trimN ([x] ++ [0]) = _
  rw [trimN_snoc_zero]
  unfold digs
  split
  · rename_i h; subst h; exact trimN_snoc_zero []
  · rename_i h; exact trimN_snoc [] h
def NatM (w : World) (v : Value) (x : Nat) : Prop := ∃ A C, v = .slice A (digs x).length C ∧ (digs x).length ≤ C ∧ SlN .u32 w.heap.size w A (digs x)
theorem NatM.zero (w : World) : NatM w (.slice none 0 0) 0 := ⟨none, 0, rfl, Nat.le_refl _, fun h => absurd rfl h⟩
theorem NatM.up {w w' : World} {v : Value} {x : Nat} (h : NatM w v x) (hb : Below w.heap.size w w') : NatM w' v x := by
  obtain ⟨A, C, h1, h2, h3⟩ := h
  exact ⟨A, C, h1, h2, (Sl.below h3 hb (Nat.le_refl _)).more hb.size⟩
theorem NatM.of {w : World} {A : Option Addr} {x : Nat} (h : SlN .u32 w.heap.size w A [x, 0]) : NatM w (.slice A (trimN [x, 0]) (trimN [x, 0])) x := by
  refine ⟨A, trimN [x, 0], by rw [trim_pair], by rw [trim_pair]; exact Nat.le_refl _, fun hn => ?_⟩
  obtain ⟨b, o, e, hb, hc⟩ := h (by simp)
  refine ⟨b, o, e, hb, fun i u hu => ?_⟩
  unfold digs at hu
  split at hu
  · simp at hu
  · cases i with
    | zero => exact hc 0 u (by simpa using hu)
    | succ i => simp at hu

end Go.Proofs.YthgaflmldbgbnaaDoor
end

section
/- Plain: the values of a variable, as the reference takes them; atoms of the reference in memory. -/
namespace Go.Proofs.YthgaflmldbgbnaaDoor
open Go.RowKit Go.Sort

/-- The first atom that has a variable, and its column. -/
def colF (X : List RA) (v : Int) : Option (RA × Nat) := X.findSome? fun a => (a.vs.findIdx? (· == v)).map fun k => (a, k)
def valsF (X : List RA) (v : Int) : RL.R :=
  match colF X v with
  | some (a, k) => (RL.ofF (a.P.map (projF · [(k : Int)]))).map fun r => r.getD 0 default
  | none => []
/-- Atoms of the reference: variables and rows. -/
def AtsR (B : Nat) (w : World) (A : Option Addr) (X : List RA) : Prop :=
  X ≠ [] → ∃ b o, A = some ⟨b, o, none⟩ ∧ b < B ∧ ∀ i (h : i < X.length), ∃ VA VC PA PC, w.cell? ⟨b, o + i * 2, none⟩ = some (.slice VA X[i].vs.length VC) ∧ w.cell? ⟨b, o + i * 2 + 1, none⟩ = some (.slice PA X[i].P.length PC) ∧ X[i].vs.length ≤ VC ∧ VC ≤ 9223372036854775807 ∧ X[i].P.length ≤ PC ∧ PC ≤ 9223372036854775807 ∧ SlI .i64 B w VA X[i].vs ∧ SlRs B w PA X[i].P
section
variable {B : Nat} {w w' : World} {A : Option Addr} {X : List RA}
theorem AtsR.upB (h : AtsR w.heap.size w A X) (hb : Below w.heap.size w w') : AtsR w'.heap.size w' A X := fun hn => by
  obtain ⟨b, o, e, hlt, hc⟩ := h hn
  refine ⟨b, o, e, Nat.lt_of_lt_of_le hlt hb.size, fun i hi => ?_⟩
  obtain ⟨VA, VC, PA, PC, h1, h3, h4, h5, h6, h7, h8, h9⟩ := hc i hi
  exact ⟨VA, VC, PA, PC, (hb.cell (p := ⟨b, o + i * 2, none⟩) hlt).trans h1, (hb.cell (p := ⟨b, o + i * 2 + 1, none⟩) hlt).trans h3, h4, h5, h6, h7, (h8.below hb (Nat.le_refl _)).more hb.size, h9.upB hb⟩
theorem atsR_at (h : AtsR B w A X) {i : Nat} (hi : i < X.length) : ∃ b o VA VC PA PC, A = some ⟨b, o, none⟩ ∧ b < B ∧ w.cell? ⟨b, o + i * 2, none⟩ = some (.slice VA X[i].vs.length VC) ∧ w.cell? ⟨b, o + i * 2 + 1, none⟩ = some (.slice PA X[i].P.length PC) ∧ X[i].vs.length ≤ VC ∧ VC ≤ 9223372036854775807 ∧ X[i].P.length ≤ PC ∧ PC ≤ 9223372036854775807 ∧ SlI .i64 B w VA X[i].vs ∧ SlRs B w PA X[i].P := by
  obtain ⟨b, o, e, hlt, hc⟩ := h (by intro h0; subst h0; simp at hi)
  obtain ⟨VA, VC, PA, PC, h⟩ := hc i hi
  exact ⟨b, o, VA, VC, PA, PC, e, hlt, h⟩
end
theorem ones_asc {Y : List RL.R} (h : RL.SS Y) (h1 : ∀ r ∈ Y, r.length = 1) : (Y.map fun r => r.getD 0 default).Pairwise fun a b => RL.cmpV a b < 0 := by
  refine List.pairwise_map.2 (h.imp_of_mem fun {a b} ha hb hab => ?_)
  have ea := h1 a ha
  have eb := h1 b hb
  match a, b, ea, eb with
  | [u], [v], _, _ => rw [RL.cmpR_one] at hab; exact hab
theorem valsF_asc (X : List RA) (v : Int) : (valsF X v).Pairwise fun a b => RL.cmpV a b < 0 := by
  unfold valsF
  split
  · refine ones_asc (RL.SS.of _) fun r hr => ?_
    obtain ⟨y, _, rfl⟩ := List.mem_map.1 ((RL.mem_ofF _ _).1 hr)
    rfl
  · exact List.Pairwise.nil
theorem colF_some {X : List RA} {v : Int} (h : ∃ a ∈ X, v ∈ a.vs) : ∃ a k, colF X v = some (a, k) ∧ a ∈ X ∧ ∃ hk : k < a.vs.length, a.vs[k] = v := by
  unfold colF
  cases hq : X.findSome? (fun a => (a.vs.findIdx? (· == v)).map fun k => (a, k)) with
  | none =>
    obtain ⟨a, ha, hv⟩ := h
    have h1 := List.findSome?_eq_none_iff.1 hq a ha
    rw [Option.map_eq_none_iff, List.findIdx?_eq_none_iff] at h1
    have := h1 v hv
    simp at this
  | some p =>
    obtain ⟨a, ha, h1⟩ := List.exists_of_findSome?_eq_some hq
    obtain ⟨k, hk, rfl⟩ := Option.map_eq_some_iff.1 h1
    rw [List.findIdx?_eq_some_iff_getElem] at hk
    obtain ⟨hk1, hk2, -⟩ := hk
    exact ⟨a, k, rfl, ha, hk1, by simpa using hk2⟩
/-- How many variables of an atom are below one of its own. -/
theorem pj_len_at {n : Nat} {a : RA} (h : a.at.Ok n) {x : RL.R} {k : Nat} (hk : k < a.vs.length) (hv : a.vs[k] = (x.length : Int)) : (pj a.at x).length = k := by
  have hd : a.at.vs.length = a.vs.length := by show (a.vs.map Int.toNat).length = _; simp
  have hpre := List.prefix_iff_eq_take.1 (filter_lt_prefix h.asc x.length)
  have hlen : (pj a.at x).length = (a.at.vs.filter fun v => decide (v < x.length)).length := by unfold pj; rw [List.length_map]
  have hk' : k < a.at.vs.length := by omega
  have e1 : a.at.vs[k] = x.length := by
    have : a.at.vs[k] = (a.vs[k]).toNat := List.getElem_map (l := a.vs) Int.toNat
    rw [this, hv, Int.toNat_natCast]
  rw [hlen]
  refine Nat.le_antisymm (Nat.le_of_not_lt fun hlt => ?_) (Nat.le_of_not_lt fun hlt => ?_)
  · have hm : (a.at.vs.filter fun v => decide (v < x.length))[k] ∈ a.at.vs.filter fun v => decide (v < x.length) := List.getElem_mem hlt
    have h1 := of_decide_eq_true (List.mem_filter.1 hm).2
    have e : (a.at.vs.filter fun v => decide (v < x.length))[k] = a.at.vs[k] := by
      have := List.getElem_of_eq hpre hlt
      rw [this, List.getElem_take]
    rw [e, e1] at h1
    exact Nat.lt_irrefl _ h1
  · have hc : (a.at.vs.filter fun v => decide (v < x.length)).length < a.at.vs.length := by omega
    have h2 := List.pairwise_iff_getElem.1 h.asc _ k hc hk' hlt
    rw [e1] at h2
    have hm : a.at.vs[(a.at.vs.filter fun v => decide (v < x.length)).length] ∈ a.at.vs.filter fun v => decide (v < x.length) := List.mem_filter.2 ⟨List.getElem_mem hc, decide_eq_true h2⟩
    obtain ⟨j, hj, e⟩ := List.getElem_of_mem hm
    have e3 : (a.at.vs.filter fun v => decide (v < x.length))[j] = a.at.vs[j]'(by omega) := by
      have := List.getElem_of_eq hpre hj
      rw [this, List.getElem_take]
    rw [e3] at e
    have := List.pairwise_iff_getElem.1 h.asc j _ (by omega) hc hj
    omega
theorem valsF_mem {n : Nat} {X : List RA} (hat : ∀ a ∈ X, a.at.Ok n) (hu : ∀ v : Nat, v < n → ∃ a ∈ X, (v : Int) ∈ a.vs) (x : RL.R) (c : RL.V) (hx : x.length < n) (hp : preB (X.map RA.at) (x ++ [c])) : c ∈ valsF X (x.length : Int) := by
  obtain ⟨a, k, hcol, ha, hk, hv⟩ := colF_some (hu x.length hx)
  unfold valsF
  rw [hcol]
  obtain ⟨y, hy, he⟩ := hp a.at (List.mem_map.2 ⟨a, ha, rfl⟩)
  have hin : x.length ∈ a.at.vs := List.mem_map.2 ⟨a.vs[k], List.getElem_mem hk, by rw [hv, Int.toNat_natCast]⟩
  rw [pj_snoc (hat a ha).asc, if_pos hin, List.length_append, List.length_singleton, pj_len_at (hat a ha) hk hv] at he
  have hyl : k < y.length := by
    have := congrArg List.length he
    rw [List.length_take, List.length_append, List.length_singleton, pj_len_at (hat a ha) hk hv] at this
    omega
  have hyk : y[k] = c := by
    have h1 := List.getElem_of_eq he (i := k) (by rw [List.length_take]; omega)
    rw [List.getElem_take, List.getElem_append_right (by rw [pj_len_at (hat a ha) hk hv]; exact Nat.le_refl _)] at h1
    simpa using h1
  refine List.mem_map.2 ⟨[c], (RL.mem_ofF _ _).2 (List.mem_map.2 ⟨y, hy, ?_⟩), rfl⟩
  show [y.getD (k : Int).toNat zV] = [c]
  rw [Int.toNat_natCast, List.getD_eq_getElem?_getD, List.getElem?_eq_getElem hyl, ← hyk]
  rfl

end Go.Proofs.YthgaflmldbgbnaaDoor
end

section
/- Walk: the reference's values. -/
namespace Go.Proofs.YthgaflmldbgbnaaDoor
open Go.RowKit Go.Sort

theorem refJ_join {n : Nat} {X : List RA} (hat : ∀ a ∈ X, a.at.Ok n) (hu : ∀ v : Nat, v < n → ∃ a ∈ X, (v : Int) ∈ a.vs) : refJ (X.map RA.at) (fun v => valsF X (v : Int)) n [] = joinF n (X.map RA.at) :=
  refJ_all (fun a ha => by obtain ⟨r, hr, rfl⟩ := List.mem_map.1 ha; exact hat r hr) (fun v hv => by
    obtain ⟨a, ha, h⟩ := hu v hv
    exact ⟨a.at, List.mem_map.2 ⟨a, ha, rfl⟩, List.mem_map.2 ⟨_, h, by simp⟩⟩) (fun v _ => valsF_asc X _) (fun x _ c hx hp => valsF_mem hat hu x c hx hp)

/-- What the reference asks of an atom. -/
structure RefOk (a : RA) : Prop where
  vl : a.vs.length ≤ 1000
  Pl : a.P.length ≤ 60000
  ok : RsOk a.P
  len : ∀ r ∈ a.P, r.length = a.vs.length
  nn : ∀ v ∈ a.vs, 0 ≤ v
end Go.Proofs.YthgaflmldbgbnaaDoor
end

section
/- Walk: the reference's Join. -/
namespace Go.Proofs.YthgaflmldbgbnaaDoor
open Go.RowKit Go.Sort

theorem flat_len {α : Type} (f : α → List RL.R) (K : Nat) (h : ∀ c, (f c).length ≤ K) : ∀ L : List α, (L.flatMap f).length ≤ L.length * K
  | [] => by simp
  | c :: t => by
    rw [List.flatMap_cons, List.length_append, List.length_cons, Nat.succ_mul, Nat.add_comm]
    exact Nat.add_le_add (flat_len f K h t) (h c)
theorem refJ_len {l : List At} {vals : Nat → RL.R} {M : Nat} (hv : ∀ v, (vals v).length ≤ M) (hM : 1 ≤ M) : ∀ m x, (refJ l vals m x).length ≤ M ^ m
  | 0, x => by
    unfold refJ
    split <;> simp
  | m + 1, x => by
    unfold refJ
    split
    · refine Nat.le_trans (flat_len _ (M ^ m) (fun c => refJ_len hv hM m _) _) ?_
      rw [Nat.pow_succ, Nat.mul_comm (M ^ m)]
      exact Nat.mul_le_mul_right _ (hv _)
    · simp
/-- A list of the reference's rows under way: the call owns the headers; the rows lie in other blocks from base on. -/
def OwnJ (w : World) (base : Nat) (v : Value) (Y : List RL.R) : Prop := ∃ hs, w.ownsRow base 90 1 v Y.length hs ∧ Hdrs (fun b => base ≤ b ∧ v.ownBlock ≠ some b) w.heap.size w hs Y
section
variable {w w' : World} {lo : Nat} {v : Value} {Y : List RL.R}
theorem OwnJ.nil (w : World) (lo : Nat) : OwnJ w lo (.slice none 0 0) [] := ⟨[], own_nil _ _ _ _, Hdrs.nil⟩
theorem OwnJ.up (h : OwnJ w lo v Y) (hb : Below w.heap.size w w') : OwnJ w' lo v Y := by
  obtain ⟨hs, h1, h2⟩ := h
  exact ⟨hs, own_keep h1 hb, (h2.keep fun p hp _ => hb.cell hp).more hb.size⟩
theorem OwnJ.base (h : OwnJ w lo v Y) : ∀ k, v.ownBlock = some k → lo ≤ k := by
  obtain ⟨hs, h1, _⟩ := h
  exact fun k hk => own_base h1 hk
theorem OwnJ.lt (h : OwnJ w lo v Y) : ∀ k, v.ownBlock = some k → k < w.heap.size := by
  obtain ⟨hs, h1, _⟩ := h
  exact own_lt h1
theorem OwnJ.sl {P : Nat → Prop} (h : OwnJ w lo v Y) (hP : ∀ b, lo ≤ b → P b) : ∃ A C, v = .slice A Y.length C ∧ Y.length ≤ C ∧ C ≤ 9223372036854775807 ∧ SlRsP P w.heap.size w A Y := by
  obtain ⟨hs, h1, h2⟩ := h
  exact own_slrs h1 (h2.weak fun b _ hb => hP b hb.1) (Nat.le_refl _) hP
end
/-- append(out, src...) of the reference's rows. -/
theorem appJ {w : World} {ops : Array Oper} {rest : List Oper} {o : Oper} {a : Act} {Q : Exit → Act → World → Prop} (hgd : o.guard = none) (s x : Operand)
    (ho : o.op = .call { callee := .builtin .append, args := #[s, x], argTypes := #[42, 42] })
    (base : Nat) (v : Value) (Y : List RL.R) (hs0 : a.eval s = v) (hown : OwnJ w base v Y)
    (A : Option Addr) (C : Nat) (Z : List RL.R) (hx : a.eval x = .slice A Z.length C) (hZ : SlRsP (fun b => base ≤ b ∧ v.ownBlock ≠ some b) w.heap.size w A Z)
    (hn : (Y.length + Z.length) * 24 ≤ 140737488355328) (hbase : base ≤ w.heap.size)
    (h : ∀ v' w', OwnJ w' base v' (Y ++ Z) → w.grownBy w' v.ownBlock → wpList Tryd.prog ops Q rest (a.put o.dst v') w') : wpList Tryd.prog ops Q (o :: rest) a w := by
  obtain ⟨i0, hi0, hz0, hz1, hz2⟩ := info_parts r7rowInfo
  obtain ⟨hs, h1, h2⟩ := hown
  obtain ⟨ns, hH, hcell, hnone⟩ := hZ.hdrs
  refine wpList_plain hgd fun K hK => ?_
  rcases A with _ | ad
  · have hy := hnone rfl
    subst hy
    have hrun := run_append_none (P := Tryd.prog) w base 42 o.type 90 i0 1 Tryd.underlying42 hi0 v Y.length hs h1 C
    unfold Oper.wp execOp
    simp only [List.length_nil] at hx
    simp only [ho, resolve, invoke, builtin, Sem.run_bind, Sem.run_pure, Result.andThen_ok, List.map_toArray, List.map_cons, List.map_nil, hs0, hx, hrun]
    exact hK _ _ (h v w (by rw [List.append_nil]; exact ⟨hs, h1, h2⟩) ⟨rfl, rfl, rfl, Nat.le_refl _, fun _ _ _ => rfl⟩)
  · obtain ⟨v', w', hrun, k2, k3, _, k5⟩ := run_append_own_at (P := Tryd.prog) w base 42 o.type 90 i0 _ 1 24 Tryd.underlying42 hi0 hz0 hz1 hz2 rfl (by decide) v Y.length hs h1 ad Z.length C ns (by have := hH.1; omega) (hcell ad rfl) hH.cells (by simp only [maxLen]; omega) (by omega) hbase
    unfold Oper.wp execOp
    simp only [ho, resolve, invoke, builtin, Sem.run_bind, Sem.run_pure, Result.andThen_ok, List.map_toArray, List.map_cons, List.map_nil, hs0, hx, hrun]
    refine hK _ _ (h v' w' ⟨hs ++ ns, by rw [List.length_append]; exact k2, ?_⟩ k3)
    refine (((h2.append hH).keep fun p hp hP => grown_cell k3 hp (fun e => hP.2 e.symm)).weak fun b hb hP => ⟨hP.1, ?_⟩).more k3.size
    rcases k5 with k5 | k5
    · rw [k5]; exact hP.2
    · rw [k5]
      intro e
      injection e with e
      omega

theorem boxJ0 {w : World} {A : Option Addr} {x : RL.R} {C : Nat} {T : TypeId} {P : Nat → Prop} (hs : SlR w.heap.size w A x) (hc : x.length ≤ C) (hm : C ≤ 9223372036854775807) (hP : x ≠ [] → ∀ ad, A = some ad → P ad.block) (hb : P w.heap.size) :
    SlRsP P (w.alloc (.cells #[.slice A x.length C] T)).heap.size (w.alloc (.cells #[.slice A x.length C] T)) (some ⟨w.heap.size, 0, none⟩) [x] := fun _ => by
  have hr := Row.new w T [.slice A x.length C]
  refine ⟨w.heap.size, 0, rfl, hr.lt, hb, [.slice A x.length C], Hdrs.one ⟨A, C, rfl, hc, hm, hs.alloc1 _, hP⟩, fun i u hu => ?_⟩
  rw [Nat.zero_add]
  exact (hr.cell i).trans hu
theorem ROk.snoc {x : RL.R} (h : ROk x) {c : RL.V} (hc : c.str.size ≤ 1000000000) (hl : x.length < 1000000) : ROk (x ++ [c]) := by
  refine ⟨by rw [List.length_append]; simp; omega, fun v hv => ?_⟩
  rcases List.mem_append.1 hv with hv | hv
  · exact h.2 v hv
  · simp at hv; subst hv; exact hc

theorem refJ_no {l : List At} {vals : Nat → RL.R} {x : RL.R} (h : ¬ preB l x) : ∀ m, refJ l vals m x = []
  | 0 => by unfold refJ; rw [if_neg h]
  | m + 1 => by unfold refJ; rw [if_neg h]
/-- What the reference's Join leaves. -/
def RJPost (X : List RA) (m : Nat) (x : RL.R) (KA : Option Addr) (w : World) (e : Ending) (w' : World) : Prop :=
  (∃ A C, e = .returned (.slice A (refJ (X.map RA.at) (fun v => valsF X (v : Int)) m x).length C) ∧ (refJ (X.map RA.at) (fun v => valsF X (v : Int)) m x).length ≤ C ∧ C ≤ 9223372036854775807 ∧ SlRsP (fun b => w.heap.size ≤ b ∨ ∃ ad, KA = some ad ∧ ad.block = b) w'.heap.size w' A (refJ (X.map RA.at) (fun v => valsF X (v : Int)) m x)) ∧ Below w.heap.size w w'
theorem RJPost.nil {X : List RA} {m : Nat} {x : RL.R} {KA : Option Addr} {w w' : World} (h : ¬ preB (X.map RA.at) x) (hb : Below w.heap.size w w') : RJPost X m x KA w (.returned (.slice none 0 0)) w' := by
  unfold RJPost
  rw [refJ_no h]
  exact ⟨⟨none, 0, rfl, Nat.le_refl _, by omega, SlRsP.nil⟩, hb⟩

end Go.Proofs.YthgaflmldbgbnaaDoor
end

section
/- Append of one element to a list that is nearly as long as memory; what stays readable while boxes turn. -/
namespace Go.Proofs.YthgaflmldbgbnaaDoor
open Go.RowKit Go.Sort

theorem next_le (n : Nat) : Builtin.nextslicecap (n + 1) n ≤ n + n / 4 + 1000 := by
  unfold Builtin.nextslicecap
  split
  · omega
  · split
    · omega
    · unfold Builtin.growBy
      rw [if_neg (by omega)]
      unfold Builtin.growBy
      rw [if_pos (by omega)]
      omega
theorem next_fit {n bytes : Nat} (h : (n + n / 4 + 1000) * bytes ≤ 281474976710656) : Builtin.nextslicecap (n + 1) n * bytes ≤ 281474976710656 :=
  Nat.le_trans (Nat.mul_le_mul_right _ (next_le n)) h

section
variable {P : Program} {w : World}
/-- One element more on a list of the call's own. -/
theorem run_app1 (base : Nat) (t ty e : TypeId) (i : TypeInfo) (z : Value) (size bytes : Nat) (ht : P.underlying t = some (.slice e)) (hi : P.info? e = some i) (hz : i.zero = some z)
    (hsize : i.size = size) (hby : i.bytes = bytes) (hzs : z.cells.size = size)
    (v : Value) (n : Nat) (xs : List Value) (hown : w.ownsRow base e size v n xs)
    (a : Addr) (c : Nat) (u : List Value) (hl : u.length = size) (hu : ∀ j x, u[j]? = some x → w.cell? (a.add j) = some x) (h1 : ∀ x ∈ u, x.oneCell' = true)
    (h63 : n + 1 ≤ maxLen) (hfit : (n + n / 4 + 1000) * bytes ≤ 281474976710656) (hbase : base ≤ w.heap.size) :
    ∃ v' w', (Builtin.append_ #[t, t] ty #[v, .slice (some a) 1 c]).run P w = .ok v' w' ∧ w'.ownsRow base e size v' (n + 1) (xs ++ u) ∧ w.grownBy w' v.ownBlock ∧ (∀ b, v'.ownBlock = some b → v.ownBlock = some b ∨ b = w.heap.size) := by
  subst hsize hby
  have hm : n + 1 ≤ 9223372036854775807 := by simp only [maxLen] at h63; omega
  have hl1 : u.length = 1 * i.size := by rw [hl, Nat.one_mul]
  have hb1 : 1 * i.bytes ≤ 281474976710656 := Nat.le_trans (Nat.mul_le_mul_right _ (by omega)) hfit
  have hxl : (xs ++ u).length = (n + 1) * i.size := by rw [List.length_append, hown.1, hl1, Nat.add_mul]
  have fresh : ∀ old, ∃ v' w', (Value.slice (some ⟨w.heap.size, 0, none⟩) (n + 1) (grownCap w (n + 1) old e) = v' ∧ w.drew.alloc (.cells (xs.toArray ++ u.toArray ++ Builtin.zeroCells z.cells (grownCap w (n + 1) old e - (n + 1))) e) = w') ∧ w'.ownsRow base e i.size v' (n + 1) (xs ++ u) ∧ (∀ row, w.grownBy w' row) ∧ v'.ownBlock = some w.heap.size := by
    intro old
    have hge := grownCap_ge w (n + 1) old e
    refine ⟨_, _, ⟨rfl, rfl⟩, ⟨hxl, .inr ⟨w.heap.size, grownCap w (n + 1) old e, _, rfl, hbase, heap_alloc_new w.drew _, hge, grownCap_le_maxLen w (n + 1) old e h63, ?_, ?_⟩⟩, fun row => ⟨rfl, rfl, rfl, by simp, fun k hk _ => heap_alloc_old _ _ hk⟩, rfl⟩
    · simp only [Array.size_append, List.size_toArray, size_zeroCells, hzs, hown.1, hl1, ← Nat.add_mul]
      rw [show n + 1 + (grownCap w (n + 1) old e - (n + 1)) = grownCap w (n + 1) old e by omega]
    · simp only [Array.toList_append, List.append_assoc]
      rw [← List.append_assoc, ← hxl]
      exact List.take_left
  rcases hown.2 with ⟨rfl, rfl⟩ | ⟨g, cap, cur, rfl, hbg, hg, hnc, hcm, hcs, htake⟩
  · obtain rfl : xs = [] := List.eq_nil_of_length_eq_zero (by simpa using hown.1)
    have hr := run_append_nil (P := P) w t ty e i z ht hi hz a 1 c u hl1 hu (by omega) (by omega) hb1
    obtain ⟨v', w', ⟨rfl, rfl⟩, h2, h3, h4⟩ := fresh 0
    refine ⟨_, _, ?_, h2, h3 _, fun b hb => .inr (by rw [h4] at hb; injection hb with hb; exact hb.symm)⟩
    rw [hr]
    simp
  · by_cases hroom : n + 1 ≤ cap
    · have hfit2 : n * i.size + u.length ≤ cur.size := by rw [hl1, hcs, ← Nat.add_mul]; exact Nat.mul_le_mul_right _ hroom
      refine ⟨_, _, run_append_room (P := P) w t ty e i ht hi g n cap cur hg a 1 c u hl1 hu h1 hroom hfit2, ⟨hxl, .inr ⟨g, cap, _, rfl, hbg, setRow_heap w g cur _ e _ hg, hroom, hcm, ?_, ?_⟩⟩, ⟨rfl, rfl, rfl, by simp, fun k _ hk => setRow_other w g k _ (fun e => hk (by simp [Value.ownBlock, e]))⟩, fun b hb => .inl hb⟩
      · simp only [List.size_toArray, List.length_append, List.length_take, List.length_drop, Array.length_toList]
        omega
      · rw [htake, ← hxl]
        exact List.take_left
    · obtain rfl : cap = n := by omega
      have hr := run_append_grow (P := P) w t ty e i z ht hi hz ⟨g, 0, none⟩ cap cap xs hown.1 (hown.cells (g := g) rfl) a 1 c u hl1 hu (by omega) (by omega) (next_fit hfit)
      obtain ⟨v', w', ⟨rfl, rfl⟩, h2, h3, h4⟩ := fresh cap
      exact ⟨_, _, hr, h2, h3 _, fun b hb => .inr (by rw [h4] at hb; injection hb with hb; exact hb.symm)⟩
end

theorem atomInfo : (Tryd.prog.info? 37).map (fun i => (i.zero, i.size, i.bytes)) = some (some (.agg #[.slice none 0 0, .int .i64 0, .slice none 0 0]), 3, 56) := by kernel_rfl
theorem ratomInfo : (Tryd.prog.info? 44).map (fun i => (i.zero, i.size, i.bytes)) = some (some (.agg #[.slice none 0 0, .slice none 0 0]), 2, 48) := by kernel_rfl

theorem run1LA {w : World} (ty : TypeId) (base : Nat) (v : Value) (n : Nat) (xs : List Value) (hown : w.ownsRow base 37 3 v n xs)
    (a : Addr) (c : Nat) (u : List Value) (hl : u.length = 3) (hu : ∀ j x, u[j]? = some x → w.cell? (a.add j) = some x) (h1 : ∀ x ∈ u, x.oneCell' = true) (hn : n ≤ 3600000000000) (hbase : base ≤ w.heap.size) :
    ∃ v' w', (Builtin.append_ #[25, 25] ty #[v, .slice (some a) 1 c]).run Tryd.prog w = .ok v' w' ∧ w'.ownsRow base 37 3 v' (n + 1) (xs ++ u) ∧ w.grownBy w' v.ownBlock ∧ (∀ b, v'.ownBlock = some b → v.ownBlock = some b ∨ b = w.heap.size) := by
  obtain ⟨i0, hi0, hz0, hz1, hz2⟩ := info_parts atomInfo
  exact run_app1 (P := Tryd.prog) base 25 ty 37 i0 _ 3 56 Tryd.underlying25 hi0 hz0 hz1 hz2 rfl v n xs hown a c u hl hu h1 (by simp only [maxLen]; omega) (by omega) hbase
/-- append of one element. -/
theorem app1LA {w : World} {ops : Array Oper} {rest : List Oper} {o : Oper} {a : Act} {Q : Exit → Act → World → Prop} (hgd : o.guard = none) (s x : Operand)
    (ho : o.op = .call { callee := .builtin .append, args := #[s, x], argTypes := #[25, 25] })
    (base : Nat) (v : Value) (n : Nat) (xs : List Value) (hs : a.eval s = v) (hown : w.ownsRow base 37 3 v n xs)
    (g : Nat) (u : List Value) (hx : a.eval x = .slice (some ⟨g, 0, none⟩) 1 1) (hg : Row w g 37 u) (hl : u.length = 3) (h1 : ∀ x ∈ u, x.oneCell' = true)
    (hn : n ≤ 3600000000000) (hbase : base ≤ w.heap.size)
    (h : ∀ v' w', w'.ownsRow base 37 3 v' (n + 1) (xs ++ u) → w.grownBy w' v.ownBlock → (∀ b, v'.ownBlock = some b → v.ownBlock = some b ∨ b = w.heap.size) → wpList Tryd.prog ops Q rest (a.put o.dst v') w') : wpList Tryd.prog ops Q (o :: rest) a w := by
  refine wpList_plain hgd fun K hK => ?_
  obtain ⟨v', w', hrun, k2, k3, k4⟩ := run1LA o.type base v n xs hown ⟨g, 0, none⟩ 1 u hl (fun j x hj => by
    have := hg.cell j
    rw [hj] at this
    rw [Addr.add_lit, Nat.zero_add]
    exact this) h1 hn hbase
  unfold Oper.wp execOp
  simp only [ho, resolve, invoke, builtin, Sem.run_bind, Sem.run_pure, Result.andThen_ok, List.map_toArray, List.map_cons, List.map_nil, hs, hx, hrun]
  exact hK _ _ (h v' w' k2 k3 k4)
theorem run1RA {w : World} (ty : TypeId) (base : Nat) (v : Value) (n : Nat) (xs : List Value) (hown : w.ownsRow base 44 2 v n xs)
    (a : Addr) (c : Nat) (u : List Value) (hl : u.length = 2) (hu : ∀ j x, u[j]? = some x → w.cell? (a.add j) = some x) (h1 : ∀ x ∈ u, x.oneCell' = true) (hn : n ≤ 3600000000000) (hbase : base ≤ w.heap.size) :
    ∃ v' w', (Builtin.append_ #[26, 26] ty #[v, .slice (some a) 1 c]).run Tryd.prog w = .ok v' w' ∧ w'.ownsRow base 44 2 v' (n + 1) (xs ++ u) ∧ w.grownBy w' v.ownBlock ∧ (∀ b, v'.ownBlock = some b → v.ownBlock = some b ∨ b = w.heap.size) := by
  obtain ⟨i0, hi0, hz0, hz1, hz2⟩ := info_parts ratomInfo
  exact run_app1 (P := Tryd.prog) base 26 ty 44 i0 _ 2 48 Tryd.underlying26 hi0 hz0 hz1 hz2 rfl v n xs hown a c u hl hu h1 (by simp only [maxLen]; omega) (by omega) hbase
/-- append of one element. -/
theorem app1RA {w : World} {ops : Array Oper} {rest : List Oper} {o : Oper} {a : Act} {Q : Exit → Act → World → Prop} (hgd : o.guard = none) (s x : Operand)
    (ho : o.op = .call { callee := .builtin .append, args := #[s, x], argTypes := #[26, 26] })
    (base : Nat) (v : Value) (n : Nat) (xs : List Value) (hs : a.eval s = v) (hown : w.ownsRow base 44 2 v n xs)
    (g : Nat) (u : List Value) (hx : a.eval x = .slice (some ⟨g, 0, none⟩) 1 1) (hg : Row w g 44 u) (hl : u.length = 2) (h1 : ∀ x ∈ u, x.oneCell' = true)
    (hn : n ≤ 3600000000000) (hbase : base ≤ w.heap.size)
    (h : ∀ v' w', w'.ownsRow base 44 2 v' (n + 1) (xs ++ u) → w.grownBy w' v.ownBlock → (∀ b, v'.ownBlock = some b → v.ownBlock = some b ∨ b = w.heap.size) → wpList Tryd.prog ops Q rest (a.put o.dst v') w') : wpList Tryd.prog ops Q (o :: rest) a w := by
  refine wpList_plain hgd fun K hK => ?_
  obtain ⟨v', w', hrun, k2, k3, k4⟩ := run1RA o.type base v n xs hown ⟨g, 0, none⟩ 1 u hl (fun j x hj => by
    have := hg.cell j
    rw [hj] at this
    rw [Addr.add_lit, Nat.zero_add]
    exact this) h1 hn hbase
  unfold Oper.wp execOp
  simp only [ho, resolve, invoke, builtin, Sem.run_bind, Sem.run_pure, Result.andThen_ok, List.map_toArray, List.map_cons, List.map_nil, hs, hx, hrun]
  exact hK _ _ (h v' w' k2 k3 k4)
theorem run1Int {w : World} (ty : TypeId) (base : Nat) (v : Value) (n : Nat) (xs : List Value) (hown : w.ownsRow base 3 1 v n xs)
    (a : Addr) (c : Nat) (u : List Value) (hl : u.length = 1) (hu : ∀ j x, u[j]? = some x → w.cell? (a.add j) = some x) (h1 : ∀ x ∈ u, x.oneCell' = true) (hn : n ≤ 3600000000000) (hbase : base ≤ w.heap.size) :
    ∃ v' w', (Builtin.append_ #[27, 27] ty #[v, .slice (some a) 1 c]).run Tryd.prog w = .ok v' w' ∧ w'.ownsRow base 3 1 v' (n + 1) (xs ++ u) ∧ w.grownBy w' v.ownBlock ∧ (∀ b, v'.ownBlock = some b → v.ownBlock = some b ∨ b = w.heap.size) := by
  obtain ⟨i0, hi0, hz0, hz1, hz2⟩ := info_parts intInfo
  exact run_app1 (P := Tryd.prog) base 27 ty 3 i0 _ 1 8 Tryd.underlying27 hi0 hz0 hz1 hz2 rfl v n xs hown a c u hl hu h1 (by simp only [maxLen]; omega) (by omega) hbase
/-- append of one element. -/
theorem app1Int {w : World} {ops : Array Oper} {rest : List Oper} {o : Oper} {a : Act} {Q : Exit → Act → World → Prop} (hgd : o.guard = none) (s x : Operand)
    (ho : o.op = .call { callee := .builtin .append, args := #[s, x], argTypes := #[27, 27] })
    (base : Nat) (v : Value) (n : Nat) (xs : List Value) (hs : a.eval s = v) (hown : w.ownsRow base 3 1 v n xs)
    (g : Nat) (u : List Value) (hx : a.eval x = .slice (some ⟨g, 0, none⟩) 1 1) (hg : Row w g 3 u) (hl : u.length = 1) (h1 : ∀ x ∈ u, x.oneCell' = true)
    (hn : n ≤ 3600000000000) (hbase : base ≤ w.heap.size)
    (h : ∀ v' w', w'.ownsRow base 3 1 v' (n + 1) (xs ++ u) → w.grownBy w' v.ownBlock → (∀ b, v'.ownBlock = some b → v.ownBlock = some b ∨ b = w.heap.size) → wpList Tryd.prog ops Q rest (a.put o.dst v') w') : wpList Tryd.prog ops Q (o :: rest) a w := by
  refine wpList_plain hgd fun K hK => ?_
  obtain ⟨v', w', hrun, k2, k3, k4⟩ := run1Int o.type base v n xs hown ⟨g, 0, none⟩ 1 u hl (fun j x hj => by
    have := hg.cell j
    rw [hj] at this
    rw [Addr.add_lit, Nat.zero_add]
    exact this) h1 hn hbase
  unfold Oper.wp execOp
  simp only [ho, resolve, invoke, builtin, Sem.run_bind, Sem.run_pure, Result.andThen_ok, List.map_toArray, List.map_cons, List.map_nil, hs, hx, hrun]
  exact hK _ _ (h v' w' k2 k3 k4)
/-- S stays true while only blocks of F turn. -/
def Stab (F : Nat → Prop) (w : World) (S : World → Prop) : Prop := ∀ w'' : World, (∀ p : Addr, p.block < w.heap.size → ¬ F p.block → w''.cell? p = w.cell? p) → S w''
section
variable {F F' : Nat → Prop} {w w' : World} {S S' : World → Prop}
theorem Stab.now (h : Stab F w S) : S w := h w fun _ _ _ => rfl
theorem Stab.and (h : Stab F w S) (h' : Stab F w S') : Stab F w fun w'' => S w'' ∧ S' w'' := fun w'' hk => ⟨h w'' hk, h' w'' hk⟩
theorem Stab.imp (h : Stab F w S) (hS : ∀ w'', S w'' → S' w'') : Stab F w S' := fun w'' hk => hS _ (h w'' hk)
theorem Stab.step (h : Stab F w S) (hk : ∀ p : Addr, p.block < w.heap.size → ¬ F p.block → w'.cell? p = w.cell? p) (hz : w.heap.size ≤ w'.heap.size) (hF : ∀ b, b < w.heap.size → F' b → F b) : Stab F' w' S := fun w'' hk' =>
  h w'' fun p hp hn => (hk' p (Nat.lt_of_lt_of_le hp hz) fun hf => hn (hF _ hp hf)).trans (hk p hp hn)
theorem Stab.up (h : Stab F w S) (hb : Below w.heap.size w w') : Stab F w' S := h.step (fun _ hp _ => hb.cell hp) hb.size fun _ _ hf => hf
/-- A box of F grew. -/
theorem Stab.grow {row : Option Nat} (h : Stab F w S) (hg : w.grownBy w' row) (hr : ∀ b, row = some b → F b) (hF : ∀ b, b < w.heap.size → F' b → F b) : Stab F' w' S :=
  h.step (fun _p hp hn => grown_cell hg hp fun e => hn (hr _ e.symm)) hg.size hF
theorem Stab.of_from {lo : Nat} (hF : ∀ b, lo ≤ b → ¬ F b) (h : ∀ w'' : World, (∀ p : Addr, lo ≤ p.block → p.block < w.heap.size → w''.cell? p = w.cell? p) → S w'') : Stab F w S := fun w'' hk => h w'' fun p h1 h2 => hk p h2 (hF _ h1)
end

end Go.Proofs.YthgaflmldbgbnaaDoor
end

section
/- The laws' Rows, whose result lies in new memory; the plain atoms that chapter 35's laws make. -/
namespace Go.Proofs.YthgaflmldbgbnaaDoor
open Go.RowKit Go.Sort

set_option maxHeartbeats 4000000 in
set_option maxRecDepth 100000 in
theorem l7RowsJ_any (XA : Option Addr) (XC : Nat) (X : List RL.R) (w : World) (hX : SlRs w.heap.size w XA X) (hXl : X.length ≤ 1000000) (hXo : RsOk X) :
    Calls Tryd.prog 19 #[.slice XA X.length XC] w fun e w' => ∃ v, e = .returned v ∧ OwnJ w' w.heap.size v X ∧ Below w.heap.size w w' := by
  have HX := Lib.hid hX
  have HXO := Lib.hid hXo
  clear hX hXo
  go_enter Tryd.func19, Tryd.ntmps19
  go_wp2
  go_loopw [3, 8] (fun v i wr => ∃ k : Nat, k ≤ X.length ∧ i = .int .i64 k ∧ OwnJ wr w.heap.size v (X.take k) ∧ Below w.heap.size w wr) (fun _ i _ => X.length - (intOf i).toNat)
  case atStart => exact ⟨0, Nat.zero_le _, rfl, OwnJ.nil _ _, Below.refl _ _⟩
  case round =>
    obtain ⟨k, hka, rfl, hown, hbel⟩ := hrel
    have HO := Lib.hid hown
    have HB := Lib.hid hbel
    have hzz := hbel.size
    have hlt := List.length_take_le k X
    clear hown
    by_cases h1 : k < X.length
    · obtain ⟨b, o, A1, C1, rfl, hb, c1, -, -, s1⟩ := slRs_at HX.out h1
      have d1 := (hbel.cell (p := ⟨b, o + k, none⟩) hb).trans c1
      have HT := Lib.hid (List.take_succ_eq_append_getElem h1)
      have HC := Lib.hid (l7Row_any A1 C1 X[k] wr ((s1.below hbel (Nat.le_refl _)).more hzz) (HXO.out.at_ h1).1)
      clear c1 s1 hbel
      generalize X[k] = x at d1 HT HC
      go_wp2_with fail
      refine HC.out.mono ?_
      rintro e w1 ⟨v1, rfl, hown1, hb1⟩
      obtain ⟨-, A2, C2, rfl, hc2, hm2, hs2, hfr⟩ := SlR.of_own hown1
      have hz1 := hb1.size
      have HSRC := Lib.hid (boxJ0 (T := 90) (P := fun b => w.heap.size ≤ b ∧ u3.ownBlock ≠ some b) hs2 hc2 hm2 (fun _ ad e => ⟨Nat.le_trans hzz (hfr ad e), fun e2 => by have := HO.out.lt _ e2; have := hfr ad e; omega⟩) ⟨by omega, fun e2 => by have := HO.out.lt _ e2; omega⟩)
      have HO1 := Lib.hid ((HO.out.up hb1).up ((Below.refl _ _).alloc (Nat.le_refl _) (.cells #[.slice A2 x.length C2] 90)))
      have HB1 := Lib.hid ((Below.then HB.out hb1 hzz).alloc (by omega) (.cells #[.slice A2 x.length C2] 90))
      clear hown1 hb1 hs2 hfr d1 HC hc2 hm2
      go_wp2_with (at_builtin; refine appJ rfl (.tmp 12) (.tmp 15) rfl w.heap.size u3 (X.take k) rfl HO1.out (some ⟨w1.heap.size, 0, none⟩) 1 [x] rfl HSRC.out (by simp; omega) (by simp; omega) ?_
                   intro v' w2 hown2 hg2
                   have HO2 := Lib.hid hown2
                   have HB2 := Lib.hid (HB1.out.grown hg2 (by simp; omega) HO1.out.base)
                   clear hown2 hg2)
      go_roundw
      case rel => exact ⟨k + 1, by omega, by go_num, by rw [HT.out]; exact HO2.out, HB2.out⟩
      case measure => simp [intOf]; omega
    · have HT := Lib.hid (List.take_of_length_le (show X.length ≤ k by omega))
      rw [HT.out] at HO
      go_wp2
      go_ret
      exact ⟨_, rfl, HO.out, hbel⟩

/-- An atom of the laws: bits of variables, rows, what is bad. -/
structure LA where
  v : Nat
  R : List (List Nat)
  b : Nat
def varsK (v k : Nat) : List Nat := (List.range k).filter fun j => v / 2 ^ j % 2 == 1
theorem varsK_succ (v k : Nat) : varsK v (k + 1) = if v / 2 ^ k % 2 = 1 then varsK v k ++ [k] else varsK v k := by
  unfold varsK
  rw [List.range_succ, List.filter_append]
  by_cases h : v / 2 ^ k % 2 = 1
  · rw [if_pos h]; simp [h]
  · rw [if_neg h]; simp [h]
theorem varsK_len (v k : Nat) : (varsK v k).length ≤ k := by
  have := List.length_filter_le (fun j => v / 2 ^ j % 2 == 1) (List.range k)
  rw [List.length_range] at this
  exact this
def LA.ks (a : LA) : List Nat := varsK a.v 8
def LA.d (a : LA) : Nat := a.ks.length
def ints (l : List Nat) : List Int := l.map fun k : Nat => (k : Int)
def badV (b : Nat) (l : List Int) : List Int := if b = 0 then l else if b = 1 then l ++ [9] else if b = 2 then l ++ [0] else -1 :: l
def valI (x : Nat) : RL.V := ⟨1, (x % 4 : Nat), ⟨#[]⟩⟩
def rowI (d : Nat) (t : List Nat) : RL.R := (List.range d).map fun k => valI (t.getD k 0)
theorem rowI_len (d : Nat) (t : List Nat) : (rowI d t).length = d := by simp [rowI]
theorem rowI_succ (k : Nat) (t : List Nat) : rowI (k + 1) t = rowI k t ++ [valI (t.getD k 0)] := by unfold rowI; rw [List.range_succ, List.map_append]; rfl
def LA.rows (a : LA) : List RL.R := RL.ofF (a.R.map (rowI a.d))
def LA.ra (a : LA) : RA := ⟨badV a.b (ints a.ks), (a.d : Nat), a.rows⟩
def LA.Ok (a : LA) : Prop := a.d ≤ 4 ∧ a.R.length ≤ 12
theorem LA.d_le (a : LA) : a.d ≤ 8 := varsK_len a.v 8
theorem badV_len (b : Nat) (l : List Int) : (badV b l).length ≤ l.length + 1 := by
  unfold badV
  split
  · omega
  · split
    · simp
    · split <;> simp

/-- Atoms of the laws in memory. -/
def AtsL (B : Nat) (w : World) (A : Option Addr) (l : List LA) : Prop :=
  l ≠ [] → ∃ b o, A = some ⟨b, o, none⟩ ∧ b < B ∧ ∀ i (h : i < l.length), ∃ RA RC, w.cell? ⟨b, o + i * 3, none⟩ = some (.int .u8 (l[i].v : Nat)) ∧ w.cell? ⟨b, o + i * 3 + 1, none⟩ = some (.slice RA l[i].R.length RC) ∧ w.cell? ⟨b, o + i * 3 + 2, none⟩ = some (.int .u8 (l[i].b : Nat)) ∧ SlA 4 B w RA l[i].R
def LBytes (l : List LA) : Prop := ∀ a ∈ l, a.v < 256 ∧ a.b < 256 ∧ Bytes a.R
theorem atsL_at {B : Nat} {w : World} {A : Option Addr} {l : List LA} (h : AtsL B w A l) {i : Nat} (hi : i < l.length) : ∃ b o RA RC, A = some ⟨b, o, none⟩ ∧ b < B ∧ w.cell? ⟨b, o + i * 3, none⟩ = some (.int .u8 (l[i].v : Nat)) ∧ w.cell? ⟨b, o + i * 3 + 1, none⟩ = some (.slice RA l[i].R.length RC) ∧ w.cell? ⟨b, o + i * 3 + 2, none⟩ = some (.int .u8 (l[i].b : Nat)) ∧ SlA 4 B w RA l[i].R := by
  obtain ⟨b, o, e, hlt, hc⟩ := h (by intro h0; subst h0; simp at hi)
  obtain ⟨RA, RC, h⟩ := hc i hi
  exact ⟨b, o, RA, RC, e, hlt, h⟩

/-- The headers of an atom that is made. -/
structure HM where
  VA : Option Addr
  VC : Nat
  PA : Option Addr
  PC : Nat
  QA : Option Addr
  QC : Nat
def outC (z : RA × HM) : List Value := [.slice z.2.VA z.1.vs.length z.2.VC, .int .i64 z.1.ar, .slice z.2.PA z.1.P.length z.2.PC]
def refC (z : RA × HM) : List Value := [.slice z.2.VA z.1.vs.length z.2.VC, .slice z.2.QA z.1.P.length z.2.QC]
def arC (z : RA × HM) : List Value := [.int .i64 z.1.ar]
structure HmOk (z : RA × HM) : Prop where
  v1 : z.1.vs.length ≤ z.2.VC
  v2 : z.2.VC ≤ 9223372036854775807
  p1 : z.1.P.length ≤ z.2.PC
  p2 : z.2.PC ≤ 9223372036854775807
  q1 : z.1.P.length ≤ z.2.QC
  q2 : z.2.QC ≤ 9223372036854775807
def ElR (B : Nat) (z : RA × HM) (w : World) : Prop := SlI .i64 B w z.2.VA z.1.vs ∧ SlRs B w z.2.PA z.1.P ∧ SlRs B w z.2.QA z.1.P
theorem ElR.more {B B' : Nat} {z : RA × HM} {w : World} (h : ElR B z w) (hB : B ≤ B') : ElR B' z w := ⟨h.1.more hB, h.2.1.more hB, h.2.2.more hB⟩
theorem flat_get {α : Type} (f : α → List Value) (k : Nat) (hf : ∀ z, (f z).length = k) : ∀ (Z : List α) (i j : Nat) (hi : i < Z.length), j < k → (Z.flatMap f)[i * k + j]? = (f Z[i])[j]?
  | [], i, j, hi, _ => absurd hi (by simp)
  | z :: Z, 0, j, _, hj => by
    rw [List.flatMap_cons, Nat.zero_mul, Nat.zero_add, List.getElem?_append_left (by rw [hf]; exact hj)]
    rfl
  | z :: Z, i + 1, j, hi, hj => by
    rw [List.flatMap_cons, List.getElem?_append_right (by rw [hf, Nat.succ_mul]; omega), hf, show (i + 1) * k + j - k = i * k + j by rw [Nat.succ_mul]; omega]
    simpa using flat_get f k hf Z i j (by simpa using hi) hj

/-- The lists that Made builds: three boxes, and what they point at. -/
structure MadeI (base : Nat) (w : World) (Z : List (RA × HM)) (vo vm va : Value) : Prop where
  out : w.ownsRow base 37 3 vo Z.length (Z.flatMap outC)
  ref : w.ownsRow base 44 2 vm Z.length (Z.flatMap refC)
  ar : w.ownsRow base 3 1 va Z.length (Z.flatMap arC)
  om : ∀ b, vo.ownBlock = some b → vm.ownBlock ≠ some b
  oa : ∀ b, vo.ownBlock = some b → va.ownBlock ≠ some b
  ma : ∀ b, vm.ownBlock = some b → va.ownBlock ≠ some b
  el : Stab (fun b => vo.ownBlock = some b ∨ vm.ownBlock = some b ∨ va.ownBlock = some b) w fun w'' => ∀ z ∈ Z, ElR w.heap.size z w''
  ok : ∀ z ∈ Z, HmOk z
theorem MadeI.nil (base : Nat) (w : World) : MadeI base w [] (.slice none 0 0) (.slice none 0 0) (.slice none 0 0) :=
  ⟨own_nil _ _ _ _, own_nil _ _ _ _, own_nil _ _ _ _, fun _ h => (by cases h), fun _ h => (by cases h), fun _ h => (by cases h), fun _ _ z hz => (by simp at hz), fun z hz => (by simp at hz)⟩
theorem MadeI.up {base : Nat} {w w' : World} {Z : List (RA × HM)} {vo vm va : Value} (h : MadeI base w Z vo vm va) (hb : Below w.heap.size w w') : MadeI base w' Z vo vm va :=
  ⟨own_keep h.out hb, own_keep h.ref hb, own_keep h.ar hb, h.om, h.oa, h.ma, (h.el.up hb).imp fun _ hs z hz => (hs z hz).more hb.size, h.ok⟩
theorem own_slice {w : World} {base : Nat} {e : TypeId} {size : Nat} {v : Value} {n : Nat} {xs : List Value} (h : w.ownsRow base e size v n xs) (_hs : 0 < size) : ∃ A C, v = .slice A n C ∧ n ≤ C ∧ C ≤ 9223372036854775807 ∧ (xs ≠ [] → ∃ b, A = some ⟨b, 0, none⟩ ∧ b < w.heap.size ∧ ∀ (j : Nat) u, xs[j]? = some u → w.cell? ⟨b, j, none⟩ = some u) := by
  rcases h.2 with ⟨h1, h0⟩ | ⟨g, cap, cur, h1, _, _, h5, hm, _⟩
  · subst h1 h0
    refine ⟨none, 0, rfl, Nat.le_refl _, by omega, fun hx => absurd (List.eq_nil_of_length_eq_zero (by rw [h.1, Nat.zero_mul])) hx⟩
  · subst h1
    refine ⟨some ⟨g, 0, none⟩, cap, rfl, h5, by unfold maxLen at hm; omega, fun _ => ⟨g, rfl, own_lt h g rfl, fun j u hu => ?_⟩⟩
    have := h.cells (g := g) rfl j u hu
    rwa [Addr.add_lit, Nat.zero_add] at this
theorem MadeI.fin {base : Nat} {w : World} {Z : List (RA × HM)} {vo vm va : Value} (h : MadeI base w Z vo vm va) :
    ∃ A1 C1 A2 C2 A3 C3, vo = .slice A1 Z.length C1 ∧ vm = .slice A2 Z.length C2 ∧ va = .slice A3 Z.length C3 ∧ Z.length ≤ C1 ∧ C1 ≤ 9223372036854775807 ∧ Z.length ≤ C2 ∧ C2 ≤ 9223372036854775807 ∧ Z.length ≤ C3 ∧ C3 ≤ 9223372036854775807 ∧ AtsM w.heap.size w A1 (Z.map Prod.fst) ∧ AtsR w.heap.size w A2 (Z.map Prod.fst) ∧ SlI .i64 w.heap.size w A3 (Z.map fun z => z.1.ar) := by
  obtain ⟨A1, C1, e1, c1, d1, f1⟩ := own_slice h.out (by decide)
  obtain ⟨A2, C2, e2, c2, d2, f2⟩ := own_slice h.ref (by decide)
  obtain ⟨A3, C3, e3, c3, d3, f3⟩ := own_slice h.ar (by decide)
  have hel := h.el.now
  have hne : ∀ (f : RA × HM → List Value) (k : Nat), (∀ z, (f z).length = k + 1) → Z ≠ [] → Z.flatMap f ≠ [] := fun f k hf hn h0 => by
    obtain ⟨z, t, rfl⟩ := List.exists_cons_of_ne_nil hn
    rw [List.flatMap_cons] at h0
    have := List.append_eq_nil_iff.1 h0
    have h2 := hf z
    rw [this.1] at h2
    simp at h2
  refine ⟨A1, C1, A2, C2, A3, C3, e1, e2, e3, c1, d1, c2, d2, c3, d3, fun hn => ?_, fun hn => ?_, fun hn => ?_⟩
  · have hz : Z ≠ [] := by intro e; subst e; exact hn rfl
    obtain ⟨b, rfl, hb, hc⟩ := f1 (hne outC 2 (fun _ => rfl) hz)
    refine ⟨b, 0, rfl, hb, fun i hi => ?_⟩
    rw [List.length_map] at hi
    have hm : Z[i] ∈ Z := List.getElem_mem hi
    have ho := h.ok _ hm
    have he := hel _ hm
    have g := fun j hj => flat_get outC 3 (fun _ => rfl) Z i j hi hj
    rw [List.getElem_map]
    exact ⟨_, _, _, _, by rw [Nat.zero_add]; exact hc _ _ (g 0 (by omega)), by rw [Nat.zero_add]; exact hc _ _ (g 1 (by omega)), by rw [Nat.zero_add]; exact hc _ _ (g 2 (by omega)), ho.v1, ho.v2, ho.p1, ho.p2, he.1, he.2.1⟩
  · have hz : Z ≠ [] := by intro e; subst e; exact hn rfl
    obtain ⟨b, rfl, hb, hc⟩ := f2 (hne refC 1 (fun _ => rfl) hz)
    refine ⟨b, 0, rfl, hb, fun i hi => ?_⟩
    rw [List.length_map] at hi
    have hm : Z[i] ∈ Z := List.getElem_mem hi
    have ho := h.ok _ hm
    have he := hel _ hm
    have g := fun j hj => flat_get refC 2 (fun _ => rfl) Z i j hi hj
    rw [List.getElem_map]
    exact ⟨_, _, _, _, by rw [Nat.zero_add]; exact hc _ _ (g 0 (by omega)), by rw [Nat.zero_add]; exact hc _ _ (g 1 (by omega)), ho.v1, ho.v2, ho.q1, ho.q2, he.1, he.2.2⟩
  · have hz : Z ≠ [] := by intro e; subst e; exact hn rfl
    obtain ⟨b, rfl, hb, hc⟩ := f3 (hne arC 0 (fun _ => rfl) hz)
    refine ⟨b, 0, rfl, hb, fun i u hu => ?_⟩
    rw [Nat.zero_add]
    refine hc _ _ ?_
    have hl : i < Z.length := by
      have := (List.getElem?_eq_some_iff.1 hu).1
      simpa using this
    have g := flat_get arC 1 (fun _ => rfl) Z i 0 hl (by omega)
    rw [Nat.mul_one, Nat.add_zero] at g
    rw [g]
    rw [List.getElem?_map, List.getElem?_map, List.getElem?_eq_getElem hl] at hu
    exact hu

end Go.Proofs.YthgaflmldbgbnaaDoor
end

section
/- Plain: the atoms that chapter 35's laws make, and their join. -/
namespace Go.Proofs.YthgaflmldbgbnaaDoor
open Go.RowKit Go.Sort

theorem asc_nat (b : Nat) : ∀ (l : List Nat) (a : Nat), l.Pairwise (· < ·) → (∀ x ∈ l, a ≤ x ∧ x < b) → l.length ≤ b - a
  | [], _, _, _ => Nat.zero_le _
  | x :: t, a, h, hx => by
    obtain ⟨h1, h2⟩ := List.pairwise_cons.1 h
    have h3 := hx x List.mem_cons_self
    have := asc_nat b t (x + 1) h2 fun y hy => ⟨h1 y hy, (hx y (List.mem_cons_of_mem _ hy)).2⟩
    rw [List.length_cons]
    omega
theorem cmpV_valI {x y : Nat} : RL.cmpV (valI x) (valI y) < 0 ↔ x % 4 < y % 4 := by
  by_cases h : x % 4 = y % 4
  · rw [show valI x = valI y by unfold valI; rw [h], RL.tot_cmpV.self]
    omega
  · have h2 : ((x % 4 : Nat) : Int) ≠ ((y % 4 : Nat) : Int) := fun e => h (by omega)
    rw [RL.cmpV_int (a := valI x) (b := valI y) rfl h2]
    show RL.cmpI ((x % 4 : Nat) : Int) ((y % 4 : Nat) : Int) < 0 ↔ _
    unfold RL.cmpI
    split
    · omega
    · split <;> omega
/-- A value that the laws make. -/
def IsI (c : RL.V) : Prop := ∃ x, c = valI x
theorem asc4 {l : RL.R} (h : l.Pairwise fun a b => RL.cmpV a b < 0) (hI : ∀ c ∈ l, IsI c) : l.length ≤ 4 := by
  have e : ∀ c ∈ l, valI c.int.toNat = c ∧ c.int.toNat % 4 = c.int.toNat ∧ c.int.toNat < 4 := fun c hc => by
    obtain ⟨x, rfl⟩ := hI c hc
    have e1 : (valI x).int.toNat = x % 4 := rfl
    rw [e1]
    refine ⟨?_, by omega, by omega⟩
    unfold valI
    rw [Nat.mod_mod]
  have h2 : (l.map fun c => c.int.toNat).Pairwise (· < ·) := by
    refine List.pairwise_map.2 (h.imp_of_mem fun {a b} ha hb hab => ?_)
    obtain ⟨a1, a2, a3⟩ := e a ha
    obtain ⟨b1, b2, b3⟩ := e b hb
    rw [← a1, ← b1, cmpV_valI, a2, b2] at hab
    exact hab
  have h3 := asc_nat 4 (l.map fun c => c.int.toNat) 0 h2 fun x hx => by
    obtain ⟨c, hc, rfl⟩ := List.mem_map.1 hx
    exact ⟨Nat.zero_le _, (e c hc).2.2⟩
  rw [List.length_map] at h3
  exact h3

/-- An atom with few rows of small values. -/
structure Small (a : RA) : Prop where
  ss : RL.SS a.P
  len : ∀ r ∈ a.P, (r.length : Int) = a.ar
  ar : a.ar ≤ 1000
  many : a.P.length ≤ 60000
  vl : a.vs.length ≤ 1000
  I : ∀ r ∈ a.P, ∀ c ∈ r, IsI c
theorem IsI.str {c : RL.V} (h : IsI c) : c.str.size = 0 := by obtain ⟨x, rfl⟩ := h; rfl
theorem Small.rsOk {a : RA} (h : Small a) : RsOk a.P := fun r hr => ⟨by have := h.len r hr; have := h.ar; omega, fun c hc => by rw [(h.I r hr c hc).str]; exact Nat.zero_le _⟩
theorem Small.kids {a : RA} (h : Small a) (hd : ∀ r ∈ a.P, r.length = a.at.d) (q : RL.R) : (RL.kids a.at.d a.at.P q).length ≤ 4 := by
  rcases Nat.lt_or_ge q.length a.at.d with hq | hq
  · refine asc4 (RL.kids_asc hd q) fun c hc => ?_
    obtain ⟨y, hy, e⟩ := (RL.mem_kids hd hq c).1 hc
    refine h.I y hy c (List.mem_of_mem_take (i := q.length + 1) ?_)
    rw [e]; simp
  · rw [RL.kids_out hq]; exact Nat.zero_le _
theorem Small.hd {n : Int} {a : RA} (h : Small a) (he : errAt n a = 0) : ∀ r ∈ a.P, r.length = a.at.d := fun r hr => by
  have h3 := (errAt_zero he).2.2
  have h4 := h.len r hr
  show r.length = (a.vs.map Int.toNat).length
  rw [List.length_map]
  omega
theorem Small.ref {n : Int} {a : RA} (h : Small a) (he : errAt n a = 0) : RefOk a := ⟨h.vl, h.many, h.rsOk, fun r hr => by have := h.hd he r hr; rw [this]; show (a.vs.map Int.toNat).length = _; rw [List.length_map], fun v hv => ((errAt_zero he).2.1 v hv).1⟩
theorem Small.rel {n : Int} {a : RA} (h : Small a) (he : errAt n a = 0) : RelOk 4 a := ⟨h.ss, h.len, h.rsOk, h.many, h.kids (h.hd he)⟩
theorem valsF_I {X : List RA} {n : Int} (hX : ∀ a ∈ X, Small a) (he : ∀ a ∈ X, errAt n a = 0) (v : Int) : ∀ c ∈ valsF X v, IsI c := fun c hc => by
  unfold valsF at hc
  split at hc
  · rename_i a k hcol
    obtain ⟨ha, hk⟩ : a ∈ X ∧ k < a.vs.length := by
      unfold colF at hcol
      obtain ⟨a', ha', h1⟩ := List.exists_of_findSome?_eq_some hcol
      obtain ⟨k', hk', e⟩ := Option.map_eq_some_iff.1 h1
      injection e with e1 e2
      subst e1 e2
      exact ⟨ha', (List.findIdx?_eq_some_iff_getElem.1 hk').1⟩
    obtain ⟨r, hr, rfl⟩ := List.mem_map.1 hc
    obtain ⟨y, hy, rfl⟩ := List.mem_map.1 ((RL.mem_ofF _ _).1 hr)
    have hl := (hX a ha).hd (he a ha) y hy
    have hl2 : k < y.length := by rw [hl]; show k < (a.vs.map Int.toNat).length; rw [List.length_map]; exact hk
    show IsI (y.getD (k : Int).toNat zV)
    rw [Int.toNat_natCast, List.getD_eq_getElem?_getD, List.getElem?_eq_getElem hl2]
    exact (hX a ha).I y hy _ (List.getElem_mem hl2)
  · simp at hc
theorem valsF_four {X : List RA} {n : Int} (hX : ∀ a ∈ X, Small a) (he : ∀ a ∈ X, errAt n a = 0) (v : Int) : (valsF X v).length ≤ 4 := asc4 (valsF_asc X v) (valsF_I hX he v)

/-- A join of small atoms without error. -/
structure Good0 (m : Nat) (X : List RA) : Prop where
  le : m ≤ 32
  many : X.length ≤ 32
  sm : ∀ a ∈ X, Small a
  ok : ∀ a ∈ X, errAt (m : Int) a = 0
  cov : ∀ v : Nat, v < m → ∃ a ∈ X, (v : Int) ∈ a.vs
theorem Good0.of {n : Int} {X : List RA} (hX : ∀ a ∈ X, Small a) (h : errA n X = 0) : ∃ m : Nat, n = (m : Int) ∧ Good0 m X := by
  obtain ⟨m, h1, h2, h3, h4, h5⟩ := errA_zero h
  subst h1
  exact ⟨m, rfl, h2, h3, hX, h4, h5⟩
section
variable {m : Nat} {X Y : List RA}
theorem Good0.at (h : Good0 m X) : ∀ a ∈ X, a.at.Ok m := fun a ha => (raOk_of (h.ok a ha) ((h.sm a ha).rel (h.ok a ha))).at_
theorem Good0.ats (h : Good0 m X) : ∀ a ∈ X.map RA.at, a.Ok m := fun a ha => by obtain ⟨r, hr, rfl⟩ := List.mem_map.1 ha; exact h.at r hr
theorem Good0.use (h : Good0 m X) : ∀ v, v < m → ∃ a ∈ X.map RA.at, v ∈ a.vs := fun v hv => by
  obtain ⟨a, ha, h1⟩ := used_of h.cov v hv
  exact ⟨a.at, List.mem_map.2 ⟨a, ha, rfl⟩, h1⟩
theorem Good0.mem (h : Good0 m X) (y : RL.R) : y ∈ joinF m (X.map RA.at) ↔ y.length = m ∧ ∀ a ∈ X, satA a.at y := by
  rw [mem_joinF h.ats h.use]
  constructor
  · exact fun ⟨h1, h2⟩ => ⟨h1, fun a ha => h2 _ (List.mem_map.2 ⟨a, ha, rfl⟩)⟩
  · exact fun ⟨h1, h2⟩ => ⟨h1, fun a ha => by obtain ⟨r, hr, rfl⟩ := List.mem_map.1 ha; exact h2 r hr⟩
theorem Good0.joinSS (h : Good0 m X) : RL.SS (joinF m (X.map RA.at)) := joinF_ss h.ats h.use
theorem Good0.refJ (h : Good0 m X) : refJ (X.map RA.at) (fun v => valsF X (v : Int)) m [] = joinF m (X.map RA.at) := refJ_join h.at h.cov
theorem Good0.len (h : Good0 m X) : (joinF m (X.map RA.at)).length ≤ 4 ^ m := by
  rw [← h.refJ]
  exact refJ_len (fun v => valsF_four h.sm h.ok v) (by omega) m []
/-- The values of a row of the join. -/
theorem Good0.I (h : Good0 m X) : ∀ y ∈ joinF m (X.map RA.at), ∀ c ∈ y, IsI c := fun y hy c hc => by
  obtain ⟨h1, h2⟩ := (h.mem y).1 hy
  obtain ⟨i, hi, rfl⟩ := List.getElem_of_mem hc
  obtain ⟨a, ha, hv⟩ := h.cov i (by omega)
  have hs : a.at.vs.map (dv y) ∈ a.P := h2 a ha
  refine (h.sm a ha).I _ hs _ (List.mem_map.2 ⟨i, List.mem_map.2 ⟨_, hv, by simp⟩, ?_⟩)
  unfold dv
  rw [List.getD_eq_getElem?_getD, List.getElem?_eq_getElem hi]
  rfl
theorem Good0.rsOk (h : Good0 m X) : RsOk (joinF m (X.map RA.at)) := fun y hy => ⟨by have := ((h.mem y).1 hy).1; have := h.le; omega, fun c hc => by rw [(h.I y hy c hc).str]; exact Nat.zero_le _⟩
/-- Joins with the same meaning are equal. -/
theorem Good0.ext (h : Good0 m X) (h' : Good0 m Y) (hs : ∀ y : RL.R, y.length = m → ((∀ a ∈ X, satA a.at y) ↔ ∀ a ∈ Y, satA a.at y)) : joinF m (X.map RA.at) = joinF m (Y.map RA.at) :=
  RL.SS.ext h.joinSS h'.joinSS fun y => by
    rw [h.mem, h'.mem]
    exact ⟨fun ⟨a, b⟩ => ⟨a, (hs y a).1 b⟩, fun ⟨a, b⟩ => ⟨a, (hs y a).2 b⟩⟩
end
/-- What Made makes is small. -/
theorem LA.small {a : LA} (h : a.Ok) : Small a.ra where
  ss := RL.SS.of _
  len r hr := by
    obtain ⟨t, _, rfl⟩ := List.mem_map.1 ((RL.mem_ofF _ _).1 hr)
    rw [rowI_len]
    rfl
  ar := by have := h.1; show ((a.d : Nat) : Int) ≤ 1000; omega
  many := by
    refine Nat.le_trans (RL.ofF_length_le _) ?_
    rw [List.length_map]
    have := h.2
    omega
  vl := by
    have h1 := badV_len a.b (ints a.ks)
    have h2 : (ints a.ks).length = a.d := by unfold ints; rw [List.length_map]; rfl
    have := a.d_le
    show (badV a.b (ints a.ks)).length ≤ 1000
    omega
  I r hr c hc := by
    obtain ⟨t, _, rfl⟩ := List.mem_map.1 ((RL.mem_ofF _ _).1 hr)
    obtain ⟨k, _, rfl⟩ := List.mem_map.1 hc
    exact ⟨_, rfl⟩
theorem LA.smalls {l : List LA} (h : ∀ a ∈ l, a.Ok) : ∀ a ∈ l.map LA.ra, Small a := fun a ha => by
  obtain ⟨x, hx, rfl⟩ := List.mem_map.1 ha
  exact LA.small (h x hx)

end Go.Proofs.YthgaflmldbgbnaaDoor
end

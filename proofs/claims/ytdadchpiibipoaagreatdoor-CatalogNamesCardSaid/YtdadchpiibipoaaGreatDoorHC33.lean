/- Walk: the reference's Name. -/
import Derived.Test.YtdadchpiibipoaaGreatDoorQ10
namespace Go.Proofs.YtdadchpiibipoaaGreatDoor
open Go.RowKit Go.Sort Go.ChangeMaps Go.WideShapes

set_option maxHeartbeats 2000000 in
set_option maxRecDepth 100000 in
theorem r08Name_any (s : ByteArray) (hs : s.size ≤ 9223372036854775807) (w : World) : Calls Tryz.prog 28 #[.string s] w fun e w' => e = .returned (.bool (nameF s)) ∧ w' = w := by
  by_cases h0 : s.size = 0
  · have he : decide ((s.size : Int) < 1) = true := decide_eq_true (by omega)
    have he1 : decide (s.size < 1) = true := decide_eq_true (by omega)
    have he2 : decide (s.size = 0) = true := decide_eq_true h0
    have hn : nameF s = false := by unfold nameF; rw [decide_eq_false (by omega)]; rfl
    rw [hn]
    clear hn
    go_enter Tryz.func28, Tryz.ntmps28
    go_wp2
    go_ret
    exact ⟨rfl, rfl⟩
  have he : decide ((s.size : Int) < 1) = false := decide_eq_false (by omega)
  have he1 : decide (s.size < 1) = false := decide_eq_false (by omega)
  have he2 : decide (s.size = 0) = false := decide_eq_false h0
  by_cases h16 : s.size ≤ 16
  rotate_left
  · have hd : decide ((16 : Int) < (s.size : Int)) = true := decide_eq_true (by omega)
    have hn : nameF s = false := by unfold nameF; rw [decide_eq_false h16, Bool.and_false]; rfl
    rw [hn]
    clear hn
    go_enter Tryz.func28, Tryz.ntmps28
    go_wp2
    go_ret
    exact ⟨rfl, rfl⟩
  have hd : decide ((16 : Int) < (s.size : Int)) = false := decide_eq_false (by omega)
  have HN : Hid (nameF s = (List.range s.size).all fun i => goodB i (byteN s i)) := by
    show _ = _
    unfold nameF
    rw [decide_eq_true h16, decide_eq_true (show 1 ≤ s.size by omega)]
    rfl
  go_enter Tryz.func28, Tryz.ntmps28
  go_wp2_with fail
  clear he he1 he2 h0 hd
  go_loopw [3] (fun c wx => ∃ k : Nat, k ≤ s.size ∧ c = .int .i64 k ∧ (∀ i, i < k → goodB i (byteN s i) = true) ∧ wx = w) (fun c _ => s.size - (intOf c).toNat)
  case atStart => exact ⟨0, Nat.zero_le _, rfl, fun i hi => by omega, rfl⟩
  case round =>
    obtain ⟨k, hk, rfl, hall, rfl⟩ := hrel
    have HALL := Lib.hid hall
    clear hall
    by_cases hkl : k < s.size
    · have g1 : (0 : Int) ≤ (k : Int) := by omega
      have g2 : (k : Int) < (s.size : Int) := by omega
      have hw1 : IntKind.i64.wrap ((k : Int) + 1) = ((k + 1 : Nat) : Int) := by rw [IntWalk.i64_in _ (by omega)]; omega
      have HB : Hid (byteN s k = (s[k]).toNat) := by show _ = _; unfold byteN; rw [dif_pos hkl]
      go_upto_region 7 with (fail)
      have hcl : (s[k]).toNat < 256 := UInt8.toNat_lt _
      generalize (s[k]).toNat = c at HB hcl ⊢
      have HGOOD : Hid (∀ b : Bool, goodB k c = b → (b = true → ∀ i, i < k + 1 → goodB i (byteN s i) = true) ∧ (b = false → nameF s = false)) := fun b hb => ⟨fun e i hi => by
        rcases Nat.lt_or_ge i k with h | h
        · exact HALL.out i h
        · obtain rfl : i = k := by omega
          rw [HB.out, hb, e], fun e => by
        rw [HN.out, List.all_eq_false]
        exact ⟨k, List.mem_range.2 hkl, by rw [HB.out, hb, e]; decide⟩⟩
      have hcase : (97 ≤ c ∧ c ≤ 122) ∨ (65 ≤ c ∧ c ≤ 90) ∨ (122 < c) ∨ (c = 95) ∨ (91 ≤ c ∧ c ≤ 96 ∧ c ≠ 95) ∨ (58 ≤ c ∧ c ≤ 64) ∨ (48 ≤ c ∧ c ≤ 57) ∨ (c < 48) := by omega
      rcases hcase with hc | hc | hc | hc | hc | hc | hc | hc
      · have a0 : decide ((97 : Int) ≤ (c : Int)) = true := decide_eq_true (by omega)
        have a1 : decide ((c : Int) ≤ 122) = true := decide_eq_true (by omega)
        have a2 : decide ((65 : Int) ≤ (c : Int)) = true := decide_eq_true (by omega)
        have a3 : decide ((c : Int) ≤ 90) = false := decide_eq_false (by omega)
        have a4 : ((c : Int) != 95) = true := ne95 (by omega)
        have a5 : decide ((c : Int) < 48) = false := decide_eq_false (by omega)
        have a6 : decide ((57 : Int) < (c : Int)) = true := decide_eq_true (by omega)
        have HG := Lib.hid (HGOOD.out true (by unfold goodB letterB; simp; omega))
        clear hc hcl HGOOD
        go_wp2
        go_roundw
        case rel => exact ⟨k + 1, hkl, by go_num, HG.out.1 (by first | rfl | trivial), by first | rfl | trivial⟩
        case measure => simp [intOf]; omega
      · have a0 : decide ((97 : Int) ≤ (c : Int)) = false := decide_eq_false (by omega)
        have a1 : decide ((c : Int) ≤ 122) = true := decide_eq_true (by omega)
        have a2 : decide ((65 : Int) ≤ (c : Int)) = true := decide_eq_true (by omega)
        have a3 : decide ((c : Int) ≤ 90) = true := decide_eq_true (by omega)
        have a4 : ((c : Int) != 95) = true := ne95 (by omega)
        have a5 : decide ((c : Int) < 48) = false := decide_eq_false (by omega)
        have a6 : decide ((57 : Int) < (c : Int)) = true := decide_eq_true (by omega)
        have HG := Lib.hid (HGOOD.out true (by unfold goodB letterB; simp; omega))
        clear hc hcl HGOOD
        go_wp2
        go_roundw
        case rel => exact ⟨k + 1, hkl, by go_num, HG.out.1 (by first | rfl | trivial), by first | rfl | trivial⟩
        case measure => simp [intOf]; omega
      · by_cases hk0 : k = 0
        · have a0 : decide ((97 : Int) ≤ (c : Int)) = true := decide_eq_true (by omega)
          have a1 : decide ((c : Int) ≤ 122) = false := decide_eq_false (by omega)
          have a2 : decide ((65 : Int) ≤ (c : Int)) = true := decide_eq_true (by omega)
          have a3 : decide ((c : Int) ≤ 90) = false := decide_eq_false (by omega)
          have a4 : ((c : Int) != 95) = true := ne95 (by omega)
          have a5 : decide ((c : Int) < 48) = false := decide_eq_false (by omega)
          have a6 : decide ((57 : Int) < (c : Int)) = true := decide_eq_true (by omega)
          have ak : ((k : Int) == 0) = true := by rw [hk0]; rfl
          have HG := Lib.hid (HGOOD.out false (by unfold goodB letterB; simp; omega))
          clear hc hcl HGOOD
          go_wp2
          exact bodyPost_ret (v := .bool false) (by simp [results, Tryz.results28, go_sem]) rfl ⟨by rw [HG.out.2 (by first | rfl | trivial)], rfl⟩
        · have a0 : decide ((97 : Int) ≤ (c : Int)) = true := decide_eq_true (by omega)
          have a1 : decide ((c : Int) ≤ 122) = false := decide_eq_false (by omega)
          have a2 : decide ((65 : Int) ≤ (c : Int)) = true := decide_eq_true (by omega)
          have a3 : decide ((c : Int) ≤ 90) = false := decide_eq_false (by omega)
          have a4 : ((c : Int) != 95) = true := ne95 (by omega)
          have a5 : decide ((c : Int) < 48) = false := decide_eq_false (by omega)
          have a6 : decide ((57 : Int) < (c : Int)) = true := decide_eq_true (by omega)
          have ak : ((k : Int) == 0) = false := by
            have : (k : Int) ≠ 0 := by omega
            simpa using this
          have HG := Lib.hid (HGOOD.out false (by unfold goodB letterB; simp; omega))
          clear hc hcl HGOOD
          go_wp2
          exact bodyPost_ret (v := .bool false) (by simp [results, Tryz.results28, go_sem]) rfl ⟨by rw [HG.out.2 (by first | rfl | trivial)], rfl⟩
      · by_cases hk0 : k = 0
        · have a0 : decide ((97 : Int) ≤ (c : Int)) = false := decide_eq_false (by omega)
          have a1 : decide ((c : Int) ≤ 122) = true := decide_eq_true (by omega)
          have a2 : decide ((65 : Int) ≤ (c : Int)) = true := decide_eq_true (by omega)
          have a3 : decide ((c : Int) ≤ 90) = false := decide_eq_false (by omega)
          have a4 : ((c : Int) != 95) = false := by rw [hc]; rfl
          have a5 : decide ((c : Int) < 48) = false := decide_eq_false (by omega)
          have a6 : decide ((57 : Int) < (c : Int)) = true := decide_eq_true (by omega)
          have ak : ((k : Int) == 0) = true := by rw [hk0]; rfl
          have HG := Lib.hid (HGOOD.out false (by unfold goodB letterB; simp; omega))
          clear hc hcl HGOOD
          go_wp2
          exact bodyPost_ret (v := .bool false) (by simp [results, Tryz.results28, go_sem]) rfl ⟨by rw [HG.out.2 (by first | rfl | trivial)], rfl⟩
        · have a0 : decide ((97 : Int) ≤ (c : Int)) = false := decide_eq_false (by omega)
          have a1 : decide ((c : Int) ≤ 122) = true := decide_eq_true (by omega)
          have a2 : decide ((65 : Int) ≤ (c : Int)) = true := decide_eq_true (by omega)
          have a3 : decide ((c : Int) ≤ 90) = false := decide_eq_false (by omega)
          have a4 : ((c : Int) != 95) = false := by rw [hc]; rfl
          have a5 : decide ((c : Int) < 48) = false := decide_eq_false (by omega)
          have a6 : decide ((57 : Int) < (c : Int)) = true := decide_eq_true (by omega)
          have ak : ((k : Int) == 0) = false := by
            have : (k : Int) ≠ 0 := by omega
            simpa using this
          have HG := Lib.hid (HGOOD.out true (by unfold goodB letterB; simp; omega))
          clear hc hcl HGOOD
          go_wp2
          go_roundw
          case rel => exact ⟨k + 1, hkl, by go_num, HG.out.1 (by first | rfl | trivial), by first | rfl | trivial⟩
          case measure => simp [intOf]; omega
      · by_cases hk0 : k = 0
        · have a0 : decide ((97 : Int) ≤ (c : Int)) = false := decide_eq_false (by omega)
          have a1 : decide ((c : Int) ≤ 122) = true := decide_eq_true (by omega)
          have a2 : decide ((65 : Int) ≤ (c : Int)) = true := decide_eq_true (by omega)
          have a3 : decide ((c : Int) ≤ 90) = false := decide_eq_false (by omega)
          have a4 : ((c : Int) != 95) = true := ne95 (by omega)
          have a5 : decide ((c : Int) < 48) = false := decide_eq_false (by omega)
          have a6 : decide ((57 : Int) < (c : Int)) = true := decide_eq_true (by omega)
          have ak : ((k : Int) == 0) = true := by rw [hk0]; rfl
          have HG := Lib.hid (HGOOD.out false (by unfold goodB letterB; simp; omega))
          clear hc hcl HGOOD
          go_wp2
          exact bodyPost_ret (v := .bool false) (by simp [results, Tryz.results28, go_sem]) rfl ⟨by rw [HG.out.2 (by first | rfl | trivial)], rfl⟩
        · have a0 : decide ((97 : Int) ≤ (c : Int)) = false := decide_eq_false (by omega)
          have a1 : decide ((c : Int) ≤ 122) = true := decide_eq_true (by omega)
          have a2 : decide ((65 : Int) ≤ (c : Int)) = true := decide_eq_true (by omega)
          have a3 : decide ((c : Int) ≤ 90) = false := decide_eq_false (by omega)
          have a4 : ((c : Int) != 95) = true := ne95 (by omega)
          have a5 : decide ((c : Int) < 48) = false := decide_eq_false (by omega)
          have a6 : decide ((57 : Int) < (c : Int)) = true := decide_eq_true (by omega)
          have ak : ((k : Int) == 0) = false := by
            have : (k : Int) ≠ 0 := by omega
            simpa using this
          have HG := Lib.hid (HGOOD.out false (by unfold goodB letterB; simp; omega))
          clear hc hcl HGOOD
          go_wp2
          exact bodyPost_ret (v := .bool false) (by simp [results, Tryz.results28, go_sem]) rfl ⟨by rw [HG.out.2 (by first | rfl | trivial)], rfl⟩
      · by_cases hk0 : k = 0
        · have a0 : decide ((97 : Int) ≤ (c : Int)) = false := decide_eq_false (by omega)
          have a1 : decide ((c : Int) ≤ 122) = true := decide_eq_true (by omega)
          have a2 : decide ((65 : Int) ≤ (c : Int)) = false := decide_eq_false (by omega)
          have a3 : decide ((c : Int) ≤ 90) = true := decide_eq_true (by omega)
          have a4 : ((c : Int) != 95) = true := ne95 (by omega)
          have a5 : decide ((c : Int) < 48) = false := decide_eq_false (by omega)
          have a6 : decide ((57 : Int) < (c : Int)) = true := decide_eq_true (by omega)
          have ak : ((k : Int) == 0) = true := by rw [hk0]; rfl
          have HG := Lib.hid (HGOOD.out false (by unfold goodB letterB; simp; omega))
          clear hc hcl HGOOD
          go_wp2
          exact bodyPost_ret (v := .bool false) (by simp [results, Tryz.results28, go_sem]) rfl ⟨by rw [HG.out.2 (by first | rfl | trivial)], rfl⟩
        · have a0 : decide ((97 : Int) ≤ (c : Int)) = false := decide_eq_false (by omega)
          have a1 : decide ((c : Int) ≤ 122) = true := decide_eq_true (by omega)
          have a2 : decide ((65 : Int) ≤ (c : Int)) = false := decide_eq_false (by omega)
          have a3 : decide ((c : Int) ≤ 90) = true := decide_eq_true (by omega)
          have a4 : ((c : Int) != 95) = true := ne95 (by omega)
          have a5 : decide ((c : Int) < 48) = false := decide_eq_false (by omega)
          have a6 : decide ((57 : Int) < (c : Int)) = true := decide_eq_true (by omega)
          have ak : ((k : Int) == 0) = false := by
            have : (k : Int) ≠ 0 := by omega
            simpa using this
          have HG := Lib.hid (HGOOD.out false (by unfold goodB letterB; simp; omega))
          clear hc hcl HGOOD
          go_wp2
          exact bodyPost_ret (v := .bool false) (by simp [results, Tryz.results28, go_sem]) rfl ⟨by rw [HG.out.2 (by first | rfl | trivial)], rfl⟩
      · by_cases hk0 : k = 0
        · have a0 : decide ((97 : Int) ≤ (c : Int)) = false := decide_eq_false (by omega)
          have a1 : decide ((c : Int) ≤ 122) = true := decide_eq_true (by omega)
          have a2 : decide ((65 : Int) ≤ (c : Int)) = false := decide_eq_false (by omega)
          have a3 : decide ((c : Int) ≤ 90) = true := decide_eq_true (by omega)
          have a4 : ((c : Int) != 95) = true := ne95 (by omega)
          have a5 : decide ((c : Int) < 48) = false := decide_eq_false (by omega)
          have a6 : decide ((57 : Int) < (c : Int)) = false := decide_eq_false (by omega)
          have ak : ((k : Int) == 0) = true := by rw [hk0]; rfl
          have HG := Lib.hid (HGOOD.out false (by unfold goodB letterB; simp; omega))
          clear hc hcl HGOOD
          go_wp2
          exact bodyPost_ret (v := .bool false) (by simp [results, Tryz.results28, go_sem]) rfl ⟨by rw [HG.out.2 (by first | rfl | trivial)], rfl⟩
        · have a0 : decide ((97 : Int) ≤ (c : Int)) = false := decide_eq_false (by omega)
          have a1 : decide ((c : Int) ≤ 122) = true := decide_eq_true (by omega)
          have a2 : decide ((65 : Int) ≤ (c : Int)) = false := decide_eq_false (by omega)
          have a3 : decide ((c : Int) ≤ 90) = true := decide_eq_true (by omega)
          have a4 : ((c : Int) != 95) = true := ne95 (by omega)
          have a5 : decide ((c : Int) < 48) = false := decide_eq_false (by omega)
          have a6 : decide ((57 : Int) < (c : Int)) = false := decide_eq_false (by omega)
          have ak : ((k : Int) == 0) = false := by
            have : (k : Int) ≠ 0 := by omega
            simpa using this
          have HG := Lib.hid (HGOOD.out true (by unfold goodB letterB; simp; omega))
          clear hc hcl HGOOD
          go_wp2
          go_roundw
          case rel => exact ⟨k + 1, hkl, by go_num, HG.out.1 (by first | rfl | trivial), by first | rfl | trivial⟩
          case measure => simp [intOf]; omega
      · by_cases hk0 : k = 0
        · have a0 : decide ((97 : Int) ≤ (c : Int)) = false := decide_eq_false (by omega)
          have a1 : decide ((c : Int) ≤ 122) = true := decide_eq_true (by omega)
          have a2 : decide ((65 : Int) ≤ (c : Int)) = false := decide_eq_false (by omega)
          have a3 : decide ((c : Int) ≤ 90) = true := decide_eq_true (by omega)
          have a4 : ((c : Int) != 95) = true := ne95 (by omega)
          have a5 : decide ((c : Int) < 48) = true := decide_eq_true (by omega)
          have a6 : decide ((57 : Int) < (c : Int)) = false := decide_eq_false (by omega)
          have ak : ((k : Int) == 0) = true := by rw [hk0]; rfl
          have HG := Lib.hid (HGOOD.out false (by unfold goodB letterB; simp; omega))
          clear hc hcl HGOOD
          go_wp2
          exact bodyPost_ret (v := .bool false) (by simp [results, Tryz.results28, go_sem]) rfl ⟨by rw [HG.out.2 (by first | rfl | trivial)], rfl⟩
        · have a0 : decide ((97 : Int) ≤ (c : Int)) = false := decide_eq_false (by omega)
          have a1 : decide ((c : Int) ≤ 122) = true := decide_eq_true (by omega)
          have a2 : decide ((65 : Int) ≤ (c : Int)) = false := decide_eq_false (by omega)
          have a3 : decide ((c : Int) ≤ 90) = true := decide_eq_true (by omega)
          have a4 : ((c : Int) != 95) = true := ne95 (by omega)
          have a5 : decide ((c : Int) < 48) = true := decide_eq_true (by omega)
          have a6 : decide ((57 : Int) < (c : Int)) = false := decide_eq_false (by omega)
          have ak : ((k : Int) == 0) = false := by
            have : (k : Int) ≠ 0 := by omega
            simpa using this
          have HG := Lib.hid (HGOOD.out false (by unfold goodB letterB; simp; omega))
          clear hc hcl HGOOD
          go_wp2
          exact bodyPost_ret (v := .bool false) (by simp [results, Tryz.results28, go_sem]) rfl ⟨by rw [HG.out.2 (by first | rfl | trivial)], rfl⟩
    · obtain rfl : k = s.size := by omega
      have hn : Hid (nameF s = true) := by show _ = _; rw [HN.out, List.all_eq_true]; exact fun i hi => HALL.out i (List.mem_range.1 hi)
      go_wp2
      exact bodyPost_ret (v := .bool true) (by simp [results, Tryz.results28, go_sem]) rfl ⟨by rw [hn.out], rfl⟩

end Go.Proofs.YtdadchpiibipoaaGreatDoor

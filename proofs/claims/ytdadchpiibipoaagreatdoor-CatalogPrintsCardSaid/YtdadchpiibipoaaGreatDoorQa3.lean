/- Parts of the proof, merged: Z7, ShelfC, C3, C4, E11, E7, E8, C5, C6, ShelfB. -/
import Derived.Test.YtdadchpiibipoaaGreatDoorQa2
import Derived.Carry
import Derived.Shelf.LaysC
import Derived.Shelf.LaysM
import Derived.Shelf.SlMaps.Copy
import Derived.Shelf.Small.Strs
import Derived.Shelf.Strings.Prefix
import Derived.Shelf.Strings.Cut
import Derived.Shelf.Strings.Split
import Derived.Shelf.Strings.Builder1
import Derived.Shelf.Strconv.Itoa4
import Derived.Shelf.Strconv.Clone
import Derived.Test.YtdadchpiibipoaaGreatDoorProg
import Derived.Test.YtdadchpiibipoaaGreatDoorQa1
import Derived.Deep.AppendLies
import Derived.Lib.UnsafeStr
import Derived.Deep.RegionHeld3
import Derived.Laws.IdiomStrings
import Derived.Lib.AppendIntMem
import Derived.Lib.AtoiErrMem
import Derived.Shelf.Lays

set_option maxRecDepth 100000
namespace Go.Proofs.YtdadchpiibipoaaGreatDoor
section
open Go.RowKit Go.Sort Go.ChangeMaps Go.WideShapes

def letterB (c : Nat) : Bool := (decide (97 ≤ c) && decide (c ≤ 122)) || (decide (65 ≤ c) && decide (c ≤ 90))
def goodB (i c : Nat) : Bool := letterB c || (decide (i ≠ 0) && (decide (c = 95) || (decide (48 ≤ c) && decide (c ≤ 57))))
def byteN (s : ByteArray) (i : Nat) : Nat := if h : i < s.size then (s[i]).toNat else 0
def nameF (s : ByteArray) : Bool := decide (1 ≤ s.size) && decide (s.size ≤ 16) && (List.range s.size).all fun i => goodB i (byteN s i)

theorem ne95 {c : Nat} (h : c ≠ 95) : ((c : Int) != 95) = true := by
  have : (c : Int) ≠ 95 := by omega
  simpa using this
theorem isEmpty_size (s : ByteArray) : s.toList.isEmpty = decide (s.size = 0) := by
  rw [ByteArray.toList_eq]
  cases s with | mk d => cases d with | mk l => cases l <;> rfl
set_option maxHeartbeats 2000000 in
theorem ctValid_any (s : ByteArray) (hs : s.size ≤ 9223372036854775807) (w : World) : Calls Tryz.prog 27 #[.string s] w fun e w' => e = .returned (.bool (nameF s)) ∧ w' = w := by
  by_cases h0 : s.size = 0
  · have he : s.toList.isEmpty = true := by rw [isEmpty_size, h0]; rfl
    have hn : nameF s = false := by unfold nameF; rw [decide_eq_false (by omega)]; rfl
    rw [hn]
    clear hn
    go_enter Tryz.func27, Tryz.ntmps27
    go_wp2
    go_ret
    exact ⟨rfl, rfl⟩
  have he : s.toList.isEmpty = false := by rw [isEmpty_size]; simpa using h0
  by_cases h16 : s.size ≤ 16
  rotate_left
  · have hd : decide ((16 : Int) < (s.size : Int)) = true := decide_eq_true (by omega)
    have hn : nameF s = false := by unfold nameF; rw [decide_eq_false h16, Bool.and_false]; rfl
    rw [hn]
    clear hn
    go_enter Tryz.func27, Tryz.ntmps27
    go_wp2
    go_ret
    exact ⟨rfl, rfl⟩
  have hd : decide ((16 : Int) < (s.size : Int)) = false := decide_eq_false (by omega)
  have HN : Hid (nameF s = (List.range s.size).all fun i => goodB i (byteN s i)) := by
    show _ = _
    unfold nameF
    rw [decide_eq_true h16, decide_eq_true (show 1 ≤ s.size by omega)]
    rfl
  go_enter Tryz.func27, Tryz.ntmps27
  go_wp2_with fail
  clear he hd
  go_loopw [15] (fun c wx => ∃ k : Nat, k ≤ s.size ∧ c = .int .i64 k ∧ (∀ i, i < k → goodB i (byteN s i) = true) ∧ wx = w) (fun c _ => s.size - (intOf c).toNat)
  case atStart => exact ⟨0, Nat.zero_le _, rfl, fun i hi => by omega, rfl⟩
  case round =>
    obtain ⟨k, hk, rfl, hall, rfl⟩ := hrel
    have HALL := Lib.hid hall
    clear hall
    by_cases hkl : k < s.size
    · have g1 : (0 : Int) ≤ (k : Int) := by omega
      have g2 : (k : Int) < (s.size : Int) := by omega
      have hw1 : IntKind.i64.wrap ((k : Int) + 1) = ((k + 1 : Nat) : Int) := by rw [IntWalk.i64_in _ (by omega)]; omega
      have HB : Hid (byteN s k = (s[k]).toNat) := by show _ = _; unfold byteN; rw [dif_pos hkl]
      go_upto_region 7 with (fail)
      have hcl : (s[k]).toNat < 256 := UInt8.toNat_lt _
      generalize (s[k]).toNat = c at HB hcl ⊢
      have HGOOD : Hid (∀ b : Bool, goodB k c = b → (b = true → ∀ i, i < k + 1 → goodB i (byteN s i) = true) ∧ (b = false → nameF s = false)) := fun b hb => ⟨fun e i hi => by
        rcases Nat.lt_or_ge i k with h | h
        · exact HALL.out i h
        · obtain rfl : i = k := by omega
          rw [HB.out, hb, e], fun e => by
        rw [HN.out, List.all_eq_false]
        exact ⟨k, List.mem_range.2 hkl, by rw [HB.out, hb, e]; decide⟩⟩
      have hcase : (97 ≤ c ∧ c ≤ 122) ∨ (65 ≤ c ∧ c ≤ 90) ∨ (122 < c) ∨ (c = 95) ∨ (91 ≤ c ∧ c ≤ 96 ∧ c ≠ 95) ∨ (58 ≤ c ∧ c ≤ 64) ∨ (48 ≤ c ∧ c ≤ 57) ∨ (c < 48) := by omega
      rcases hcase with hc | hc | hc | hc | hc | hc | hc | hc
      · have a0 : decide ((97 : Int) ≤ (c : Int)) = true := decide_eq_true (by omega)
        have a1 : decide ((c : Int) ≤ 122) = true := decide_eq_true (by omega)
        have a2 : decide ((65 : Int) ≤ (c : Int)) = true := decide_eq_true (by omega)
        have a3 : decide ((c : Int) ≤ 90) = false := decide_eq_false (by omega)
        have a4 : ((c : Int) != 95) = true := ne95 (by omega)
        have a5 : decide ((c : Int) < 48) = false := decide_eq_false (by omega)
        have a6 : decide ((57 : Int) < (c : Int)) = true := decide_eq_true (by omega)
        have HG := Lib.hid (HGOOD.out true (by unfold goodB letterB; simp; omega))
        clear hc hcl HGOOD
        go_wp2
        go_roundw
        case rel => exact ⟨k + 1, hkl, by go_num, HG.out.1 (by first | rfl | trivial), by first | rfl | trivial⟩
        case measure => simp [intOf]; omega
      · have a0 : decide ((97 : Int) ≤ (c : Int)) = false := decide_eq_false (by omega)
        have a1 : decide ((c : Int) ≤ 122) = true := decide_eq_true (by omega)
        have a2 : decide ((65 : Int) ≤ (c : Int)) = true := decide_eq_true (by omega)
        have a3 : decide ((c : Int) ≤ 90) = true := decide_eq_true (by omega)
        have a4 : ((c : Int) != 95) = true := ne95 (by omega)
        have a5 : decide ((c : Int) < 48) = false := decide_eq_false (by omega)
        have a6 : decide ((57 : Int) < (c : Int)) = true := decide_eq_true (by omega)
        have HG := Lib.hid (HGOOD.out true (by unfold goodB letterB; simp; omega))
        clear hc hcl HGOOD
        go_wp2
        go_roundw
        case rel => exact ⟨k + 1, hkl, by go_num, HG.out.1 (by first | rfl | trivial), by first | rfl | trivial⟩
        case measure => simp [intOf]; omega
      · by_cases hk0 : k = 0
        · have a0 : decide ((97 : Int) ≤ (c : Int)) = true := decide_eq_true (by omega)
          have a1 : decide ((c : Int) ≤ 122) = false := decide_eq_false (by omega)
          have a2 : decide ((65 : Int) ≤ (c : Int)) = true := decide_eq_true (by omega)
          have a3 : decide ((c : Int) ≤ 90) = false := decide_eq_false (by omega)
          have a4 : ((c : Int) != 95) = true := ne95 (by omega)
          have a5 : decide ((c : Int) < 48) = false := decide_eq_false (by omega)
          have a6 : decide ((57 : Int) < (c : Int)) = true := decide_eq_true (by omega)
          have ak : ((k : Int) == 0) = true := by rw [hk0]; rfl
          have HG := Lib.hid (HGOOD.out false (by unfold goodB letterB; simp; omega))
          clear hc hcl HGOOD
          go_wp2
          exact bodyPost_ret (v := .bool false) (by simp [results, Tryz.results27, go_sem]) rfl ⟨by rw [HG.out.2 (by first | rfl | trivial)], rfl⟩
        · have a0 : decide ((97 : Int) ≤ (c : Int)) = true := decide_eq_true (by omega)
          have a1 : decide ((c : Int) ≤ 122) = false := decide_eq_false (by omega)
          have a2 : decide ((65 : Int) ≤ (c : Int)) = true := decide_eq_true (by omega)
          have a3 : decide ((c : Int) ≤ 90) = false := decide_eq_false (by omega)
          have a4 : ((c : Int) != 95) = true := ne95 (by omega)
          have a5 : decide ((c : Int) < 48) = false := decide_eq_false (by omega)
          have a6 : decide ((57 : Int) < (c : Int)) = true := decide_eq_true (by omega)
          have ak : ((k : Int) == 0) = false := by
            have : (k : Int) ≠ 0 := by omega
            simpa using this
          have HG := Lib.hid (HGOOD.out false (by unfold goodB letterB; simp; omega))
          clear hc hcl HGOOD
          go_wp2
          exact bodyPost_ret (v := .bool false) (by simp [results, Tryz.results27, go_sem]) rfl ⟨by rw [HG.out.2 (by first | rfl | trivial)], rfl⟩
      · by_cases hk0 : k = 0
        · have a0 : decide ((97 : Int) ≤ (c : Int)) = false := decide_eq_false (by omega)
          have a1 : decide ((c : Int) ≤ 122) = true := decide_eq_true (by omega)
          have a2 : decide ((65 : Int) ≤ (c : Int)) = true := decide_eq_true (by omega)
          have a3 : decide ((c : Int) ≤ 90) = false := decide_eq_false (by omega)
          have a4 : ((c : Int) != 95) = false := by rw [hc]; rfl
          have a5 : decide ((c : Int) < 48) = false := decide_eq_false (by omega)
          have a6 : decide ((57 : Int) < (c : Int)) = true := decide_eq_true (by omega)
          have ak : ((k : Int) == 0) = true := by rw [hk0]; rfl
          have HG := Lib.hid (HGOOD.out false (by unfold goodB letterB; simp; omega))
          clear hc hcl HGOOD
          go_wp2
          exact bodyPost_ret (v := .bool false) (by simp [results, Tryz.results27, go_sem]) rfl ⟨by rw [HG.out.2 (by first | rfl | trivial)], rfl⟩
        · have a0 : decide ((97 : Int) ≤ (c : Int)) = false := decide_eq_false (by omega)
          have a1 : decide ((c : Int) ≤ 122) = true := decide_eq_true (by omega)
          have a2 : decide ((65 : Int) ≤ (c : Int)) = true := decide_eq_true (by omega)
          have a3 : decide ((c : Int) ≤ 90) = false := decide_eq_false (by omega)
          have a4 : ((c : Int) != 95) = false := by rw [hc]; rfl
          have a5 : decide ((c : Int) < 48) = false := decide_eq_false (by omega)
          have a6 : decide ((57 : Int) < (c : Int)) = true := decide_eq_true (by omega)
          have ak : ((k : Int) == 0) = false := by
            have : (k : Int) ≠ 0 := by omega
            simpa using this
          have HG := Lib.hid (HGOOD.out true (by unfold goodB letterB; simp; omega))
          clear hc hcl HGOOD
          go_wp2
          go_roundw
          case rel => exact ⟨k + 1, hkl, by go_num, HG.out.1 (by first | rfl | trivial), by first | rfl | trivial⟩
          case measure => simp [intOf]; omega
      · by_cases hk0 : k = 0
        · have a0 : decide ((97 : Int) ≤ (c : Int)) = false := decide_eq_false (by omega)
          have a1 : decide ((c : Int) ≤ 122) = true := decide_eq_true (by omega)
          have a2 : decide ((65 : Int) ≤ (c : Int)) = true := decide_eq_true (by omega)
          have a3 : decide ((c : Int) ≤ 90) = false := decide_eq_false (by omega)
          have a4 : ((c : Int) != 95) = true := ne95 (by omega)
          have a5 : decide ((c : Int) < 48) = false := decide_eq_false (by omega)
          have a6 : decide ((57 : Int) < (c : Int)) = true := decide_eq_true (by omega)
          have ak : ((k : Int) == 0) = true := by rw [hk0]; rfl
          have HG := Lib.hid (HGOOD.out false (by unfold goodB letterB; simp; omega))
          clear hc hcl HGOOD
          go_wp2
          exact bodyPost_ret (v := .bool false) (by simp [results, Tryz.results27, go_sem]) rfl ⟨by rw [HG.out.2 (by first | rfl | trivial)], rfl⟩
        · have a0 : decide ((97 : Int) ≤ (c : Int)) = false := decide_eq_false (by omega)
          have a1 : decide ((c : Int) ≤ 122) = true := decide_eq_true (by omega)
          have a2 : decide ((65 : Int) ≤ (c : Int)) = true := decide_eq_true (by omega)
          have a3 : decide ((c : Int) ≤ 90) = false := decide_eq_false (by omega)
          have a4 : ((c : Int) != 95) = true := ne95 (by omega)
          have a5 : decide ((c : Int) < 48) = false := decide_eq_false (by omega)
          have a6 : decide ((57 : Int) < (c : Int)) = true := decide_eq_true (by omega)
          have ak : ((k : Int) == 0) = false := by
            have : (k : Int) ≠ 0 := by omega
            simpa using this
          have HG := Lib.hid (HGOOD.out false (by unfold goodB letterB; simp; omega))
          clear hc hcl HGOOD
          go_wp2
          exact bodyPost_ret (v := .bool false) (by simp [results, Tryz.results27, go_sem]) rfl ⟨by rw [HG.out.2 (by first | rfl | trivial)], rfl⟩
      · by_cases hk0 : k = 0
        · have a0 : decide ((97 : Int) ≤ (c : Int)) = false := decide_eq_false (by omega)
          have a1 : decide ((c : Int) ≤ 122) = true := decide_eq_true (by omega)
          have a2 : decide ((65 : Int) ≤ (c : Int)) = false := decide_eq_false (by omega)
          have a3 : decide ((c : Int) ≤ 90) = true := decide_eq_true (by omega)
          have a4 : ((c : Int) != 95) = true := ne95 (by omega)
          have a5 : decide ((c : Int) < 48) = false := decide_eq_false (by omega)
          have a6 : decide ((57 : Int) < (c : Int)) = true := decide_eq_true (by omega)
          have ak : ((k : Int) == 0) = true := by rw [hk0]; rfl
          have HG := Lib.hid (HGOOD.out false (by unfold goodB letterB; simp; omega))
          clear hc hcl HGOOD
          go_wp2
          exact bodyPost_ret (v := .bool false) (by simp [results, Tryz.results27, go_sem]) rfl ⟨by rw [HG.out.2 (by first | rfl | trivial)], rfl⟩
        · have a0 : decide ((97 : Int) ≤ (c : Int)) = false := decide_eq_false (by omega)
          have a1 : decide ((c : Int) ≤ 122) = true := decide_eq_true (by omega)
          have a2 : decide ((65 : Int) ≤ (c : Int)) = false := decide_eq_false (by omega)
          have a3 : decide ((c : Int) ≤ 90) = true := decide_eq_true (by omega)
          have a4 : ((c : Int) != 95) = true := ne95 (by omega)
          have a5 : decide ((c : Int) < 48) = false := decide_eq_false (by omega)
          have a6 : decide ((57 : Int) < (c : Int)) = true := decide_eq_true (by omega)
          have ak : ((k : Int) == 0) = false := by
            have : (k : Int) ≠ 0 := by omega
            simpa using this
          have HG := Lib.hid (HGOOD.out false (by unfold goodB letterB; simp; omega))
          clear hc hcl HGOOD
          go_wp2
          exact bodyPost_ret (v := .bool false) (by simp [results, Tryz.results27, go_sem]) rfl ⟨by rw [HG.out.2 (by first | rfl | trivial)], rfl⟩
      · by_cases hk0 : k = 0
        · have a0 : decide ((97 : Int) ≤ (c : Int)) = false := decide_eq_false (by omega)
          have a1 : decide ((c : Int) ≤ 122) = true := decide_eq_true (by omega)
          have a2 : decide ((65 : Int) ≤ (c : Int)) = false := decide_eq_false (by omega)
          have a3 : decide ((c : Int) ≤ 90) = true := decide_eq_true (by omega)
          have a4 : ((c : Int) != 95) = true := ne95 (by omega)
          have a5 : decide ((c : Int) < 48) = false := decide_eq_false (by omega)
          have a6 : decide ((57 : Int) < (c : Int)) = false := decide_eq_false (by omega)
          have ak : ((k : Int) == 0) = true := by rw [hk0]; rfl
          have HG := Lib.hid (HGOOD.out false (by unfold goodB letterB; simp; omega))
          clear hc hcl HGOOD
          go_wp2
          exact bodyPost_ret (v := .bool false) (by simp [results, Tryz.results27, go_sem]) rfl ⟨by rw [HG.out.2 (by first | rfl | trivial)], rfl⟩
        · have a0 : decide ((97 : Int) ≤ (c : Int)) = false := decide_eq_false (by omega)
          have a1 : decide ((c : Int) ≤ 122) = true := decide_eq_true (by omega)
          have a2 : decide ((65 : Int) ≤ (c : Int)) = false := decide_eq_false (by omega)
          have a3 : decide ((c : Int) ≤ 90) = true := decide_eq_true (by omega)
          have a4 : ((c : Int) != 95) = true := ne95 (by omega)
          have a5 : decide ((c : Int) < 48) = false := decide_eq_false (by omega)
          have a6 : decide ((57 : Int) < (c : Int)) = false := decide_eq_false (by omega)
          have ak : ((k : Int) == 0) = false := by
            have : (k : Int) ≠ 0 := by omega
            simpa using this
          have HG := Lib.hid (HGOOD.out true (by unfold goodB letterB; simp; omega))
          clear hc hcl HGOOD
          go_wp2
          go_roundw
          case rel => exact ⟨k + 1, hkl, by go_num, HG.out.1 (by first | rfl | trivial), by first | rfl | trivial⟩
          case measure => simp [intOf]; omega
      · by_cases hk0 : k = 0
        · have a0 : decide ((97 : Int) ≤ (c : Int)) = false := decide_eq_false (by omega)
          have a1 : decide ((c : Int) ≤ 122) = true := decide_eq_true (by omega)
          have a2 : decide ((65 : Int) ≤ (c : Int)) = false := decide_eq_false (by omega)
          have a3 : decide ((c : Int) ≤ 90) = true := decide_eq_true (by omega)
          have a4 : ((c : Int) != 95) = true := ne95 (by omega)
          have a5 : decide ((c : Int) < 48) = true := decide_eq_true (by omega)
          have a6 : decide ((57 : Int) < (c : Int)) = false := decide_eq_false (by omega)
          have ak : ((k : Int) == 0) = true := by rw [hk0]; rfl
          have HG := Lib.hid (HGOOD.out false (by unfold goodB letterB; simp; omega))
          clear hc hcl HGOOD
          go_wp2
          exact bodyPost_ret (v := .bool false) (by simp [results, Tryz.results27, go_sem]) rfl ⟨by rw [HG.out.2 (by first | rfl | trivial)], rfl⟩
        · have a0 : decide ((97 : Int) ≤ (c : Int)) = false := decide_eq_false (by omega)
          have a1 : decide ((c : Int) ≤ 122) = true := decide_eq_true (by omega)
          have a2 : decide ((65 : Int) ≤ (c : Int)) = false := decide_eq_false (by omega)
          have a3 : decide ((c : Int) ≤ 90) = true := decide_eq_true (by omega)
          have a4 : ((c : Int) != 95) = true := ne95 (by omega)
          have a5 : decide ((c : Int) < 48) = true := decide_eq_true (by omega)
          have a6 : decide ((57 : Int) < (c : Int)) = false := decide_eq_false (by omega)
          have ak : ((k : Int) == 0) = false := by
            have : (k : Int) ≠ 0 := by omega
            simpa using this
          have HG := Lib.hid (HGOOD.out false (by unfold goodB letterB; simp; omega))
          clear hc hcl HGOOD
          go_wp2
          exact bodyPost_ret (v := .bool false) (by simp [results, Tryz.results27, go_sem]) rfl ⟨by rw [HG.out.2 (by first | rfl | trivial)], rfl⟩
    · obtain rfl : k = s.size := by omega
      have hn : Hid (nameF s = true) := by show _ = _; rw [HN.out, List.all_eq_true]; exact fun i hi => HALL.out i (List.mem_range.1 hi)
      go_wp2
      exact bodyPost_ret (v := .bool true) (by simp [results, Tryz.results27, go_sem]) rfl ⟨by rw [hn.out], rfl⟩
end
end Go.Proofs.YtdadchpiibipoaaGreatDoor
section
namespace Go.Proofs
open Go.Shelf
def YtdadchpiibipoaaGreatDoor.lCut_ren : Go.Shelf.Ren := ⟨fun | 145 => 59 | 220 => 88 | 219 => 106 | 217 => 124 | 225 => 125 | 224 => 126 | 267 => 127 | 266 => 155 | 314 => 156 | n => n, fun | 9 => 9 | 4 => 4 | 59 => 120 | 3 => 3 | 5 => 5 | 46 => 154 | 146 => 198 | 51 => 187 | n => n, fun | 1 => 0 | n => n⟩
theorem YtdadchpiibipoaaGreatDoor.lCut : Go.Proofs.Lays.n145 Tryz.prog YtdadchpiibipoaaGreatDoor.lCut_ren := {
  mixed := by kernel_rfl
  f145 := Tryz.func59.trans (congrArg some (by kernel_rfl))
  f217 := Tryz.func124.trans (congrArg some (by kernel_rfl))
  f219 := Tryz.func106.trans (congrArg some (by kernel_rfl))
  f220 := Tryz.func88.trans (congrArg some (by kernel_rfl))
  f224 := Tryz.func126.trans (congrArg some (by kernel_rfl))
  f225 := Tryz.func125.trans (congrArg some (by kernel_rfl))
  f266 := Tryz.func155.trans (congrArg some (by kernel_rfl))
  f267 := Tryz.func127.trans (congrArg some (by kernel_rfl))
  f314 := Tryz.func156.trans (congrArg some (by kernel_rfl))
  t3 := Tryz.underlying3
  a3 := Tryz.isAgg3
  z3 := Tryz.sizeOf3
  v3 := Tryz.zeroValue3
  t4 := Tryz.underlying4
  a4 := Tryz.isAgg4
  z4 := Tryz.sizeOf4
  v4 := Tryz.zeroValue4
  t5 := Tryz.underlying5
  a5 := Tryz.isAgg5
  z5 := Tryz.sizeOf5
  v5 := Tryz.zeroValue5
  t9 := Tryz.underlying9
  a9 := Tryz.isAgg9
  z9 := Tryz.sizeOf9
  v9 := Tryz.zeroValue9
  t46 := Tryz.underlying154
  a46 := Tryz.isAgg154
  z46 := Tryz.sizeOf154
  v46 := Tryz.zeroValue154
  t51 := Tryz.underlying187
  a51 := Tryz.isAgg187
  z51 := Tryz.sizeOf187
  v51 := Tryz.zeroValue187
  t59 := Tryz.underlying120
  a59 := Tryz.isAgg120
  z59 := Tryz.sizeOf120
  v59 := Tryz.zeroValue120
  t146 := Tryz.underlying198
  a146 := Tryz.isAgg198
  z146 := Tryz.sizeOf198
  v146 := Tryz.zeroValue198
  g1 := by kernel_rfl }
def YtdadchpiibipoaaGreatDoor.lHasPrefix_ren : Go.Shelf.Ren := ⟨fun | 99 => 60 | 206 => 89 | n => n, fun | 9 => 9 | 4 => 4 | 3 => 3 | n => n, fun | n => n⟩
theorem YtdadchpiibipoaaGreatDoor.lHasPrefix : Go.Proofs.Lays.n99 Tryz.prog YtdadchpiibipoaaGreatDoor.lHasPrefix_ren := {
  mixed := by kernel_rfl
  f99 := Tryz.func60.trans (congrArg some (by kernel_rfl))
  f206 := Tryz.func89.trans (congrArg some (by kernel_rfl))
  t3 := Tryz.underlying3
  a3 := Tryz.isAgg3
  z3 := Tryz.sizeOf3
  v3 := Tryz.zeroValue3
  t4 := Tryz.underlying4
  a4 := Tryz.isAgg4
  z4 := Tryz.sizeOf4
  v4 := Tryz.zeroValue4
  t9 := Tryz.underlying9
  a9 := Tryz.isAgg9
  z9 := Tryz.sizeOf9
  v9 := Tryz.zeroValue9 }
def YtdadchpiibipoaaGreatDoor.lTrimPrefix_ren : Go.Shelf.Ren := ⟨fun | 101 => 162 | 208 => 177 | 206 => 89 | n => n, fun | 9 => 9 | 4 => 4 | 3 => 3 | n => n, fun | n => n⟩
theorem YtdadchpiibipoaaGreatDoor.lTrimPrefix : Go.Proofs.Lays.n101 Tryz.prog YtdadchpiibipoaaGreatDoor.lTrimPrefix_ren := {
  mixed := by kernel_rfl
  f101 := Tryz.func162.trans (congrArg some (by kernel_rfl))
  f206 := Tryz.func89.trans (congrArg some (by kernel_rfl))
  f208 := Tryz.func177.trans (congrArg some (by kernel_rfl))
  t3 := Tryz.underlying3
  a3 := Tryz.isAgg3
  z3 := Tryz.sizeOf3
  v3 := Tryz.zeroValue3
  t4 := Tryz.underlying4
  a4 := Tryz.isAgg4
  z4 := Tryz.sizeOf4
  v4 := Tryz.zeroValue4
  t9 := Tryz.underlying9
  a9 := Tryz.isAgg9
  z9 := Tryz.sizeOf9
  v9 := Tryz.zeroValue9 }
def YtdadchpiibipoaaGreatDoor.lIndexByte_ren : Go.Shelf.Ren := ⟨fun | 137 => 131 | 217 => 124 | 266 => 155 | n => n, fun | 9 => 9 | 5 => 5 | 3 => 3 | n => n, fun | n => n⟩
theorem YtdadchpiibipoaaGreatDoor.lIndexByte : Go.Proofs.Lays.n137 Tryz.prog YtdadchpiibipoaaGreatDoor.lIndexByte_ren := {
  mixed := by kernel_rfl
  f137 := Tryz.func131.trans (congrArg some (by kernel_rfl))
  f217 := Tryz.func124.trans (congrArg some (by kernel_rfl))
  f266 := Tryz.func155.trans (congrArg some (by kernel_rfl))
  t3 := Tryz.underlying3
  a3 := Tryz.isAgg3
  z3 := Tryz.sizeOf3
  v3 := Tryz.zeroValue3
  t5 := Tryz.underlying5
  a5 := Tryz.isAgg5
  z5 := Tryz.sizeOf5
  v5 := Tryz.zeroValue5
  t9 := Tryz.underlying9
  a9 := Tryz.isAgg9
  z9 := Tryz.sizeOf9
  v9 := Tryz.zeroValue9 }
def YtdadchpiibipoaaGreatDoor.lSplit_ren : Go.Shelf.Ren := ⟨fun | 146 => 90 | 221 => 107 | 268 => 128 | 138 => 129 | 143 => 130 | 195 => 157 | 197 => 158 | 218 => 159 | 219 => 106 | 260 => 175 | 217 => 124 | 225 => 125 | 224 => 126 | 267 => 127 | 266 => 155 | 314 => 156 | n => n, fun | 9 => 9 | 31 => 34 | 3 => 3 | 4 => 4 | 0 => 0 | 105 => 200 | 21 => 21 | 5 => 5 | 46 => 154 | 119 => 226 | 139 => 229 | 138 => 228 | 146 => 198 | 51 => 187 | n => n, fun | 1 => 0 | 3 => 4 | 4 => 5 | n => n⟩
theorem YtdadchpiibipoaaGreatDoor.lSplit : Go.Proofs.Lays.n146 Tryz.prog YtdadchpiibipoaaGreatDoor.lSplit_ren := {
  mixed := by kernel_rfl
  f138 := Tryz.func129.trans (congrArg some (by kernel_rfl))
  f143 := Tryz.func130.trans (congrArg some (by kernel_rfl))
  f146 := Tryz.func90.trans (congrArg some (by kernel_rfl))
  f195 := Tryz.func157.trans (congrArg some (by kernel_rfl))
  f197 := Tryz.func158.trans (congrArg some (by kernel_rfl))
  f217 := Tryz.func124.trans (congrArg some (by kernel_rfl))
  f218 := Tryz.func159.trans (congrArg some (by kernel_rfl))
  f219 := Tryz.func106.trans (congrArg some (by kernel_rfl))
  f221 := Tryz.func107.trans (congrArg some (by kernel_rfl))
  f224 := Tryz.func126.trans (congrArg some (by kernel_rfl))
  f225 := Tryz.func125.trans (congrArg some (by kernel_rfl))
  f260 := Tryz.func175.trans (congrArg some (by kernel_rfl))
  f266 := Tryz.func155.trans (congrArg some (by kernel_rfl))
  f267 := Tryz.func127.trans (congrArg some (by kernel_rfl))
  f268 := Tryz.func128.trans (congrArg some (by kernel_rfl))
  f314 := Tryz.func156.trans (congrArg some (by kernel_rfl))
  t0 := Tryz.underlying0
  a0 := Tryz.isAgg0
  z0 := Tryz.sizeOf0
  v0 := Tryz.zeroValue0
  t3 := Tryz.underlying3
  a3 := Tryz.isAgg3
  z3 := Tryz.sizeOf3
  v3 := Tryz.zeroValue3
  t4 := Tryz.underlying4
  a4 := Tryz.isAgg4
  z4 := Tryz.sizeOf4
  v4 := Tryz.zeroValue4
  t5 := Tryz.underlying5
  a5 := Tryz.isAgg5
  z5 := Tryz.sizeOf5
  v5 := Tryz.zeroValue5
  t9 := Tryz.underlying9
  a9 := Tryz.isAgg9
  z9 := Tryz.sizeOf9
  v9 := Tryz.zeroValue9
  t21 := Tryz.underlying21
  a21 := Tryz.isAgg21
  z21 := Tryz.sizeOf21
  v21 := Tryz.zeroValue21
  t31 := Tryz.underlying34
  a31 := Tryz.isAgg34
  z31 := Tryz.sizeOf34
  v31 := Tryz.zeroValue34
  t46 := Tryz.underlying154
  a46 := Tryz.isAgg154
  z46 := Tryz.sizeOf154
  v46 := Tryz.zeroValue154
  t51 := Tryz.underlying187
  a51 := Tryz.isAgg187
  z51 := Tryz.sizeOf187
  v51 := Tryz.zeroValue187
  t105 := Tryz.underlying200
  a105 := Tryz.isAgg200
  z105 := Tryz.sizeOf200
  v105 := Tryz.zeroValue200
  t119 := Tryz.underlying226
  a119 := Tryz.isAgg226
  z119 := Tryz.sizeOf226
  t138 := Tryz.underlying228
  a138 := Tryz.isAgg228
  z138 := Tryz.sizeOf228
  v138 := Tryz.zeroValue228
  t139 := Tryz.underlying229
  a139 := Tryz.isAgg229
  z139 := Tryz.sizeOf229
  v139 := Tryz.zeroValue229
  t146 := Tryz.underlying198
  a146 := Tryz.isAgg198
  z146 := Tryz.sizeOf198
  v146 := Tryz.zeroValue198
  g1 := by kernel_rfl
  g3 := by kernel_rfl
  g4 := by kernel_rfl }
def YtdadchpiibipoaaGreatDoor.lString_ren : Go.Shelf.Ren := ⟨fun | 169 => 44 | n => n, fun | 70 => 86 | 9 => 9 | 0 => 0 | 72 => 89 | 37 => 87 | 127 => 130 | 3 => 3 | 5 => 5 | n => n, fun | n => n⟩
theorem YtdadchpiibipoaaGreatDoor.lString : Go.Proofs.Lays.n169 Tryz.prog YtdadchpiibipoaaGreatDoor.lString_ren := {
  mixed := by kernel_rfl
  f169 := Tryz.func44.trans (congrArg some (by kernel_rfl))
  t0 := Tryz.underlying0
  a0 := Tryz.isAgg0
  z0 := Tryz.sizeOf0
  v0 := Tryz.zeroValue0
  t3 := Tryz.underlying3
  a3 := Tryz.isAgg3
  z3 := Tryz.sizeOf3
  v3 := Tryz.zeroValue3
  t9 := Tryz.underlying9
  a9 := Tryz.isAgg9
  z9 := Tryz.sizeOf9
  v9 := Tryz.zeroValue9
  t37 := Tryz.underlying87
  a37 := Tryz.isAgg87
  z37 := Tryz.sizeOf87
  v37 := Tryz.zeroValue87
  t70 := Tryz.underlying86
  a70 := Tryz.isAgg86
  z70 := Tryz.sizeOf86
  v70 := Tryz.zeroValue86
  t72 := Tryz.underlying89
  a72 := Tryz.isAgg89
  z72 := Tryz.sizeOf89
  v72 := Tryz.zeroValue89
  t127 := Tryz.underlying130
  a127 := Tryz.isAgg130
  z127 := Tryz.sizeOf130
  v127 := Tryz.zeroValue130 }
def YtdadchpiibipoaaGreatDoor.lFormatInt_ren : Go.Shelf.Ren := ⟨fun | 173 => 74 | 246 => 99 | 283 => 113 | 284 => 114 | 285 => 115 | 286 => 116 | 129 => 138 | 317 => 137 | 318 => 139 | 319 => 140 | 320 => 141 | 337 => 166 | 338 => 167 | n => n, fun | 2 => 2 | 3 => 3 | 9 => 9 | 4 => 4 | 171 => 166 | 0 => 0 | 53 => 167 | 37 => 87 | 5 => 5 | 173 => 170 | 212 => 186 | 51 => 187 | 20 => 20 | 213 => 188 | 46 => 154 | 232 => 221 | 233 => 222 | n => n, fun | 17 => 1 | 18 => 2 | 19 => 3 | n => n⟩
theorem YtdadchpiibipoaaGreatDoor.lFormatInt : Go.Proofs.LaysM.n173 Tryz.prog YtdadchpiibipoaaGreatDoor.lFormatInt_ren := {
  mixed := by kernel_rfl
  f129 := Tryz.func138.trans (congrArg some (by kernel_rfl))
  f173 := Tryz.func74.trans (congrArg some (by kernel_rfl))
  f246 := Tryz.func99.trans (congrArg some (by kernel_rfl))
  f283 := Tryz.func113.trans (congrArg some (by kernel_rfl))
  f284 := Tryz.func114.trans (congrArg some (by kernel_rfl))
  f285 := Tryz.func115.trans (congrArg some (by kernel_rfl))
  f286 := Tryz.func116.trans (congrArg some (by kernel_rfl))
  f317 := Tryz.func137.trans (congrArg some (by kernel_rfl))
  f318 := Tryz.func139.trans (congrArg some (by kernel_rfl))
  f319 := Tryz.func140.trans (congrArg some (by kernel_rfl))
  f320 := Tryz.func141.trans (congrArg some (by kernel_rfl))
  f337 := Tryz.func166.trans (congrArg some (by kernel_rfl))
  f338 := Tryz.func167.trans (congrArg some (by kernel_rfl))
  t0 := Tryz.underlying0
  a0 := Tryz.isAgg0
  z0 := Tryz.sizeOf0
  v0 := Tryz.zeroValue0
  t2 := Tryz.underlying2
  a2 := Tryz.isAgg2
  z2 := Tryz.sizeOf2
  v2 := Tryz.zeroValue2
  t3 := Tryz.underlying3
  a3 := Tryz.isAgg3
  z3 := Tryz.sizeOf3
  v3 := Tryz.zeroValue3
  t4 := Tryz.underlying4
  a4 := Tryz.isAgg4
  z4 := Tryz.sizeOf4
  v4 := Tryz.zeroValue4
  t5 := Tryz.underlying5
  a5 := Tryz.isAgg5
  z5 := Tryz.sizeOf5
  v5 := Tryz.zeroValue5
  t9 := Tryz.underlying9
  a9 := Tryz.isAgg9
  z9 := Tryz.sizeOf9
  v9 := Tryz.zeroValue9
  t20 := Tryz.underlying20
  a20 := Tryz.isAgg20
  z20 := Tryz.sizeOf20
  v20 := Tryz.zeroValue20
  t37 := Tryz.underlying87
  a37 := Tryz.isAgg87
  z37 := Tryz.sizeOf87
  v37 := Tryz.zeroValue87
  t46 := Tryz.underlying154
  a46 := Tryz.isAgg154
  z46 := Tryz.sizeOf154
  v46 := Tryz.zeroValue154
  t51 := Tryz.underlying187
  a51 := Tryz.isAgg187
  z51 := Tryz.sizeOf187
  v51 := Tryz.zeroValue187
  t53 := Tryz.underlying167
  a53 := Tryz.isAgg167
  z53 := Tryz.sizeOf167
  v53 := Tryz.zeroValue167
  t171 := Tryz.underlying166
  a171 := Tryz.isAgg166
  z171 := Tryz.sizeOf166
  v171 := Tryz.zeroValue166
  t173 := Tryz.underlying170
  a173 := Tryz.isAgg170
  z173 := Tryz.sizeOf170
  v173 := Tryz.zeroValue170
  t212 := Tryz.underlying186
  a212 := Tryz.isAgg186
  z212 := Tryz.sizeOf186
  v212 := Tryz.zeroValue186
  t213 := Tryz.underlying188
  a213 := Tryz.isAgg188
  z213 := Tryz.sizeOf188
  t232 := Tryz.underlying221
  a232 := Tryz.isAgg221
  z232 := Tryz.sizeOf221
  v232 := Tryz.zeroValue221
  t233 := Tryz.underlying222
  a233 := Tryz.isAgg222
  z233 := Tryz.sizeOf222
  v233 := Tryz.zeroValue222
  g17 := by kernel_rfl
  g18 := by kernel_rfl
  g19 := by kernel_rfl
  i0 := by kernel_rfl
  i2 := by kernel_rfl
  i3 := by kernel_rfl
  i4 := by kernel_rfl
  i5 := by kernel_rfl
  i9 := by kernel_rfl
  i20 := by kernel_rfl
  i37 := by kernel_rfl
  i46 := by kernel_rfl
  i51 := by kernel_rfl
  i53 := by kernel_rfl
  i171 := by kernel_rfl
  i173 := by kernel_rfl
  i212 := by kernel_rfl
  i232 := by kernel_rfl
  i233 := by kernel_rfl
  m17 := by kernel_rfl
  m18 := by kernel_rfl
  m19 := by kernel_rfl }
def YtdadchpiibipoaaGreatDoor.lParseInt_ren : Go.Shelf.Ren := ⟨fun | 174 => 163 | 247 => 178 | 245 => 179 | 287 => 189 | 279 => 190 | 280 => 191 | 281 => 192 | 282 => 193 | 321 => 197 | 322 => 198 | 316 => 87 | 171 => 200 | 205 => 199 | 243 => 202 | 246 => 99 | 283 => 113 | 284 => 114 | 285 => 115 | 286 => 116 | 129 => 138 | 317 => 137 | 318 => 139 | 319 => 140 | 320 => 141 | 337 => 166 | 338 => 167 | n => n, fun | 9 => 9 | 3 => 3 | 2 => 2 | 75 => 91 | 85 => 205 | 4 => 4 | 167 => 230 | 5 => 5 | 53 => 167 | 175 => 231 | 46 => 154 | 168 => 233 | 37 => 87 | 0 => 0 | 210 => 240 | 21 => 21 | 127 => 130 | 145 => 245 | 143 => 243 | 171 => 166 | 173 => 170 | 212 => 186 | 51 => 187 | 20 => 20 | 213 => 188 | 232 => 221 | 233 => 222 | 80 => 96 | n => n, fun | 15 => 6 | 16 => 7 | 17 => 1 | 18 => 2 | 19 => 3 | n => n⟩
theorem YtdadchpiibipoaaGreatDoor.lParseInt : Go.Proofs.LaysC.n174 Tryz.prog YtdadchpiibipoaaGreatDoor.lParseInt_ren := {
  mixed := by kernel_rfl
  f129 := Tryz.func138.trans (congrArg some (by kernel_rfl))
  f171 := Tryz.func200.trans (congrArg some (by kernel_rfl))
  f174 := Tryz.func163.trans (congrArg some (by kernel_rfl))
  f205 := Tryz.func199.trans (congrArg some (by kernel_rfl))
  f243 := Tryz.func202.trans (congrArg some (by kernel_rfl))
  f245 := Tryz.func179.trans (congrArg some (by kernel_rfl))
  f246 := Tryz.func99.trans (congrArg some (by kernel_rfl))
  f247 := Tryz.func178.trans (congrArg some (by kernel_rfl))
  f279 := Tryz.func190.trans (congrArg some (by kernel_rfl))
  f280 := Tryz.func191.trans (congrArg some (by kernel_rfl))
  f281 := Tryz.func192.trans (congrArg some (by kernel_rfl))
  f282 := Tryz.func193.trans (congrArg some (by kernel_rfl))
  f283 := Tryz.func113.trans (congrArg some (by kernel_rfl))
  f284 := Tryz.func114.trans (congrArg some (by kernel_rfl))
  f285 := Tryz.func115.trans (congrArg some (by kernel_rfl))
  f286 := Tryz.func116.trans (congrArg some (by kernel_rfl))
  f287 := Tryz.func189.trans (congrArg some (by kernel_rfl))
  f316 := Tryz.func87.trans (congrArg some (by kernel_rfl))
  f317 := Tryz.func137.trans (congrArg some (by kernel_rfl))
  f318 := Tryz.func139.trans (congrArg some (by kernel_rfl))
  f319 := Tryz.func140.trans (congrArg some (by kernel_rfl))
  f320 := Tryz.func141.trans (congrArg some (by kernel_rfl))
  f321 := Tryz.func197.trans (congrArg some (by kernel_rfl))
  f322 := Tryz.func198.trans (congrArg some (by kernel_rfl))
  f337 := Tryz.func166.trans (congrArg some (by kernel_rfl))
  f338 := Tryz.func167.trans (congrArg some (by kernel_rfl))
  t0 := Tryz.underlying0
  a0 := Tryz.isAgg0
  z0 := Tryz.sizeOf0
  v0 := Tryz.zeroValue0
  t2 := Tryz.underlying2
  a2 := Tryz.isAgg2
  z2 := Tryz.sizeOf2
  v2 := Tryz.zeroValue2
  t3 := Tryz.underlying3
  a3 := Tryz.isAgg3
  z3 := Tryz.sizeOf3
  v3 := Tryz.zeroValue3
  t4 := Tryz.underlying4
  a4 := Tryz.isAgg4
  z4 := Tryz.sizeOf4
  v4 := Tryz.zeroValue4
  t5 := Tryz.underlying5
  a5 := Tryz.isAgg5
  z5 := Tryz.sizeOf5
  v5 := Tryz.zeroValue5
  t9 := Tryz.underlying9
  a9 := Tryz.isAgg9
  z9 := Tryz.sizeOf9
  v9 := Tryz.zeroValue9
  t20 := Tryz.underlying20
  a20 := Tryz.isAgg20
  z20 := Tryz.sizeOf20
  v20 := Tryz.zeroValue20
  t21 := Tryz.underlying21
  a21 := Tryz.isAgg21
  z21 := Tryz.sizeOf21
  v21 := Tryz.zeroValue21
  t37 := Tryz.underlying87
  a37 := Tryz.isAgg87
  z37 := Tryz.sizeOf87
  v37 := Tryz.zeroValue87
  t46 := Tryz.underlying154
  a46 := Tryz.isAgg154
  z46 := Tryz.sizeOf154
  v46 := Tryz.zeroValue154
  t51 := Tryz.underlying187
  a51 := Tryz.isAgg187
  z51 := Tryz.sizeOf187
  v51 := Tryz.zeroValue187
  t53 := Tryz.underlying167
  a53 := Tryz.isAgg167
  z53 := Tryz.sizeOf167
  v53 := Tryz.zeroValue167
  t75 := Tryz.underlying91
  a75 := Tryz.isAgg91
  z75 := Tryz.sizeOf91
  v75 := Tryz.zeroValue91
  t85 := Tryz.underlying205
  a85 := Tryz.isAgg205
  z85 := Tryz.sizeOf205
  v85 := Tryz.zeroValue205
  t127 := Tryz.underlying130
  a127 := Tryz.isAgg130
  z127 := Tryz.sizeOf130
  v127 := Tryz.zeroValue130
  t143 := Tryz.underlying243
  a143 := Tryz.isAgg243
  z143 := Tryz.sizeOf243
  v143 := Tryz.zeroValue243
  t145 := Tryz.underlying245
  a145 := Tryz.isAgg245
  z145 := Tryz.sizeOf245
  v145 := Tryz.zeroValue245
  t167 := Tryz.underlying230
  a167 := Tryz.isAgg230
  z167 := Tryz.sizeOf230
  v167 := Tryz.zeroValue230
  t168 := Tryz.underlying233
  a168 := Tryz.isAgg233
  z168 := Tryz.sizeOf233
  v168 := Tryz.zeroValue233
  t171 := Tryz.underlying166
  a171 := Tryz.isAgg166
  z171 := Tryz.sizeOf166
  v171 := Tryz.zeroValue166
  t173 := Tryz.underlying170
  a173 := Tryz.isAgg170
  z173 := Tryz.sizeOf170
  v173 := Tryz.zeroValue170
  t175 := Tryz.underlying231
  a175 := Tryz.isAgg231
  z175 := Tryz.sizeOf231
  v175 := Tryz.zeroValue231
  t210 := Tryz.underlying240
  a210 := Tryz.isAgg240
  z210 := Tryz.sizeOf240
  v210 := Tryz.zeroValue240
  t212 := Tryz.underlying186
  a212 := Tryz.isAgg186
  z212 := Tryz.sizeOf186
  v212 := Tryz.zeroValue186
  t213 := Tryz.underlying188
  a213 := Tryz.isAgg188
  z213 := Tryz.sizeOf188
  t232 := Tryz.underlying221
  a232 := Tryz.isAgg221
  z232 := Tryz.sizeOf221
  v232 := Tryz.zeroValue221
  t233 := Tryz.underlying222
  a233 := Tryz.isAgg222
  z233 := Tryz.sizeOf222
  v233 := Tryz.zeroValue222
  g15 := by kernel_rfl
  g16 := by kernel_rfl
  g17 := by kernel_rfl
  g18 := by kernel_rfl
  g19 := by kernel_rfl
  t80 := Tryz.underlying96
  a80 := Tryz.isAgg96
  z80 := Tryz.sizeOf96
  v80 := Tryz.zeroValue96
  i0 := by kernel_rfl
  i2 := by kernel_rfl
  i3 := by kernel_rfl
  i4 := by kernel_rfl
  i5 := by kernel_rfl
  i9 := by kernel_rfl
  i20 := by kernel_rfl
  i21 := by kernel_rfl
  i37 := by kernel_rfl
  i46 := by kernel_rfl
  i51 := by kernel_rfl
  i53 := by kernel_rfl
  i75 := by kernel_rfl
  i80 := by kernel_rfl
  i85 := by kernel_rfl
  i127 := by kernel_rfl
  i143 := by kernel_rfl
  i145 := by kernel_rfl
  i167 := by kernel_rfl
  i168 := by kernel_rfl
  i171 := by kernel_rfl
  i173 := by kernel_rfl
  i175 := by kernel_rfl
  i210 := by kernel_rfl
  i212 := by kernel_rfl
  i232 := by kernel_rfl
  i233 := by kernel_rfl
  m15 := by kernel_rfl
  m16 := by kernel_rfl
  m17 := by kernel_rfl
  m18 := by kernel_rfl
  m19 := by kernel_rfl
  c0 := by kernel_rfl
  c2 := by kernel_rfl
  c3 := by kernel_rfl
  c4 := by kernel_rfl
  c5 := by kernel_rfl
  c9 := by kernel_rfl
  c20 := by kernel_rfl
  c21 := by kernel_rfl
  c37 := by kernel_rfl
  c46 := by kernel_rfl
  c51 := by kernel_rfl
  c53 := by kernel_rfl
  c75 := by kernel_rfl
  c80 := by kernel_rfl
  c85 := by kernel_rfl
  c127 := by kernel_rfl
  c143 := by kernel_rfl
  c145 := by kernel_rfl
  c167 := by kernel_rfl
  c168 := by kernel_rfl
  c171 := by kernel_rfl
  c173 := by kernel_rfl
  c175 := by kernel_rfl
  c210 := by kernel_rfl
  c212 := by kernel_rfl
  c213 := by kernel_rfl
  c232 := by kernel_rfl
  c233 := by kernel_rfl }
def YtdadchpiibipoaaGreatDoor.lClone_ren : Go.Shelf.Ren := ⟨fun | 316 => 87 | n => n, fun | 9 => 9 | 3 => 3 | 4 => 4 | 37 => 87 | 0 => 0 | 127 => 130 | 5 => 5 | n => n, fun | n => n⟩
theorem YtdadchpiibipoaaGreatDoor.lClone : Go.Proofs.LaysM.n316 Tryz.prog YtdadchpiibipoaaGreatDoor.lClone_ren := {
  mixed := by kernel_rfl
  f316 := Tryz.func87.trans (congrArg some (by kernel_rfl))
  t0 := Tryz.underlying0
  a0 := Tryz.isAgg0
  z0 := Tryz.sizeOf0
  v0 := Tryz.zeroValue0
  t3 := Tryz.underlying3
  a3 := Tryz.isAgg3
  z3 := Tryz.sizeOf3
  v3 := Tryz.zeroValue3
  t4 := Tryz.underlying4
  a4 := Tryz.isAgg4
  z4 := Tryz.sizeOf4
  v4 := Tryz.zeroValue4
  t9 := Tryz.underlying9
  a9 := Tryz.isAgg9
  z9 := Tryz.sizeOf9
  v9 := Tryz.zeroValue9
  t37 := Tryz.underlying87
  a37 := Tryz.isAgg87
  z37 := Tryz.sizeOf87
  v37 := Tryz.zeroValue87
  t127 := Tryz.underlying130
  a127 := Tryz.isAgg130
  z127 := Tryz.sizeOf130
  v127 := Tryz.zeroValue130
  t5 := Tryz.underlying5
  a5 := Tryz.isAgg5
  z5 := Tryz.sizeOf5
  v5 := Tryz.zeroValue5
  i0 := by kernel_rfl
  i3 := by kernel_rfl
  i4 := by kernel_rfl
  i5 := by kernel_rfl
  i9 := by kernel_rfl
  i37 := by kernel_rfl
  i127 := by kernel_rfl }
end Go.Proofs
end
namespace Go.Proofs.YtdadchpiibipoaaGreatDoor
section
open Go.RowKit Go.Sort

theorem byteD_at {s : ByteArray} {k : Nat} (h : k < s.size) : s.data.toList.getD k 0 = s[k] := by
  have h' : k < s.data.toList.length := by rw [Array.length_toList]; exact h
  rw [List.getD_eq_getElem?_getD, List.getElem?_eq_getElem h']
  rfl
theorem size_len (s : ByteArray) : s.data.toList.length = s.size := by rw [Array.length_toList]; rfl
theorem indexByte_lt : ∀ (l : List UInt8) (c : UInt8), Lib.indexByte l c < (l.length : Nat)
  | [], c => by unfold Lib.indexByte; decide
  | b :: l, c => by
    have := indexByte_lt l c
    unfold Lib.indexByte
    simp only [List.length_cons]
    split
    · omega
    · split <;> omega
theorem hexS_lt (c : UInt8) : Lib.indexByte hexS c < 16 ∧ -1 ≤ Lib.indexByte hexS c := ⟨by have := indexByte_lt hexS c; simpa [hexS] using this, Lib.indexByte_ge _ _⟩
theorem sIndexByte_any (s : ByteArray) (c : Int) (w : World) : Calls Tryz.prog 131 #[.string s, .int .u8 c] w fun e w' => e = .returned (.int .i64 (Lib.indexByte s.data.toList c.toNat.toUInt8)) ∧ w' = w :=
  Any.strings_IndexByte YtdadchpiibipoaaGreatDoor.lIndexByte s c w

theorem hexCall (s : ByteArray) (k : Nat) (h : k < s.size) (w : World) : Calls Tryz.prog 131 #[.string ⟨#[48, 49, 50, 51, 52, 53, 54, 55, 56, 57, 97, 98, 99, 100, 101, 102]⟩, .int .u8 ((s[k]).toNat : Nat)] w
    fun e w' => e = .returned (.int .i64 (Lib.indexByte hexS s[k])) ∧ w' = w := by
  have h1 := sIndexByte_any ⟨#[48, 49, 50, 51, 52, 53, 54, 55, 56, 57, 97, 98, 99, 100, 101, 102]⟩ ((s[k]).toNat : Nat) w
  have e : ((((s[k]).toNat : Nat) : Int).toNat.toUInt8) = s[k] := by simp
  rw [e] at h1
  exact h1
def hexC (a b : Int) : Nat × Nat :=
  if a < 0 ∨ b < 0 then (0, 0) else
  if a.toNat * 16 + b.toNat = 10 ∨ a.toNat * 16 + b.toNat = 9 ∨ (32 ≤ a.toNat * 16 + b.toNat ∧ a.toNat * 16 + b.toNat ≤ 126) then (0, 0) else (a.toNat * 16 + b.toNat, 4)
theorem unhexL_at {s : ByteArray} (h : 4 ≤ s.size) : unhexL s.data.toList = hexC (Lib.indexByte hexS (s[2]'(by omega))) (Lib.indexByte hexS (s[3]'(by omega))) := by
  have e2 : s.data.toList.getD 2 0 = s[2]'(by omega) := byteD_at (by omega)
  have e3 : s.data.toList.getD 3 0 = s[3]'(by omega) := byteD_at (by omega)
  unfold unhexL hexC
  rw [if_neg (by rw [size_len]; omega)]
  simp only [e2, e3]

theorem or_hex : ∀ n m : Fin 16, bits BinOp.or IntKind.i64 ((n.val : Int) * 16) (m.val : Int) = (n.val : Int) * 16 + (m.val : Int) := by decide +kernel

set_option maxHeartbeats 2000000 in
theorem vUnhex_any (s : ByteArray) (hs : s.size ≤ 9223372036854775807) (w : World) : Calls Tryz.prog 176 #[.string s] w fun e w' =>
    e = .returned (.tuple #[.int .u8 (unhexL s.data.toList).1, .int .i64 (unhexL s.data.toList).2]) ∧ w' = w := by
  by_cases h4 : s.size < 4
  · have hd : decide ((s.size : Int) < 4) = true := decide_eq_true (by omega)
    have hr : unhexL s.data.toList = (0, 0) := by unfold unhexL; rw [if_pos (by rw [size_len]; exact h4)]
    rw [hr]
    clear hr
    go_enter Tryz.func176, Tryz.ntmps176
    go_wp2
    go_ret2
    exact ⟨rfl, rfl⟩
  have hd : decide ((s.size : Int) < 4) = false := decide_eq_false (by omega)
  rw [unhexL_at (by omega)]
  have g2 : (2 : Int) < (s.size : Int) := by omega
  have g3 : (3 : Int) < (s.size : Int) := by omega
  have b2 := hexS_lt (s[2]'(by omega))
  have b3 := hexS_lt (s[3]'(by omega))
  have HI2 := Lib.hid (hexCall s 2 (by omega) w)
  have HI3 := Lib.hid (hexCall s 3 (by omega) w)
  generalize Lib.indexByte hexS (s[2]'(by omega)) = a at b2 HI2 ⊢
  generalize Lib.indexByte hexS (s[3]'(by omega)) = b at b3 HI3 ⊢
  by_cases ha : a < 0
  · have hr : hexC a b = (0, 0) := by unfold hexC; rw [if_pos (Or.inl ha)]
    rw [hr]
    have q1 : decide (a < 0) = true := decide_eq_true ha
    clear hr ha b2 b3
    go_enter Tryz.func176, Tryz.ntmps176
    go_wp2_with (first
      | (go_at_call 131; refine HI2.out.mono ?_; rintro e w' ⟨rfl, rfl⟩)
      | (go_at_call 131; refine HI3.out.mono ?_; rintro e w' ⟨rfl, rfl⟩))
    go_ret2
    exact ⟨rfl, rfl⟩
  have q1 : decide (a < 0) = false := decide_eq_false ha
  by_cases hb : b < 0
  · have hr : hexC a b = (0, 0) := by unfold hexC; rw [if_pos (Or.inr hb)]
    rw [hr]
    have q2 : decide (b < 0) = true := decide_eq_true hb
    clear hr ha hb b2 b3
    go_enter Tryz.func176, Tryz.ntmps176
    go_wp2_with (first
      | (go_at_call 131; refine HI2.out.mono ?_; rintro e w' ⟨rfl, rfl⟩)
      | (go_at_call 131; refine HI3.out.mono ?_; rintro e w' ⟨rfl, rfl⟩))
    go_ret2
    exact ⟨rfl, rfl⟩
  have q2 : decide (b < 0) = false := decide_eq_false hb
  obtain ⟨n, rfl⟩ := Int.eq_ofNat_of_zero_le (by omega : 0 ≤ a)
  obtain ⟨m, rfl⟩ := Int.eq_ofNat_of_zero_le (by omega : 0 ≤ b)
  have hor : bits BinOp.or IntKind.i64 ((n : Int) * 16) (m : Int) = (n : Int) * 16 + (m : Int) := or_hex ⟨n, by omega⟩ ⟨m, by omega⟩
  have HC : Hid (hexC (n : Int) (m : Int) = if n * 16 + m = 10 ∨ n * 16 + m = 9 ∨ (32 ≤ n * 16 + m ∧ n * 16 + m ≤ 126) then (0, 0) else (n * 16 + m, 4)) := by
    show _ = _
    unfold hexC
    rw [if_neg (by omega)]
    rfl
  have hmod : ((n : Int) * 16 + (m : Int)) % 256 = ((n * 16 + m : Nat) : Int) := by omega
  have hlt : n * 16 + m < 256 := by omega
  have hsh : wrap64 ((n : Int) * 16) = (n : Int) * 16 := by unfold wrap64; omega
  rw [HC.out]
  clear HC ha hb b2 b3
  generalize n * 16 + m = c at hmod hlt ⊢
  have hcase : c = 10 ∨ c = 9 ∨ (32 ≤ c ∧ c ≤ 126) ∨ (c < 32 ∧ c ≠ 10 ∧ c ≠ 9) ∨ 126 < c := by omega
  rcases hcase with rfl | rfl | hc | hc | hc
  · rw [if_pos (by omega)]
    go_enter Tryz.func176, Tryz.ntmps176
    go_wp2_with (first
      | (go_at_call 131; refine HI2.out.mono ?_; rintro e w' ⟨rfl, rfl⟩)
      | (go_at_call 131; refine HI3.out.mono ?_; rintro e w' ⟨rfl, rfl⟩))
    go_ret2
    exact ⟨rfl, rfl⟩
  · rw [if_pos (by omega)]
    go_enter Tryz.func176, Tryz.ntmps176
    go_wp2_with (first
      | (go_at_call 131; refine HI2.out.mono ?_; rintro e w' ⟨rfl, rfl⟩)
      | (go_at_call 131; refine HI3.out.mono ?_; rintro e w' ⟨rfl, rfl⟩))
    go_ret2
    exact ⟨rfl, rfl⟩
  · rw [if_pos (by omega)]
    have k1 : ((c : Int) == 10) = false := by rw [beq_eq_false_iff_ne]; omega
    have k2 : ((c : Int) == 9) = false := by rw [beq_eq_false_iff_ne]; omega
    have k3 : decide ((32 : Int) ≤ (c : Int)) = true := decide_eq_true (by omega)
    have k4 : decide ((c : Int) ≤ 126) = true := decide_eq_true (by omega)
    clear hc hlt
    go_enter Tryz.func176, Tryz.ntmps176
    go_wp2_with (first
      | (go_at_call 131; refine HI2.out.mono ?_; rintro e w' ⟨rfl, rfl⟩)
      | (go_at_call 131; refine HI3.out.mono ?_; rintro e w' ⟨rfl, rfl⟩))
    go_ret2
    exact ⟨rfl, rfl⟩
  · rw [if_neg (by omega)]
    have k1 : ((c : Int) == 10) = false := by rw [beq_eq_false_iff_ne]; omega
    have k2 : ((c : Int) == 9) = false := by rw [beq_eq_false_iff_ne]; omega
    have k3 : decide ((32 : Int) ≤ (c : Int)) = false := decide_eq_false (by omega)
    clear hc hlt
    go_enter Tryz.func176, Tryz.ntmps176
    go_wp2_with (first
      | (go_at_call 131; refine HI2.out.mono ?_; rintro e w' ⟨rfl, rfl⟩)
      | (go_at_call 131; refine HI3.out.mono ?_; rintro e w' ⟨rfl, rfl⟩))
    go_ret2
    exact ⟨by show Ending.returned (.tuple #[.int .u8 (((n : Int) * 16 + (m : Int)) % 256), .int .i64 4]) = _; rw [hmod]; rfl, rfl⟩
  · rw [if_neg (by omega)]
    have k1 : ((c : Int) == 10) = false := by rw [beq_eq_false_iff_ne]; omega
    have k2 : ((c : Int) == 9) = false := by rw [beq_eq_false_iff_ne]; omega
    have k3 : decide ((32 : Int) ≤ (c : Int)) = true := decide_eq_true (by omega)
    have k4 : decide ((c : Int) ≤ 126) = false := decide_eq_false (by omega)
    clear hc hlt
    go_enter Tryz.func176, Tryz.ntmps176
    go_wp2_with (first
      | (go_at_call 131; refine HI2.out.mono ?_; rintro e w' ⟨rfl, rfl⟩)
      | (go_at_call 131; refine HI3.out.mono ?_; rintro e w' ⟨rfl, rfl⟩))
    go_ret2
    exact ⟨by show Ending.returned (.tuple #[.int .u8 (((n : Int) * 16 + (m : Int)) % 256), .int .i64 4]) = _; rw [hmod]; rfl, rfl⟩
end
section
open Go.RowKit Go.Sort

theorem unquoteL_plain {s : ByteArray} (h1 : 1 ≤ s.size) (h : s[0]'(by omega) ≠ 92) : unquoteL s.data.toList = if (s[0]'(by omega)).toNat < 32 ∨ 126 < (s[0]'(by omega)).toNat then (0, 0) else ((s[0]'(by omega)).toNat, 1) := by
  have e0 : s.data.toList.getD 0 0 = s[0]'(by omega) := byteD_at (by omega)
  have hl := size_len s
  cases hs : s.data.toList with
  | nil => rw [hs] at hl; simp at hl; omega
  | cons c t =>
    rw [hs] at e0
    have e0 : c = s[0]'(by omega) := by simpa using e0
    unfold unquoteL
    rw [e0]
    simp only [if_pos h]
theorem unquoteL_one {s : ByteArray} (h1 : s.size = 1) (h : s[0]'(by omega) = 92) : unquoteL s.data.toList = (0, 0) := by
  have e0 : s.data.toList.getD 0 0 = s[0]'(by omega) := byteD_at (by omega)
  have hl := size_len s
  match hs : s.data.toList with
  | [] => rw [hs] at hl; simp at hl; omega
  | [c] =>
    rw [hs] at e0
    have e0 : c = 92 := by rw [← h]; simpa using e0
    unfold unquoteL
    simp [e0]
  | a :: b :: t => rw [hs] at hl; simp at hl; omega
theorem unquoteL_esc {s : ByteArray} (h2 : 2 ≤ s.size) (h : s[0]'(by omega) = 92) : unquoteL s.data.toList = if s[1]'(by omega) = 34 ∨ s[1]'(by omega) = 92 then ((s[1]'(by omega)).toNat, 2) else if s[1]'(by omega) = 110 then (10, 2) else if s[1]'(by omega) = 116 then (9, 2) else if s[1]'(by omega) = 120 then unhexL s.data.toList else (0, 0) := by
  have e0 : s.data.toList.getD 0 0 = s[0]'(by omega) := byteD_at (by omega)
  have e1 : s.data.toList.getD 1 0 = s[1]'(by omega) := byteD_at (by omega)
  have hl := size_len s
  match hs : s.data.toList with
  | [] => rw [hs] at hl; simp at hl; omega
  | [c] => rw [hs] at hl; simp at hl; omega
  | c :: d :: t =>
    rw [hs] at e0 e1
    have e0 : c = 92 := by rw [← h]; simpa using e0
    have e1 : d = s[1]'(by omega) := by simpa using e1
    unfold unquoteL
    subst e0
    rw [← e1]
    simp

set_option maxHeartbeats 2000000 in
theorem vUnquote_any (s : ByteArray) (h1 : 1 ≤ s.size) (hs : s.size ≤ 9223372036854775807) (w : World) : Calls Tryz.prog 160 #[.string s] w fun e w' =>
    e = .returned (.tuple #[.int .u8 (unquoteL s.data.toList).1, .int .i64 (unquoteL s.data.toList).2]) ∧ w' = w := by
  have g0 : (0 : Int) < (s.size : Int) := by omega
  have hb0 : (s[0]'(by omega)).toNat < 256 := UInt8.toNat_lt _
  by_cases hc : s[0]'(by omega) = 92
  rotate_left
  · have hne : (s[0]'(by omega)).toNat ≠ 92 := fun e => hc (UInt8.toNat_inj.1 e)
    rw [unquoteL_plain h1 hc]
    have k0 : (((s[0]'(by omega)).toNat : Int) != 92) = true := by rw [bne_iff_ne]; omega
    by_cases hlo : (s[0]'(by omega)).toNat < 32
    · rw [if_pos (Or.inl hlo)]
      have k1 : decide (((s[0]'(by omega)).toNat : Int) < 32) = true := decide_eq_true (by omega)
      clear hlo hne hb0
      go_enter Tryz.func160, Tryz.ntmps160
      go_wp2
      go_ret2
      exact ⟨rfl, rfl⟩
    have k1 : decide (((s[0]'(by omega)).toNat : Int) < 32) = false := decide_eq_false (by omega)
    by_cases hhi : 126 < (s[0]'(by omega)).toNat
    · rw [if_pos (Or.inr hhi)]
      have k2 : decide ((126 : Int) < ((s[0]'(by omega)).toNat : Int)) = true := decide_eq_true (by omega)
      clear hlo hhi hne hb0
      go_enter Tryz.func160, Tryz.ntmps160
      go_wp2
      go_ret2
      exact ⟨rfl, rfl⟩
    have k2 : decide ((126 : Int) < ((s[0]'(by omega)).toNat : Int)) = false := decide_eq_false (by omega)
    rw [if_neg (by omega)]
    clear hlo hhi hne hb0
    go_enter Tryz.func160, Tryz.ntmps160
    go_wp2
    go_ret2
    exact ⟨rfl, rfl⟩
  have k0 : (((s[0]'(by omega)).toNat : Int) != 92) = false := by rw [hc]; rfl
  by_cases h2 : s.size < 2
  · rw [unquoteL_one (by omega) hc]
    have k1 : decide ((s.size : Int) < 2) = true := decide_eq_true (by omega)
    clear hb0
    go_enter Tryz.func160, Tryz.ntmps160
    go_wp2
    go_ret2
    exact ⟨rfl, rfl⟩
  have k1 : decide ((s.size : Int) < 2) = false := decide_eq_false (by omega)
  have g1 : (1 : Int) < (s.size : Int) := by omega
  rw [unquoteL_esc (by omega) hc]
  have HX := Lib.hid (vUnhex_any s hs w)
  have HV := Lib.hid (show (s[1]'(by omega)) = UInt8.ofNat (s[1]'(by omega)).toNat from by simp)
  have HN := Lib.hid (fun (n : UInt8) (h : (s[1]'(by omega)).toNat ≠ n.toNat) => show s[1]'(by omega) ≠ n from fun e => h (by rw [e]))
  by_cases d34 : (s[1]'(by omega)).toNat = 34
  · have e1 : s[1]'(by omega) = 34 := by rw [HV.out, d34]; rfl
    rw [if_pos (Or.inl e1)]
    have k34 : (((s[1]'(by omega)).toNat : Int) == 34) = true := by rw [d34]; rfl
    clear HV HN e1 d34
    clear hb0
    go_enter Tryz.func160, Tryz.ntmps160
    go_wp2_with (go_at_call 176; refine HX.out.mono ?_; rintro e w' ⟨rfl, rfl⟩)
    go_ret2
    exact ⟨rfl, rfl⟩
  by_cases d92 : (s[1]'(by omega)).toNat = 92
  · have e1 : s[1]'(by omega) = 92 := by rw [HV.out, d92]; rfl
    rw [if_pos (Or.inr e1)]
    have k34 : (((s[1]'(by omega)).toNat : Int) == 34) = false := by rw [beq_eq_false_iff_ne]; omega
    have k92 : (((s[1]'(by omega)).toNat : Int) == 92) = true := by rw [d92]; rfl
    clear HV HN e1 d34 d92
    clear hb0
    go_enter Tryz.func160, Tryz.ntmps160
    go_wp2_with (go_at_call 176; refine HX.out.mono ?_; rintro e w' ⟨rfl, rfl⟩)
    go_ret2
    exact ⟨rfl, rfl⟩
  by_cases d110 : (s[1]'(by omega)).toNat = 110
  · have e1 : s[1]'(by omega) = 110 := by rw [HV.out, d110]; rfl
    rw [if_neg (not_or.2 ⟨HN.out 34 d34, HN.out 92 d92⟩), if_pos e1]
    have k34 : (((s[1]'(by omega)).toNat : Int) == 34) = false := by rw [beq_eq_false_iff_ne]; omega
    have k92 : (((s[1]'(by omega)).toNat : Int) == 92) = false := by rw [beq_eq_false_iff_ne]; omega
    have k110 : (((s[1]'(by omega)).toNat : Int) == 110) = true := by rw [d110]; rfl
    clear HV HN e1 d34 d92 d110
    clear hb0
    go_enter Tryz.func160, Tryz.ntmps160
    go_wp2_with (go_at_call 176; refine HX.out.mono ?_; rintro e w' ⟨rfl, rfl⟩)
    go_ret2
    exact ⟨rfl, rfl⟩
  by_cases d116 : (s[1]'(by omega)).toNat = 116
  · have e1 : s[1]'(by omega) = 116 := by rw [HV.out, d116]; rfl
    rw [if_neg (not_or.2 ⟨HN.out 34 d34, HN.out 92 d92⟩), if_neg (HN.out 110 d110), if_pos e1]
    have k34 : (((s[1]'(by omega)).toNat : Int) == 34) = false := by rw [beq_eq_false_iff_ne]; omega
    have k92 : (((s[1]'(by omega)).toNat : Int) == 92) = false := by rw [beq_eq_false_iff_ne]; omega
    have k110 : (((s[1]'(by omega)).toNat : Int) == 110) = false := by rw [beq_eq_false_iff_ne]; omega
    have k116 : (((s[1]'(by omega)).toNat : Int) == 116) = true := by rw [d116]; rfl
    clear HV HN e1 d34 d92 d110 d116
    clear hb0
    go_enter Tryz.func160, Tryz.ntmps160
    go_wp2_with (go_at_call 176; refine HX.out.mono ?_; rintro e w' ⟨rfl, rfl⟩)
    go_ret2
    exact ⟨rfl, rfl⟩
  by_cases d120 : (s[1]'(by omega)).toNat = 120
  · have e1 : s[1]'(by omega) = 120 := by rw [HV.out, d120]; rfl
    rw [if_neg (not_or.2 ⟨HN.out 34 d34, HN.out 92 d92⟩), if_neg (HN.out 110 d110), if_neg (HN.out 116 d116), if_pos e1]
    have k34 : (((s[1]'(by omega)).toNat : Int) == 34) = false := by rw [beq_eq_false_iff_ne]; omega
    have k92 : (((s[1]'(by omega)).toNat : Int) == 92) = false := by rw [beq_eq_false_iff_ne]; omega
    have k110 : (((s[1]'(by omega)).toNat : Int) == 110) = false := by rw [beq_eq_false_iff_ne]; omega
    have k116 : (((s[1]'(by omega)).toNat : Int) == 116) = false := by rw [beq_eq_false_iff_ne]; omega
    have k120 : (((s[1]'(by omega)).toNat : Int) == 120) = true := by rw [d120]; rfl
    clear HV HN e1 d34 d92 d110 d116 d120
    clear hb0
    go_enter Tryz.func160, Tryz.ntmps160
    go_wp2_with (go_at_call 176; refine HX.out.mono ?_; rintro e w' ⟨rfl, rfl⟩)
    go_ret2
    exact ⟨rfl, rfl⟩
  rw [if_neg (not_or.2 ⟨HN.out 34 d34, HN.out 92 d92⟩), if_neg (HN.out 110 d110), if_neg (HN.out 116 d116), if_neg (HN.out 120 d120)]
  have k34 : (((s[1]'(by omega)).toNat : Int) == 34) = false := by rw [beq_eq_false_iff_ne]; omega
  have k92 : (((s[1]'(by omega)).toNat : Int) == 92) = false := by rw [beq_eq_false_iff_ne]; omega
  have k110 : (((s[1]'(by omega)).toNat : Int) == 110) = false := by rw [beq_eq_false_iff_ne]; omega
  have k116 : (((s[1]'(by omega)).toNat : Int) == 116) = false := by rw [beq_eq_false_iff_ne]; omega
  have k120 : (((s[1]'(by omega)).toNat : Int) == 120) = false := by rw [beq_eq_false_iff_ne]; omega
  clear HV HN d34 d92 d110 d116 d120
  clear hb0
  go_enter Tryz.func160, Tryz.ntmps160
  go_wp2_with (go_at_call 176; refine HX.out.mono ?_; rintro e w' ⟨rfl, rfl⟩)
  go_ret2
  exact ⟨rfl, rfl⟩
end
section
open Go.RowKit Go.Sort

theorem u8Info : (Tryz.prog.info? 5).map (fun i => (i.zero, i.size, i.bytes)) = some (some (.int .u8 0), 1, 1) := by kernel_rfl
def OwnBs (w : World) (base : Nat) (v : Value) (l : List UInt8) : Prop := w.ownsRow base 5 1 v l.length (Lib.byteCells l)
theorem OwnBs.nil (w : World) (base : Nat) : OwnBs w base (.slice none 0 0) [] := World.ownsRow_nil _ _ _ _
theorem appBs {w : World} {ops : Array Oper} {rest : List Oper} {o : Oper} {a : Act} {Q : Exit → Act → World → Prop} (hgd : o.guard = none) (s x : Operand)
    (ho : o.op = .call { callee := .builtin .append, args := #[s, x], argTypes := #[87, 87] })
    (base : Nat) (v : Value) (l : List UInt8) (hs : a.eval s = v) (hown : OwnBs w base v l)
    (gt m : Nat) (news : List UInt8) (hx : a.eval x = .slice (some ⟨gt, 0, none⟩) m m) (hm : news.length = m) (h1 : 0 < m) (hg : Row w gt 5 (Lib.byteCells news))
    (hn : l.length + news.length ≤ 1000000000) (hbase : base ≤ w.heap.size)
    (h : ∀ g cap w', OwnBs w' base (.slice (some ⟨g, 0, none⟩) (l ++ news).length cap) (l ++ news) → w.grownBy w' v.ownBlock → (v.ownBlock = some g ∨ g = w.heap.size) → wpList Tryz.prog ops Q rest (a.put o.dst (.slice (some ⟨g, 0, none⟩) (l ++ news).length cap)) w') :
    wpList Tryz.prog ops Q (o :: rest) a w := by
  subst hm
  obtain ⟨i0, hi0, hz0, hz1, hz2⟩ := info_parts u8Info
  have hlen : (Lib.byteCells news).length = news.length := by simp [Lib.byteCells]
  refine wpList_append_lies w hgd s x 87 ho base 5 i0 _ 1 1 Tryz.underlying87 hi0 hz0 hz1 hz2 rfl (by decide) v l.length (Lib.byteCells l) hs hown ⟨gt, 0, none⟩ news.length news.length (Lib.byteCells news) hx (by rw [hlen]; simp) ?_ ?_ h1 (by simp only [maxLen]; omega) (by omega) hbase w.heap.size rfl ?_
  · intro j u hu
    have := hg.cell j
    rw [hu] at this
    rw [Addr.add_lit, Nat.zero_add]
    exact this
  · intro u hu; obtain ⟨b, -, rfl⟩ := List.mem_map.1 hu; rfl
  · intro g cap w' k1 k2 k3 _
    have e : l.length + news.length = (l ++ news).length := List.length_append.symm
    rw [e] at k1 ⊢
    exact h g cap w' (by unfold OwnBs; rw [Lib.byteCells_append]; exact k1) k2 k3
theorem stepBs {w : World} {ops : Array Oper} {o : Oper} {a : Act} {K : Act → World → Prop} {Q : Exit → Act → World → Prop} {E : Prop} (hgd : o.guard = none) (s x : Operand)
    (ho : o.op = .call { callee := .builtin .append, args := #[s, x], argTypes := #[87, 87] })
    (base : Nat) (v : Value) (l : List UInt8) (hs : a.eval s = v) (hown : OwnBs w base v l)
    (gt m : Nat) (news : List UInt8) (hx : a.eval x = .slice (some ⟨gt, 0, none⟩) m m) (hm : news.length = m) (h1 : 0 < m) (hg : Row w gt 5 (Lib.byteCells news))
    (hn : l.length + news.length ≤ 1000000000) (hbase : base ≤ w.heap.size)
    (h : ∀ g cap w', OwnBs w' base (.slice (some ⟨g, 0, none⟩) (l ++ news).length cap) (l ++ news) → w.grownBy w' v.ownBlock → (v.ownBlock = some g ∨ g = w.heap.size) → K (a.put o.dst (.slice (some ⟨g, 0, none⟩) (l ++ news).length cap)) w') :
    if Region.wanted o (yielded ops a.tmps) = true then Oper.wp Tryz.prog o a w K Q else E := by
  subst hm
  obtain ⟨i0, hi0, hz0, hz1, hz2⟩ := info_parts u8Info
  have hlen : (Lib.byteCells news).length = news.length := by simp [Lib.byteCells]
  refine step_append_lies w hgd s x 87 ho base 5 i0 _ 1 1 Tryz.underlying87 hi0 hz0 hz1 hz2 rfl (by decide) v l.length (Lib.byteCells l) hs hown ⟨gt, 0, none⟩ news.length news.length (Lib.byteCells news) hx (by rw [hlen]; simp) ?_ ?_ h1 (by simp only [maxLen]; omega) (by omega) hbase w.heap.size rfl ?_
  · intro j u hu
    have := hg.cell j
    rw [hu] at this
    rw [Addr.add_lit, Nat.zero_add]
    exact this
  · intro u hu; obtain ⟨b, -, rfl⟩ := List.mem_map.1 hu; rfl
  · intro g cap w' k1 k2 k3 _
    have e : l.length + news.length = (l ++ news).length := List.length_append.symm
    rw [e] at k1 ⊢
    exact h g cap w' (by unfold OwnBs; rw [Lib.byteCells_append]; exact k1) k2 k3
end
section
open Go.RowKit Go.Sort

theorem takeOp {P : Program} {md : Region.Mode} {ops : Array Oper} {Q : Exit → Act → World → Prop} {S : World → Prop} {i : Nat} {oi : Oper} {v : Value} {fuel : Nat} {listed : Array Bool} {a : Act} {w : World} (d : Option Tmp) (hi : ops[i]? = some oi) (hd : oi.dst = d)
    (hs : Region.noSelect ops = true) (hf : Region.free md ops listed i = true) (hr : (Region.ready md ops listed).contains i = true)
    (hQ : ∀ c a w, Q (.panic c) (a.put d v) w → Q (.panic c) a w) (hy : YieldsIf P ops S oi v a) (hS : S w)
    (h : wpAnyH P md ops Q S fuel (listed.setIfInBounds i true) (a.put d v) w) : wpAnyH P md ops Q S (fuel + 1) listed a w := by
  subst hd
  exact wpAnyH_take hi hs hf hr hQ hy hS h
end
section
open Go.RowKit Go.Sort

section
variable {P : Program} {ops : Array Oper} {Q : Exit → Act → World → Prop} {md : Region.Mode} {S : World → Prop} {z : Nat}

def wpAnyZ (P : Program) (md : Region.Mode) (ops : Array Oper) (Q : Exit → Act → World → Prop) (S : World → Prop) (z : Nat) : Nat → Array Bool → Act → World → Prop
  | 0, listed, a, w => Region.ready md ops listed = [] ∧ Q .normal a w
  | fuel + 1, listed, a, w =>
    (Region.ready md ops listed = [] → Q .normal a w) ∧
    ∀ i ∈ Region.ready md ops listed, wpOp P ops Q i (fun a' w' => (i ≠ z → S w') ∧ wpAnyZ P md ops Q S z fuel (listed.setIfInBounds i true) a' w') a w

theorem wpAny_of_Z : ∀ (fuel : Nat) (listed : Array Bool) (a : Act) (w : World), wpAnyZ P md ops Q S z fuel listed a w → wpAny P md ops Q fuel listed a w
  | 0, _, _, _, h => h
  | fuel + 1, _, _, _, h => ⟨h.1, fun i hi => wpOp_mono (fun a' w' h' => wpAny_of_Z fuel _ a' w' h'.2) (h.2 i hi)⟩

def preds (md : Region.Mode) (ops : Array Oper) (k : Nat) : List Nat :=
  match ops[k]? with
  | some o => (o.after.toList.filter (Region.binds md)).map (·.on)
  | none => []
def reach (md : Region.Mode) (ops : Array Oper) (z : Nat) : Nat → List Nat
  | 0 => preds md ops z
  | n + 1 => reach md ops z n ++ (reach md ops z n).flatMap (preds md ops)
def lastB (md : Region.Mode) (ops : Array Oper) (z : Nat) : Bool := (List.range ops.size).all fun i => i == z || (reach md ops z 1).contains i
def Cl (md : Region.Mode) (ops : Array Oper) (listed : Array Bool) : Prop := ∀ k, listed.getD k false = true → ∀ j ∈ preds md ops k, listed.getD j false = true
def clB (md : Region.Mode) (ops : Array Oper) (listed : Array Bool) : Bool := (List.range listed.size).all fun k => !(listed.getD k false) || (preds md ops k).all fun j => listed.getD j false
theorem Cl.of {listed : Array Bool} (h : clB md ops listed = true) : Cl md ops listed := fun k hk j hj => by
  unfold clB at h
  simp only [List.all_eq_true, List.mem_range] at h
  have hsz : k < listed.size := by
    rcases Nat.lt_or_ge k listed.size with h' | h'
    · exact h'
    · simp [Array.getElem?_eq_none h'] at hk
  have h1 := h k hsz
  rw [hk] at h1
  simp only [Bool.not_true, Bool.false_or, List.all_eq_true] at h1
  exact h1 j hj
theorem ready_preds {listed : Array Bool} {j : Nat} (hr : j ∈ Region.ready md ops listed) : ∀ i ∈ preds md ops j, listed.getD i false = true := fun i hi => by
  obtain ⟨_, o, ho, hall⟩ := mem_ready.1 hr
  unfold preds at hi
  rw [ho] at hi
  simp only [List.mem_map, List.mem_filter, Array.mem_toList_iff] at hi
  obtain ⟨e, ⟨he, hb⟩, rfl⟩ := hi
  exact hall e he hb
theorem Cl.step {listed : Array Bool} {j : Nat} (h : Cl md ops listed) (hr : j ∈ Region.ready md ops listed) : Cl md ops (listed.setIfInBounds j true) := fun k hk i hi => by
  by_cases e : j = k
  · subst e; exact getD_set_true (ready_preds hr i hi)
  · rw [getD_set_ne false e] at hk
    exact getD_set_true (h k hk i hi)
theorem reach_listed {listed : Array Bool} (hc : Cl md ops listed) (hr : z ∈ Region.ready md ops listed) : ∀ n, ∀ i ∈ reach md ops z n, listed.getD i false = true
  | 0, i, hi => ready_preds hr i hi
  | n + 1, i, hi => by
    unfold reach at hi
    rw [List.mem_append, List.mem_flatMap] at hi
    rcases hi with hi | ⟨k, hk, hi⟩
    · exact reach_listed hc hr n i hi
    · exact hc k (reach_listed hc hr n k hk) i hi
theorem last_alone (hz : lastB md ops z = true) {listed : Array Bool} (hc : Cl md ops listed) {i : Nat} (hr : z ∈ Region.ready md ops listed) (hi : i ∈ Region.ready md ops listed) : i = z := by
  obtain ⟨hun, oi, hoi, _⟩ := mem_ready.1 hi
  unfold lastB at hz
  simp only [List.all_eq_true, List.mem_range] at hz
  have hsz : i < ops.size := by
    rcases Nat.lt_or_ge i ops.size with h | h
    · exact h
    · rw [Array.getElem?_eq_none h] at hoi; cases hoi
  have h1 := hz i hsz
  rw [Bool.or_eq_true] at h1
  rcases h1 with h1 | h1
  · simpa using h1
  · have h3 := reach_listed hc hr 1 i (by simpa using h1)
    rcases Nat.lt_or_ge i listed.size with h | h
    · simp [h] at hun h3
      rw [hun] at h3
      cases h3
    · simp [Array.getElem?_eq_none h] at h3

theorem wpAnyZ_first (hz : lastB md ops z = true) {i : Nat} {oi : Oper} {v : Value} (hiz : i ≠ z) (hi : ops[i]? = some oi) (hsel : ∀ (j : Nat) (o : Oper) cs b, ops[j]? = some o → o.op ≠ .select cs b)
    (hQ : ∀ c a w, Q (.panic c) (a.put oi.dst v) w → Q (.panic c) a w) :
    ∀ (fuel : Nat) (listed : Array Bool) (a : Act) (w : World), Cl md ops listed →
      (∀ j oj, ops[j]? = some oj → j ≠ i → listed.getD j true = false → (∀ e ∈ oj.after, Region.binds md e = true → e.on ≠ i) → oi.apart ops oj = true) →
      i ∈ Region.ready md ops listed → YieldsIf P ops S oi v a → S w →
      wpAnyZ P md ops Q S z fuel (listed.setIfInBounds i true) (a.put oi.dst v) w → wpAnyZ P md ops Q S z (fuel + 1) listed a w
  | 0, listed, a, w, _, _, hr, hy, hS, H => by
    refine ⟨fun h => (by rw [h] at hr; cases hr), fun j hj => ?_⟩
    by_cases hji : j = i
    · subst hji; exact hy.wpOp hi hS ⟨fun _ => hS, H⟩
    · have := ready_mono hj hji
      rw [H.1] at this
      cases this
  | fuel + 1, listed, a, w, hc, hfree, hr, hy, hS, H => by
    refine ⟨fun h => (by rw [h] at hr; cases hr), fun j hj => ?_⟩
    by_cases hji : j = i
    · subst hji; exact hy.wpOp hi hS ⟨fun _ => hS, H⟩
    · have hjz : j ≠ z := fun e => by subst e; exact hiz (last_alone hz hc hj hr)
      have h1 := H.2 j (ready_mono hj hji)
      obtain ⟨hjun, oj, hoj, hall⟩ := mem_ready.1 hj
      have hnot : ∀ e ∈ oj.after, Region.binds md e = true → e.on ≠ i := fun e he hb heq => by
        have h2 := hall e he hb
        have h0 := (mem_ready.1 hr).1
        rw [heq] at h2
        rcases Nat.lt_or_ge i listed.size with h' | h'
        · simp [h'] at h0 h2; rw [h0] at h2; cases h2
        · simp [Array.getElem?_eq_none h'] at h2
      have h2 := wpOp_putIf hoj (hfree j oj hoj hji hjun hnot) (fun cs b => hsel i oi cs b hi) (fun cs b => hsel j oj cs b hoj) hQ hy h1
      refine wpOp_mono (fun a' w' h3 => ⟨h3.2.1, wpAnyZ_first hz hiz hi hsel hQ fuel (listed.setIfInBounds j true) a' w' (hc.step hj) (fun k ok hk hki hun hno => ?_) (ready_mono hr (Ne.symm hji)) h3.1 (h3.2.1 hjz) ?_⟩) h2
      · refine hfree k ok hk hki ?_ hno
        by_cases hjk : j = k
        · subst hjk; exact hjun
        · rw [getD_set_ne true hjk] at hun; exact hun
      · rw [Array.setIfInBounds_comm _ _ hji]
        exact h3.2.2

theorem takeZ {i : Nat} {oi : Oper} {v : Value} {fuel : Nat} {listed : Array Bool} {a : Act} {w : World} (d : Option Tmp) (hi : ops[i]? = some oi) (hd : oi.dst = d)
    (hz : lastB md ops z = true) (hiz : i ≠ z) (hcl : clB md ops listed = true) (hs : Region.noSelect ops = true) (hf : Region.free md ops listed i = true) (hr : (Region.ready md ops listed).contains i = true)
    (hQ : ∀ c a w, Q (.panic c) (a.put d v) w → Q (.panic c) a w) (hy : YieldsIf P ops S oi v a) (hS : S w)
    (h : wpAnyZ P md ops Q S z fuel (listed.setIfInBounds i true) (a.put d v) w) : wpAnyZ P md ops Q S z (fuel + 1) listed a w := by
  subst hd
  exact wpAnyZ_first hz hiz hi (Region.noSelect_spec hs) hQ fuel listed a w (Cl.of hcl) (Region.free_spec hi hf) (by simpa using hr) hy hS h
theorem oneZ {i : Nat} {o : Oper} {fuel : Nat} {listed : Array Bool} {a : Act} {w : World} (hr : Region.ready md ops listed = [i]) (ho : ops[i]? = some o) (hiz : i ≠ z)
    (h : ∀ K' : Act → World → Prop, Shut (∀ a w, S w → (S w → wpAnyZ P md ops Q S z fuel (listed.setIfInBounds i true) a w) → K' a w) → if Region.wanted o (yielded ops a.tmps) = true then Oper.wp P o a w K' Q else K' (a.put o.dst undef) w) :
    wpAnyZ P md ops Q S z (fuel + 1) listed a w := by
  refine ⟨(fun h0 => by rw [hr] at h0; cases h0), fun j hj => ?_⟩
  rw [hr] at hj
  obtain rfl : j = i := by simpa using hj
  exact wpOp_step ho (fun K' hK => h K' (fun a w hS hW => hK a w ⟨fun _ => hS, hW hS⟩))
theorem lastZ {o : Oper} {fuel : Nat} {listed : Array Bool} {a : Act} {w : World} (hr : Region.ready md ops listed = [z]) (ho : ops[z]? = some o) (hd : Region.ready md ops (listed.setIfInBounds z true) = [])
    (h : ∀ K' : Act → World → Prop, Shut (∀ a w, Q .normal a w → K' a w) → if Region.wanted o (yielded ops a.tmps) = true then Oper.wp P o a w K' Q else K' (a.put o.dst undef) w) :
    wpAnyZ P md ops Q S z (fuel + 1) listed a w := by
  refine ⟨(fun h0 => by rw [hr] at h0; cases h0), fun j hj => ?_⟩
  rw [hr] at hj
  obtain rfl : j = z := by simpa using hj
  refine wpOp_step ho (fun K' hK => h K' (fun a w hQ => hK a w ⟨fun h => absurd rfl h, ?_⟩))
  cases fuel with
  | zero => exact ⟨hd, hQ⟩
  | succ fuel => exact ⟨fun _ => hQ, by rw [hd]; simp⟩
theorem regionZ {id : Nat} {a : Act} {w : World} (z : Nat) (hm : P.follows .mixedOrders = true) (hS : S w.drew)
    (h : S w.drew → wpAnyZ P .any ops Q S z ops.size (Array.replicate ops.size false) a w.drew) : (Code.region id ops true).wp P Q a w :=
  wp_region_any hm (wpAny_of_Z _ _ _ _ (h hS))
end
end
section
open Go.RowKit Go.Sort

theorem escB_cell (c : UInt8) (h : c.toNat = 34 ∨ c.toNat = 92) : escB c = [92, c] := by
  unfold escB
  rw [if_pos]
  rcases h with h | h
  · exact Or.inl (UInt8.toNat_inj.1 h)
  · exact Or.inr (UInt8.toNat_inj.1 h)
theorem ne_of_toNat {c : UInt8} {n : UInt8} (h : c.toNat ≠ n.toNat) : c ≠ n := fun e => h (by rw [e])
theorem escB_nl (c : UInt8) (h : c.toNat = 10) : escB c = [92, 110] := by
  obtain rfl : c = 10 := UInt8.toNat_inj.1 h
  rfl
theorem escB_tab (c : UInt8) (h : c.toNat = 9) : escB c = [92, 116] := by
  obtain rfl : c = 9 := UInt8.toNat_inj.1 h
  rfl
theorem escB_plain (c : UInt8) (h1 : c.toNat ≠ 34) (h2 : c.toNat ≠ 92) (h3 : 32 ≤ c.toNat ∧ c.toNat ≤ 126) : escB c = [c] := by
  unfold escB
  rw [if_neg (not_or.2 ⟨ne_of_toNat h1, ne_of_toNat h2⟩), if_neg (ne_of_toNat (n := 10) (by show c.toNat ≠ 10; omega)), if_neg (ne_of_toNat (n := 9) (by show c.toNat ≠ 9; omega)), if_pos h3]
theorem escB_hex (c : UInt8) (h2 : c.toNat ≠ 10) (h3 : c.toNat ≠ 9) (h4 : ¬ (32 ≤ c.toNat ∧ c.toNat ≤ 126)) : escB c = [92, 120, hexD (c.toNat / 16), hexD (c.toNat % 16)] := by
  unfold escB
  rw [if_neg (not_or.2 ⟨ne_of_toNat (n := 34) (by show c.toNat ≠ 34; omega), ne_of_toNat (n := 92) (by show c.toNat ≠ 92; omega)⟩), if_neg (ne_of_toNat h2), if_neg (ne_of_toNat h3), if_neg h4]
theorem u8_mod : ∀ i : Fin 256, bits BinOp.and IntKind.u8 (i.val : Int) 15 = ((i.val % 16 : Nat) : Int) := by decide +kernel
theorem hexD_at : ∀ i : Fin 16, ((⟨#[48, 49, 50, 51, 52, 53, 54, 55, 56, 57, 97, 98, 99, 100, 101, 102]⟩ : ByteArray)[i.val]'i.isLt) = hexD i.val := by decide +kernel
theorem hexAt {n : Nat} (h : n < 16) {z : Int} (hz : z = n) (p : z.toNat < (⟨#[48, 49, 50, 51, 52, 53, 54, 55, 56, 57, 97, 98, 99, 100, 101, 102]⟩ : ByteArray).size) :
    ((⟨#[48, 49, 50, 51, 52, 53, 54, 55, 56, 57, 97, 98, 99, 100, 101, 102]⟩ : ByteArray)[z.toNat]'p).toNat = (hexD n).toNat := by
  subst hz
  exact congrArg UInt8.toNat (hexD_at ⟨n, h⟩)
theorem escL_take (s : ByteArray) (k : Nat) (h : k < s.size) : escL (s.data.toList.take (k + 1)) = escL (s.data.toList.take k) ++ escB s[k] := by
  have h' : k < s.data.toList.length := by rw [size_len]; exact h
  rw [List.take_succ_eq_append_getElem h', escL_snoc]
  rfl

set_option maxHeartbeats 8000000 in
theorem vQuote_any (s : ByteArray) (hs : s.size ≤ 1000000) (w : World) : Calls Tryz.prog 75 #[.string s] w fun e w' => e = .returned (.string (toB (quoteL s.data.toList))) ∧ Below w.heap.size w w' := by
  have HLN := Lib.hid (size_len s)
  have HLE : Hid (∀ k, k ≤ s.size → (34 :: escL (s.data.toList.take k)).length ≤ 4000001) := fun k hk => by
    have h1 := escL_len (s.data.toList.take k)
    have h2 : (s.data.toList.take k).length ≤ k := List.length_take_le _ _
    rw [List.length_cons]; omega
  have w2 : IntKind.i64.wrap ((s.size : Int) + 2) = ((s.size + 2 : Nat) : Int) := by rw [IntWalk.i64_in _ (by omega)]; omega
  have w3 : wrap64 ((s.size : Int) + 2) = ((s.size + 2 : Nat) : Int) := by unfold wrap64; omega
  obtain ⟨i0, hi0, hz0, hz1, hz2⟩ := info_parts u8Info
  go_enter Tryz.func75, Tryz.ntmps75
  go_wp2_with (first
    | (at_make; refine wpList_make_own _ rfl _ _ 87 rfl w.heap.size 5 i0 (.int .u8 0) 1 Tryz.underlying87 hi0 hz0 hz1 .i64 .i64 _ (s.size + 2) rfl rfl (by first | exact w2 | exact w3 | rfl) (by rw [hz2]; omega) (by simp only [maxLen]; omega) (Nat.le_refl _) ?_; intro w1 hown1 hg1; have HO1 : Hid (OwnBs w1 w.heap.size (.slice (some ⟨w.heap.size, 0, none⟩) 0 (s.size + 2)) []) := (hown1); have HB1 : Hid (Below w.heap.size w w1) := ((Below.refl w.heap.size w).grown hg1 (Nat.le_refl _) (fun j hj => by cases hj)); have HZ1 := Lib.hid hg1.size; clear hown1 hg1)
    | (at_builtin; go_loud (refine appBs rfl (.tmp 10) (.tmp 11) rfl w.heap.size _ [] rfl (HO1.out.alloc _) w1.heap.size 1 [34] rfl rfl (by decide) (Row.new w1 5 (Lib.byteCells [34])) (by decide) (by have := HZ1.out; simp; omega) ?_); intro ga ca wa hown2 hg2 hat2; go_loud (have HO2 := Lib.hid hown2); go_loud (have HB2 : Hid (Below w.heap.size w wa) := ((HB1.out.alloc HB1.out.size _).grown hg2 (by have := HZ1.out; simp; omega) (fun j hj => own_base HO1.out hj))); go_loud (clear hown2 hg2 hat2)))
  go_loopw [3, 15] (fun vo c wx => ∃ (k g cap : Nat), k ≤ s.size ∧ c = .int .i64 k ∧ vo = .slice (some ⟨g, 0, none⟩) (34 :: escL (s.data.toList.take k)).length cap ∧ OwnBs wx w.heap.size vo (34 :: escL (s.data.toList.take k)) ∧ Below w.heap.size w wx) (fun _ c _ => s.size - (intOf c).toNat)
  case atStart => exact ⟨0, ga, ca, Nat.zero_le _, rfl, rfl, HO2.out, HB2.out⟩
  case round =>
    obtain ⟨k, g, cap, hk, rfl, rfl, ho, hbr⟩ := hrel
    have HO := Lib.hid ho
    have HB := Lib.hid hbr
    clear ho hbr
    obtain ⟨L, hL⟩ : ∃ L, L = 34 :: escL (s.data.toList.take k) := ⟨_, rfl⟩
    have HLL : Hid (L.length ≤ 4000001) := by show _ ≤ _; rw [hL]; exact HLE.out k hk
    rw [← hL] at HO
    rw [← hL]
    have HL := Lib.hid hL
    clear hL
    by_cases hkl : k < s.size
    · have g1 : (0 : Int) ≤ (k : Int) := by omega
      have g2 : (k : Int) < (s.size : Int) := by omega
      have hw1 : IntKind.i64.wrap ((k : Int) + 1) = ((k + 1 : Nat) : Int) := by rw [IntWalk.i64_in _ (by omega)]; omega
      have hcl : (s[k]'hkl).toNat < 256 := UInt8.toNat_lt _
      have HES : Hid (∀ m, escB (s[k]'hkl) = m → 34 :: escL (s.data.toList.take (k + 1)) = L ++ m) := fun m hm => by
        rw [escL_take s k hkl, hm, HL.out, List.cons_append]
      have HZ := Lib.hid HB.out.size
      have hcase : (s[k]'hkl).toNat = 34 ∨ (s[k]'hkl).toNat = 92 ∨ (s[k]'hkl).toNat = 10 ∨ (s[k]'hkl).toNat = 9 ∨ ((s[k]'hkl).toNat ≠ 34 ∧ (s[k]'hkl).toNat ≠ 92 ∧ 32 ≤ (s[k]'hkl).toNat ∧ (s[k]'hkl).toNat ≤ 126) ∨ ((s[k]'hkl).toNat ≠ 10 ∧ (s[k]'hkl).toNat ≠ 9 ∧ (s[k]'hkl).toNat < 32) ∨ ((s[k]'hkl).toNat ≠ 10 ∧ (s[k]'hkl).toNat ≠ 9 ∧ 126 < (s[k]'hkl).toNat) := by omega
      rcases hcase with hcc | hcc | hcc | hcc | hcc | hcc | hcc
      · have HS2 := Lib.hid (HES.out [92, s[k]'hkl] (escB_cell _ (Or.inl hcc)))
        have f0 : ((((s[k]'hkl).toNat : Nat) : Int) == 34) = true := by rw [beq_iff_eq]; omega
        clear hcc hcl HES
        go_wp2_with (at_builtin; refine appBs rfl (.tmp 37) (.tmp 39) rfl w.heap.size _ L rfl (HO.out.alloc _) wr.heap.size 2 [92, s[k]'hkl] rfl rfl (by decide) (Row.new wr 5 (Lib.byteCells [92, s[k]'hkl])) (by have := HLL.out; simp; omega) (by have := HZ.out; simp; omega) ?_; intro gn cn wn hown3 hg3 hat3; have HOn := Lib.hid hown3; have HBn : Hid (Below w.heap.size w wn) := ((HB.out.alloc HZ.out _).grown hg3 (by have := HZ.out; simp; omega) (fun j hj => own_base HO.out hj)); clear hown3 hg3 hat3)
        go_roundw
        case rel => exact ⟨k + 1, gn, cn, hkl, by go_num, by rw [HS2.out]; simp, by rw [HS2.out]; have h := HOn.out; simp only [List.length_append, List.length_cons, List.length_nil, Nat.zero_add, Nat.reduceAdd] at h; exact h, HBn.out⟩
        case measure => simp [intOf]; omega
      · have HS2 := Lib.hid (HES.out [92, s[k]'hkl] (escB_cell _ (Or.inr hcc)))
        have f0 : ((((s[k]'hkl).toNat : Nat) : Int) == 34) = false := by rw [beq_eq_false_iff_ne]; omega
        have f1 : ((((s[k]'hkl).toNat : Nat) : Int) == 92) = true := by rw [beq_iff_eq]; omega
        clear hcc hcl HES
        go_wp2_with (at_builtin; refine appBs rfl (.tmp 37) (.tmp 39) rfl w.heap.size _ L rfl (HO.out.alloc _) wr.heap.size 2 [92, s[k]'hkl] rfl rfl (by decide) (Row.new wr 5 (Lib.byteCells [92, s[k]'hkl])) (by have := HLL.out; simp; omega) (by have := HZ.out; simp; omega) ?_; intro gn cn wn hown3 hg3 hat3; have HOn := Lib.hid hown3; have HBn : Hid (Below w.heap.size w wn) := ((HB.out.alloc HZ.out _).grown hg3 (by have := HZ.out; simp; omega) (fun j hj => own_base HO.out hj)); clear hown3 hg3 hat3)
        go_roundw
        case rel => exact ⟨k + 1, gn, cn, hkl, by go_num, by rw [HS2.out]; simp, by rw [HS2.out]; have h := HOn.out; simp only [List.length_append, List.length_cons, List.length_nil, Nat.zero_add, Nat.reduceAdd] at h; exact h, HBn.out⟩
        case measure => simp [intOf]; omega
      · have HS2 := Lib.hid (HES.out [92, 110] (escB_nl _ hcc))
        have f0 : ((((s[k]'hkl).toNat : Nat) : Int) == 34) = false := by rw [beq_eq_false_iff_ne]; omega
        have f1 : ((((s[k]'hkl).toNat : Nat) : Int) == 92) = false := by rw [beq_eq_false_iff_ne]; omega
        have f2 : ((((s[k]'hkl).toNat : Nat) : Int) == 10) = true := by rw [beq_iff_eq]; omega
        clear hcc hcl HES
        go_wp2_with (at_builtin; refine appBs rfl (.tmp 44) (.tmp 45) rfl w.heap.size _ L rfl (HO.out.alloc _) wr.heap.size 2 [92, 110] rfl rfl (by decide) (Row.new wr 5 (Lib.byteCells [92, 110])) (by have := HLL.out; simp; omega) (by have := HZ.out; simp; omega) ?_; intro gn cn wn hown3 hg3 hat3; have HOn := Lib.hid hown3; have HBn : Hid (Below w.heap.size w wn) := ((HB.out.alloc HZ.out _).grown hg3 (by have := HZ.out; simp; omega) (fun j hj => own_base HO.out hj)); clear hown3 hg3 hat3)
        go_roundw
        case rel => exact ⟨k + 1, gn, cn, hkl, by go_num, by rw [HS2.out]; simp, by rw [HS2.out]; have h := HOn.out; simp only [List.length_append, List.length_cons, List.length_nil, Nat.zero_add, Nat.reduceAdd] at h; exact h, HBn.out⟩
        case measure => simp [intOf]; omega
      · have HS2 := Lib.hid (HES.out [92, 116] (escB_tab _ hcc))
        have f0 : ((((s[k]'hkl).toNat : Nat) : Int) == 34) = false := by rw [beq_eq_false_iff_ne]; omega
        have f1 : ((((s[k]'hkl).toNat : Nat) : Int) == 92) = false := by rw [beq_eq_false_iff_ne]; omega
        have f2 : ((((s[k]'hkl).toNat : Nat) : Int) == 10) = false := by rw [beq_eq_false_iff_ne]; omega
        have f3 : ((((s[k]'hkl).toNat : Nat) : Int) == 9) = true := by rw [beq_iff_eq]; omega
        clear hcc hcl HES
        go_wp2_with (at_builtin; refine appBs rfl (.tmp 50) (.tmp 51) rfl w.heap.size _ L rfl (HO.out.alloc _) wr.heap.size 2 [92, 116] rfl rfl (by decide) (Row.new wr 5 (Lib.byteCells [92, 116])) (by have := HLL.out; simp; omega) (by have := HZ.out; simp; omega) ?_; intro gn cn wn hown3 hg3 hat3; have HOn := Lib.hid hown3; have HBn : Hid (Below w.heap.size w wn) := ((HB.out.alloc HZ.out _).grown hg3 (by have := HZ.out; simp; omega) (fun j hj => own_base HO.out hj)); clear hown3 hg3 hat3)
        go_roundw
        case rel => exact ⟨k + 1, gn, cn, hkl, by go_num, by rw [HS2.out]; simp, by rw [HS2.out]; have h := HOn.out; simp only [List.length_append, List.length_cons, List.length_nil, Nat.zero_add, Nat.reduceAdd] at h; exact h, HBn.out⟩
        case measure => simp [intOf]; omega
      · have HS2 := Lib.hid (HES.out [s[k]'hkl] (escB_plain _ hcc.1 hcc.2.1 hcc.2.2))
        have f0 : ((((s[k]'hkl).toNat : Nat) : Int) == 34) = false := by rw [beq_eq_false_iff_ne]; omega
        have f1 : ((((s[k]'hkl).toNat : Nat) : Int) == 92) = false := by rw [beq_eq_false_iff_ne]; omega
        have f2 : ((((s[k]'hkl).toNat : Nat) : Int) == 10) = false := by rw [beq_eq_false_iff_ne]; omega
        have f3 : ((((s[k]'hkl).toNat : Nat) : Int) == 9) = false := by rw [beq_eq_false_iff_ne]; omega
        have f4 : decide ((32 : Int) ≤ (((s[k]'hkl).toNat : Nat) : Int)) = true := decide_eq_true (by omega)
        have f5 : decide ((((s[k]'hkl).toNat : Nat) : Int) ≤ 126) = true := decide_eq_true (by omega)
        clear hcc hcl HES
        go_wp2_with (at_builtin; refine appBs rfl (.tmp 60) (.tmp 62) rfl w.heap.size _ L rfl (HO.out.alloc _) wr.heap.size 1 [s[k]'hkl] rfl rfl (by decide) (Row.new wr 5 (Lib.byteCells [s[k]'hkl])) (by have := HLL.out; simp; omega) (by have := HZ.out; simp; omega) ?_; intro gn cn wn hown3 hg3 hat3; have HOn := Lib.hid hown3; have HBn : Hid (Below w.heap.size w wn) := ((HB.out.alloc HZ.out _).grown hg3 (by have := HZ.out; simp; omega) (fun j hj => own_base HO.out hj)); clear hown3 hg3 hat3)
        go_roundw
        case rel => exact ⟨k + 1, gn, cn, hkl, by go_num, by rw [HS2.out]; simp, by rw [HS2.out]; have h := HOn.out; simp only [List.length_append, List.length_cons, List.length_nil, Nat.zero_add] at h; exact h, HBn.out⟩
        case measure => simp [intOf]; omega
      · have HS2 := Lib.hid (HES.out [92, 120, hexD ((s[k]'hkl).toNat / 16), hexD ((s[k]'hkl).toNat % 16)] (escB_hex _ hcc.1 hcc.2.1 (by omega)))
        have f0 : ((((s[k]'hkl).toNat : Nat) : Int) == 34) = false := by rw [beq_eq_false_iff_ne]; omega
        have f1 : ((((s[k]'hkl).toNat : Nat) : Int) == 92) = false := by rw [beq_eq_false_iff_ne]; omega
        have f2 : ((((s[k]'hkl).toNat : Nat) : Int) == 10) = false := by rw [beq_eq_false_iff_ne]; omega
        have f3 : ((((s[k]'hkl).toNat : Nat) : Int) == 9) = false := by rw [beq_eq_false_iff_ne]; omega
        have f4 : decide ((32 : Int) ≤ (((s[k]'hkl).toNat : Nat) : Int)) = false := decide_eq_false (by omega)
        clear hcc
        have k1 : (0 : Int) ≤ (((s[k]'hkl).toNat : Nat) : Int) / 16 := by omega
        have k2 : (((s[k]'hkl).toNat : Nat) : Int) / 16 < 16 := by omega
        have k3 : (0 : Int) ≤ (((s[k]'hkl).toNat : Nat) : Int) % 16 := by omega
        have k4 : (((s[k]'hkl).toNat : Nat) : Int) % 16 < 16 := by omega
        have k5 : bits BinOp.and IntKind.u8 (((s[k]'hkl).toNat : Nat) : Int) 15 = (((s[k]'hkl).toNat : Nat) : Int) % 16 := by have h := u8_mod ⟨_, hcl⟩; rw [Int.natCast_emod] at h; exact h
        have k6 := fun p => hexAt (n := (s[k]'hkl).toNat / 16) (by omega) (z := (((s[k]'hkl).toNat : Nat) : Int) / 16) (by omega) p
        have k7 := fun p => hexAt (n := (s[k]'hkl).toNat % 16) (by omega) (z := (((s[k]'hkl).toNat : Nat) : Int) % 16) (by omega) p
        go_upto_region 7 with (fail)
        refine wp_region_held_drew (S := (fun _ => True)) (by kernel_rfl) trivial (fun hHeld => ?_)
        refine takeOp (i := 0) (v := ?_) (some 21) rfl rfl (by kernel_rfl) (by kernel_rfl) (by kernel_rfl) (fun _ _ _ h => h) (Or.inl ⟨by rfl, ?_⟩) (by assumption) ?_
        rotate_left 1
        · (intro w0 hSw; (try dsimp only at hSw); go_simp; try (with_reducible rfl))
        try simp only [Act.put, List.setIfInBounds_toArray, List.set_cons_succ, List.set_cons_zero]
        refine takeOp (i := 1) (v := ?_) (some 22) rfl rfl (by kernel_rfl) (by kernel_rfl) (by kernel_rfl) (fun _ _ _ h => h) (Or.inl ⟨by rfl, ?_⟩) (by assumption) ?_
        rotate_left 1
        · (intro w0 hSw; (try dsimp only at hSw); go_simp; try (with_reducible rfl))
        try simp only [Act.put, List.setIfInBounds_toArray, List.set_cons_succ, List.set_cons_zero]
        refine takeOp (i := 2) (v := ?_) (some 23) rfl rfl (by kernel_rfl) (by kernel_rfl) (by kernel_rfl) (fun _ _ _ h => h) (Or.inl ⟨by rfl, ?_⟩) (by assumption) ?_
        rotate_left 1
        · (intro w0 hSw; (try dsimp only at hSw); go_simp; try (with_reducible rfl))
        try simp only [Act.put, List.setIfInBounds_toArray, List.set_cons_succ, List.set_cons_zero]
        refine takeOp (i := 3) (v := ?_) (some 24) rfl rfl (by kernel_rfl) (by kernel_rfl) (by kernel_rfl) (fun _ _ _ h => h) (Or.inl ⟨by rfl, ?_⟩) (by assumption) ?_
        rotate_left 1
        · (intro w0 hSw; (try dsimp only at hSw); go_simp; try (with_reducible rfl))
        try simp only [Act.put, List.setIfInBounds_toArray, List.set_cons_succ, List.set_cons_zero]
        refine takeOp (i := 4) (v := ?_) (some 25) rfl rfl (by kernel_rfl) (by kernel_rfl) (by kernel_rfl) (fun _ _ _ h => h) (Or.inl ⟨by rfl, ?_⟩) (by assumption) ?_
        rotate_left 1
        · (intro w0 hSw; (try dsimp only at hSw); go_simp; try (with_reducible rfl))
        try simp only [Act.put, List.setIfInBounds_toArray, List.set_cons_succ, List.set_cons_zero]
        refine takeOp (i := 5) (v := ?_) (some 26) rfl rfl (by kernel_rfl) (by kernel_rfl) (by kernel_rfl) (fun _ _ _ h => h) (Or.inl ⟨by rfl, ?_⟩) (by assumption) ?_
        rotate_left 1
        · (intro w0 hSw; (try dsimp only at hSw); go_simp; try (with_reducible rfl))
        try simp only [Act.put, List.setIfInBounds_toArray, List.set_cons_succ, List.set_cons_zero]
        refine takeOp (i := 6) (v := ?_) (some 27) rfl rfl (by kernel_rfl) (by kernel_rfl) (by kernel_rfl) (fun _ _ _ h => h) (Or.inl ⟨by rfl, ?_⟩) (by assumption) ?_
        rotate_left 1
        · (intro w0 hSw; (try dsimp only at hSw); go_simp; try (with_reducible rfl))
        try simp only [Act.put, List.setIfInBounds_toArray, List.set_cons_succ, List.set_cons_zero]
        refine wpAnyH_ready (rs := [7]) (by kernel_rfl) (by simp) ?_
        refine AllReadyH.cons rfl (fun K hK => ?_) AllReadyH.nil
        go_simp
        refine hK.out _ _ trivial (fun hHeld => ?_)
        clear hK K
        try simp only [Act.put, List.setIfInBounds_toArray, List.set_cons_succ, List.set_cons_zero]
        refine wpAnyH_ready (rs := [8]) (by kernel_rfl) (by simp) ?_
        refine AllReadyH.cons rfl (fun K hK => ?_) AllReadyH.nil
        refine stepBs (w := (wr.alloc (.cells #[.int .u8 92, .int .u8 120, .int .u8 (hexD ((s[k]'hkl).toNat / 16)).toNat, .int .u8 (hexD ((s[k]'hkl).toNat % 16)).toNat] 5)).drew) rfl (.tmp 21) (.tmp 28) rfl w.heap.size _ L rfl ((HO.out.alloc _)) wr.heap.size 4 [92, 120, hexD ((s[k]'hkl).toNat / 16), hexD ((s[k]'hkl).toNat % 16)] rfl rfl (by decide) (Row.new wr 5 (Lib.byteCells [92, 120, hexD ((s[k]'hkl).toNat / 16), hexD ((s[k]'hkl).toNat % 16)])) (by have := HLL.out; simp; omega) (by have := HZ.out; simp; omega) ?_
        intro gn cn wn hown3 hg3 hat3
        have HOn := Lib.hid hown3
        have HBn : Hid (Below w.heap.size w wn) := (((HB.out.alloc HZ.out _).drew).grown hg3 (by have := HZ.out; simp; omega) (fun j hj => own_base HO.out hj))
        clear hown3 hg3 hat3
        refine hK.out _ _ trivial (fun hHeld => ?_)
        clear hK K
        try simp only [Act.put]
        try simp only [List.setIfInBounds_toArray]
        try simp only [List.set_cons_succ]
        try simp only [List.set_cons_zero]
        refine takeOp (i := 9) (v := ?_) (some 3) rfl rfl (by kernel_rfl) (by kernel_rfl) (by kernel_rfl) (fun _ _ _ h => h) (Or.inl ⟨by rfl, ?_⟩) (by assumption) ?_
        rotate_left 1
        · (intro w0 hSw; (try dsimp only at hSw); go_simp; try (with_reducible rfl))
        try simp only [Act.put]
        try simp only [List.setIfInBounds_toArray]
        try simp only [List.set_cons_succ]
        try simp only [List.set_cons_zero]
        refine wpAnyH_done (by kernel_rfl) ?_ _
        go_wp2
        go_roundw
        case rel => exact ⟨k + 1, gn, cn, hkl, by go_num, by rw [HS2.out]; simp, by rw [HS2.out]; have h := HOn.out; simp only [List.length_append, List.length_cons, List.length_nil, Nat.zero_add, Nat.reduceAdd] at h; exact h, HBn.out⟩
        case measure => simp [intOf]; omega
      · have HS2 := Lib.hid (HES.out [92, 120, hexD ((s[k]'hkl).toNat / 16), hexD ((s[k]'hkl).toNat % 16)] (escB_hex _ hcc.1 hcc.2.1 (by omega)))
        have f0 : ((((s[k]'hkl).toNat : Nat) : Int) == 34) = false := by rw [beq_eq_false_iff_ne]; omega
        have f1 : ((((s[k]'hkl).toNat : Nat) : Int) == 92) = false := by rw [beq_eq_false_iff_ne]; omega
        have f2 : ((((s[k]'hkl).toNat : Nat) : Int) == 10) = false := by rw [beq_eq_false_iff_ne]; omega
        have f3 : ((((s[k]'hkl).toNat : Nat) : Int) == 9) = false := by rw [beq_eq_false_iff_ne]; omega
        have f4 : decide ((32 : Int) ≤ (((s[k]'hkl).toNat : Nat) : Int)) = true := decide_eq_true (by omega)
        have f5 : decide ((((s[k]'hkl).toNat : Nat) : Int) ≤ 126) = false := decide_eq_false (by omega)
        clear hcc
        have k1 : (0 : Int) ≤ (((s[k]'hkl).toNat : Nat) : Int) / 16 := by omega
        have k2 : (((s[k]'hkl).toNat : Nat) : Int) / 16 < 16 := by omega
        have k3 : (0 : Int) ≤ (((s[k]'hkl).toNat : Nat) : Int) % 16 := by omega
        have k4 : (((s[k]'hkl).toNat : Nat) : Int) % 16 < 16 := by omega
        have k5 : bits BinOp.and IntKind.u8 (((s[k]'hkl).toNat : Nat) : Int) 15 = (((s[k]'hkl).toNat : Nat) : Int) % 16 := by have h := u8_mod ⟨_, hcl⟩; rw [Int.natCast_emod] at h; exact h
        have k6 := fun p => hexAt (n := (s[k]'hkl).toNat / 16) (by omega) (z := (((s[k]'hkl).toNat : Nat) : Int) / 16) (by omega) p
        have k7 := fun p => hexAt (n := (s[k]'hkl).toNat % 16) (by omega) (z := (((s[k]'hkl).toNat : Nat) : Int) % 16) (by omega) p
        go_upto_region 7 with (fail)
        refine wp_region_held_drew (S := (fun _ => True)) (by kernel_rfl) trivial (fun hHeld => ?_)
        refine takeOp (i := 0) (v := ?_) (some 21) rfl rfl (by kernel_rfl) (by kernel_rfl) (by kernel_rfl) (fun _ _ _ h => h) (Or.inl ⟨by rfl, ?_⟩) (by assumption) ?_
        rotate_left 1
        · (intro w0 hSw; (try dsimp only at hSw); go_simp; try (with_reducible rfl))
        try simp only [Act.put, List.setIfInBounds_toArray, List.set_cons_succ, List.set_cons_zero]
        refine takeOp (i := 1) (v := ?_) (some 22) rfl rfl (by kernel_rfl) (by kernel_rfl) (by kernel_rfl) (fun _ _ _ h => h) (Or.inl ⟨by rfl, ?_⟩) (by assumption) ?_
        rotate_left 1
        · (intro w0 hSw; (try dsimp only at hSw); go_simp; try (with_reducible rfl))
        try simp only [Act.put, List.setIfInBounds_toArray, List.set_cons_succ, List.set_cons_zero]
        refine takeOp (i := 2) (v := ?_) (some 23) rfl rfl (by kernel_rfl) (by kernel_rfl) (by kernel_rfl) (fun _ _ _ h => h) (Or.inl ⟨by rfl, ?_⟩) (by assumption) ?_
        rotate_left 1
        · (intro w0 hSw; (try dsimp only at hSw); go_simp; try (with_reducible rfl))
        try simp only [Act.put, List.setIfInBounds_toArray, List.set_cons_succ, List.set_cons_zero]
        refine takeOp (i := 3) (v := ?_) (some 24) rfl rfl (by kernel_rfl) (by kernel_rfl) (by kernel_rfl) (fun _ _ _ h => h) (Or.inl ⟨by rfl, ?_⟩) (by assumption) ?_
        rotate_left 1
        · (intro w0 hSw; (try dsimp only at hSw); go_simp; try (with_reducible rfl))
        try simp only [Act.put, List.setIfInBounds_toArray, List.set_cons_succ, List.set_cons_zero]
        refine takeOp (i := 4) (v := ?_) (some 25) rfl rfl (by kernel_rfl) (by kernel_rfl) (by kernel_rfl) (fun _ _ _ h => h) (Or.inl ⟨by rfl, ?_⟩) (by assumption) ?_
        rotate_left 1
        · (intro w0 hSw; (try dsimp only at hSw); go_simp; try (with_reducible rfl))
        try simp only [Act.put, List.setIfInBounds_toArray, List.set_cons_succ, List.set_cons_zero]
        refine takeOp (i := 5) (v := ?_) (some 26) rfl rfl (by kernel_rfl) (by kernel_rfl) (by kernel_rfl) (fun _ _ _ h => h) (Or.inl ⟨by rfl, ?_⟩) (by assumption) ?_
        rotate_left 1
        · (intro w0 hSw; (try dsimp only at hSw); go_simp; try (with_reducible rfl))
        try simp only [Act.put, List.setIfInBounds_toArray, List.set_cons_succ, List.set_cons_zero]
        refine takeOp (i := 6) (v := ?_) (some 27) rfl rfl (by kernel_rfl) (by kernel_rfl) (by kernel_rfl) (fun _ _ _ h => h) (Or.inl ⟨by rfl, ?_⟩) (by assumption) ?_
        rotate_left 1
        · (intro w0 hSw; (try dsimp only at hSw); go_simp; try (with_reducible rfl))
        try simp only [Act.put, List.setIfInBounds_toArray, List.set_cons_succ, List.set_cons_zero]
        refine wpAnyH_ready (rs := [7]) (by kernel_rfl) (by simp) ?_
        refine AllReadyH.cons rfl (fun K hK => ?_) AllReadyH.nil
        go_simp
        refine hK.out _ _ trivial (fun hHeld => ?_)
        clear hK K
        try simp only [Act.put, List.setIfInBounds_toArray, List.set_cons_succ, List.set_cons_zero]
        refine wpAnyH_ready (rs := [8]) (by kernel_rfl) (by simp) ?_
        refine AllReadyH.cons rfl (fun K hK => ?_) AllReadyH.nil
        refine stepBs (w := (wr.alloc (.cells #[.int .u8 92, .int .u8 120, .int .u8 (hexD ((s[k]'hkl).toNat / 16)).toNat, .int .u8 (hexD ((s[k]'hkl).toNat % 16)).toNat] 5)).drew) rfl (.tmp 21) (.tmp 28) rfl w.heap.size _ L rfl ((HO.out.alloc _)) wr.heap.size 4 [92, 120, hexD ((s[k]'hkl).toNat / 16), hexD ((s[k]'hkl).toNat % 16)] rfl rfl (by decide) (Row.new wr 5 (Lib.byteCells [92, 120, hexD ((s[k]'hkl).toNat / 16), hexD ((s[k]'hkl).toNat % 16)])) (by have := HLL.out; simp; omega) (by have := HZ.out; simp; omega) ?_
        intro gn cn wn hown3 hg3 hat3
        have HOn := Lib.hid hown3
        have HBn : Hid (Below w.heap.size w wn) := (((HB.out.alloc HZ.out _).drew).grown hg3 (by have := HZ.out; simp; omega) (fun j hj => own_base HO.out hj))
        clear hown3 hg3 hat3
        refine hK.out _ _ trivial (fun hHeld => ?_)
        clear hK K
        try simp only [Act.put]
        try simp only [List.setIfInBounds_toArray]
        try simp only [List.set_cons_succ]
        try simp only [List.set_cons_zero]
        refine takeOp (i := 9) (v := ?_) (some 3) rfl rfl (by kernel_rfl) (by kernel_rfl) (by kernel_rfl) (fun _ _ _ h => h) (Or.inl ⟨by rfl, ?_⟩) (by assumption) ?_
        rotate_left 1
        · (intro w0 hSw; (try dsimp only at hSw); go_simp; try (with_reducible rfl))
        try simp only [Act.put]
        try simp only [List.setIfInBounds_toArray]
        try simp only [List.set_cons_succ]
        try simp only [List.set_cons_zero]
        refine wpAnyH_done (by kernel_rfl) ?_ _
        go_wp2
        go_roundw
        case rel => exact ⟨k + 1, gn, cn, hkl, by go_num, by rw [HS2.out]; simp, by rw [HS2.out]; have h := HOn.out; simp only [List.length_append, List.length_cons, List.length_nil, Nat.zero_add, Nat.reduceAdd] at h; exact h, HBn.out⟩
        case measure => simp [intOf]; omega
    · obtain rfl : k = s.size := by omega
      have g2 : ¬ (s.size : Int) < (s.size : Int) := by omega
      have HZ := Lib.hid HB.out.size
      have HQ : Hid (L ++ [34] = quoteL s.data.toList) := by
        show _ = _
        rw [HL.out, ← HLN.out, List.take_length]
        rfl
      go_wp2_with (at_builtin; refine appBs rfl (.tmp 65) (.tmp 66) rfl w.heap.size _ L rfl (HO.out.alloc _) wr.heap.size 1 [34] rfl rfl (by decide) (Row.new wr 5 (Lib.byteCells [34])) (by have := HLL.out; simp; omega) (by have := HZ.out; simp; omega) ?_; intro gn cn wn hown3 hg3 hat3; have HBn : Hid (Below w.heap.size w wn) := ((HB.out.alloc HZ.out _).grown hg3 (by have := HZ.out; simp; omega) (fun j hj => own_base HO.out hj)); have hcv := run_convert_bytes_back (P := Tryz.prog) wn 87 9 5 ⟨gn, 0, none⟩ cn (L ++ [34]) Tryz.underlying87 Tryz.underlying5 Tryz.underlying9 (fun j hj => World.ownsRow.cells (g := gn) hown3 rfl j _ (by unfold Lib.byteCells; rw [List.getElem?_map, List.getElem?_eq_getElem hj]; rfl)); clear hown3 hg3 hat3; simp only [List.length_append, List.length_cons, List.length_nil, Nat.zero_add] at hcv)
      go_ret
      exact ⟨by show Ending.returned (.string ⟨(L ++ [34]).toArray⟩) = _; rw [HQ.out]; rfl, HBn.out⟩
end
section
open Go.RowKit Go.Sort

structure Tabs (w : World) : Prop where
  pow : Lib.TabIs Tryz.prog w "internal/strconv.uint64pow10" .u64 Lib.pow10Tab
  maxl : ∃ m, w.cell? ⟨YtdadchpiibipoaaGreatDoor.lCut_ren.g 1, 0, none⟩ = some (.int .i64 m)
  maxs : ∃ m, w.cell? ⟨YtdadchpiibipoaaGreatDoor.lSplit_ren.g 1, 0, none⟩ = some (.int .i64 m)
  rng : ∃ ev, w.cell? ⟨YtdadchpiibipoaaGreatDoor.lParseInt_ren.g 16, 0, none⟩ = some ev ∧ (ev = .nilIface ∨ ∃ te pe, ev = .iface te pe)
theorem cell_below {w w' : World} (hb : Below w.heap.size w w') {p : Addr} {v : Value} (h : w.cell? p = some v) : w'.cell? p = some v :=
  (hb.cell (Lib.lt_of_cell h)).trans h
theorem Tabs.up {w w' : World} (h : Tabs w) (hb : Below w.heap.size w w') : Tabs w' where
  pow := Lib.tabBelow_of_tabIs h.pow w' hb
  maxl := let ⟨m, hm⟩ := h.maxl; ⟨m, cell_below hb hm⟩
  maxs := let ⟨m, hm⟩ := h.maxs; ⟨m, cell_below hb hm⟩
  rng := let ⟨ev, hm, hh⟩ := h.rng; ⟨ev, cell_below hb hm, hh⟩
theorem scFormatInt_any (n : Int) (h0 : -9223372036854775808 ≤ n) (h1 : n ≤ 9223372036854775807) (w : World) (hT : Tabs w) :
    Calls Tryz.prog 74 #[.int .i64 n, .int .i64 10] w fun e w' => e = .returned (.string (toB (Lib.itoa n))) ∧ Below w.heap.size w w' := by
  refine (Any.strconv_FormatInt_10 YtdadchpiibipoaaGreatDoor.lFormatInt n h0 h1 w hT.pow).mono ?_
  rintro e w' ⟨h1, k, os, h2⟩
  exact ⟨h1, by rw [h2]; exact Lib.below_grow _ w (Nat.le_refl _) k os⟩
def VFit (v : RL.V) : Prop := -9223372036854775808 ≤ v.int ∧ v.int ≤ 9223372036854775807 ∧ v.str.size ≤ 9223372036854775807

set_option maxHeartbeats 2000000 in
theorem vText_any (v : RL.V) (hv : VFit v) (w : World) (hT : Tabs w) : Calls Tryz.prog 43 #[vv v] w fun e w' => e = .returned (.string (toB (textV v))) ∧ Below w.heap.size w w' := by
  obtain ⟨h0, h1, h2⟩ := hv
  have HV := Lib.hid (fun (W : World) => vValid_any v W h2)
  have HF := Lib.hid (fun (W : World) (hb : Below w.heap.size w W) => scFormatInt_any v.int h0 h1 W (hT.up hb))
  have HQ := Lib.hid (fun (hs : RL.validV v = true) (hk : v.kind ≠ 1) (W : World) => vQuote_any v.str (by
    unfold RL.validV at hs
    simp only [Bool.or_eq_true, Bool.and_eq_true, decide_eq_true_eq] at hs
    omega) W)
  have HT : Hid (textV v = if RL.validV v = true then (if v.kind = 1 then Lib.itoa v.int else quoteL v.str.data.toList) else []) := rfl
  obtain ⟨k, i, s⟩ := v
  generalize RL.validV ⟨k, i, s⟩ = b at HV HQ HT
  rw [HT.out]
  clear HT h0 h1 h2 hT
  change Hid (∀ W, Calls Tryz.prog 73 #[.agg #[.int .i64 k, .int .i64 i, .string s]] W fun e w' => e = .returned (.bool b) ∧ Ext W w') at HV
  change Hid (∀ W, Below w.heap.size w W → Calls Tryz.prog 74 #[.int .i64 i, .int .i64 10] W fun e w' => e = .returned (.string (toB (Lib.itoa i))) ∧ Below W.heap.size W w') at HF
  change Calls Tryz.prog 43 #[.agg #[.int .i64 k, .int .i64 i, .string s]] w _
  simp only at HQ ⊢
  obtain ⟨W0, hW0⟩ : ∃ W0, W0 = w.alloc (.cells #[.int .i64 k, .int .i64 i, .string s] 82) := ⟨_, rfl⟩
  have hx0 : Ext w W0 := by rw [hW0]; exact (Ext.refl w).alloc _
  have c0 : W0.cell? ⟨w.heap.size, 0, none⟩ = some (.int .i64 k) := by rw [hW0]; simp
  have c1 : W0.cell? ⟨w.heap.size, 1, none⟩ = some (.int .i64 i) := by rw [hW0]; simp
  have c2 : W0.cell? ⟨w.heap.size, 2, none⟩ = some (.string s) := by rw [hW0]; simp
  have hlt : w.heap.size < W0.heap.size := by rw [hW0]; simp
  cases b with
  | false =>
    rw [if_neg (by simp)]
    go_enter Tryz.func43, Tryz.ntmps43
    go_wp2_with (go_at_call 73; refine (HV.out _).mono ?_; rintro e w1 ⟨rfl, hx1⟩)
    go_ret
    exact ⟨rfl, ((Ext.refl w).alloc _).below.trans (hx1.below.mono (by simp))⟩
  | true =>
    rw [if_pos rfl]
    by_cases hk : k = 1
    · subst hk
      rw [if_pos rfl]
      clear HQ
      go_enter Tryz.func43, Tryz.ntmps43
      go_upto_region 1 with (fail)
      rw [← hW0]
      clear hW0
      go_upto_region 3 with (go_at_call 73; refine (HV.out _).mono ?_; rintro e w1 ⟨rfl, hx1⟩)
      have HB := Lib.hid (hx0.below.trans (hx1.below.mono hx0.size))
      have d0 := (hx1.cell hlt).trans c0
      have d1 := (hx1.cell hlt).trans c1
      clear hx0 hx1 c0 c1 c2 hlt HV
      go_wp2_with (go_at_call 74; refine (HF.out _ HB.out).mono ?_; rintro e w2 ⟨rfl, hb2⟩)
      go_ret
      exact ⟨rfl, HB.out.trans (hb2.mono HB.out.size)⟩
    · have hd : (k == 1) = false := by rw [beq_eq_false_iff_ne]; exact hk
      rw [if_neg hk]
      have HQ2 := Lib.hid (HQ.out rfl hk)
      clear HQ HF hk
      go_enter Tryz.func43, Tryz.ntmps43
      go_upto_region 1 with (fail)
      rw [← hW0]
      clear hW0
      go_upto_region 3 with (go_at_call 73; refine (HV.out _).mono ?_; rintro e w1 ⟨rfl, hx1⟩)
      have HB := Lib.hid (hx0.below.trans (hx1.below.mono hx0.size))
      have d0 := (hx1.cell hlt).trans c0
      have d2 := (hx1.cell hlt).trans c2
      clear hx0 hx1 c0 c1 c2 hlt HV
      go_wp2_with (go_at_call 75; refine (HQ2.out _).mono ?_; rintro e w2 ⟨rfl, hb2⟩)
      go_ret
      exact ⟨rfl, HB.out.trans (hb2.mono HB.out.size)⟩
end
end Go.Proofs.YtdadchpiibipoaaGreatDoor
section
namespace Go.Proofs
open Go.Shelf
def YtdadchpiibipoaaGreatDoor.lWriteByte_ren : Go.Shelf.Ren := ⟨fun | 167 => 41 | 240 => 72 | 276 => 98 | n => n, fun | 0 => 0 | 4 => 4 | 5 => 5 | 9 => 9 | 20 => 20 | 37 => 87 | 70 => 86 | 72 => 89 | 75 => 91 | 164 => 152 | 80 => 96 | n => n, fun | n => n⟩
theorem YtdadchpiibipoaaGreatDoor.lWriteByte : Go.Proofs.Lays.n167 Tryz.prog YtdadchpiibipoaaGreatDoor.lWriteByte_ren := {
  mixed := by kernel_rfl
  f167 := Tryz.func41.trans (congrArg some (by kernel_rfl))
  f240 := Tryz.func72.trans (congrArg some (by kernel_rfl))
  f276 := Tryz.func98.trans (congrArg some (by kernel_rfl))
  t0 := Tryz.underlying0
  a0 := Tryz.isAgg0
  z0 := Tryz.sizeOf0
  v0 := Tryz.zeroValue0
  t4 := Tryz.underlying4
  a4 := Tryz.isAgg4
  z4 := Tryz.sizeOf4
  v4 := Tryz.zeroValue4
  t5 := Tryz.underlying5
  a5 := Tryz.isAgg5
  z5 := Tryz.sizeOf5
  v5 := Tryz.zeroValue5
  t9 := Tryz.underlying9
  a9 := Tryz.isAgg9
  z9 := Tryz.sizeOf9
  v9 := Tryz.zeroValue9
  t20 := Tryz.underlying20
  a20 := Tryz.isAgg20
  z20 := Tryz.sizeOf20
  v20 := Tryz.zeroValue20
  t37 := Tryz.underlying87
  a37 := Tryz.isAgg87
  z37 := Tryz.sizeOf87
  v37 := Tryz.zeroValue87
  t70 := Tryz.underlying86
  a70 := Tryz.isAgg86
  z70 := Tryz.sizeOf86
  v70 := Tryz.zeroValue86
  t72 := Tryz.underlying89
  a72 := Tryz.isAgg89
  z72 := Tryz.sizeOf89
  v72 := Tryz.zeroValue89
  t75 := Tryz.underlying91
  a75 := Tryz.isAgg91
  z75 := Tryz.sizeOf91
  v75 := Tryz.zeroValue91
  t164 := Tryz.underlying152
  a164 := Tryz.isAgg152
  z164 := Tryz.sizeOf152
  v164 := Tryz.zeroValue152 }
theorem YtdadchpiibipoaaGreatDoor.lWriteByteX : Builder.Extra Tryz.prog YtdadchpiibipoaaGreatDoor.lWriteByte_ren where
  sizeBuilder := by kernel_rfl
  liesBuilder := by kernel_rfl
  t5 := Tryz.underlying5
  a5 := Tryz.isAgg5
  z5 := Tryz.sizeOf5
  v5 := Tryz.zeroValue5
  infoByte := by kernel_rfl
  cellsByte := by kernel_rfl
  sizeByte := by kernel_rfl
  neB5 := by decide
def YtdadchpiibipoaaGreatDoor.lWriteString_ren : Go.Shelf.Ren := ⟨fun | 166 => 42 | 240 => 72 | 276 => 98 | n => n, fun | 0 => 0 | 3 => 3 | 4 => 4 | 9 => 9 | 20 => 20 | 37 => 87 | 70 => 86 | 72 => 89 | 75 => 91 | 164 => 152 | 80 => 96 | 5 => 5 | n => n, fun | n => n⟩
theorem YtdadchpiibipoaaGreatDoor.lWriteString : Go.Proofs.Lays.n166 Tryz.prog YtdadchpiibipoaaGreatDoor.lWriteString_ren := {
  mixed := by kernel_rfl
  f166 := Tryz.func42.trans (congrArg some (by kernel_rfl))
  f240 := Tryz.func72.trans (congrArg some (by kernel_rfl))
  f276 := Tryz.func98.trans (congrArg some (by kernel_rfl))
  t0 := Tryz.underlying0
  a0 := Tryz.isAgg0
  z0 := Tryz.sizeOf0
  v0 := Tryz.zeroValue0
  t3 := Tryz.underlying3
  a3 := Tryz.isAgg3
  z3 := Tryz.sizeOf3
  v3 := Tryz.zeroValue3
  t4 := Tryz.underlying4
  a4 := Tryz.isAgg4
  z4 := Tryz.sizeOf4
  v4 := Tryz.zeroValue4
  t9 := Tryz.underlying9
  a9 := Tryz.isAgg9
  z9 := Tryz.sizeOf9
  v9 := Tryz.zeroValue9
  t20 := Tryz.underlying20
  a20 := Tryz.isAgg20
  z20 := Tryz.sizeOf20
  v20 := Tryz.zeroValue20
  t37 := Tryz.underlying87
  a37 := Tryz.isAgg87
  z37 := Tryz.sizeOf87
  v37 := Tryz.zeroValue87
  t70 := Tryz.underlying86
  a70 := Tryz.isAgg86
  z70 := Tryz.sizeOf86
  v70 := Tryz.zeroValue86
  t72 := Tryz.underlying89
  a72 := Tryz.isAgg89
  z72 := Tryz.sizeOf89
  v72 := Tryz.zeroValue89
  t75 := Tryz.underlying91
  a75 := Tryz.isAgg91
  z75 := Tryz.sizeOf91
  v75 := Tryz.zeroValue91
  t164 := Tryz.underlying152
  a164 := Tryz.isAgg152
  z164 := Tryz.sizeOf152
  v164 := Tryz.zeroValue152 }
theorem YtdadchpiibipoaaGreatDoor.lWriteStringX : Builder.Extra Tryz.prog YtdadchpiibipoaaGreatDoor.lWriteString_ren where
  sizeBuilder := by kernel_rfl
  liesBuilder := by kernel_rfl
  t5 := Tryz.underlying5
  a5 := Tryz.isAgg5
  z5 := Tryz.sizeOf5
  v5 := Tryz.zeroValue5
  infoByte := by kernel_rfl
  cellsByte := by kernel_rfl
  sizeByte := by kernel_rfl
  neB5 := by decide
end Go.Proofs
end
namespace Go.Proofs.YtdadchpiibipoaaGreatDoor
end Go.Proofs.YtdadchpiibipoaaGreatDoor

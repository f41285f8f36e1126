import Derived.Test.YtfiegiifoekfmaaW4
import Derived.Deep.RegionHeld3
namespace Go.Proofs.Ytfiegiifoekfmaa
open Go.RowKit

set_option maxHeartbeats 1000000 in
set_option maxRecDepth 100000 in
theorem rooted_any (PA : Option Addr) (PC : Nat) (ps : List Int) (w : World) (hp : SlI .i64 w.heap.size w PA ps) (hpl : ps.length ≤ 1000000) :
    Calls Try.prog 32 #[.agg #[.slice PA ps.length PC]] w fun e w' => e = .returned (.bool (JT.rootedB ps)) ∧ Below w.heap.size w w' := by
  go_enter Try.func32, Try.ntmps32
  go_wp2
  go_loop [3, 9] (fun r i => ∃ k : Nat, k ≤ ps.length ∧ i = .int .i64 k ∧ r = .int .i64 (JT.rootsF (ps.take k) : Nat) ∧ (∀ p ∈ ps.take k, -1 ≤ p ∧ p < ps.length)) (fun _ i => ps.length - (intOf i).toNat)
  case atStart => exact ⟨0, Nat.zero_le _, rfl, rfl, by simp⟩
  case round =>
    obtain ⟨k, hk, rfl, rfl, hall⟩ := hrel
    have HA := Lib.hid hall
    clear hall
    by_cases hlt : k < ps.length
    · obtain ⟨b, o, rfl, hbb, hc⟩ := slI_at hp hlt
      have hroots := JT.roots_snoc ps hlt
      have hall' := JT.all_snoc (P := fun p : Int => -1 ≤ p ∧ p < ps.length) hlt HA.out
      have hrle := JT.roots_le (ps.take k)
      have hbad1 := JT.rootedB_bad' hlt
      have hself := JT.rootedB_self' hlt
      generalize ps[k] = p at *
      have HR := Lib.hid hroots
      have HA' := Lib.hid hall'
      have HB1 := Lib.hid hbad1
      have HS := Lib.hid hself
      clear hroots hall' hp hbad1 hself
      have hrl : JT.rootsF (ps.take k) ≤ 1000000 := by
        have : (ps.take k).length ≤ k := List.length_take_le _ _
        omega
      clear hrle
      by_cases h1 : p < -1
      · have HF := Lib.hid (HB1.out (by omega))
        go_wp2
        go_ret
        exact ⟨ret_bool HF.out.symm, (Below.refl _ _).alloc (Nat.le_refl _) _⟩
      by_cases h2 : (ps.length : Int) ≤ p
      · have HF := Lib.hid (HB1.out (by omega))
        go_wp2
        go_ret
        exact ⟨ret_bool HF.out.symm, (Below.refl _ _).alloc (Nat.le_refl _) _⟩
      by_cases h3 : p = (k : Int)
      · have HF := Lib.hid (HS.out h3)
        have hs : (p == (k : Int)) = true := by simp [h3]
        clear h3
        go_wp2
        go_ret
        exact ⟨ret_bool HF.out.symm, (Below.refl _ _).alloc (Nat.le_refl _) _⟩
      have hs : (p == (k : Int)) = false := by simp [h3]
      clear h3
      by_cases h4 : p = -1
      · have hs4 : (p == (-1 : Int)) = true := by simp [h4]
        have H4 := Lib.hid h4
        clear h4
        go_wp2
        go_round
        case rel => exact ⟨k + 1, by omega, by go_num, by rw [HR.out, if_pos (by have := H4.out; omega)]; go_num, HA'.out (by omega)⟩
        case measure => simp [intOf]; omega
      · have hs4 : (p == (-1 : Int)) = false := by simp [h4]
        go_wp2
        go_round
        case rel => exact ⟨k + 1, by omega, by go_num, by rw [HR.out, if_neg (by omega)]; rfl, HA'.out (by omega)⟩
        case measure => simp [intOf]; omega
    · have : k = ps.length := by omega
      subst this
      have hv := HA.out
      rw [List.take_length] at hv
      have HF := Lib.hid (JT.rootedB_of hv)
      rw [List.take_length]
      generalize hr : JT.rootsF ps = r at *
      by_cases h1 : r = 1
      · subst h1
        have HV := Lib.hid hv
        have HP := Lib.hid hp
        clear hv hp hr
        go_wp2
        go_region_held3 (fun w' => w'.cell? ⟨w.heap.size, 0, none⟩ = some (.slice PA ps.length PC)) (go_keep)
          (first | (go_at_call 36; refine (order_sl PA PC ps _ ?_ hpl HV.out).mono ?_; (exact (HP.out.alloc (Nat.le_refl _) _).more (by simp)); rintro e w' ⟨A, c, rfl, hs, hb⟩; have hS : w'.cell? ⟨w.heap.size, 0, none⟩ = some (.slice PA ps.length PC) := (hb.cell (p := ⟨w.heap.size, 0, none⟩) (by simp)).trans (by go_simp)))
        go_wp2
        go_ret
        refine ⟨ret_bool ?_, Below.box (Below.undrew hb) (by simp)⟩
        rw [HF.out, Bool.eq_iff_iff]
        simp
        omega
      · have hs : ((r : Int) == (1 : Int)) = false := by simp; omega
        go_wp2
        go_quiet (fail)
        go_wp2
        go_ret
        refine ⟨ret_bool ?_, Below.drewN' ((Below.refl _ _).alloc (Nat.le_refl _) _) _⟩
        rw [HF.out]
        simp [h1]

end Go.Proofs.Ytfiegiifoekfmaa

import Derived.Test.YtfiegiifoekfmaaRows
import Derived.Test.YtfiegiifoekfmaaBase
import Derived.Test.YtfiegiifoekfmaaJJoin
namespace Go.Proofs.Ytfiegiifoekfmaa
open Go.RowKit

set_option maxHeartbeats 400000 in
theorem has_any (e v : Nat) (w : World) (he : e < 4294967296) (hv : v ≤ 64) :
    Calls Try.prog 31 #[.int .u32 e, .int .i64 v] w fun r w' => r = .returned (.bool (JT.has e v)) ∧ w = w' := by
  go_enter Try.func31, Try.ntmps31
  go_wp2
  go_ret
  exact ⟨ret_bool (JT.has_int e v he), rfl⟩

set_option maxHeartbeats 1000000 in
set_option maxRecDepth 100000 in
theorem refRooted_any (PA : Option Addr) (PC : Nat) (ps : List Int) (w : World) (hp : SlI .i64 w.heap.size w PA ps) (hpl : ps.length ≤ 1000000) :
    Calls Try.prog 13 #[.slice PA ps.length PC] w fun e w' => e = .returned (.bool (JT.rootedB ps)) ∧ Below w.heap.size w w' := by
  go_enter Try.func13, Try.ntmps13
  go_wp2
  go_loop [3, 4] (fun r i => ∃ k : Nat, k ≤ ps.length ∧ i = .int .i64 k ∧ r = .int .i64 (JT.rootsF (ps.take k) : Nat) ∧ (∀ p ∈ ps.take k, -1 ≤ p ∧ p < ps.length)) (fun _ i => ps.length - (intOf i).toNat)
  case atStart => exact ⟨0, Nat.zero_le _, rfl, rfl, by simp⟩
  case round =>
    obtain ⟨k, hk, rfl, rfl, hall⟩ := hrel
    have HA := Lib.hid hall
    clear hall
    by_cases hlt : k < ps.length
    · obtain ⟨b, o, rfl, hbb, hc⟩ := slI_at hp hlt
      have hroots := JT.roots_snoc ps hlt
      have hall' := JT.all_snoc (P := fun p : Int => -1 ≤ p ∧ p < ps.length) hlt HA.out
      have hrle := JT.roots_le (ps.take k)
      have hbad1 := JT.rootedB_bad' hlt
      generalize ps[k] = p at *
      have HR := Lib.hid hroots
      have HA' := Lib.hid hall'
      have HB1 := Lib.hid hbad1
      clear hroots hall' hp hbad1
      have hrl : JT.rootsF (ps.take k) ≤ 1000000 := by
        have : (ps.take k).length ≤ k := List.length_take_le _ _
        omega
      clear hrle
      by_cases h1 : p < -1
      · have HF := Lib.hid (HB1.out (by omega))
        go_wp2
        go_ret
        exact ⟨ret_bool HF.out.symm, Below.refl _ _⟩
      by_cases h2 : (ps.length : Int) ≤ p
      · have HF := Lib.hid (HB1.out (by omega))
        go_wp2
        go_ret
        exact ⟨ret_bool HF.out.symm, Below.refl _ _⟩
      by_cases h4 : p < 0
      · go_wp2
        go_round
        case rel => exact ⟨k + 1, by omega, by go_num, by rw [HR.out, if_pos (by omega)]; go_num, HA'.out (by omega)⟩
        case measure => simp [intOf]; omega
      · go_wp2
        go_round
        case rel => exact ⟨k + 1, by omega, by go_num, by rw [HR.out, if_neg (by omega)]; rfl, HA'.out (by omega)⟩
        case measure => simp [intOf]; omega
    · have : k = ps.length := by omega
      subst this
      have hv := HA.out
      rw [List.take_length] at hv
      have HV := Lib.hid hv
      rw [List.take_length]
      generalize hr : JT.rootsF ps = r at *
      have HR := Lib.hid hr
      clear hv hr HA
      by_cases h1 : r = 1
      · have H1 := Lib.hid h1
        subst h1
        go_wp2
        go_loop [5] (fun i => ∃ k : Nat, k ≤ ps.length ∧ i = .int .i64 k ∧ (∀ j : Nat, j < k → JT.up ps ps.length (j : Int) < 0)) (fun i => ps.length - (intOf i).toNat)
        case atStart => exact ⟨0, Nat.zero_le _, rfl, by omega⟩
        case round =>
          obtain ⟨k, hk, rfl, hall⟩ := hrel
          have HA := Lib.hid hall
          clear hall hlt
          by_cases hlt : k < ps.length
          · go_wp2
            go_loop [6, 7] (fun a i => ∃ (j : Nat) (v : Int), j ≤ ps.length ∧ i = .int .i64 j ∧ a = .int .i64 v ∧ v = JT.up ps j (k : Int) ∧ -1 ≤ v ∧ v < ps.length) (fun _ i => ps.length - (intOf i).toNat)
            case atStart => exact ⟨0, k, Nat.zero_le _, rfl, rfl, rfl, by omega, by omega⟩
            case round =>
              obtain ⟨j, v, hj, rfl, rfl, hvu, hv1, hv2⟩ := hrel
              have HVU := Lib.hid hvu
              clear hvu
              by_cases hneg : v < 0
              · have HF := Lib.hid (JT.up_stop (n := ps.length) (by rw [← HVU.out]; exact hneg) hj)
                by_cases hjl : j < ps.length
                all_goals
                  go_wp2
                  go_round
                  case rel =>
                    refine ⟨k + 1, by omega, by go_num, fun i hi => ?_⟩
                    by_cases hik : i < k
                    · exact HA.out i hik
                    · obtain rfl : i = k := by omega
                      exact HF.out
                  case measure => simp [intOf]; omega
              · obtain ⟨q, rfl⟩ := Int.eq_ofNat_of_zero_le (show 0 ≤ v by omega)
                by_cases hjl : j < ps.length
                · have hq : q < ps.length := by omega
                  obtain ⟨b, o, rfl, hbb, hc⟩ := slI_at hp hq
                  have hvq := HV.out ps[q] (List.getElem_mem hq)
                  have hnx := JT.up_tail ps j (k : Int)
                  rw [← HVU.out, if_neg (by omega)] at hnx
                  simp [hq] at hnx
                  generalize ps[q] = p at *
                  have HNX := Lib.hid hnx
                  clear hnx hp
                  go_wp2
                  go_round
                  case rel => exact ⟨j + 1, p, by omega, by go_num, rfl, HNX.out.symm, by omega, by omega⟩
                  case measure => simp [intOf]; omega
                · obtain rfl : j = ps.length := by omega
                  have HF := Lib.hid (JT.rootedB_false hlt (by rw [← HVU.out]; omega))
                  go_wp2
                  go_ret
                  exact ⟨ret_bool HF.out.symm, Below.refl _ _⟩
          · have HF := Lib.hid (JT.rootedB_true HV.out HR.out fun i hi => HA.out i (by omega))
            go_wp2
            go_ret
            exact ⟨ret_bool HF.out.symm, Below.refl _ _⟩
      · have hs : ((r : Int) != (1 : Int)) = true := by simp; omega
        go_wp2
        go_ret
        refine ⟨ret_bool ?_, Below.refl _ _⟩
        rw [JT.rootedB_of HV.out, HR.out]
        simp [h1]

end Go.Proofs.Ytfiegiifoekfmaa

import Derived.Test.YtfiegiifoekfmaaRows
import Derived.Test.YtfiegiifoekfmaaBase
import Derived.Test.YtfiegiifoekfmaaJPlain
namespace Go.Proofs.Ytfiegiifoekfmaa
open Go.RowKit

set_option maxHeartbeats 400000 in
theorem below_any (n : Nat) (w : World) (h1 : n ≤ 32) :
    Calls Try.prog 30 #[.int .i64 n] w fun e w' => e = .returned (.int .u32 ((2 ^ n - 1 : Nat) : Int)) ∧ w = w' := by
  have hp : IntKind.u64.wrap (IntKind.u64.wrap (2 ^ n) - 1) % 4294967296 = ((2 ^ n - 1 : Nat) : Int) := by
    have h2 : ∀ k : Nat, k ≤ 32 → IntKind.u64.wrap (IntKind.u64.wrap ((2 ^ k : Nat) : Int) - 1) % 4294967296 = ((2 ^ k - 1 : Nat) : Int) := by decide
    have := h2 n h1
    simpa using this
  have HP := Lib.hid hp
  clear hp
  go_enter Try.func30, Try.ntmps30
  go_wp2
  go_ret
  refine ⟨?_, rfl⟩
  rw [← HP.out]
  simp

set_option maxHeartbeats 400000 in
theorem great_any (N : Int) (A : Option Addr) (m c : Nat) (w : World) (hm : m ≤ 9223372036854775807) :
    Calls Try.prog 10 #[.agg #[.int .i64 N, .slice A m c]] w fun e w' => e = .returned (.bool (decide (12 < m))) ∧ Below w.heap.size w w' := by
  go_enter Try.func10, Try.ntmps10
  go_wp2
  go_ret
  refine ⟨by simp; omega, ?_⟩
  exact (Below.refl _ _).alloc (Nat.le_refl _) _

theorem U32s.at_ {es : List Nat} (h : U32s es) {i : Nat} (hi : i < es.length) : es[i] ≤ 4294967295 := h _ (List.getElem_mem hi)

set_option maxHeartbeats 400000 in
theorem hgCheck_any (N : Int) (EA : Option Addr) (EC : Nat) (es : List Nat) (w : World)
    (he : SlN .u32 w.heap.size w EA es) (hu : U32s es) (hel : es.length ≤ 1000000) :
    Calls Try.prog 12 #[.agg #[.int .i64 N, .slice EA es.length EC]] w fun e w' => e = .returned (.int .i64 (JT.hgCheckF N es)) ∧ Below w.heap.size w w' := by
  by_cases h1 : N < 0
  · have hf : JT.hgCheckF N es = 3 := by simp [JT.hgCheckF, h1]
    rw [hf]; clear hf he hu
    go_enter Try.func12, Try.ntmps12
    go_wp2
    go_ret
    exact ⟨rfl, (Below.refl _ _).alloc (Nat.le_refl _) _⟩
  by_cases h2 : 32 < N
  · have hf : JT.hgCheckF N es = 3 := by simp [JT.hgCheckF, h2]
    rw [hf]; clear hf he hu
    go_enter Try.func12, Try.ntmps12
    go_wp2
    go_ret
    exact ⟨rfl, (Below.refl _ _).alloc (Nat.le_refl _) _⟩
  by_cases h3 : 64 < es.length
  · have hf : JT.hgCheckF N es = 12 := by simp [JT.hgCheckF, h1, h2, h3]
    rw [hf]; clear hf he hu
    generalize es.length = m at *
    go_enter Try.func12, Try.ntmps12
    go_wp2
    go_ret
    exact ⟨rfl, (Below.refl _ _).alloc (Nat.le_refl _) _⟩
  obtain ⟨n, rfl⟩ := Int.eq_ofNat_of_zero_le (show 0 ≤ N by omega)
  have hn : n ≤ 32 := by omega
  go_enter Try.func12, Try.ntmps12
  go_wp2
  go_loopw [20] (fun i wr => ∃ k : Nat, k ≤ es.length ∧ i = .int .i64 k ∧ (∀ e ∈ es.take k, e < 2 ^ n) ∧ Below w.heap.size w wr ∧ wr.cell? ⟨w.heap.size, 0, none⟩ = some (.int .i64 n)) (fun i _ => es.length - (intOf i).toNat)
  case atStart => exact ⟨0, Nat.zero_le _, rfl, by simp, (Below.refl _ _).alloc (Nat.le_refl _) _, by go_simp⟩
  case round =>
    obtain ⟨k, hk, rfl, hall, hb, hN⟩ := hrel
    have HA := Lib.hid hall
    clear hall
    by_cases hlt : k < es.length
    · obtain ⟨b, o, rfl, hbb, hc⟩ := slN_at (he.below hb (Nat.le_refl _)) hlt
      have hu1 := hu.at_ hlt
      generalize hek : es[k] = ek at *
      have HK := Lib.hid hek
      clear hek he hu
      have hba : bits .andNot .u32 (ek : Int) ((2 ^ n - 1 : Nat) : Int) = (JT.dif ek (2 ^ n - 1) : Nat) := u32_andNot_nat ek (2 ^ n - 1) (by omega) (by have : 2 ^ n ≤ 2 ^ 32 := Nat.pow_le_pow_right (by omega) hn; omega)
      have hd := JT.dif_below ek n (by omega) hn
      generalize JT.dif ek (2 ^ n - 1) = d at *
      have HD := Lib.hid hd
      clear hd
      go_wp2_with (go_at_call 30; refine (below_any _ _ hn).mono ?_; rintro e w' ⟨rfl, rfl⟩)
      · have hne : ((d : Int) != 0) = true := by assumption
        go_ret
        refine ⟨?_, hb⟩
        have h6 : ¬ es[k] < 2 ^ n := by
          rw [HK.out, ← HD.out]
          simp at hne
          omega
        exact ret_int (JT.hgCheckF_bad hn (by omega) (List.getElem_mem hlt) h6).symm
      · have hne : ((d : Int) != 0) = false := by assumption
        go_roundw
        case rel =>
          refine ⟨k + 1, by omega, by go_num, ?_, hb, hN⟩
          intro e he2
          rw [List.take_succ_eq_append_getElem hlt, List.mem_append] at he2
          rcases he2 with he2 | he2
          · exact HA.out e he2
          · simp at he2
            simp at hne
            rw [he2, HK.out, ← HD.out]
            omega
        case measure => simp [intOf]; omega
    · go_wp2
      go_ret
      refine ⟨?_, hb⟩
      have : k = es.length := by omega
      subst this
      have h5 := HA.out
      rw [List.take_length] at h5
      exact ret_int (JT.hgCheckF_ok hn (by omega) h5).symm

theorem sepF_zero1 {es : List Nat} {ps : List Int} {node : Int} (h : ¬ (0 ≤ node ∧ node < ps.length ∧ node < es.length)) : JT.sepF es ps node = 0 := by
  unfold JT.sepF
  rw [if_neg h]

set_option maxHeartbeats 400000 in
theorem sep_any (N : Int) (EA PA : Option Addr) (EC PC : Nat) (es : List Nat) (ps : List Int) (node : Int) (w : World)
   (he : SlN .u32 w.heap.size w EA es) (hu : U32s es) (hp : SlI .i64 w.heap.size w PA ps) (hel : es.length ≤ 1000000) (hpl : ps.length ≤ 1000000) :
    Calls Try.prog 25 #[.agg #[.int .i64 N, .slice EA es.length EC], .agg #[.slice PA ps.length PC], .int .i64 node] w fun e w' => e = .returned (.int .u32 (JT.sepF es ps node : Nat)) ∧ Below w.heap.size w w' := by
  have hbel : ∀ o1 o2 : Obj, Below w.heap.size w ((w.alloc o1).alloc o2) := fun o1 o2 => ((Below.refl _ _).alloc (Nat.le_refl _) _).alloc (by simp) _
  by_cases h0 : node < 0
  · rw [sepF_zero1 (by omega)]
    clear he hp hu
    generalize es.length = m at *
    generalize ps.length = n at *
    go_enter Try.func25, Try.ntmps25
    go_wp2
    go_ret
    exact ⟨rfl, hbel _ _⟩
  obtain ⟨i, rfl⟩ := Int.eq_ofNat_of_zero_le (show 0 ≤ node by omega)
  by_cases h1 : i < ps.length
  rotate_left
  · rw [sepF_zero1 (by omega)]
    clear he hp hu
    generalize es.length = m at *
    generalize ps.length = n at *
    go_enter Try.func25, Try.ntmps25
    go_wp2
    go_ret
    exact ⟨rfl, hbel _ _⟩
  by_cases h2 : i < es.length
  rotate_left
  · rw [sepF_zero1 (by omega)]
    clear he hp hu
    generalize es.length = m at *
    generalize ps.length = n at *
    go_enter Try.func25, Try.ntmps25
    go_wp2
    go_ret
    exact ⟨rfl, hbel _ _⟩
  have hsp : JT.sepF es ps (i : Int) = if 0 ≤ ps[i] ∧ ps[i] < es.length then es[i] &&& es[ps[i].toNat]?.getD 0 else 0 := by
    unfold JT.sepF
    rw [if_pos (by omega)]
    simp [h1, h2]
  rw [hsp]; clear hsp
  obtain ⟨b2, o2, rfl, hb2, hcp⟩ := slI_at hp h1
  obtain ⟨b, o, rfl, hb, hci⟩ := slN_at he h2
  have hui := hu.at_ h2
  generalize ps[i] = p at *
  by_cases h3 : p < 0
  · rw [if_neg (by omega)]
    clear he hp hu hci hui
    generalize es.length = m at *
    generalize ps.length = n at *
    go_enter Try.func25, Try.ntmps25
    go_wp2
    go_ret
    exact ⟨rfl, hbel _ _⟩
  obtain ⟨j, rfl⟩ := Int.eq_ofNat_of_zero_le (show 0 ≤ p by omega)
  by_cases h4 : j < es.length
  rotate_left
  · rw [if_neg (by omega)]
    clear he hp hu hci hui
    generalize es.length = m at *
    generalize ps.length = n at *
    go_enter Try.func25, Try.ntmps25
    go_wp2
    go_ret
    exact ⟨rfl, hbel _ _⟩
  rw [if_pos (by omega)]
  obtain ⟨b', o', e', hb', hcj⟩ := slN_at he h4
  simp at e'
  obtain ⟨rfl, rfl⟩ := e'
  have huj := hu.at_ h4
  have hj : es[(j : Int).toNat]?.getD 0 = es[j] := by simp [h4]
  rw [hj]; clear hj
  generalize es[i] = ei at *
  generalize es[j] = ej at *
  clear he hp hu hb'
  generalize es.length = m at *
  generalize ps.length = n at *
  have HB := Lib.hid (u32_and_nat ei ej (by omega) (by omega))
  go_enter Try.func25, Try.ntmps25
  go_wp2
  go_quiet (fail)
  go_wp2
  go_ret
  exact ⟨ret_int HB.out, Below.drewN' (hbel _ _) _⟩

end Go.Proofs.Ytfiegiifoekfmaa

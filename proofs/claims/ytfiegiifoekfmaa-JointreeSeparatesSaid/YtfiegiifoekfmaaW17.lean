/- Walks (some lines turned from the kit's Derived/Sort/WalkANil.lean): pdqsortOrdered and slices.Sort of at most 12 numbers, at uint32. -/
import Derived.Test.YtfiegiifoekfmaaW16
import Derived.Test.YtfiegiifoekfmaaShelf0
namespace Go.Proofs.Ytfiegiifoekfmaa
open Go.RowKit Go.Sort

theorem bitsLen_any (x : Int) (w : World) (h0 : 0 ≤ x) (h1 : x ≤ 18446744073709551615) : Calls Try.prog 38 #[.int .u64 x] w fun e w' => e = .returned (.int .i64 (Lib.bitLen x.toNat)) ∧ w' = w := Any.bits_Len lays125 x w h0 h1

set_option maxRecDepth 100000 in
theorem pdq_small_u32 (blk off cap b : Nat) (lim : Int) (d : Array Int) (w : World) (hH : Holds (Value.int .u32) w blk off d) (hb : b = d.size) (h12 : b ≤ 12) :
    Calls Try.prog 37 #[.slice (some ⟨blk, off, none⟩) d.size cap, .int .i64 0, .int .i64 b, .int .i64 lim] w fun e w' =>
      e = .returned (.tuple #[]) ∧ ∃ n, w' = putRow (Value.int .u32) (Sort.ahead w n) blk off (Sort.insertionSort ltInt d 0 b) := by
  have HI := Lib.hid (fun w hH => insSort_u32 blk off cap 0 b d w hH (Nat.zero_le _) (by omega) (by omega))
  have HH := Lib.hid hH
  clear hH hb
  go_enter Try.func37, Try.ntmps37
  go_wp2
  refine wp_loop_rounds 1 ?_
  rw [rounds_succ]
  go_wp2_with (first | (go_at_call 42; refine (HI.out _ HH.out).mono ?_; rintro e w' ⟨rfl, n, rfl⟩) | fail)
  refine bodyPost_ret (results_none rfl _ _ _) rfl ?_
  exact ⟨rfl, n, rfl⟩

set_option maxRecDepth 100000 in
theorem sort_small_u32 (blk off cap : Nat) (d : Array Int) (w : World) (hH : Holds (Value.int .u32) w blk off d) (h12 : d.size ≤ 12) :
    Calls Try.prog 28 #[.slice (some ⟨blk, off, none⟩) d.size cap] w fun e w' =>
      e = .returned (.tuple #[]) ∧ ∃ n, w' = putRow (Value.int .u32) (Sort.ahead w n) blk off (Sort.insertionSort ltInt d 0 d.size) := by
  have HP := Lib.hid (fun lim w hH => pdq_small_u32 blk off cap d.size lim d w hH rfl h12)
  have HH := Lib.hid hH
  have hLen : ∀ w, Calls Try.prog 38 #[.int .u64 (d.size : Int)] w fun e w' => e = .returned (.int .i64 (Lib.bitLen (d.size : Int).toNat)) ∧ w' = w := fun w => bitsLen_any _ w (by omega) (by omega)
  generalize Lib.bitLen (d.size : Int).toNat = L at hLen
  clear hH
  go_enter Try.func28, Try.ntmps28
  go_wp2_with (first
    | (go_at_call 38; refine (hLen _).mono ?_; rintro e w' ⟨rfl, rfl⟩)
    | (go_at_call 37; refine (HP.out _ _ HH.out).mono ?_; rintro e w' ⟨rfl, n, rfl⟩)
    | fail)
  go_end0
  exact ⟨rfl, n, rfl⟩

theorem insSort_nil_u32 (p : Option Addr) (cap : Nat) (w : World) :
    Calls Try.prog 42 #[.slice p 0 cap, .int .i64 0, .int .i64 0] w fun e w' => e = .returned (.tuple #[]) ∧ w' = w := by
  go_enter Try.func42, Try.ntmps42
  go_wp2
  refine wp_loop_rounds 1 ?_
  rw [rounds_succ]
  go_wp2
  go_end0
  exact ⟨rfl, rfl⟩

set_option maxRecDepth 100000 in
theorem pdq_nil_u32 (p : Option Addr) (cap : Nat) (w : World) :
    Calls Try.prog 37 #[.slice p 0 cap, .int .i64 0, .int .i64 0, .int .i64 0] w fun e w' => e = .returned (.tuple #[]) ∧ w' = w := by
  go_enter Try.func37, Try.ntmps37
  go_wp2
  refine wp_loop_rounds 1 ?_
  rw [rounds_succ]
  go_wp2_with (first | (go_at_call 42; refine (insSort_nil_u32 p cap _).mono ?_; rintro e w' ⟨rfl, rfl⟩) | fail)
  refine bodyPost_ret (results_none rfl _ _ _) rfl ?_
  exact ⟨rfl, rfl⟩

set_option maxRecDepth 100000 in
theorem sort_nil_u32 (p : Option Addr) (cap : Nat) (w : World) :
    Calls Try.prog 28 #[.slice p 0 cap] w fun e w' => e = .returned (.tuple #[]) ∧ w' = w := by
  have hLen : ∀ w, Calls Try.prog 38 #[.int .u64 0] w fun e w' => e = .returned (.int .i64 0) ∧ w' = w := fun w => bitsLen_any 0 w (by omega) (by omega)
  go_enter Try.func28, Try.ntmps28
  go_wp2_with (first
    | (go_at_call 38; refine (hLen _).mono ?_; rintro e w' ⟨rfl, rfl⟩)
    | (go_at_call 37; refine (pdq_nil_u32 p cap _).mono ?_; rintro e w' ⟨rfl, rfl⟩)
    | fail)
  go_end0
  exact ⟨rfl, rfl⟩

end Go.Proofs.Ytfiegiifoekfmaa

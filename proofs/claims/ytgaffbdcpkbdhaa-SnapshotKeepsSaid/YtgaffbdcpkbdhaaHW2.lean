/- Part of the proof. -/
import Derived.Test.YtgaffbdcpkbdhaaRows
import Derived.Test.YtgaffbdcpkbdhaaQ1
namespace Go.Proofs.Ytgaffbdcpkbdhaa
open Go.RowKit

/-- The first place of a number in a list, or -1. -/
def idxF (xs : List Int) (x : Int) : Int := match xs.findIdx? (· == x) with | some i => i | none => -1
theorem idxF_at {xs : List Int} {x : Int} {k : Nat} (hk : k < xs.length) (h : xs[k] = x) (hall : ∀ i (_h1 : i < k) (h2 : i < xs.length), xs[i] ≠ x) : idxF xs x = k := by
  unfold idxF
  have : xs.findIdx? (· == x) = some k := by
    rw [List.findIdx?_eq_some_iff_getElem]
    exact ⟨hk, by simpa using h, fun j hj => by simpa using hall j hj (by omega)⟩
  rw [this]
theorem idxF_none {xs : List Int} {x : Int} (hall : ∀ i (h2 : i < xs.length), xs[i] ≠ x) : idxF xs x = -1 := by
  unfold idxF
  have : xs.findIdx? (· == x) = none := by
    rw [List.findIdx?_eq_none_iff]
    intro y hy
    obtain ⟨i, hi, rfl⟩ := List.getElem_of_mem hy
    simpa using hall i hi
  rw [this]

theorem take_eq_of {xs ys : List Int} {k : Nat} (hl : xs.length = ys.length) (h : ∀ i (_h1 : i < k) (h2 : i < xs.length) (h3 : i < ys.length), xs[i] = ys[i]) (hk : xs.length ≤ k) : xs = ys := by
  apply List.ext_getElem hl
  intro i h2 h3
  exact h i (by omega) h2 h3

set_option maxHeartbeats 400000 in
theorem eqInt_any (XA YA : Option Addr) (XC YC : Nat) (xs ys : List Int) (w : World)
    (hx : SlI .i64 w.heap.size w XA xs) (hy : SlI .i64 w.heap.size w YA ys) (hxl : xs.length ≤ 1000000) (hyl : ys.length ≤ 1000000) :
    Calls Try.prog 38 #[.slice XA xs.length XC, .slice YA ys.length YC] w fun e w' => e = .returned (.bool (decide (xs = ys))) ∧ ∃ n, w' = w.drewN n := by
  by_cases hl : xs.length = ys.length
  rotate_left
  · have hd : decide (xs = ys) = false := by
      simp; intro h; subst h; exact hl rfl
    rw [hd]
    clear hx hy hd
    generalize xs.length = m at *
    generalize ys.length = n at *
    have hne : ((m : Int) != (n : Int)) = true := by simp; omega
    clear hl
    go_enter Try.func38, Try.ntmps38
    go_wp2
    go_ret
    exact ⟨rfl, 0, rfl⟩
  have hne : ((xs.length : Int) != (ys.length : Int)) = false := by simp; omega
  have HL := Lib.hid hl
  clear hl
  go_enter Try.func38, Try.ntmps38
  go_wp2
  go_loopw [13] (fun i wr => ∃ k : Nat, k ≤ xs.length ∧ i = .int .i64 k ∧ (∀ i (h1 : i < k) (h2 : i < xs.length) (h3 : i < ys.length), xs[i] = ys[i]) ∧ (∃ n, wr = w.drewN n)) (fun i _ => xs.length - (intOf i).toNat)
  case atStart => exact ⟨0, Nat.zero_le _, rfl, fun i h => absurd h (by omega), 0, rfl⟩
  case round =>
    obtain ⟨k, hk, rfl, hall, n, rfl⟩ := hrel
    have HA := Lib.hid hall
    clear hall
    by_cases hlt : k < xs.length
    · have hlt' : k < ys.length := by have := HL.out; omega
      obtain ⟨b, o, rfl, hbb, hc⟩ := slI_at hx hlt
      obtain ⟨b', o', rfl, hbb', hc'⟩ := slI_at hy hlt'
      generalize hxk : xs[k] = xk at *
      generalize hyk : ys[k] = yk at *
      have HX := Lib.hid hxk
      have HY := Lib.hid hyk
      clear hxk hyk hx hy
      by_cases heq : xk = yk
      · have hne2 : (xk != yk) = false := by simp [heq]
        have HE := Lib.hid heq
        clear heq
        go_wp2
        go_quiet (fail)
        go_wp2
        go_roundw
        case rel =>
          refine ⟨k + 1, by omega, by go_num, ?_, _, rfl⟩
          intro i h1 h2 h3
          by_cases hik : i < k
          · exact HA.out i hik h2 h3
          · obtain rfl : i = k := by omega
            rw [HX.out, HY.out, HE.out]
        case measure => simp [intOf]; omega
      · have hne2 : (xk != yk) = true := by simp [heq]
        have hd : decide (xs = ys) = false := by
          simp; intro h; subst h
          exact heq (HX.out.symm.trans HY.out)
        have HD := Lib.hid hd
        clear heq hd
        go_wp2
        go_quiet (fail)
        go_wp2
        go_ret
        exact ⟨ret_bool HD.out.symm, _, World.drewN_drewN _ _ _⟩
    · have hd : decide (xs = ys) = true := by
        simp; exact take_eq_of HL.out HA.out (by omega)
      have HD := Lib.hid hd
      clear hd hx hy
      go_wp2
      go_ret
      exact ⟨ret_bool HD.out.symm, _, rfl⟩

end Go.Proofs.Ytgaffbdcpkbdhaa

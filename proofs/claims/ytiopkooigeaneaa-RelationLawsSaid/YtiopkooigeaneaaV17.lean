/- Walk: the laws' Is, where it answers true. -/
import Derived.Test.YtiopkooigeaneaaV16
namespace Go.Proofs.Ytiopkooigeaneaa
open Go.RowKit Go.Sort

theorem r7Compare_self (XA YA : Option Addr) (XC YC : Nat) (x : RL.R) (w : World) (hx : SlR w.heap.size w XA x) (hy : SlR w.heap.size w YA x) (hxo : ROk x) :
    Calls Try.prog 34 #[.slice XA x.length XC, .slice YA x.length YC] w fun e w' => e = .returned (.int .i64 0) ∧ Ext w w' := by
  have h := r7Compare_any XA YA XC YC x x w hx hy hxo hxo
  rw [(RL.tot_cmpR.z x x).2 rfl] at h
  exact h
theorem r7Same_self (XA YA : Option Addr) (XC YC : Nat) (X : List RL.R) (w : World) (hX : SlRs w.heap.size w XA X) (hY : SlRs w.heap.size w YA X) (hXl : X.length ≤ 1000000) (hXo : RsOk X) :
    Calls Try.prog 51 #[.slice XA X.length XC, .slice YA X.length YC] w fun e w' => e = .returned (.bool true) ∧ Ext w w' := by
  have h := r7Same_any XA YA XC YC X X w hX hY hXl hXl hXo hXo
  simpa using h

set_option maxHeartbeats 1000000 in
set_option maxRecDepth 100000 in
theorem l7Is_ok (n : Int) (RA YA : Option Addr) (RC YC : Nat) (X : List RL.R) (w : World) (hX : SlRs w.heap.size w RA X) (hY : SlRs w.heap.size w YA X) (hXo : RsOk X) (hl : X.length ≤ 1000000) :
    Calls Try.prog 24 #[.agg #[.int .i64 n, .slice RA X.length RC], .int .i64 n, .slice YA X.length YC] w fun e w' => e = .returned (.bool true) ∧ Below w.heap.size w w' := by
  have HX := Lib.hid hX
  have HY := Lib.hid hY
  have HXO := Lib.hid hXo
  clear hX hY hXo
  go_enter Try.func24, Try.ntmps24
  go_wp2_with fail
  refine (rlArity_any n RA X.length RC _).mono ?_
  rintro e w1 ⟨rfl, hx1⟩
  have HB1 := Lib.hid (Below.then ((Below.refl w.heap.size w).alloc (Nat.le_refl _) (.cells #[.int .i64 n, .slice RA X.length RC] 29)) hx1.below (by simp))
  have hz1 : w.heap.size < w1.heap.size := by have := hx1.size; simp at this; omega
  have c10 : w1.cell? ⟨w.heap.size, 0, none⟩ = some (.int .i64 n) := (hx1.cell (by simp)).trans (by go_simp)
  have c11 : w1.cell? ⟨w.heap.size, 1, none⟩ = some (.slice RA X.length RC) := (hx1.cell (by simp)).trans (by go_simp)
  clear hx1
  go_wp2_with fail
  refine (rlLen_any n RA X.length RC _).mono ?_
  rintro e w2 ⟨rfl, hx2⟩
  have HB2 := Lib.hid (Below.then HB1.out hx2.below (by omega))
  have hz2 : w.heap.size < w2.heap.size := by have := hx2.size; omega
  have c20 := (hx2.cell (o := 0) hz1).trans c10
  have c21 := (hx2.cell (o := 1) hz1).trans c11
  clear hx2 c10 c11 HB1 hz1
  go_wp2_with fail
  refine (rlRows_any n RA RC X w2 ((HX.out.below HB2.out (Nat.le_refl _)).more (by omega)) HXO.out hl).mono ?_
  rintro e w3 ⟨g, rfl, hm3, hb3⟩
  have HM3 := Lib.hid hm3
  have HB3 := Lib.hid (Below.then HB2.out hb3 (by omega))
  have hz3 : w.heap.size < w3.heap.size := by have := hb3.size; omega
  have c30 := (hb3.cell (p := ⟨w.heap.size, 0, none⟩) hz2).trans c20
  have c31 := (hb3.cell (p := ⟨w.heap.size, 1, none⟩) hz2).trans c21
  clear hm3 hb3 c20 c21 HB2 hz2
  go_wp2_with fail
  refine (l7Rows_any (some ⟨g, 0, none⟩) X.length X w3 HM3.out.sl hl HXO.out).mono ?_
  rintro e w4 ⟨v4, rfl, hown4, hb4⟩
  obtain ⟨A4, C4, rfl, -, -, hs4⟩ := hown4.sl
  have HS4 := Lib.hid hs4
  have HB4 := Lib.hid (Below.then HB3.out hb4 (by omega))
  have hz4 : w.heap.size < w4.heap.size := by have := hb4.size; omega
  have c40 := (hb4.cell (p := ⟨w.heap.size, 0, none⟩) hz3).trans c30
  have c41 := (hb4.cell (p := ⟨w.heap.size, 1, none⟩) hz3).trans c31
  clear hown4 hs4 hb4 c30 c31 HB3 hz3 HM3
  go_wp2_with fail
  refine (r7Same_self A4 YA C4 YC X w4 HS4.out ((HY.out.below HB4.out (Nat.le_refl _)).more (by omega)) hl HXO.out).mono ?_
  rintro e w5 ⟨rfl, hx5⟩
  have HB5 := Lib.hid (Below.then HB4.out hx5.below (by omega))
  have hz5 : w.heap.size < w5.heap.size := by have := hx5.size; omega
  have c50 := (hx5.cell (o := 0) hz4).trans c40
  have c51 := (hx5.cell (o := 1) hz4).trans c41
  clear hx5 c40 c41 HB4 hz4 HS4
  go_wp2_with fail
  go_loopw [31] (fun i wr => ∃ k : Nat, k ≤ X.length ∧ i = .int .i64 k ∧ wr.cell? ⟨w.heap.size, 0, none⟩ = some (.int .i64 n) ∧ wr.cell? ⟨w.heap.size, 1, none⟩ = some (.slice RA X.length RC) ∧ w.heap.size < wr.heap.size ∧ Below w.heap.size w wr) (fun i _ => X.length - (intOf i).toNat)
  case atStart => exact ⟨0, Nat.zero_le _, rfl, c50, c51, hz5, HB5.out⟩
  case round =>
    obtain ⟨k, hka, rfl, c0, c1, hz, hbel⟩ := hrel
    have HB := Lib.hid hbel
    clear c50 c51 hz5 HB5 hbel
    by_cases h1 : k < X.length
    · obtain ⟨b, o, A2, C2, rfl, hb, d, -, -, s2⟩ := slRs_at HY.out h1
      have d2 := (HB.out.cell (p := ⟨b, o + k, none⟩) hb).trans d
      have HS2 := Lib.hid s2
      have HOK := Lib.hid (HXO.out.at_ h1)
      have HAT := Lib.hid (rlAt_ok n RA RC X k wr ((HX.out.below HB.out (Nat.le_refl _)).more (by omega)) HXO.out hl h1)
      clear d s2
      generalize X[k] = x at d2 HS2 HOK HAT
      go_wp2_with fail
      refine HAT.out.mono ?_
      rintro e w6 ⟨v6, rfl, hown6, hb6⟩
      obtain ⟨-, A3, C3, rfl, -, -, hs3, -⟩ := SlR.of_own hown6
      have HS3 := Lib.hid hs3
      have HB6 := Lib.hid (Below.then HB.out hb6 (by omega))
      have hz6 : w.heap.size < w6.heap.size := by have := hb6.size; omega
      have c60 := (hb6.cell (p := ⟨w.heap.size, 0, none⟩) hz).trans c0
      have c61 := (hb6.cell (p := ⟨w.heap.size, 1, none⟩) hz).trans c1
      have d6 := (hb6.cell (p := ⟨b, o + k, none⟩) (show b < wr.heap.size by omega)).trans d2
      have hxl : x.length ≤ 1000000 := HOK.out.1
      clear hown6 hs3 hb6 HAT d2 c0 c1
      go_wp2_with fail
      go_region_held3 (fun w' => w'.cell? ⟨b, o + k, none⟩ = some (.slice A2 x.length C2)) (first | exact KEEP2 | exact KEEP1 | go_keep)
        (first
          | (go_at_call 19; refine (l7Row_any A3 C3 x w6.drew HS3.out hxl).mono ?_; rintro e w7 ⟨v7, rfl, hown7, hb7⟩
             obtain ⟨-, A5, C5, rfl, -, -, hs5, -⟩ := SlR.of_own hown7
             have HS5 := Lib.hid hs5
             have HB7 := Lib.hid (Below.then HB6.out.drew hb7 (show w.heap.size ≤ w6.heap.size by omega))
             have hz7 : w.heap.size < w7.heap.size := by have := hb7.size; simp at this; omega
             have c70 := (hb7.cell (p := ⟨w.heap.size, 0, none⟩) hz6).trans c60
             have c71 := (hb7.cell (p := ⟨w.heap.size, 1, none⟩) hz6).trans c61
             have KEEP1 := (hb7.cell (p := ⟨b, o + k, none⟩) (show b < w6.heap.size by omega)).trans d6
             clear hown7 hs5 hb7)
          | (go_at_call 34; refine (r7Compare_self A5 A2 C5 C2 x w7 HS5.out ((HS2.out.below HB7.out (Nat.le_refl _)).more (by omega)) HOK.out).mono ?_; rintro e w8 ⟨rfl, hx8⟩
             have HB8 := Lib.hid (Below.then HB7.out hx8.below (by omega))
             have hz8 : w.heap.size < w8.heap.size := by have := hx8.size; omega
             have c80 := (hx8.cell (o := 0) hz7).trans c70
             have c81 := (hx8.cell (o := 1) hz7).trans c71
             have KEEP2 := (hx8.cell (o := o + k) (show b < w7.heap.size by omega)).trans KEEP1
             clear hx8)
          | fail)
      go_wp2
      go_roundw
      case rel => exact ⟨k + 1, by omega, by go_num, c80, c81, hz8, HB8.out⟩
      case measure => simp [intOf]; omega
    · obtain rfl : k = X.length := by omega
      go_wp2
      go_ret
      exact ⟨rfl, HB.out⟩

end Go.Proofs.Ytiopkooigeaneaa

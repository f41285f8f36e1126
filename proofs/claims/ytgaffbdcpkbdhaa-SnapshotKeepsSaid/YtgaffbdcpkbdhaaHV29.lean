/- Walks: slices.EqualFunc at rows with row.Equal, relation's Equal. -/
import Derived.Test.YtgaffbdcpkbdhaaQ2
namespace Go.Proofs.Ytgaffbdcpkbdhaa
open Go.RowKit Go.Sort

theorem take_eq_snoc {X Y : List RL.R} {k : Nat} (hx : k < X.length) (hy : k < Y.length) (h : X.take k = Y.take k) (e : X[k] = Y[k]) : X.take (k + 1) = Y.take (k + 1) := by
  rw [List.take_succ_eq_append_getElem hx, List.take_succ_eq_append_getElem hy, h, e]

set_option maxHeartbeats 1000000 in
set_option maxRecDepth 100000 in
theorem equalFunc_any (XA YA : Option Addr) (XC YC : Nat) (X Y : List RL.R) (w : World) (hX : SlRs w.heap.size w XA X) (hY : SlRs w.heap.size w YA Y) (_hXl : X.length ≤ 1000000) (hYl : Y.length ≤ 1000000) (hXo : RsOk X) (hYo : RsOk Y) :
    Calls Try.prog 54 #[.slice XA X.length XC, .slice YA Y.length YC, .func (.func 55) #[] #[]] w fun e w' => e = .returned (.bool (decide (X = Y))) ∧ Ext w w' := by
  have HX := Lib.hid hX
  have HY := Lib.hid hY
  have HXO := Lib.hid hXo
  have HYO := Lib.hid hYo
  clear hX hY hXo hYo
  by_cases hl : X.length = Y.length
  rotate_left
  · have HD : Hid (decide (X = Y) = false) := by show _ = _; simp only [decide_eq_false_iff_not]; intro e; exact hl (by rw [e])
    have hl2 : ((X.length : Int) != (Y.length : Int)) = true := by simp; omega
    clear hl
    go_enter Try.func54, Try.ntmps54
    go_wp2
    go_ret
    exact ⟨by rw [HD.out]; rfl, Ext.refl _⟩
  have eg : ∀ args w, (callFunc 55 args).run Try.prog w = .ok (.enter 55 args) w := enters_of Try.func55 (by kernel_rfl) rfl
  have HL := Lib.hid hl
  rw [← hl]
  have hYX : X.length ≤ Y.length := by omega
  clear hl
  go_enter Try.func54, Try.ntmps54
  go_wp2
  go_loopw [17] (fun i wr => ∃ k : Nat, k ≤ X.length ∧ i = .int .i64 k ∧ X.take k = Y.take k ∧ Ext w wr) (fun i _ => X.length - (intOf i).toNat)
  case atStart => exact ⟨0, Nat.zero_le _, rfl, by simp, Ext.refl _⟩
  case round =>
    obtain ⟨k, hka, rfl, htk, hext⟩ := hrel
    have HT := Lib.hid htk
    have HE := Lib.hid hext
    have hzz := hext.size
    clear htk
    by_cases h1 : k < X.length
    · obtain ⟨b, o, A1, C1, rfl, hb, c1, -, -, s1⟩ := slRs_at HX.out h1
      obtain ⟨b2, o2, A2, C2, rfl, hb2, c2, -, -, s2⟩ := slRs_at HY.out (show k < Y.length by omega)
      have d1 := (hext.cell (o := o + k) hb).trans c1
      have d2 := (hext.cell (o := o2 + k) hb2).trans c2
      have HC := Lib.hid (rwEqual_any A1 A2 C1 C2 X[k] Y[k] wr (s1.up hext) (s2.up hext) (HXO.out.at_ h1).1 (HYO.out.at_ (show k < Y.length by omega)).1)
      have hkY : k < Y.length := by omega
      have HN := Lib.hid (fun (e : X[k] = Y[k]) => take_eq_snoc h1 hkY HT.out e)
      have HNE : Hid (X[k] ≠ Y[k] → decide (X = Y) = false) := fun hne => by
        simp only [decide_eq_false_iff_not]
        intro e
        subst e
        exact hne rfl
      clear c1 c2 s1 s2 hext
      generalize X[k] = x at *
      generalize Y[k] = y at *
      go_wp2_with fail
      refine HC.out.mono ?_
      rintro e w1 ⟨rfl, hx1⟩
      have HE1 := Lib.hid (HE.out.trans hx1)
      clear hx1 HC d1 d2
      by_cases hq : x = y
      · have HN2 := Lib.hid (HN.out hq)
        have hd : decide (x = y) = true := by simpa using hq
        rw [hd]
        clear hq hd HN HNE
        go_wp2
        go_roundw
        case rel => exact ⟨k + 1, by omega, by go_num, HN2.out, HE1.out⟩
        case measure => simp [intOf]; omega
      · have HN2 := Lib.hid (HNE.out hq)
        have hd : decide (x = y) = false := by simpa using hq
        rw [hd]
        clear hq hd HN HNE
        go_wp2
        go_ret
        exact ⟨by rw [HN2.out]; rfl, HE1.out⟩
    · have HD : Hid (decide (X = Y) = true) := by
        show _ = _
        have := HT.out
        rw [List.take_of_length_le (show X.length ≤ k by omega), List.take_of_length_le (show Y.length ≤ k by have := HL.out; omega)] at this
        simpa using this
      go_wp2
      go_ret
      exact ⟨by rw [HD.out]; rfl, HE.out⟩

set_option maxHeartbeats 1000000 in
set_option maxRecDepth 100000 in
theorem rlEqual_any (n m : Int) (XA YA : Option Addr) (XC YC : Nat) (X Y : List RL.R) (w : World) (hX : SlRs w.heap.size w XA X) (hY : SlRs w.heap.size w YA Y) (hXl : X.length ≤ 1000000) (hYl : Y.length ≤ 1000000) (hXo : RsOk X) (hYo : RsOk Y) :
    Calls Try.prog 39 #[.agg #[.int .i64 n, .slice XA X.length XC], .agg #[.int .i64 m, .slice YA Y.length YC]] w fun e w' => e = .returned (.bool (decide (n = m) && decide (X = Y))) ∧ Ext w w' := by
  have HC := Lib.hid (fun (W : World) (h : Ext w W) => equalFunc_any XA YA XC YC X Y W (hX.up h) (hY.up h) hXl hYl hXo hYo)
  clear hX hY hXo hYo
  by_cases hn : n = m
  · subst hn
    go_enter Try.func39, Try.ntmps39
    go_wp2_with fail
    refine (HC.out _ (((Ext.refl w).alloc _).alloc _)).mono ?_
    rintro e w1 ⟨rfl, hx1⟩
    have HE := Lib.hid ((((Ext.refl w).alloc _).alloc _).trans hx1)
    clear hx1
    obtain ⟨q, hq⟩ : ∃ q, q = decide (X = Y) := ⟨_, rfl⟩
    rw [← hq]
    have HQ := Lib.hid hq
    clear hq
    go_wp2
    go_ret
    exact ⟨by rw [← HQ.out]; simp, HE.out⟩
  · have h1 : (n == m) = false := by simpa using hn
    have HN : Hid (decide (n = m) = false) := by show _ = _; simpa using hn
    clear hn
    go_enter Try.func39, Try.ntmps39
    go_wp2
    go_ret
    exact ⟨by rw [HN.out]; rfl, ((Ext.refl w).alloc _).alloc _⟩

end Go.Proofs.Ytgaffbdcpkbdhaa

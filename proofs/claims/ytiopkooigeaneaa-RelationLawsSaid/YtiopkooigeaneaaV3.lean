/- Walks: rows: CompareBy with nil flags, Compare, Equal, Valid. -/
import Derived.Test.YtiopkooigeaneaaV2
import Derived.StillTailTactics
import Derived.Outline
namespace Go.Proofs.Ytiopkooigeaneaa
open Go.RowKit Go.Sort

theorem cmpR_drop {x y : RL.R} {k : Nat} (h1 : k < x.length) (h2 : k < y.length) (h : RL.cmpV x[k] y[k] = 0) : RL.cmpR (x.drop k) (y.drop k) = RL.cmpR (x.drop (k + 1)) (y.drop (k + 1)) := by
  rw [List.drop_eq_getElem_cons h1, List.drop_eq_getElem_cons h2]
  simp [RL.cmpR, RL.cmpL, h]
theorem cmpR_drop_ne {x y : RL.R} {k : Nat} (h1 : k < x.length) (h2 : k < y.length) (h : RL.cmpV x[k] y[k] ≠ 0) : RL.cmpR (x.drop k) (y.drop k) = RL.cmpV x[k] y[k] := by
  rw [List.drop_eq_getElem_cons h1, List.drop_eq_getElem_cons h2]
  simp [RL.cmpR, RL.cmpL, h]
theorem cmpR_end {x y : RL.R} {k : Nat} (h1 : k ≤ x.length) (h2 : k ≤ y.length) (h : x.length = k ∨ y.length = k) : RL.cmpR (x.drop k) (y.drop k) = if x.length < y.length then -1 else if y.length < x.length then 1 else 0 := by
  rcases h with h | h
  · rw [List.drop_of_length_le (by omega : x.length ≤ k), RL.cmpR_nil]
    by_cases h3 : y.drop k = []
    · have := congrArg List.length h3
      simp at this
      rw [if_pos h3, if_neg (by omega), if_neg (by omega)]
    · have : k < y.length := by
        refine Classical.byContradiction fun h4 => h3 (List.drop_of_length_le (by omega))
      rw [if_neg h3, if_pos (by omega)]
  · rw [List.drop_of_length_le (by omega : y.length ≤ k)]
    cases h3 : x.drop k with
    | nil =>
      have := congrArg List.length h3
      simp at this
      rw [if_neg (by omega), if_neg (by omega)]; rfl
    | cons v r =>
      have := congrArg List.length h3
      simp at this
      rw [if_neg (by omega), if_pos (by omega)]; rfl

set_option maxHeartbeats 400000 in
set_option maxRecDepth 100000 in
theorem rwCompareBy_any (XA YA : Option Addr) (XC YC : Nat) (x y : RL.R) (w : World) (hx : SlR w.heap.size w XA x) (hy : SlR w.heap.size w YA y) (hxl : x.length ≤ 1000000) (hyl : y.length ≤ 1000000) :
    Calls Try.prog 77 #[.slice XA x.length XC, .slice YA y.length YC, .slice none 0 0] w fun e w' => e = .returned (.int .i64 (RL.cmpR x y)) ∧ Ext w w' := by
  have HX := Lib.hid hx
  have HY := Lib.hid hy
  clear hx hy
  go_enter Try.func77, Try.ntmps77
  go_wp2
  go_loopw [14] (fun i wr => ∃ k : Nat, k ≤ x.length ∧ k ≤ y.length ∧ i = .int .i64 k ∧ RL.cmpR x y = RL.cmpR (x.drop k) (y.drop k) ∧ Ext w wr) (fun i _ => x.length - (intOf i).toNat)
  case atStart => exact ⟨0, Nat.zero_le _, Nat.zero_le _, rfl, by simp, Ext.refl _⟩
  case round =>
    obtain ⟨k, hka, hkb, rfl, hd, he⟩ := hrel
    have HD := Lib.hid hd
    clear hd
    by_cases h1 : k < x.length
    · by_cases h2 : k < y.length
      · obtain ⟨b, o, rfl, hb, c1, c2, c3⟩ := slR_at HX.out h1
        obtain ⟨b', o', rfl, hb', c1', c2', c3'⟩ := slR_at HY.out h2
        obtain ⟨hc, hf⟩ := he.rules
        have HN : Hid (RL.cmpV x[k] y[k] ≠ 0 → RL.cmpR x y = RL.cmpV x[k] y[k]) := fun h => HD.out.trans (cmpR_drop_ne h1 h2 h)
        have HZ : Hid (RL.cmpV x[k] y[k] = 0 → RL.cmpR x y = RL.cmpR (x.drop (k + 1)) (y.drop (k + 1))) := fun h => HD.out.trans (cmpR_drop h1 h2 h)
        generalize x[k] = u at c1 c2 c3 HN HZ
        generalize y[k] = v at c1' c2' c3' HN HZ
        go_wp2
        go_still_tail 8, (by kernel_rfl)
        go_wp2_with fail
        refine (vCompare_any u v _).mono ?_
        rintro e w2 ⟨rfl, hx2⟩
        have HE2 := Lib.hid (he.drew.trans hx2)
        clear hc hf c1 c2 c3 c1' c2' c3' hx2 he
        by_cases hz : RL.cmpV u v = 0
        · have HZ2 := Lib.hid (HZ.out hz)
          have hz2 : (RL.cmpV u v == 0) = true := by simpa using hz
          clear hz HZ HN
          generalize RL.cmpV u v = c at *
          go_wp2
          go_roundw
          case rel => exact ⟨k + 1, by omega, by omega, by go_num, HZ2.out, HE2.out⟩
          case measure => simp [intOf]; omega
        · have HN2 := Lib.hid (HN.out hz)
          have hz2 : (RL.cmpV u v == 0) = false := by simpa using hz
          clear hz HZ HN
          generalize RL.cmpV u v = c at *
          go_wp2
          go_ret
          exact ⟨ret_int HN2.out.symm, HE2.out⟩
      · have HR := Lib.hid (HD.out.trans (cmpR_end hka hkb (.inr (by omega))))
        clear HD
        have hn : ¬ (k : Int) < min (x.length : Int) (y.length : Int) := by omega
        by_cases g1 : x.length < y.length
        · have HR2 := Lib.hid (HR.out.trans (if_pos g1))
          go_wp2
          go_ret
          exact ⟨ret_int HR2.out.symm, he⟩
        · by_cases g2 : y.length < x.length
          · have HR2 := Lib.hid ((HR.out.trans (if_neg g1)).trans (if_pos g2))
            go_wp2
            go_ret
            exact ⟨ret_int HR2.out.symm, he⟩
          · have HR2 := Lib.hid ((HR.out.trans (if_neg g1)).trans (if_neg g2))
            go_wp2
            go_ret
            exact ⟨ret_int HR2.out.symm, he⟩
    · have HR := Lib.hid (HD.out.trans (cmpR_end hka hkb (.inl (by omega))))
      clear HD
      have hn : ¬ (k : Int) < min (x.length : Int) (y.length : Int) := by omega
      by_cases g1 : x.length < y.length
      · have HR2 := Lib.hid (HR.out.trans (if_pos g1))
        go_wp2
        go_ret
        exact ⟨ret_int HR2.out.symm, he⟩
      · by_cases g2 : y.length < x.length
        · have HR2 := Lib.hid ((HR.out.trans (if_neg g1)).trans (if_pos g2))
          go_wp2
          go_ret
          exact ⟨ret_int HR2.out.symm, he⟩
        · have HR2 := Lib.hid ((HR.out.trans (if_neg g1)).trans (if_neg g2))
          go_wp2
          go_ret
          exact ⟨ret_int HR2.out.symm, he⟩

theorem rwCompare_any (XA YA : Option Addr) (XC YC : Nat) (x y : RL.R) (w : World) (hx : SlR w.heap.size w XA x) (hy : SlR w.heap.size w YA y) (hxl : x.length ≤ 1000000) (hyl : y.length ≤ 1000000) :
    Calls Try.prog 72 #[.slice XA x.length XC, .slice YA y.length YC] w fun e w' => e = .returned (.int .i64 (RL.cmpR x y)) ∧ Ext w w' := by
  have HC := Lib.hid (rwCompareBy_any XA YA XC YC x y w hx hy hxl hyl)
  clear hx hy
  generalize RL.cmpR x y = c at *
  go_enter Try.func72, Try.ntmps72
  go_wp2_with (go_at_call 77; refine HC.out.mono ?_; rintro e w' ⟨rfl, hx⟩)
  go_ret
  exact ⟨rfl, hx⟩

theorem rwEqual_any (XA YA : Option Addr) (XC YC : Nat) (x y : RL.R) (w : World) (hx : SlR w.heap.size w XA x) (hy : SlR w.heap.size w YA y) (hxl : x.length ≤ 1000000) (hyl : y.length ≤ 1000000) :
    Calls Try.prog 73 #[.slice XA x.length XC, .slice YA y.length YC] w fun e w' => e = .returned (.bool (decide (x = y))) ∧ Ext w w' := by
  have HC := Lib.hid (rwCompare_any XA YA XC YC x y w hx hy hxl hyl)
  have HQ : Hid ((RL.cmpR x y == 0) = decide (x = y)) := by
    show _ = _
    rw [Bool.eq_iff_iff]; simp [RL.tot_cmpR.z]
  clear hx hy
  generalize RL.cmpR x y = c at *
  go_enter Try.func73, Try.ntmps73
  go_wp2_with (go_at_call 72; refine HC.out.mono ?_; rintro e w' ⟨rfl, hx⟩)
  go_ret
  exact ⟨ret_bool HQ.out, hx⟩

def StrOk (x : RL.R) : Prop := ∀ v ∈ x, v.str.size ≤ 1000000000

set_option maxHeartbeats 400000 in
set_option maxRecDepth 100000 in
theorem rwValid_any (XA : Option Addr) (XC : Nat) (x : RL.R) (w : World) (hx : SlR w.heap.size w XA x) (hxl : x.length ≤ 1000000) (hs : StrOk x) :
    Calls Try.prog 78 #[.slice XA x.length XC] w fun e w' => e = .returned (.bool (x.all RL.validV)) ∧ Ext w w' := by
  have HX := Lib.hid hx
  have HST := Lib.hid hs
  clear hx hs
  go_enter Try.func78, Try.ntmps78
  go_wp2
  go_loopw [6] (fun i wr => ∃ k : Nat, k ≤ x.length ∧ i = .int .i64 k ∧ x.all RL.validV = (x.drop k).all RL.validV ∧ Ext w wr) (fun i _ => x.length - (intOf i).toNat)
  case atStart => exact ⟨0, Nat.zero_le _, rfl, by simp, Ext.refl _⟩
  case round =>
    obtain ⟨k, hka, rfl, hd, he⟩ := hrel
    have HD := Lib.hid hd
    clear hd
    by_cases h1 : k < x.length
    · obtain ⟨b, o, rfl, hb, c1, c2, c3⟩ := slR_at HX.out h1
      obtain ⟨hc, hf⟩ := he.rules
      have HN := Lib.hid (HD.out.trans (by rw [List.drop_eq_getElem_cons h1, List.all_cons] : (x.drop k).all RL.validV = (RL.validV x[k] && (x.drop (k + 1)).all RL.validV)))
      have HC : Hid (∀ W, Calls Try.prog 82 #[vv x[k]] W fun e w' => e = .returned (.bool (RL.validV x[k])) ∧ Ext W w') := fun W => vValid_any x[k] W (Nat.le_trans (HST.out _ (List.getElem_mem h1)) (by omega))
      generalize x[k] = u at c1 c2 c3 HN HC
      cases hv : RL.validV u
      · rw [hv] at HC HN
        clear hv
        go_wp2_with fail
        refine (HC.out _).mono ?_
        rintro e w2 ⟨rfl, hx2⟩
        have HE2 := Lib.hid (he.trans hx2)
        clear hc hf c1 c2 c3 hx2 he
        go_wp2
        go_ret
        exact ⟨ret_bool (by rw [HN.out]; rfl), HE2.out⟩
      · rw [hv] at HC HN
        clear hv
        go_wp2_with fail
        refine (HC.out _).mono ?_
        rintro e w2 ⟨rfl, hx2⟩
        have HE2 := Lib.hid (he.trans hx2)
        clear hc hf c1 c2 c3 hx2 he
        go_wp2
        go_roundw
        case rel => exact ⟨k + 1, by omega, by go_num, by rw [HN.out]; rfl, HE2.out⟩
        case measure => simp [intOf]; omega
    · have HR := Lib.hid (HD.out.trans (by rw [List.drop_of_length_le (by omega)]; rfl : (x.drop k).all RL.validV = true))
      go_wp2
      go_ret
      exact ⟨ret_bool HR.out.symm, he⟩

end Go.Proofs.Ytiopkooigeaneaa

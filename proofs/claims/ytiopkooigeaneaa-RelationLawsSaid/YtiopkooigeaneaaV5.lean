/- Walks: the reference's rows (ordinalref07: Compare, Same, Wrong, Search, Begins, Range) and the laws' own conversions (width, Great, Row, Rows). -/
import Derived.Test.YtiopkooigeaneaaV4
import Derived.Test.YtiopkooigeaneaaE2
namespace Go.Proofs.Ytiopkooigeaneaa
open Go.RowKit Go.Sort

theorem StrOk.at_ {x : RL.R} (h : StrOk x) {i : Nat} (hi : i < x.length) : x[i].str.size ≤ 1000000000 := h _ (List.getElem_mem hi)

set_option maxHeartbeats 400000 in
set_option maxRecDepth 100000 in
theorem r7Compare_any (XA YA : Option Addr) (XC YC : Nat) (x y : RL.R) (w : World) (hx : SlR w.heap.size w XA x) (hy : SlR w.heap.size w YA y) (hxo : ROk x) (hyo : ROk y) :
    Calls Try.prog 34 #[.slice XA x.length XC, .slice YA y.length YC] w fun e w' => e = .returned (.int .i64 (RL.cmpR x y)) ∧ Ext w w' := by
  have HX := Lib.hid hx
  have HY := Lib.hid hy
  have HXO := Lib.hid hxo.2
  have HYO := Lib.hid hyo.2
  have hxl := hxo.1
  have hyl := hyo.1
  clear hx hy hxo hyo
  go_enter Try.func34, Try.ntmps34
  go_wp2
  go_loopw [5] (fun i wr => ∃ k : Nat, k ≤ x.length ∧ k ≤ y.length ∧ i = .int .i64 k ∧ RL.cmpR x y = RL.cmpR (x.drop k) (y.drop k) ∧ Ext w wr) (fun i _ => x.length - (intOf i).toNat)
  case atStart => exact ⟨0, Nat.zero_le _, Nat.zero_le _, rfl, by simp, Ext.refl _⟩
  case round =>
    obtain ⟨k, hka, hkb, rfl, hd, he⟩ := hrel
    have HD := Lib.hid hd
    clear hd
    by_cases h1 : k < x.length
    · by_cases h2 : k < y.length
      · obtain ⟨b, o, rfl, hb, c1, c2, c3⟩ := slR_at HX.out h1
        obtain ⟨b', o', rfl, hb', c1', c2', c3'⟩ := slR_at HY.out h2
        obtain ⟨hc, hf⟩ := he.rules
        have HN : Hid (RL.cmpV x[k] y[k] ≠ 0 → RL.cmpR x y = RL.cmpV x[k] y[k]) := fun h => HD.out.trans (cmpR_drop_ne h1 h2 h)
        have HZ : Hid (RL.cmpV x[k] y[k] = 0 → RL.cmpR x y = RL.cmpR (x.drop (k + 1)) (y.drop (k + 1))) := fun h => HD.out.trans (cmpR_drop h1 h2 h)
        have HC := Lib.hid (fun W => r1Compare_any x[k] y[k] W (HXO.out.at_ h1) (HYO.out.at_ h2))
        generalize x[k] = u at c1 c2 c3 HN HZ HC
        generalize y[k] = v at c1' c2' c3' HN HZ HC
        go_wp2
        go_still_tail 8, (by kernel_rfl)
        go_wp2_with fail
        refine (HC.out _).mono ?_
        rintro e w2 ⟨rfl, hx2⟩
        have HE2 := Lib.hid (he.drew.trans hx2)
        clear hc hf c1 c2 c3 c1' c2' c3' hx2 he HC
        by_cases hz : RL.cmpV u v = 0
        · have HZ2 := Lib.hid (HZ.out hz)
          have hz2 : (RL.cmpV u v != 0) = false := by simpa using hz
          clear hz HZ HN
          generalize RL.cmpV u v = c at *
          go_wp2
          go_roundw
          case rel => exact ⟨k + 1, by omega, by omega, by go_num, HZ2.out, HE2.out⟩
          case measure => simp [intOf]; omega
        · have HN2 := Lib.hid (HN.out hz)
          have hz2 : (RL.cmpV u v != 0) = true := by simpa using hz
          clear hz HZ HN
          generalize RL.cmpV u v = c at *
          go_wp2
          go_ret
          exact ⟨ret_int HN2.out.symm, HE2.out⟩
      · have HR := Lib.hid (HD.out.trans (cmpR_end hka hkb (.inr (by omega))))
        clear HD
        by_cases g1 : x.length < y.length
        · have HR2 := Lib.hid (HR.out.trans (if_pos g1))
          go_wp2
          go_ret
          exact ⟨ret_int HR2.out.symm, he⟩
        · by_cases g2 : y.length < x.length
          · have HR2 := Lib.hid ((HR.out.trans (if_neg g1)).trans (if_pos g2))
            go_wp2
            go_ret
            exact ⟨ret_int HR2.out.symm, he⟩
          · have HR2 := Lib.hid ((HR.out.trans (if_neg g1)).trans (if_neg g2))
            go_wp2
            go_ret
            exact ⟨ret_int HR2.out.symm, he⟩
    · have HR := Lib.hid (HD.out.trans (cmpR_end hka hkb (.inl (by omega))))
      clear HD
      by_cases g1 : x.length < y.length
      · have HR2 := Lib.hid (HR.out.trans (if_pos g1))
        go_wp2
        go_ret
        exact ⟨ret_int HR2.out.symm, he⟩
      · by_cases g2 : y.length < x.length
        · have HR2 := Lib.hid ((HR.out.trans (if_neg g1)).trans (if_pos g2))
          go_wp2
          go_ret
          exact ⟨ret_int HR2.out.symm, he⟩
        · have HR2 := Lib.hid ((HR.out.trans (if_neg g1)).trans (if_neg g2))
          go_wp2
          go_ret
          exact ⟨ret_int HR2.out.symm, he⟩

theorem eq_drop_step {X Y : List RL.R} {k : Nat} (h1 : k < X.length) (h2 : k < Y.length) : (X.drop k = Y.drop k) ↔ (X[k] = Y[k] ∧ X.drop (k + 1) = Y.drop (k + 1)) := by
  rw [List.drop_eq_getElem_cons h1, List.drop_eq_getElem_cons h2, List.cons.injEq]

set_option maxHeartbeats 400000 in
set_option maxRecDepth 100000 in
theorem r7Same_any (XA YA : Option Addr) (XC YC : Nat) (X Y : List RL.R) (w : World) (hX : SlRs w.heap.size w XA X) (hY : SlRs w.heap.size w YA Y) (hXl : X.length ≤ 1000000) (hYl : Y.length ≤ 1000000) (hXo : RsOk X) (hYo : RsOk Y) :
    Calls Try.prog 51 #[.slice XA X.length XC, .slice YA Y.length YC] w fun e w' => e = .returned (.bool (decide (X = Y))) ∧ Ext w w' := by
  by_cases hl : X.length = Y.length
  rotate_left
  · have hd : decide (X = Y) = false := by simp; intro h; subst h; exact hl rfl
    rw [hd]
    have hne : ((X.length : Int) != (Y.length : Int)) = true := by simp; omega
    clear hX hY hl hXo hYo
    go_enter Try.func51, Try.ntmps51
    go_wp2
    go_ret
    exact ⟨rfl, Ext.refl _⟩
  have hne : ((X.length : Int) != (Y.length : Int)) = false := by simp; omega
  have HL := Lib.hid hl
  have HX := Lib.hid hX
  have HY := Lib.hid hY
  have HXO := Lib.hid hXo
  have HYO := Lib.hid hYo
  clear hX hY hXo hYo hl
  go_enter Try.func51, Try.ntmps51
  go_wp2
  go_loopw [5] (fun i wr => ∃ k : Nat, k ≤ X.length ∧ i = .int .i64 k ∧ (X = Y ↔ X.drop k = Y.drop k) ∧ Ext w wr) (fun i _ => X.length - (intOf i).toNat)
  case atStart => exact ⟨0, Nat.zero_le _, rfl, by simp, Ext.refl _⟩
  case round =>
    obtain ⟨k, hka, rfl, hd, he⟩ := hrel
    have HD := Lib.hid hd
    clear hd
    by_cases h1 : k < X.length
    · have h2 : k < Y.length := by have := HL.out; omega
      obtain ⟨b, o, A1, C1, rfl, hb, c1, -, -, s1⟩ := slRs_at HX.out h1
      obtain ⟨b', o', A2, C2, rfl, hb', c2, -, -, s2⟩ := slRs_at HY.out h2
      obtain ⟨hc, hf⟩ := he.rules
      have HN := Lib.hid (HD.out.trans (eq_drop_step h1 h2))
      have HC := Lib.hid (fun W (hx : Ext w W) => r7Compare_any A1 A2 C1 C2 X[k] Y[k] W ((s1.ext (Nat.le_refl _) hx).more hx.size) ((s2.ext (Nat.le_refl _) hx).more hx.size) (HXO.out.at_ h1) (HYO.out.at_ h2))
      clear s1 s2
      generalize X[k] = u at c1 HN HC
      generalize Y[k] = v at c2 HN HC
      go_wp2
      go_still_tail 8, (by kernel_rfl)
      go_wp2_with fail
      refine (HC.out _ he.drew).mono ?_
      rintro e w2 ⟨rfl, hx2⟩
      have HE2 := Lib.hid (he.drew.trans hx2)
      clear hc hf c1 c2 hx2 he HC
      by_cases hz : RL.cmpR u v = 0
      · have hz2 : (RL.cmpR u v != 0) = false := by simpa using hz
        have HZ : Hid (X = Y ↔ X.drop (k + 1) = Y.drop (k + 1)) := by
          show _ ↔ _
          rw [HN.out, (RL.tot_cmpR.z u v).1 hz]; simp
        clear hz HN
        generalize RL.cmpR u v = c at *
        go_wp2
        go_roundw
        case rel => exact ⟨k + 1, by omega, by go_num, HZ.out, HE2.out⟩
        case measure => simp [intOf]; omega
      · have hz2 : (RL.cmpR u v != 0) = true := by simpa using hz
        have HZ : Hid (decide (X = Y) = false) := by
          show _ = _
          simp only [decide_eq_false_iff_not]
          rw [HN.out]
          exact fun h => hz ((RL.tot_cmpR.z u v).2 h.1)
        clear hz HN
        generalize RL.cmpR u v = c at *
        go_wp2
        go_ret
        exact ⟨ret_bool HZ.out.symm, HE2.out⟩
    · have HR : Hid (decide (X = Y) = true) := by
        show _ = _
        simp only [decide_eq_true_eq]
        rw [HD.out, List.drop_of_length_le (by omega), List.drop_of_length_le (by have := HL.out; omega)]
      go_wp2
      go_ret
      exact ⟨ret_bool HR.out.symm, he⟩

/-- The error code of a row for an arity. -/
def wrongF (n : Int) (x : RL.R) : Int := if (x.length : Int) ≠ n then 6 else if x.all RL.validV = true then 0 else 4

set_option maxHeartbeats 400000 in
set_option maxRecDepth 100000 in
theorem r7Wrong_any (n : Int) (XA : Option Addr) (XC : Nat) (x : RL.R) (w : World) (hx : SlR w.heap.size w XA x) (hxo : ROk x) :
    Calls Try.prog 23 #[.int .i64 n, .slice XA x.length XC] w fun e w' => e = .returned (.int .i64 (wrongF n x)) ∧ Ext w w' := by
  have HX := Lib.hid hx
  have HST := Lib.hid hxo.2
  have hxl := hxo.1
  clear hx hxo
  by_cases hn : (x.length : Int) = n
  rotate_left
  · have hr : wrongF n x = 6 := by unfold wrongF; rw [if_pos hn]
    rw [hr]
    have hne : ((x.length : Int) != n) = true := by simpa using hn
    clear hr hn HX HST
    go_enter Try.func23, Try.ntmps23
    go_wp2
    go_ret
    exact ⟨rfl, Ext.refl _⟩
  subst hn
  have HW : Hid (wrongF (x.length : Int) x = if x.all RL.validV = true then 0 else 4) := by show _ = _; unfold wrongF; rw [if_neg (by simp)]
  go_enter Try.func23, Try.ntmps23
  go_wp2
  go_loopw [5] (fun i wr => ∃ k : Nat, k ≤ x.length ∧ i = .int .i64 k ∧ x.all RL.validV = (x.drop k).all RL.validV ∧ Ext w wr) (fun i _ => x.length - (intOf i).toNat)
  case atStart => exact ⟨0, Nat.zero_le _, rfl, by simp, Ext.refl _⟩
  case round =>
    obtain ⟨k, hka, rfl, hd, he⟩ := hrel
    have HD := Lib.hid hd
    clear hd
    by_cases h1 : k < x.length
    · obtain ⟨b, o, rfl, hb, c1, c2, c3⟩ := slR_at HX.out h1
      obtain ⟨hc, hf⟩ := he.rules
      have HN := Lib.hid (HD.out.trans (by rw [List.drop_eq_getElem_cons h1, List.all_cons] : (x.drop k).all RL.validV = (RL.validV x[k] && (x.drop (k + 1)).all RL.validV)))
      have HC : Hid (∀ W, Calls Try.prog 36 #[vv x[k]] W fun e w' => e = .returned (.bool (RL.validV x[k])) ∧ Ext W w') := fun W => r1Valid_any x[k] W (Nat.le_trans (HST.out _ (List.getElem_mem h1)) (by omega))
      generalize x[k] = u at c1 c2 c3 HN HC
      cases hv : RL.validV u
      · rw [hv] at HC HN
        clear hv
        go_wp2_with fail
        refine (HC.out _).mono ?_
        rintro e w2 ⟨rfl, hx2⟩
        have HE2 := Lib.hid (he.trans hx2)
        clear hc hf c1 c2 c3 hx2 he
        go_wp2
        go_ret
        exact ⟨ret_int (by rw [HW.out, HN.out]; rfl), HE2.out⟩
      · rw [hv] at HC HN
        clear hv
        go_wp2_with fail
        refine (HC.out _).mono ?_
        rintro e w2 ⟨rfl, hx2⟩
        have HE2 := Lib.hid (he.trans hx2)
        clear hc hf c1 c2 c3 hx2 he
        go_wp2
        go_roundw
        case rel => exact ⟨k + 1, by omega, by go_num, by rw [HN.out]; rfl, HE2.out⟩
        case measure => simp [intOf]; omega
    · have HR := Lib.hid (HD.out.trans (by rw [List.drop_of_length_le (by omega)]; rfl : (x.drop k).all RL.validV = true))
      go_wp2
      go_ret
      exact ⟨ret_int (by rw [HW.out, HR.out]; rfl), he⟩

theorem rank_snoc (X : List RL.R) (r : RL.R) (k : Nat) (h : k < X.length) : RL.rank (X.take (k + 1)) r = RL.rank (X.take k) r + if RL.cmpR X[k] r < 0 then 1 else 0 := by
  rw [List.take_succ_eq_append_getElem h]
  unfold RL.rank
  rw [List.countP_append]
  by_cases hc : RL.cmpR X[k] r < 0 <;> simp [hc]
theorem mem_snoc (X : List RL.R) (r : RL.R) (k : Nat) (h : k < X.length) : r ∈ X.take (k + 1) ↔ r ∈ X.take k ∨ RL.cmpR X[k] r = 0 := by
  rw [List.take_succ_eq_append_getElem h, List.mem_append, RL.tot_cmpR.z]
  simp [eq_comm]

set_option maxHeartbeats 1000000 in
set_option maxRecDepth 100000 in
theorem r7Search_any (XA A : Option Addr) (XC C : Nat) (X : List RL.R) (r : RL.R) (w : World) (hX : SlRs w.heap.size w XA X) (hr : SlR w.heap.size w A r) (hXl : X.length ≤ 1000000) (hXo : RsOk X) (hro : ROk r) :
    Calls Try.prog 18 #[.slice XA X.length XC, .slice A r.length C] w fun e w' => e = .returned (.tuple #[.int .i64 (RL.rank X r), .bool (decide (r ∈ X))]) ∧ Ext w w' := by
  have HX := Lib.hid hX
  have HR := Lib.hid hr
  have HXO := Lib.hid hXo
  have HRO := Lib.hid hro
  clear hX hr hXo hro
  go_enter Try.func18, Try.ntmps18
  go_wp2
  go_loopw [6, 7, 8] (fun n s i wr => ∃ k : Nat, k ≤ X.length ∧ i = .int .i64 k ∧ n = .int .i64 (RL.rank (X.take k) r) ∧ s = .bool (decide (r ∈ X.take k)) ∧ Ext w wr) (fun _ _ i _ => X.length - (intOf i).toNat)
  case atStart => exact ⟨0, Nat.zero_le _, rfl, rfl, by simp, Ext.refl _⟩
  case round =>
    obtain ⟨k, hka, rfl, rfl, rfl, he⟩ := hrel
    by_cases h1 : k < X.length
    · obtain ⟨b, o, A1, C1, rfl, hb, c1, -, -, s1⟩ := slRs_at HX.out h1
      obtain ⟨hc, hf⟩ := he.rules
      have hrk : RL.rank (X.take k) r ≤ k := by have := RL.rank_le (X.take k) r; simp at this; omega
      have HN := Lib.hid (rank_snoc X r k h1)
      have HM := Lib.hid (mem_snoc X r k h1)
      have HC := Lib.hid (fun W (hx : Ext w W) => r7Compare_any A1 A C1 C X[k] r W ((s1.ext (Nat.le_refl _) hx).more hx.size) ((HR.out.ext (Nat.le_refl _) hx).more hx.size) (HXO.out.at_ h1) HRO.out)
      clear s1
      generalize X[k] = u at c1 HN HM HC
      generalize RL.rank (X.take k) r = rk at *
      generalize hdm : decide (r ∈ X.take k) = dm at *
      have HDM := Lib.hid hdm
      clear hdm
      go_wp2_with fail
      refine (HC.out _ he).mono ?_
      rintro e w2 ⟨rfl, hx2⟩
      have HE2 := Lib.hid (he.trans hx2)
      clear hc hf c1 hx2 he HC
      generalize RL.cmpR u r = c at *
      by_cases hlt : c < 0
      · have hz2 : (c == 0) = false := by simp; omega
        have HK : Hid (RL.rank (X.take (k + 1)) r = rk + 1) := by show _ = _; rw [HN.out, if_pos hlt]
        have HK2 : Hid (decide (r ∈ X.take (k + 1)) = dm) := by
          show _ = _
          rw [← HDM.out, Bool.eq_iff_iff]; simp only [decide_eq_true_eq]; rw [HM.out]; constructor
          · rintro (h | h)
            · exact h
            · omega
          · exact .inl
        clear HN HM HDM
        go_wp2
        go_roundw
        case rel => exact ⟨k + 1, by omega, by go_num, by rw [HK.out]; go_num, by rw [HK2.out], HE2.out⟩
        case measure => simp [intOf]; omega
      · by_cases hz : c = 0
        · subst hz
          have HK : Hid (RL.rank (X.take (k + 1)) r = rk) := by show _ = _; rw [HN.out, if_neg hlt]; rfl
          have HK2 : Hid (decide (r ∈ X.take (k + 1)) = true) := by
            show _ = _
            simp only [decide_eq_true_eq]; rw [HM.out]; exact .inr rfl
          clear HN HM HDM
          go_wp2
          go_roundw
          case rel => exact ⟨k + 1, by omega, by go_num, by rw [HK.out], by rw [HK2.out], HE2.out⟩
          case measure => simp [intOf]; omega
        · have hz2 : (c == 0) = false := by simpa using hz
          have HK : Hid (RL.rank (X.take (k + 1)) r = rk) := by show _ = _; rw [HN.out, if_neg hlt]; rfl
          have HK2 : Hid (decide (r ∈ X.take (k + 1)) = dm) := by
            show _ = _
            rw [← HDM.out, Bool.eq_iff_iff]; simp only [decide_eq_true_eq]; rw [HM.out]; constructor
            · rintro (h | h)
              · exact h
              · exact absurd h hz
            · exact .inl
          clear HN HM HDM
          go_wp2
          go_roundw
          case rel => exact ⟨k + 1, by omega, by go_num, by rw [HK.out], by rw [HK2.out], HE2.out⟩
          case measure => simp [intOf]; omega
    · have HT := Lib.hid (List.take_of_length_le (show X.length ≤ k by omega))
      rw [HT.out]
      clear HT
      go_wp2
      go_ret2
      exact ⟨rfl, he⟩

set_option maxHeartbeats 400000 in
theorem r7Begins_any (XA YA : Option Addr) (XC YC : Nat) (x y : RL.R) (w : World) (hx : SlR w.heap.size w XA x) (hy : SlR w.heap.size w YA y) (hxo : ROk x) (hyo : ROk y) (hxc : x.length ≤ XC) (hxm : XC ≤ 9223372036854775807) :
    Calls Try.prog 57 #[.slice XA x.length XC, .slice YA y.length YC] w fun e w' => e = .returned (.bool (RL.beginsB x y)) ∧ Ext w w' := by
  have hxl := hxo.1
  have hyl := hyo.1
  by_cases h : y.length ≤ x.length
  · have HC : Hid (∀ XC', Calls Try.prog 34 #[.slice XA y.length XC', .slice YA y.length YC] w fun e w' => e = .returned (.int .i64 (RL.cmpR (x.take y.length) y)) ∧ Ext w w') := fun XC' => by
      have h1 := r7Compare_any XA YA XC' YC (x.take y.length) y w (hx.take _) hy ⟨by simp; omega, fun v hv => hxo.2 v (List.mem_of_mem_take hv)⟩ hyo
      rw [List.length_take, Nat.min_eq_left h] at h1
      exact h1
    have HB : Hid (RL.beginsB x y = (RL.cmpR (x.take y.length) y == 0)) := by
      show _ = _
      rw [Bool.eq_iff_iff]
      simp [RL.beginsB, h, RL.tot_cmpR.z]
    clear hx hy hxo hyo
    have hle : y.length ≤ XC := by omega
    generalize RL.cmpR (x.take y.length) y = c at *
    go_enter Try.func57, Try.ntmps57
    go_wp2_with (go_at_call 34; refine (HC.out _).mono ?_; rintro e w' ⟨rfl, hx⟩)
    go_ret
    exact ⟨ret_bool HB.out.symm, hx⟩
  · have HB : Hid (RL.beginsB x y = false) := by
      show _ = _
      simp [RL.beginsB, h]
    have hd : decide (y.length ≤ x.length) = false := by simpa using h
    clear hx hy h hxo hyo
    go_enter Try.func57, Try.ntmps57
    go_wp2
    go_ret
    exact ⟨ret_bool HB.out.symm, Ext.refl _⟩

end Go.Proofs.Ytiopkooigeaneaa

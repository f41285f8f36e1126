/- Parts of the proof, merged: K1, K2, K3, K4, I9, U1, E8, U2, W2. -/
import Derived.Test.YtlcammcifjihpaaQ2
import Derived.Test.YtlcammcifjihpaaQ1
import Derived.WalkLawsBesides
import Derived.Outline
import Derived.IntWalk
import Derived.Test.YtlcammcifjihpaaQ3
import Derived.Deep.AppendLies
import Derived.Test.YtlcammcifjihpaaRows

section
/- Walks: the reference of layer 3: Compare, SameRows, CompareRows. -/
namespace Go.Proofs.Ytlcammcifjihpaa
open Go.RowKit Go.Sort

theorem bytesLess_eq : ∀ x y : List UInt8, Op.bytesLess x y = decide (RL.cmpL RL.cmpB x y < 0)
  | x, [] => by cases x <;> simp [Op.bytesLess, RL.cmpL]
  | [], _ :: _ => by simp [Op.bytesLess, RL.cmpL]
  | a :: x, b :: y => by
    simp only [Op.bytesLess, RL.cmpL, bytesLess_eq x y, RL.cmpB, UInt8.lt_iff_toNat_lt]
    by_cases h1 : a.toNat < b.toNat
    · rw [if_pos h1]; simp [h1]
    · rw [if_neg h1]
      by_cases h2 : b.toNat < a.toNat
      · rw [if_pos h2]
        have : ¬ a = b := fun e => by rw [e] at h2; omega
        simp [h1, this]
      · rw [if_neg h2]
        have : a = b := by rw [← UInt8.toNat_inj]; omega
        simp [this]
theorem toList_data (a : ByteArray) : a.toList = a.data.toList := by rw [ByteArray.toList_eq]
theorem lessS (a b : ByteArray) : Op.bytesLess a.toList b.toList = decide (RL.cmpS a b < 0) := by
  rw [bytesLess_eq, toList_data, toList_data]
  unfold RL.cmpS
  rw [RL.compareBytes_eq]

theorem cmpI_lt {a b : Int} (h : a < b) : RL.cmpI a b = -1 := by unfold RL.cmpI; rw [if_pos h]
theorem cmpI_gt {a b : Int} (h : b < a) : RL.cmpI a b = 1 := by unfold RL.cmpI; rw [if_neg (by omega), if_pos h]

set_option maxHeartbeats 1000000 in
set_option maxRecDepth 100000 in
theorem r3Compare_any (u v : RL.V) (w : World) : Calls Try.prog 16 #[vv u, vv v] w fun e w' => e = .returned (.int .i64 (RL.cmpV u v)) ∧ Ext w w' := by
  obtain ⟨uk, ui, us⟩ := u
  obtain ⟨vk, vi, vs⟩ := v
  by_cases hk : uk = vk
  rotate_left
  · have hcm := RL.cmpV_kind (a := ⟨uk, ui, us⟩) (b := ⟨vk, vi, vs⟩) hk
    have hkn : (uk != vk) = true := by simpa using hk
    rw [hcm]
    rcases Int.lt_or_gt_of_ne hk with h | h
    · rw [cmpI_lt h]
      have h' : decide (uk < vk) = true := by simpa using h
      clear hcm
      go_enter Try.func16, Try.ntmps16
      go_wp2
      go_ret
      exact ⟨rfl, ((Ext.refl w).alloc _).alloc _⟩
    · rw [cmpI_gt h]
      have h' : decide (uk < vk) = false := by simp; omega
      clear hcm
      go_enter Try.func16, Try.ntmps16
      go_wp2
      go_ret
      exact ⟨rfl, ((Ext.refl w).alloc _).alloc _⟩
  subst hk
  have hkn : (uk != uk) = false := by simp
  by_cases hi : ui = vi
  rotate_left
  · have hcm := RL.cmpV_int (a := ⟨uk, ui, us⟩) (b := ⟨uk, vi, vs⟩) rfl hi
    rw [hcm]
    rcases Int.lt_or_gt_of_ne hi with h | h
    · rw [cmpI_lt h]
      have h' : decide (ui < vi) = true := by simpa using h
      clear hcm
      go_enter Try.func16, Try.ntmps16
      go_wp2
      go_ret
      exact ⟨rfl, ((Ext.refl w).alloc _).alloc _⟩
    · rw [cmpI_gt h]
      have h' : decide (ui < vi) = false := by simp; omega
      have h2 : (ui == vi) = false := by simpa using hi
      clear hcm
      go_enter Try.func16, Try.ntmps16
      go_wp2
      go_ret
      exact ⟨rfl, ((Ext.refl w).alloc _).alloc _⟩
  subst hi
  have hcm := RL.cmpV_str (a := ⟨uk, ui, us⟩) (b := ⟨uk, ui, vs⟩) rfl rfl
  rw [hcm]
  have h0 : decide (ui < ui) = false := by simp
  have h1 : (ui == ui) = true := by simp
  have hl := lessS us vs
  dsimp only
  clear hcm
  by_cases hs : us = vs
  · subst hs
    rw [RL.tot_cmpS.self] at *
    have hb : Op.bytesLess us.toList us.toList = false := by rw [hl]; rfl
    clear hl
    go_enter Try.func16, Try.ntmps16
    go_wp2
    go_ret
    exact ⟨rfl, ((Ext.refl w).alloc _).alloc _⟩
  have hsn : ¬ us.toList = vs.toList := fun e => by rw [toList_data, toList_data] at e; exact hs (RL.str_ext e)
  have hrg := RL.tot_cmpS.rg us vs
  have hz : RL.cmpS us vs ≠ 0 := fun e => hs ((RL.tot_cmpS.z _ _).1 e)
  by_cases hq : RL.cmpS us vs < 0
  · have e1 : RL.cmpS us vs = -1 := by omega
    have hb : Op.bytesLess us.toList vs.toList = true := by rw [hl]; simpa using hq
    rw [e1]
    clear hl hq e1 hz hrg hs
    go_enter Try.func16, Try.ntmps16
    go_wp2
    go_ret
    exact ⟨rfl, ((Ext.refl w).alloc _).alloc _⟩
  · have e1 : RL.cmpS us vs = 1 := by omega
    have hb : Op.bytesLess us.toList vs.toList = false := by rw [hl]; simpa using hq
    rw [e1]
    clear hl hq e1 hz hrg hs
    go_enter Try.func16, Try.ntmps16
    go_wp2
    go_ret
    exact ⟨rfl, ((Ext.refl w).alloc _).alloc _⟩

end Go.Proofs.Ytlcammcifjihpaa
end

section
/- Walks: the reference of layer 3: SameRows, CompareRows. -/
namespace Go.Proofs.Ytlcammcifjihpaa
open Go.RowKit Go.Sort

theorem run_eqV (u v : RL.V) (w : World) : (binOp .eql 38 (vv u) (vv v)).run Try.prog w = .ok (.bool (decide (u = v))) w := by
  simp [go_sem, RL.V.ext_iff, toList_data]
  by_cases h1 : u.kind = v.kind
  · by_cases h2 : u.int = v.int
    · by_cases h3 : u.str = v.str
      · simp [h1, h2, h3]
      · have : ¬ u.str.data.toList = v.str.data.toList := fun e => h3 (RL.str_ext e)
        simp only [if_pos h1, if_pos h2]
        rw [if_neg (by simpa using this)]
        simp [h1, h2, h3]
    · simp [h1, h2]
  · simp [h1]
theorem run_neV (u v : RL.V) (w : World) : (binOp .neq 38 (vv u) (vv v)).run Try.prog w = .ok (.bool (!decide (u = v))) w := by
  simp [go_sem, RL.V.ext_iff, toList_data]
  by_cases h1 : u.kind = v.kind
  · by_cases h2 : u.int = v.int
    · by_cases h3 : u.str = v.str
      · simp [h1, h2, h3]
      · have : ¬ u.str.data.toList = v.str.data.toList := fun e => h3 (RL.str_ext e)
        simp only [if_pos h1, if_pos h2]
        rw [if_neg (by simpa using this)]
        simp [h1, h2, h3]
    · simp [h1, h2]
  · simp [h1]
theorem run_neV_f {u v : RL.V} (h : u ≠ v) (w : World) : (binOp .neq 38 (vv u) (vv v)).run Try.prog w = .ok (.bool true) w := by rw [run_neV]; simp [h]
theorem run_neV_t {u v : RL.V} (h : u = v) (w : World) : (binOp .neq 38 (vv u) (vv v)).run Try.prog w = .ok (.bool false) w := by rw [run_neV]; simp [h]
theorem run_eqV_f {u v : RL.V} (h : u ≠ v) (w : World) : (binOp .eql 38 (vv u) (vv v)).run Try.prog w = .ok (.bool false) w := by rw [run_eqV]; simp [h]
theorem run_eqV_t {u v : RL.V} (h : u = v) (w : World) : (binOp .eql 38 (vv u) (vv v)).run Try.prog w = .ok (.bool true) w := by rw [run_eqV]; simp [h]

theorem rowEq_step {x y : RL.R} {k : Nat} (h1 : k < x.length) (h2 : k < y.length) : (x.drop k = y.drop k) ↔ (x[k] = y[k] ∧ x.drop (k + 1) = y.drop (k + 1)) := by
  rw [List.drop_eq_getElem_cons h1, List.drop_eq_getElem_cons h2, List.cons.injEq]

set_option maxHeartbeats 1000000 in
set_option maxRecDepth 100000 in
theorem r3SameRows_any (XA YA : Option Addr) (XC YC : Nat) (x y : RL.R) (w : World) (hx : SlR w.heap.size w XA x) (hy : SlR w.heap.size w YA y) (_hxl : x.length ≤ 1000000) (hyl : y.length ≤ 1000000) :
    Calls Try.prog 30 #[.slice XA x.length XC, .slice YA y.length YC] w fun e w' => e = .returned (.bool (decide (x = y))) ∧ Ext w w' := by
  by_cases hl : x.length = y.length
  rotate_left
  · have hd : decide (x = y) = false := by simp; intro h; subst h; exact hl rfl
    rw [hd]
    have hne : ((x.length : Int) != (y.length : Int)) = true := by simp; omega
    clear hx hy hl
    go_enter Try.func30, Try.ntmps30
    go_wp2
    go_ret
    exact ⟨rfl, Ext.refl _⟩
  have hne : ((x.length : Int) != (y.length : Int)) = false := by simp; omega
  have hl1 : x.length ≤ y.length := by omega
  have HL := Lib.hid hl
  have HX := Lib.hid hx
  have HY := Lib.hid hy
  clear hx hy hl
  go_enter Try.func30, Try.ntmps30
  go_wp2
  go_loopw [5] (fun i wr => ∃ k : Nat, k ≤ x.length ∧ i = .int .i64 k ∧ (x = y ↔ x.drop k = y.drop k) ∧ Ext w wr) (fun i _ => x.length - (intOf i).toNat)
  case atStart => exact ⟨0, Nat.zero_le _, rfl, by simp, Ext.refl _⟩
  case round =>
    obtain ⟨k, hka, rfl, hq, he⟩ := hrel
    have HQ := Lib.hid hq
    have HE := Lib.hid he
    clear hq
    by_cases h1 : k < x.length
    rotate_left
    · have HD : Hid (decide (x = y) = true) := by
        show _ = _
        have e1 : x.drop k = [] := List.drop_eq_nil_of_le (by omega)
        have e2 : y.drop k = [] := List.drop_eq_nil_of_le (by have := HL.out; omega)
        simpa using HQ.out.2 (by rw [e1, e2])
      go_wp2
      go_ret
      exact ⟨ret_bool HD.out.symm, HE.out⟩
    have h2 : k < y.length := by omega
    obtain ⟨b, o, rfl, hb, c1, c2, c3⟩ := slR_at HX.out h1
    obtain ⟨b', o', rfl, hb', d1, d2, d3⟩ := slR_at HY.out h2
    have HS := Lib.hid (HQ.out.trans (rowEq_step h1 h2))
    generalize x[k] = u at *
    generalize y[k] = v at *
    have c1 := (he.cell hb).trans c1
    have c2 := (he.cell hb).trans c2
    have c3 := (he.cell hb).trans c3
    have d1 := (he.cell hb').trans d1
    have d2 := (he.cell hb').trans d2
    have d3 := (he.cell hb').trans d3
    have g1 : (0 : Int) ≤ (k : Int) := by omega
    have g2 : (k : Int) < (x.length : Int) := by omega
    have g3 : (k : Int) < (y.length : Int) := by omega
    by_cases huv : u = v
    · have HQ2 : Hid (x = y ↔ x.drop (k + 1) = y.drop (k + 1)) := HS.out.trans ⟨fun h => h.2, fun h => ⟨huv, h⟩⟩
      have hr := run_neV_t huv
      clear huv HS
      go_wp2
      go_quiet (fail)
      go_wp2
      go_roundw
      case rel => exact ⟨k + 1, by omega, by go_num, HQ2.out, HE.out.drewN _⟩
      case measure => simp [intOf]; omega
    · have HD : Hid (decide (x = y) = false) := by show _ = _; simp; intro h; exact huv (HS.out.1 h).1
      have hr := run_neV_f huv
      clear huv HS
      go_wp2
      go_quiet (fail)
      go_wp2
      go_ret
      exact ⟨ret_bool HD.out.symm, HE.out.drewN _⟩

set_option maxHeartbeats 1000000 in
set_option maxRecDepth 100000 in
theorem r3CompareRows_any (XA YA : Option Addr) (XC YC : Nat) (x y : RL.R) (w : World) (hx : SlR w.heap.size w XA x) (hy : SlR w.heap.size w YA y) (hxl : x.length ≤ 1000000) (_hyl : y.length ≤ 1000000) :
    Calls Try.prog 45 #[.slice XA x.length XC, .slice YA y.length YC, .slice none 0 0] w fun e w' => e = .returned (.int .i64 (RL.cmpR x y)) ∧ Ext w w' := by
  have HX := Lib.hid hx
  have HY := Lib.hid hy
  clear hx hy
  go_enter Try.func45, Try.ntmps45
  go_wp2
  go_loopw [7] (fun i wr => ∃ k : Nat, k ≤ x.length ∧ k ≤ y.length ∧ i = .int .i64 k ∧ RL.cmpR x y = RL.cmpR (x.drop k) (y.drop k) ∧ Ext w wr) (fun i _ => x.length - (intOf i).toNat)
  case atStart => exact ⟨0, Nat.zero_le _, Nat.zero_le _, rfl, by simp, Ext.refl _⟩
  case round =>
    obtain ⟨k, hka, hkb, rfl, hd, he⟩ := hrel
    have HD := Lib.hid hd
    clear hd
    by_cases h1 : k < x.length
    · by_cases h2 : k < y.length
      · obtain ⟨b, o, rfl, hb, c1, c2, c3⟩ := slR_at HX.out h1
        obtain ⟨b', o', rfl, hb', c1', c2', c3'⟩ := slR_at HY.out h2
        obtain ⟨hc, hf⟩ := he.rules
        have HN : Hid (RL.cmpV x[k] y[k] ≠ 0 → RL.cmpR x y = RL.cmpV x[k] y[k]) := fun h => HD.out.trans (cmpR_drop_ne h1 h2 h)
        have HZ : Hid (RL.cmpV x[k] y[k] = 0 → RL.cmpR x y = RL.cmpR (x.drop (k + 1)) (y.drop (k + 1))) := fun h => HD.out.trans (cmpR_drop h1 h2 h)
        have HC := Lib.hid (fun W => r3Compare_any x[k] y[k] W)
        generalize x[k] = u at c1 c2 c3 HN HZ HC
        generalize y[k] = v at c1' c2' c3' HN HZ HC
        go_wp2
        go_still_tail 8, (by kernel_rfl)
        go_wp2_with fail
        refine (HC.out _).mono ?_
        rintro e w2 ⟨rfl, hx2⟩
        have HE2 := Lib.hid (he.drew.trans hx2)
        clear hc hf c1 c2 c3 c1' c2' c3' hx2 he HC
        by_cases hz : RL.cmpV u v = 0
        · have HZ2 := Lib.hid (HZ.out hz)
          have hz2 : (RL.cmpV u v != 0) = false := by simpa using hz
          clear hz HZ HN
          generalize RL.cmpV u v = c at *
          go_wp2
          go_roundw
          case rel => exact ⟨k + 1, by omega, by omega, by go_num, HZ2.out, HE2.out⟩
          case measure => simp [intOf]; omega
        · have HN2 := Lib.hid (HN.out hz)
          have hz2 : (RL.cmpV u v != 0) = true := by simpa using hz
          clear hz HZ HN
          generalize RL.cmpV u v = c at *
          go_wp2
          go_ret
          exact ⟨ret_int HN2.out.symm, HE2.out⟩
      · have HR := Lib.hid (HD.out.trans (cmpR_end hka hkb (.inr (by omega))))
        clear HD
        by_cases g1 : x.length < y.length
        · have HR2 := Lib.hid (HR.out.trans (if_pos g1))
          go_wp2
          go_ret
          exact ⟨ret_int HR2.out.symm, he⟩
        · by_cases g2 : y.length < x.length
          · have HR2 := Lib.hid ((HR.out.trans (if_neg g1)).trans (if_pos g2))
            go_wp2
            go_ret
            exact ⟨ret_int HR2.out.symm, he⟩
          · have HR2 := Lib.hid ((HR.out.trans (if_neg g1)).trans (if_neg g2))
            go_wp2
            go_ret
            exact ⟨ret_int HR2.out.symm, he⟩
    · have HR := Lib.hid (HD.out.trans (cmpR_end hka hkb (.inl (by omega))))
      clear HD
      by_cases g1 : x.length < y.length
      · have HR2 := Lib.hid (HR.out.trans (if_pos g1))
        go_wp2
        go_ret
        exact ⟨ret_int HR2.out.symm, he⟩
      · by_cases g2 : y.length < x.length
        · have HR2 := Lib.hid ((HR.out.trans (if_neg g1)).trans (if_pos g2))
          go_wp2
          go_ret
          exact ⟨ret_int HR2.out.symm, he⟩
        · have HR2 := Lib.hid ((HR.out.trans (if_neg g1)).trans (if_neg g2))
          go_wp2
          go_ret
          exact ⟨ret_int HR2.out.symm, he⟩


end Go.Proofs.Ytlcammcifjihpaa
end

section
/- Walks: the laws of chapter 34: Value, great, same. -/
namespace Go.Proofs.Ytlcammcifjihpaa
open Go.RowKit Go.Sort

/-- The value of a number below 256. -/
def valN (n : Nat) : RL.V := if 99 < n then ⟨2, 0, ⟨#[UInt8.ofNat n]⟩⟩ else ⟨1, n, ⟨#[]⟩⟩

set_option maxHeartbeats 1000000 in
set_option maxRecDepth 100000 in
theorem l34Value_any (n : Nat) (w : World) (hn : n < 256) : Calls Try.prog 13 #[.int .u8 n] w fun e w' => e = .returned (vv (valN n)) ∧ Below w.heap.size w w' := by
  by_cases h : 99 < n
  · have HV : Hid (valN n = ⟨2, 0, ⟨#[UInt8.ofNat n]⟩⟩) := if_pos h
    rw [HV.out]
    clear HV
    have h' : decide ((99 : Int) < (n : Int)) = true := by simp; omega
    go_enter Try.func13, Try.ntmps13
    go_wp2
    have hcv := run_convert_bytes_back (P := Try.prog) ((w.alloc (.cells #[.int .i64 0, .int .i64 0, .string ⟨#[]⟩] 38)).alloc (.cells #[.int .u8 n] 5)) 26 9 5 ⟨w.heap.size + 1, 0, none⟩ 1 [UInt8.ofNat n] Try.underlying26 Try.underlying5 Try.underlying9 (fun j hj => by
      simp only [List.length_singleton] at hj
      obtain rfl : j = 0 := by omega
      have h := (Row.new (w.alloc (.cells #[.int .i64 0, .int .i64 0, .string ⟨#[]⟩] 38)) 5 [.int .u8 (n : Int)]).cell 0
      simp only [World.size_alloc] at h
      have e : (UInt8.ofNat n).toNat = n := by simp; omega
      rw [Addr.add_lit, List.getElem_cons_zero, e]
      exact h)
    simp only [List.length_singleton] at hcv
    rw [hcv]
    go_wp2
    exact bodyPost_ret (v := vv ⟨2, 0, ⟨#[UInt8.ofNat n]⟩⟩) (by simp [results, Try.results13, go_sem]) rfl ⟨rfl, ((Below.refl w.heap.size w).alloc (Nat.le_refl _) _).alloc (by simp) _⟩
  · have HV : Hid (valN n = ⟨1, n, ⟨#[]⟩⟩) := if_neg h
    rw [HV.out]
    have h' : decide ((99 : Int) < (n : Int)) = false := by simp; omega
    have hw : IntKind.i64.wrap (n : Int) = (n : Int) := IntWalk.i64_in _ (by omega)
    clear HV
    go_enter Try.func13, Try.ntmps13
    go_wp2
    exact bodyPost_ret (v := vv ⟨1, n, ⟨#[]⟩⟩) (by simp [results, Try.results13, go_sem]) rfl ⟨rfl, (Below.refl w.heap.size w).alloc (Nat.le_refl _) _⟩

theorem l34great_any (ar : Nat) (A CA : Option Addr) (l C cl CC : Nat) (w : World) (hl : l ≤ 9223372036854775807) (hcl : cl ≤ 9223372036854775807) :
    Calls Try.prog 8 #[.agg #[.int .u8 ar, .slice A l C], .slice CA cl CC] w fun e w' => e = .returned (.bool (decide (40 < l) || decide (10 < cl))) ∧ Ext w w' := by
  by_cases h1 : 40 < l
  · have h1' : decide ((40 : Int) < (l : Int)) = true := by simp; omega
    have HD : Hid ((decide (40 < l) || decide (10 < cl)) = true) := by show _ = _; simp [h1]
    rw [HD.out]
    go_enter Try.func8, Try.ntmps8
    go_wp2
    go_ret
    exact ⟨rfl, (Ext.refl w).alloc _⟩
  · have h1' : decide ((40 : Int) < (l : Int)) = false := by simp; omega
    by_cases h2 : 10 < cl
    · have h2' : decide ((10 : Int) < (cl : Int)) = true := by simp; omega
      have HD : Hid ((decide (40 < l) || decide (10 < cl)) = true) := by show _ = _; simp [h2]
      rw [HD.out]
      go_enter Try.func8, Try.ntmps8
      go_wp2
      go_ret
      exact ⟨rfl, (Ext.refl w).alloc _⟩
    · have h2' : decide ((10 : Int) < (cl : Int)) = false := by simp; omega
      have HD : Hid ((decide (40 < l) || decide (10 < cl)) = false) := by show _ = _; simp; omega
      rw [HD.out]
      go_enter Try.func8, Try.ntmps8
      go_wp2
      go_ret
      exact ⟨rfl, (Ext.refl w).alloc _⟩

theorem l34same_any (XA YA : Option Addr) (XC YC : Nat) (x y : RL.R) (w : World) (hx : SlR w.heap.size w XA x) (hy : SlR w.heap.size w YA y) (hxl : x.length ≤ 1000000) (hyl : y.length ≤ 1000000) :
    Calls Try.prog 19 #[.slice XA x.length XC, .slice YA y.length YC] w fun e w' => e = .returned (.bool (decide (x = y))) ∧ Ext w w' := by
  have HC := Lib.hid (r3SameRows_any XA YA XC YC x y w hx hy hxl hyl)
  clear hx hy
  generalize decide (x = y) = q at *
  go_enter Try.func19, Try.ntmps19
  go_wp2_with fail
  refine HC.out.mono ?_
  rintro e w1 ⟨rfl, hx⟩
  have HX := Lib.hid hx
  clear hx
  go_wp2
  go_ret
  exact ⟨rfl, HX.out⟩

end Go.Proofs.Ytlcammcifjihpaa
end

section
/- Walk: Rows of chapter 34's laws. -/
namespace Go.Proofs.Ytlcammcifjihpaa
open Go.RowKit Go.Sort

/-- The slice at address A reads as the arrays X of m bytes. -/
def SlA (m B : Nat) (w : World) (A : Option Addr) (X : List (List Nat)) : Prop :=
  X ≠ [] → ∃ b o, A = some ⟨b, o, none⟩ ∧ b < B ∧ ∀ i (h : i < X.length) k, k < m → w.cell? ⟨b, o + i * m + k, none⟩ = some (.int .u8 (X[i].getD k 0 : Nat))
theorem SlA.keep {m B : Nat} {w w' : World} {A : Option Addr} {X : List (List Nat)} (h : SlA m B w A X) (hk : ∀ p : Addr, p.block < B → w'.cell? p = w.cell? p) : SlA m B w' A X := fun hn => by
  obtain ⟨b, o, e, hb, hc⟩ := h hn
  exact ⟨b, o, e, hb, fun i hi k hkm => (hk _ hb).trans (hc i hi k hkm)⟩
theorem SlA.below {m B C : Nat} {w w' : World} {A : Option Addr} {X : List (List Nat)} (h : SlA m B w A X) (hb : Below C w w') (hC : B ≤ C) : SlA m B w' A X := h.keep fun _ hp => hb.cell (by omega)
theorem SlA.more {m B B' : Nat} {w : World} {A : Option Addr} {X : List (List Nat)} (h : SlA m B w A X) (hB : B ≤ B') : SlA m B' w A X := fun hn => by
  obtain ⟨b, o, e, hb, hc⟩ := h hn
  exact ⟨b, o, e, by omega, hc⟩
theorem SlA.upB {m : Nat} {w w' : World} {A : Option Addr} {X : List (List Nat)} (h : SlA m w.heap.size w A X) (hb : Below w.heap.size w w') : SlA m w'.heap.size w' A X := (h.below hb (Nat.le_refl _)).more hb.size
/-- The numbers are bytes. -/
def Bytes (X : List (List Nat)) : Prop := ∀ t ∈ X, ∀ k, t.getD k 0 < 256

/-- The first n values of a row of numbers. -/
def rowN (n : Nat) (t : List Nat) : RL.R := (List.range n).map fun k => valN (t.getD k 0)
theorem rowN_len (n : Nat) (t : List Nat) : (rowN n t).length = n := by simp [rowN]
theorem rowN_succ (k : Nat) (t : List Nat) : rowN (k + 1) t = rowN k t ++ [valN (t.getD k 0)] := by unfold rowN; rw [List.range_succ, List.map_append]; rfl

/-- A new slice of no elements in a block of its own. -/
theorem own_empty (w : World) (base : Nat) (e : TypeId) (size : Nat) (hb : base ≤ w.heap.size) : (w.alloc (.cells #[] e)).ownsRow base e size (.slice (some ⟨w.heap.size, 0, none⟩) 0 0) 0 [] :=
  ⟨by simp, .inr ⟨w.heap.size, 0, #[], rfl, hb, Row.new w e [], Nat.le_refl _, by simp [maxLen], by simp, by simp⟩⟩

set_option maxHeartbeats 4000000 in
set_option maxRecDepth 100000 in
theorem l34Rows_any (ar : Nat) (A : Option Addr) (C : Nat) (X : List (List Nat)) (w : World) (har : ar < 256) (hX : SlA 3 w.heap.size w A X) (hl : X.length ≤ 1000000) (hB : Bytes X) :
    Calls Try.prog 23 #[.agg #[.int .u8 ar, .slice A X.length C]] w fun e w' => ∃ v, e = .returned (.tuple #[.int .i64 (ar % 4 : Nat), v]) ∧ OwnRs w' (w.heap.size + 1) 47 v (X.map (rowN (ar % 4))) ∧ Below w.heap.size w w' := by
  have HX := Lib.hid hX
  have HBY := Lib.hid hB
  clear hX hB
  have HR0 := Lib.hid (Row.new w 24 [.int .u8 ar, .slice A X.length C])
  have HB0 := Lib.hid ((Below.refl w.heap.size w).alloc (Nat.le_refl _) (.cells #[.int .u8 ar, .slice A X.length C] 24))
  obtain ⟨n, hn⟩ : ∃ n : Nat, n = ar % 4 := ⟨_, rfl⟩
  have hm : ((ar : Int) % 4) = (n : Int) := by omega
  rw [← hn]
  have hn4 : n ≤ 3 := by omega
  clear hn
  go_enter Try.func23, Try.ntmps23
  go_wp2
  clear hm
  go_loopw [4, 6] (fun v m wr => ∃ i : Nat, i ≤ X.length ∧ m = .int .i64 i ∧ OwnRs wr (w.heap.size + 1) 47 v ((X.take i).map (rowN n)) ∧ Row wr w.heap.size 24 [.int .u8 ar, .slice A X.length C] ∧ Below w.heap.size w wr) (fun _ m _ => X.length - (intOf m).toNat)
  case atStart => exact ⟨0, Nat.zero_le _, rfl, OwnRs.nil _ _ _, HR0.out, HB0.out⟩
  case round =>
    obtain ⟨i, hia, rfl, hown, hrow, hb⟩ := hrel
    have HO := Lib.hid hown
    have HROW := Lib.hid hrow
    have HB := Lib.hid hb
    have hzr := hrow.lt
    have hzz := hb.size
    have p1 : wr.cell? ⟨w.heap.size, 1, none⟩ = some (.slice A X.length C) := hrow.cell 1
    clear hown hrow hb HR0 HB0
    by_cases h1 : i < X.length
    rotate_left
    · obtain rfl : i = X.length := by omega
      rw [List.take_length] at HO
      go_wp2
      go_ret2
      exact ⟨_, rfl, HO.out, HB.out⟩
    obtain ⟨wo, hwo⟩ : ∃ wo, wo = wr := ⟨_, rfl⟩
    subst hwo
    obtain ⟨b, o, hA, hbb, hcells⟩ := HX.out (by intro h0; rw [h0] at h1; simp at h1)
    have HCE := Lib.hid (fun k (hk : k < 3) => hcells i h1 k hk)
    have HTB : Hid (∀ k, X[i].getD k 0 < 256) := HBY.out _ (List.getElem_mem h1)
    have HTK : Hid ((X.take (i + 1)).map (rowN n) = (X.take i).map (rowN n) ++ [rowN n X[i]]) := by
      show _ = _
      rw [List.take_succ_eq_append_getElem h1, List.map_append]
      rfl
    subst hA
    clear hcells
    generalize X[i] = t at *
    have HE0 := Lib.hid (own_empty wo wo.heap.size 38 3 (Nat.le_refl _))
    go_wp2
    have hx0 : Below wo.heap.size wo (wo.alloc (.cells #[] 38)) := (Below.refl _ _).alloc (Nat.le_refl _) _
    have HX0 := Lib.hid hx0
    have hr0 : Row (wo.alloc (.cells #[] 38)) w.heap.size 24 [.int .u8 ar, .slice (some ⟨b, o, none⟩) X.length C] := HROW.out.up hx0
    have HR1 := Lib.hid hr0
    clear hx0 hr0 p1
    go_loopw [7, 8] (fun v m wr => ∃ k : Nat, k ≤ n ∧ m = .int .i64 k ∧ wr.ownsRow wo.heap.size 38 3 v k (rcells (rowN k t)) ∧ Below wo.heap.size wo wr) (fun _ m _ => n - (intOf m).toNat)
    case atStart => exact ⟨0, Nat.zero_le _, rfl, HE0.out, HX0.out⟩
    case round =>
      obtain ⟨k, hka, rfl, hown, hb⟩ := hrel
      have HOW := Lib.hid hown
      have HB2 := Lib.hid hb
      have hz2 := hb.size
      have p1 : wr.cell? ⟨w.heap.size, 1, none⟩ = some (.slice (some ⟨b, o, none⟩) X.length C) := (hb.cell (p := ⟨w.heap.size, 1, none⟩) hzr).trans (HROW.out.cell 1)
      clear hown hb HE0 HX0
      by_cases h2 : k < n
      rotate_left
      · obtain rfl : k = n := by omega
        obtain ⟨hkl, A1, C1, hu7, hc1, hm1, hs1, hb1⟩ := SlR.of_own HOW.out
        have HO1 := Lib.hid (HO.out.keep HB2.out)
        have hu4 : ∀ j, u4.ownBlock = some j → j < wo.heap.size := by obtain ⟨hs, q1, _⟩ := HO.out; exact own_lt q1
        have HNE : Hid (rowN k t ≠ [] → ∀ ad, A1 = some ad → u4.ownBlock ≠ some ad.block) := fun _ ad e e2 => by have h4 := hb1 ad e; have h5 := hu4 _ e2; omega
        have HS1 := Lib.hid (SlR.alloc1 hs1 (.cells #[.slice A1 (rowN k t).length C1] 47))
        have HO2 := Lib.hid (HO1.out.keep ((Below.refl wr.heap.size wr).alloc (Nat.le_refl _) (.cells #[.slice A1 (rowN k t).length C1] 47)))
        subst hu7
        have HB4 := Lib.hid (Below.then HB.out HB2.out hzz)
        have hlx : ((X.take i).map (rowN k)).length ≤ 1000000 := by simp; omega
        have HR2 : Hid (Row wr w.heap.size 24 [.int .u8 ar, .slice (some ⟨b, o, none⟩) X.length C]) := HROW.out.below HB2.out hzr
        have hzr2 := HR2.out.lt
        clear hkl hs1 hb1 p1 hu4
        go_wp2_with (at_builtin; refine app1Row rfl (.tmp 37) (.tmp 39) rfl (w.heap.size + 1) u4 ((X.take i).map (rowN k)) rfl HO2.out wr.heap.size A1 C1 (rowN k t) rfl (by go_simp) HS1.out hc1 hm1 HNE.out (by omega) (by simp; omega) ?_)
        intro v' w5 hown5 hg5
        have hv4 : ∀ j, u4.ownBlock = some j → w.heap.size + 1 ≤ j := HO2.out.base
        have HV4 := Lib.hid hv4
        have HOWN5 := Lib.hid hown5
        have HG5 := Lib.hid hg5
        clear hown5 hg5 hv4
        go_wp2
        go_roundw
        case rel =>
          refine ⟨i + 1, by omega, by go_num, by rw [HTK.out, List.map_take]; exact HOWN5.out, ?_, Below.then HB4.out (app_kept (fun j hj => by have := HV4.out j hj; omega) (by omega) HG5.out) (Nat.le_refl _)⟩
          exact (HR2.out.alloc _).grown HG5.out (fun e => by have := HV4.out _ e.symm; omega)
        case measure => simp [intOf]; omega
      have hk3 : k < 3 := by omega
      have c1 := ((HB2.out.cell (p := ⟨b, o + i * 3 + k, none⟩) (by show b < _; omega)).trans (HB.out.cell (p := ⟨b, o + i * 3 + k, none⟩) hbb)).trans (HCE.out k hk3)
      have HRS := Lib.hid (rowN_succ k t)
      have HVA := Lib.hid (fun W => l34Value_any (t.getD k 0) W (HTB.out k))
      generalize t.getD k 0 = q at *
      go_wp2_with fail
      refine (HVA.out _).mono ?_
      rintro e w2 ⟨rfl, hb2⟩
      have HO2 := Lib.hid (own_keep HOW.out hb2)
      have HB3 := Lib.hid (Below.then HB2.out hb2 hz2)
      have hz3 := hb2.size
      clear hb2 c1 p1
      go_wp2_with (at_builtin; refine app1V rfl (.tmp 26) (.tmp 35) rfl wo.heap.size u7 (rowN k t) rfl (by rw [rowN_len]; exact HO2.out.alloc _) w2.heap.size (valN q) rfl (by go_simp) (by go_simp) (by go_simp) (by rw [rowN_len]; omega) (by simp; omega) ?_)
      intro v' w5 hown5 hg5
      have HV7 : Hid (∀ j, u7.ownBlock = some j → wo.heap.size ≤ j) := fun j hj => own_base HO2.out hj
      simp only [rowN_len, ← HRS.out] at hown5
      have HOWN5 := Lib.hid hown5
      have HG5 := Lib.hid hg5
      clear hown5 hg5
      go_wp2
      go_roundw
      case rel => exact ⟨k + 1, by omega, by go_num, HOWN5.out, Below.then HB3.out (app_kept HV7.out (by omega) HG5.out) (Nat.le_refl _)⟩
      case measure => simp [intOf]; omega

end Go.Proofs.Ytlcammcifjihpaa
end

section
/- Walk: trie.shared. -/
namespace Go.Proofs.Ytlcammcifjihpaa
open Go.RowKit Go.Sort

theorem sharedN_eq : ∀ (x y : RL.R) (k : Nat), x.take k = y.take k → k ≤ x.length → k ≤ y.length → (∀ (h1 : k < x.length) (h2 : k < y.length), x[k] ≠ y[k]) → RL.sharedN x y = k
  | [], y, k, _, h1, _, _ => by simp at h1; subst h1; simp [RL.sharedN]
  | a :: x, [], k, _, _, h2, _ => by simp at h2; subst h2; simp [RL.sharedN]
  | a :: x, b :: y, 0, _, _, _, h => by
    have h0 := h (by simp) (by simp)
    simp at h0
    unfold RL.sharedN
    rw [if_neg h0]
  | a :: x, b :: y, k + 1, he, h1, h2, h => by
    rw [List.take_succ_cons, List.take_succ_cons] at he
    injection he with e1 e2
    unfold RL.sharedN
    rw [if_pos e1, sharedN_eq x y k e2 (by simpa using h1) (by simpa using h2) (fun a1 a2 => by have := h (by simpa using a1) (by simpa using a2); simpa using this)]

theorem takeV_snoc {x y : RL.R} {k : Nat} (hx : k < x.length) (hy : k < y.length) (h : x.take k = y.take k) (e : x[k] = y[k]) : x.take (k + 1) = y.take (k + 1) := by
  rw [List.take_succ_eq_append_getElem hx, List.take_succ_eq_append_getElem hy, h, e]

set_option maxHeartbeats 2000000 in
set_option maxRecDepth 100000 in
theorem trShared_any (XA YA : Option Addr) (XC YC : Nat) (x y : RL.R) (w : World) (hx : SlR w.heap.size w XA x) (hy : SlR w.heap.size w YA y) (hl : x.length ≤ y.length) (hyl : y.length ≤ 1000000) :
    Calls Try.prog 44 #[.slice XA x.length XC, .slice YA y.length YC] w fun e w' => e = .returned (.int .i64 (RL.sharedN x y)) ∧ Ext w w' := by
  have HX := Lib.hid hx
  have HY := Lib.hid hy
  clear hx hy
  go_enter Try.func44, Try.ntmps44
  go_wp2
  go_loopw [5] (fun i wr => ∃ k : Nat, k ≤ x.length ∧ i = .int .i64 k ∧ x.take k = y.take k ∧ Ext w wr) (fun i _ => x.length - (intOf i).toNat)
  case atStart => exact ⟨0, Nat.zero_le _, rfl, by simp, Ext.refl _⟩
  case round =>
    obtain ⟨k, hka, rfl, htk, hext⟩ := hrel
    have HT := Lib.hid htk
    have HE := Lib.hid hext
    have hzz := hext.size
    clear htk
    by_cases h1 : k < x.length
    rotate_left
    · have HN := Lib.hid (sharedN_eq x y k HT.out hka (by omega) (fun a _ => absurd a h1))
      have hk' : decide ((k : Int) < (x.length : Int)) = false := by simp; omega
      go_wp2
      go_quiet (fail)
      go_wp2
      go_ret
      exact ⟨by rw [HN.out]; rfl, HE.out.drewN _⟩
    · have h2 : k < y.length := by omega
      obtain ⟨b, o, rfl, hb, c1, c2, c3⟩ := slR_at HX.out h1
      obtain ⟨b', o', rfl, hb', d1, d2, d3⟩ := slR_at HY.out h2
      have HCMP := Lib.hid (fun W => vCompare_any x[k] y[k] W)
      have HZ : Hid (RL.cmpV x[k] y[k] = 0 ↔ x[k] = y[k]) := RL.tot_cmpV.z _ _
      have HNX := Lib.hid (fun e => takeV_snoc h1 h2 HT.out e)
      have HN := Lib.hid (fun (hne : x[k] ≠ y[k]) => sharedN_eq x y k HT.out hka (by omega) (fun _ _ => hne))
      generalize x[k] = u at *
      generalize y[k] = v at *
      have c1 := (hext.cell hb).trans c1
      have c2 := (hext.cell hb).trans c2
      have c3 := (hext.cell hb).trans c3
      have d1 := (hext.cell hb').trans d1
      have d2 := (hext.cell hb').trans d2
      have d3 := (hext.cell hb').trans d3
      have HK := Lib.hid (fun (W : World) (hW : Ext wr W) => (⟨(hW.cell (show b < wr.heap.size by omega)).trans c1, (hW.cell (show b < wr.heap.size by omega)).trans c2, (hW.cell (show b < wr.heap.size by omega)).trans c3, (hW.cell (show b' < wr.heap.size by omega)).trans d1, (hW.cell (show b' < wr.heap.size by omega)).trans d2, (hW.cell (show b' < wr.heap.size by omega)).trans d3⟩ : W.cell? ⟨b, o + k * 3, none⟩ = some (.int .i64 u.kind) ∧ W.cell? ⟨b, o + k * 3 + 1, none⟩ = some (.int .i64 u.int) ∧ W.cell? ⟨b, o + k * 3 + 2, none⟩ = some (.string u.str) ∧ W.cell? ⟨b', o' + k * 3, none⟩ = some (.int .i64 v.kind) ∧ W.cell? ⟨b', o' + k * 3 + 1, none⟩ = some (.int .i64 v.int) ∧ W.cell? ⟨b', o' + k * 3 + 2, none⟩ = some (.string v.str)))
      clear hext
      obtain ⟨q, hq⟩ : ∃ q, q = RL.cmpV u v := ⟨_, rfl⟩
      rw [← hq] at HCMP HZ
      clear hq
      have g1 : (0 : Int) ≤ (k : Int) := by omega
      have g2 : (k : Int) < (x.length : Int) := by omega
      have g3 : (k : Int) < (y.length : Int) := by omega
      go_wp2
      refine wp_region_held_drew (S := (fun w' => w'.cell? ⟨b, o + k * 3, none⟩ = some (.int .i64 u.kind) ∧ w'.cell? ⟨b, o + k * 3 + 1, none⟩ = some (.int .i64 u.int) ∧ w'.cell? ⟨b, o + k * 3 + 2, none⟩ = some (.string u.str) ∧ w'.cell? ⟨b', o' + k * 3, none⟩ = some (.int .i64 v.kind) ∧ w'.cell? ⟨b', o' + k * 3 + 1, none⟩ = some (.int .i64 v.int) ∧ w'.cell? ⟨b', o' + k * 3 + 2, none⟩ = some (.string v.str))) (by kernel_rfl) ⟨c1, c2, c3, d1, d2, d3⟩ (fun hHeld => ?_)
      refine takeOp (i := 0) (v := ?_) (some 6) rfl rfl (by kernel_rfl) (by kernel_rfl) (by kernel_rfl) (fun _ _ _ h => h) (Or.inl ⟨by rfl, ?_⟩) (by assumption) ?_
      rotate_left 1
      · (intro w0 hSw; (try dsimp only at hSw); go_simp; try (with_reducible rfl))
      try simp only [Act.put]
      try simp only [List.setIfInBounds_toArray]
      try simp only [List.set_cons_succ]
      try simp only [List.set_cons_zero]
      refine takeOp (i := 1) (v := ?_) (some 7) rfl rfl (by kernel_rfl) (by kernel_rfl) (by kernel_rfl) (fun _ _ _ h => h) (Or.inl ⟨by rfl, ?_⟩) (by assumption) ?_
      rotate_left 1
      · (intro w0 hSw; (try dsimp only at hSw); go_simp; try (with_reducible rfl))
      try simp only [Act.put]
      try simp only [List.setIfInBounds_toArray]
      try simp only [List.set_cons_succ]
      try simp only [List.set_cons_zero]
      refine takeOp (i := 2) (v := ?_) (some 8) rfl rfl (by kernel_rfl) (by kernel_rfl) (by kernel_rfl) (fun _ _ _ h => h) (Or.inl ⟨by rfl, ?_⟩) (by assumption) ?_
      rotate_left 1
      · (intro w0 hSw; (try dsimp only at hSw); go_simp; try (with_reducible rfl))
      try simp only [Act.put]
      try simp only [List.setIfInBounds_toArray]
      try simp only [List.set_cons_succ]
      try simp only [List.set_cons_zero]
      refine takeOp (i := 3) (v := ?_) (some 9) rfl rfl (by kernel_rfl) (by kernel_rfl) (by kernel_rfl) (fun _ _ _ h => h) (Or.inl ⟨by rfl, ?_⟩) (by assumption) ?_
      rotate_left 1
      · (intro w0 hSw; (try dsimp only at hSw); go_simp; try (with_reducible rfl))
      try simp only [Act.put]
      try simp only [List.setIfInBounds_toArray]
      try simp only [List.set_cons_succ]
      try simp only [List.set_cons_zero]
      refine takeOp (i := 4) (v := ?_) (some 10) rfl rfl (by kernel_rfl) (by kernel_rfl) (by kernel_rfl) (fun _ _ _ h => h) (Or.inl ⟨by rfl, ?_⟩) (by assumption) ?_
      rotate_left 1
      · (intro w0 hSw; (try dsimp only at hSw); go_simp; try (with_reducible rfl))
      try simp only [Act.put]
      try simp only [List.setIfInBounds_toArray]
      try simp only [List.set_cons_succ]
      try simp only [List.set_cons_zero]
      refine takeOp (i := 5) (v := ?_) (some 11) rfl rfl (by kernel_rfl) (by kernel_rfl) (by kernel_rfl) (fun _ _ _ h => h) (Or.inl ⟨by rfl, ?_⟩) (by assumption) ?_
      rotate_left 1
      · (intro w0 hSw; (try dsimp only at hSw); go_simp; try (with_reducible rfl))
      try simp only [Act.put]
      try simp only [List.setIfInBounds_toArray]
      try simp only [List.set_cons_succ]
      try simp only [List.set_cons_zero]
      refine takeOp (i := 6) (v := ?_) (some 12) rfl rfl (by kernel_rfl) (by kernel_rfl) (by kernel_rfl) (fun _ _ _ h => h) (Or.inl ⟨by rfl, ?_⟩) (by assumption) ?_
      rotate_left 1
      · (intro w0 hSw; (try dsimp only at hSw); go_simp; try (with_reducible rfl))
      try simp only [Act.put]
      try simp only [List.setIfInBounds_toArray]
      try simp only [List.set_cons_succ]
      try simp only [List.set_cons_zero]
      refine takeOp (i := 7) (v := ?_) (some 13) rfl rfl (by kernel_rfl) (by kernel_rfl) (by kernel_rfl) (fun _ _ _ h => h) (Or.inl ⟨by rfl, ?_⟩) (by assumption) ?_
      rotate_left 1
      · (intro w0 hSw; (try dsimp only at hSw); go_simp; try (with_reducible rfl))
      try simp only [Act.put]
      try simp only [List.setIfInBounds_toArray]
      try simp only [List.set_cons_succ]
      try simp only [List.set_cons_zero]
      refine takeOp (i := 8) (v := ?_) (some 14) rfl rfl (by kernel_rfl) (by kernel_rfl) (by kernel_rfl) (fun _ _ _ h => h) (Or.inl ⟨by rfl, ?_⟩) (by assumption) ?_
      rotate_left 1
      · (intro w0 hSw; (try dsimp only at hSw); go_simp; try (with_reducible rfl))
      try simp only [Act.put]
      try simp only [List.setIfInBounds_toArray]
      try simp only [List.set_cons_succ]
      try simp only [List.set_cons_zero]
      refine takeOp (i := 9) (v := ?_) (some 15) rfl rfl (by kernel_rfl) (by kernel_rfl) (by kernel_rfl) (fun _ _ _ h => h) (Or.inl ⟨by rfl, ?_⟩) (by assumption) ?_
      rotate_left 1
      · (intro w0 hSw; (try dsimp only at hSw); go_simp; try (with_reducible rfl))
      try simp only [Act.put]
      try simp only [List.setIfInBounds_toArray]
      try simp only [List.set_cons_succ]
      try simp only [List.set_cons_zero]
      refine takeOp (i := 10) (v := ?_) (some 16) rfl rfl (by kernel_rfl) (by kernel_rfl) (by kernel_rfl) (fun _ _ _ h => h) (Or.inl ⟨by rfl, ?_⟩) (by assumption) ?_
      rotate_left 1
      · (intro w0 hSw; (try dsimp only at hSw); go_simp; try (with_reducible rfl))
      try simp only [Act.put]
      try simp only [List.setIfInBounds_toArray]
      try simp only [List.set_cons_succ]
      try simp only [List.set_cons_zero]
      refine takeOp (i := 11) (v := ?_) (some 17) rfl rfl (by kernel_rfl) (by kernel_rfl) (by kernel_rfl) (fun _ _ _ h => h) (Or.inl ⟨by rfl, ?_⟩) (by assumption) ?_
      rotate_left 1
      · (intro w0 hSw; (try dsimp only at hSw); go_simp; try (with_reducible rfl))
      try simp only [Act.put]
      try simp only [List.setIfInBounds_toArray]
      try simp only [List.set_cons_succ]
      try simp only [List.set_cons_zero]
      refine takeOp (i := 12) (v := ?_) (some 18) rfl rfl (by kernel_rfl) (by kernel_rfl) (by kernel_rfl) (fun _ _ _ h => h) (Or.inl ⟨by rfl, ?_⟩) (by assumption) ?_
      rotate_left 1
      · (intro w0 hSw; (try dsimp only at hSw); go_simp; try (with_reducible rfl))
      try simp only [Act.put]
      try simp only [List.setIfInBounds_toArray]
      try simp only [List.set_cons_succ]
      try simp only [List.set_cons_zero]
      refine wpAnyH_ready (rs := [13]) (by kernel_rfl) (by simp) ?_
      refine AllReadyH.cons rfl (fun K hK => ?_) AllReadyH.nil
      go_simp
      refine (HCMP.out _).mono ?_
      rintro e w2 ⟨rfl, hx0⟩
      have hx : Ext wr w2 := (Ext.refl wr).drew.trans hx0
      have KEEP := HK.out w2 hx
      have HE2 := Lib.hid (HE.out.trans hx)
      clear hx hx0
      go_wp2_with fail
      refine hK.out _ _ KEEP (fun hHeld => ?_)
      clear hK K
      try simp only [Act.put]
      try simp only [List.setIfInBounds_toArray]
      try simp only [List.set_cons_succ]
      try simp only [List.set_cons_zero]
      refine takeOp (i := 14) (v := ?_) (some 20) rfl rfl (by kernel_rfl) (by kernel_rfl) (by kernel_rfl) (fun _ _ _ h => h) (Or.inl ⟨by rfl, ?_⟩) (by assumption) ?_
      rotate_left 1
      · (intro w0 hSw; (try dsimp only at hSw); go_simp; try (with_reducible rfl))
      try simp only [Act.put]
      try simp only [List.setIfInBounds_toArray]
      try simp only [List.set_cons_succ]
      try simp only [List.set_cons_zero]
      refine takeOp (i := 15) (v := ?_) (some 21) rfl rfl (by kernel_rfl) (by kernel_rfl) (by kernel_rfl) (fun _ _ _ h => h) (Or.inl ⟨by rfl, ?_⟩) (by assumption) ?_
      rotate_left 1
      · (intro w0 hSw; (try dsimp only at hSw); go_simp; try (with_reducible rfl))
      try simp only [Act.put]
      try simp only [List.setIfInBounds_toArray]
      try simp only [List.set_cons_succ]
      try simp only [List.set_cons_zero]
      refine wpAnyH_done (by kernel_rfl) ?_ _
      clear KEEP c1 c2 c3 d1 d2 d3
      by_cases hq0 : q = 0
      · have HN2 := Lib.hid (HNX.out (HZ.out.1 hq0))
        subst hq0
        clear HNX HN HZ
        go_wp2
        go_roundw
        case rel => exact ⟨k + 1, by omega, by go_num, HN2.out, HE2.out⟩
        case measure => simp [intOf]; omega
      · have HN2 := Lib.hid (HN.out (fun e => hq0 (HZ.out.2 e)))
        have hqb : (q == 0) = false := by simpa using hq0
        clear HNX HN HZ hq0
        go_wp2
        go_ret
        exact ⟨by rw [HN2.out]; rfl, HE2.out⟩

end Go.Proofs.Ytlcammcifjihpaa
end

section
/- A trie that is being built: its levels in memory; append of a value or of a number at a step of a drawn region. -/
namespace Go.Proofs.Ytlcammcifjihpaa
open Go.RowKit Go.Sort

theorem intInfo : (Try.prog.info? 3).map (fun i => (i.zero, i.size, i.bytes)) = some (some (.int .i64 0), 1, 8) := by kernel_rfl

/-- append of one value, laid in a block of its own, to a row of the call's own, at a step of a region that draws its order. -/
theorem stepV {w : World} {ops : Array Oper} {o : Oper} {a : Act} {K : Act → World → Prop} {Q : Exit → Act → World → Prop} {E : Prop} (hgd : o.guard = none) (s x : Operand)
    (ho : o.op = .call { callee := .builtin .append, args := #[s, x], argTypes := #[46, 46] })
    (base : Nat) (v : Value) (l : RL.R) (hs : a.eval s = v) (hown : w.ownsRow base 38 3 v l.length (rcells l))
    (gt : Nat) (z : RL.V) (hx : a.eval x = .slice (some ⟨gt, 0, none⟩) 1 1) (hg : Row w gt 38 (vcells z))
    (hn : l.length ≤ 1000000) (hbase : base ≤ w.heap.size)
    (h : ∀ g cap w', w'.ownsRow base 38 3 (.slice (some ⟨g, 0, none⟩) (l.length + 1) cap) (l.length + 1) (rcells (l ++ [z])) → w.grownBy w' v.ownBlock → (v.ownBlock = some g ∨ g = w.heap.size) → K (a.put o.dst (.slice (some ⟨g, 0, none⟩) (l.length + 1) cap)) w') :
    if Region.wanted o (yielded ops a.tmps) = true then Oper.wp Try.prog o a w K Q else E := by
  obtain ⟨i0, hi0, hz0, hz1, hz2⟩ := info_parts valInfo
  refine step_append_lies w hgd s x 46 ho base 38 i0 _ 3 32 Try.underlying46 hi0 hz0 hz1 hz2 rfl (by decide) v l.length (rcells l) hs hown ⟨gt, 0, none⟩ 1 1 (vcells z) hx rfl ?_ ?_ (by decide) (by simp only [maxLen]; omega) (by omega) hbase w.heap.size rfl ?_
  · intro j u hu
    have := hg.cell j
    rw [hu] at this
    rw [Addr.add_lit, Nat.zero_add]
    exact this
  · intro u hu; simp [vcells] at hu; rcases hu with rfl | rfl | rfl <;> rfl
  · intro g cap w' k1 k2 k3 _
    refine h g cap w' ?_ k2 k3
    rw [rcells_append]
    have : rcells [z] = vcells z := by simp [rcells]
    rw [this]
    exact k1
/-- append of one number. -/
theorem stepI {w : World} {ops : Array Oper} {o : Oper} {a : Act} {K : Act → World → Prop} {Q : Exit → Act → World → Prop} {E : Prop} (hgd : o.guard = none) (s x : Operand)
    (ho : o.op = .call { callee := .builtin .append, args := #[s, x], argTypes := #[25, 25] })
    (base : Nat) (v : Value) (l : List Nat) (hs : a.eval s = v) (hown : w.ownsRow base 3 1 v l.length (l.map fun z : Nat => Value.int .i64 (z : Int)))
    (gt : Nat) (z : Nat) (hx : a.eval x = .slice (some ⟨gt, 0, none⟩) 1 1) (hg : Row w gt 3 [.int .i64 (z : Int)])
    (hn : l.length ≤ 1000000) (hbase : base ≤ w.heap.size)
    (h : ∀ g cap w', w'.ownsRow base 3 1 (.slice (some ⟨g, 0, none⟩) (l.length + 1) cap) (l.length + 1) ((l ++ [z]).map fun z : Nat => Value.int .i64 (z : Int)) → w.grownBy w' v.ownBlock → (v.ownBlock = some g ∨ g = w.heap.size) → K (a.put o.dst (.slice (some ⟨g, 0, none⟩) (l.length + 1) cap)) w') :
    if Region.wanted o (yielded ops a.tmps) = true then Oper.wp Try.prog o a w K Q else E := by
  obtain ⟨i0, hi0, hz0, hz1, hz2⟩ := info_parts intInfo
  refine step_append_lies w hgd s x 25 ho base 3 i0 _ 1 8 Try.underlying25 hi0 hz0 hz1 hz2 rfl (by decide) v l.length _ hs hown ⟨gt, 0, none⟩ 1 1 [.int .i64 (z : Int)] hx rfl ?_ ?_ (by decide) (by simp only [maxLen]; omega) (by omega) hbase w.heap.size rfl ?_
  · intro j u hu
    have := hg.cell j
    rw [hu] at this
    rw [Addr.add_lit, Nat.zero_add]
    exact this
  · intro u hu; simp at hu; subst hu; rfl
  · intro g cap w' k1 k2 k3 _
    refine h g cap w' ?_ k2 k3
    rw [List.map_append]
    exact k1

/-- A block lb of n slices of the call's own, each in a block of its own from B on that Q allows; sp tells what each holds. -/
def OwnAll (B : Nat) (Q : Nat → Prop) (w : World) (lb : Nat) (T : TypeId) (n : Nat) (sp : Nat → TypeId × Nat × Nat × List Value) : Prop :=
  ∃ hs : List Value, Row w lb T hs ∧ hs.length = n ∧ lb < B ∧ B ≤ w.heap.size ∧
    (∀ (i : Nat) (u : Value), hs[i]? = some u → w.ownsRow B (sp i).1 (sp i).2.1 u (sp i).2.2.1 (sp i).2.2.2) ∧
    (∀ (i j : Nat) (u u' : Value) (k : Nat), hs[i]? = some u → hs[j]? = some u' → i ≠ j → u.ownBlock = some k → u'.ownBlock ≠ some k) ∧ (∀ (i : Nat) (u : Value) (k : Nat), hs[i]? = some u → u.ownBlock = some k → Q k)

section
variable {B : Nat} {Q : Nat → Prop} {w w' : World} {lb n : Nat} {T : TypeId} {sp : Nat → TypeId × Nat × Nat × List Value}
theorem OwnAll.up (h : OwnAll B Q w lb T n sp) (hb : Below w.heap.size w w') : OwnAll B Q w' lb T n sp := by
  obtain ⟨hs, h1, h2, h3, h3', h4, h5, h6⟩ := h
  exact ⟨hs, h1.up hb, h2, h3, Nat.le_trans h3' hb.size, fun i u hu => own_keep (h4 i u hu) hb, h5, h6⟩
theorem OwnAll.weak {Q' : Nat → Prop} (h : OwnAll B Q w lb T n sp) (hQ : ∀ k, k < w.heap.size → Q k → Q' k) : OwnAll B Q' w lb T n sp := by
  obtain ⟨hs, h1, h2, h3, h3', h4, h5, h6⟩ := h
  exact ⟨hs, h1, h2, h3, h3', h4, h5, fun i u k hu hk => hQ k (own_lt (h4 i u hu) k hk) (h6 i u k hu hk)⟩
theorem OwnAll.lt (h : OwnAll B Q w lb T n sp) : lb < w.heap.size := by obtain ⟨hs, h1, _⟩ := h; exact h1.lt
/-- The slice at a place. -/
theorem OwnAll.at_ (h : OwnAll B Q w lb T n sp) {i : Nat} (hi : i < n) : ∃ u, w.cell? ⟨lb, i, none⟩ = some u ∧ w.ownsRow B (sp i).1 (sp i).2.1 u (sp i).2.2.1 (sp i).2.2.2 ∧ (∀ k, u.ownBlock = some k → Q k) ∧ w.frozen? ⟨lb, i, none⟩ = false := by
  obtain ⟨hs, h1, h2, h3, h3', h4, h5, h6⟩ := h
  have hi' : i < hs.length := by omega
  exact ⟨hs[i], by rw [h1.cell, List.getElem?_eq_getElem hi'], h4 i _ (List.getElem?_eq_getElem hi'), fun k hk => h6 i _ k (List.getElem?_eq_getElem hi') hk, h1.frozen i⟩
/-- One slice was appended to, and its new header is stored. -/
theorem OwnAll.put (h : OwnAll B Q w lb T n sp) {i : Nat} {v : Value} (hv : w.cell? ⟨lb, i, none⟩ = some v) {sp' : Nat → TypeId × Nat × Nat × List Value} (hsp : ∀ j, j ≠ i → sp' j = sp j) {u : Value} {w2 : World}
    (hown : w2.ownsRow B (sp' i).1 (sp' i).2.1 u (sp' i).2.2.1 (sp' i).2.2.2) (hg : w.grownBy w2 v.ownBlock) (hat : ∀ k, u.ownBlock = some k → v.ownBlock = some k ∨ w.heap.size ≤ k) (hQ : ∀ k, u.ownBlock = some k → Q k) : OwnAll B Q (w2.setCell ⟨lb, i, none⟩ u) lb T n sp' := by
  obtain ⟨hs, h1, h2, h3, h3', h4, h5, h6⟩ := h
  rw [h1.cell] at hv
  have hi : i < hs.length := (List.getElem?_eq_some_iff.1 hv).1
  have hvB : ∀ k, v.ownBlock = some k → B ≤ k := fun k hk => own_base (h4 i v hv) hk
  have hlb : some lb ≠ v.ownBlock := fun e => by have := hvB lb e.symm; omega
  have hr2 := h1.grown hg hlb
  refine ⟨hs.set i u, hr2.set i u, by simpa using h2, h3, ?_, fun j u' hu' => ?_, fun a b ua ub k ha hb hne hk => ?_, fun j u' k hu' hk => ?_⟩
  · have := hg.size; simpa using Nat.le_trans h3' this
  · by_cases e : j = i
    · subst e
      rw [List.getElem?_set_self hi] at hu'
      injection hu' with hu'
      subst hu'
      exact own_far hown (p := ⟨lb, j, none⟩) (fun e => by have := own_base hown e; simp only at this; omega) _
    · rw [List.getElem?_set_ne (fun e' => e e'.symm)] at hu'
      rw [hsp j e]
      have ho := h4 j u' hu'
      refine own_far (own_grown ho hg (fun k hk e' => ?_)) (p := ⟨lb, i, none⟩) (fun e' => by have := own_base ho e'; simp only at this; omega) _
      exact h5 j i u' v k hu' hv e hk e'.symm
  · have key : ∀ (a b : Nat) (ub : Value), a = i → b ≠ i → (hs.set i u)[b]? = some ub → u.ownBlock = some k → ub.ownBlock ≠ some k := fun a b ub ha hb hub hk e => by
      rw [List.getElem?_set_ne (fun e' => hb e'.symm)] at hub
      rcases hat k hk with h | h
      · exact h5 b i ub v k hub hv hb e h
      · have := own_lt (h4 b ub hub) k e
        omega
    by_cases e1 : a = i
    · subst e1
      rw [List.getElem?_set_self hi] at ha
      injection ha with ha
      subst ha
      exact key a b ub rfl (fun e => hne e.symm) hb hk
    · by_cases e2 : b = i
      · subst e2
        rw [List.getElem?_set_self hi] at hb
        injection hb with hb
        subst hb
        intro e
        exact key b a ua rfl e1 ha e hk
      · rw [List.getElem?_set_ne (fun e' => e1 e'.symm)] at ha
        rw [List.getElem?_set_ne (fun e' => e2 e'.symm)] at hb
        exact h5 a b ua ub k ha hb hne hk
  · by_cases e : j = i
    · subst e
      rw [List.getElem?_set_self hi] at hu'
      injection hu' with hu'
      subst hu'
      exact hQ k hk
    · rw [List.getElem?_set_ne (fun e' => e e'.symm)] at hu'
      exact h6 j u' k hu' hk
end

/-- What the slices of a trie's levels hold: values and numbers in turn. -/
def spF (vs : Nat → RL.R) (fs : Nat → List Nat) (i : Nat) : TypeId × Nat × Nat × List Value :=
  if i % 2 = 0 then (38, 3, (vs (i / 2)).length, rcells (vs (i / 2))) else (3, 1, (fs (i / 2)).length, (fs (i / 2)).map fun z : Nat => Value.int .i64 (z : Int))
theorem spF_v (vs : Nat → RL.R) (fs : Nat → List Nat) (l : Nat) : spF vs fs (l * 2) = (38, 3, (vs l).length, rcells (vs l)) := by
  unfold spF
  rw [if_pos (by omega), show l * 2 / 2 = l by omega]
theorem spF_f (vs : Nat → RL.R) (fs : Nat → List Nat) (l : Nat) : spF vs fs (l * 2 + 1) = (3, 1, (fs l).length, (fs l).map fun z : Nat => Value.int .i64 (z : Int)) := by
  unfold spF
  rw [if_neg (by omega), show (l * 2 + 1) / 2 = l by omega]
/-- A function turned at one place. -/
def upd {α : Type} (f : Nat → α) (l : Nat) (a : α) (j : Nat) : α := if j = l then a else f j
theorem upd_self {α : Type} (f : Nat → α) (l : Nat) (a : α) : upd f l a l = a := if_pos rfl
theorem spF_updv (vs : Nat → RL.R) (fs : Nat → List Nat) (l : Nat) (a : RL.R) : ∀ j, j ≠ l * 2 → spF (upd vs l a) fs j = spF vs fs j := fun j hj => by
  unfold spF
  split
  · unfold upd; rw [if_neg (by omega)]
  · rfl
theorem spF_updf (vs : Nat → RL.R) (fs : Nat → List Nat) (l : Nat) (a : List Nat) : ∀ j, j ≠ l * 2 + 1 → spF vs (upd fs l a) j = spF vs fs j := fun j hj => by
  unfold spF
  split
  · rfl
  · unfold upd; rw [if_neg (by omega)]

/-- The levels of a trie that is being built. -/
abbrev BldM (B : Nat) (Q : Nat → Prop) (w : World) (lb d : Nat) (vs : Nat → RL.R) (fs : Nat → List Nat) : Prop := OwnAll B Q w lb 74 (d * 2) (spF vs fs)
/-- What a trie under way reads as. -/
theorem BldM.tr {B : Nat} {Q : Nat → Prop} {w : World} {lb d : Nat} {vs : Nat → RL.R} {fs : Nat → List Nat} (h : BldM B Q w lb d vs fs) : TrM w.heap.size w (some ⟨lb, 0, none⟩) d vs fs := fun l hl => by
  have hlt := OwnAll.lt h
  obtain ⟨v, g1, g3, -, -⟩ := OwnAll.at_ h (show l * 2 < d * 2 by omega)
  obtain ⟨f, g2, g4, -, -⟩ := OwnAll.at_ h (show l * 2 + 1 < d * 2 by omega)
  rw [spF_v] at g3
  rw [spF_f] at g4
  obtain ⟨-, VA, VC, rfl, q1, q2, q3, -⟩ := SlR.of_own g3
  obtain ⟨FA, FC, e1, e2, e3, e4⟩ := Sl.of_own g4
  rw [List.length_map] at e1
  subst e1
  refine ⟨lb, 0, VA, VC, FA, FC, rfl, hlt, ?_, ?_, q1, q2, q3, e4⟩
  · rw [Nat.zero_add]; exact g1
  · rw [Nat.zero_add]; exact g2

end Go.Proofs.Ytlcammcifjihpaa
end

section
/- Drawn regions that end in one operation that waits for all others (a store): what the loads need is asked behind every operation but that last one. -/
namespace Go.Proofs.Ytlcammcifjihpaa
open Go.RowKit Go.Sort

section
variable {P : Program} {ops : Array Oper} {Q : Exit → Act → World → Prop} {md : Region.Mode} {S : World → Prop} {z : Nat}

/-- Whatever order is picked from here on; S holds behind every operation but number z. -/
def wpAnyZ (P : Program) (md : Region.Mode) (ops : Array Oper) (Q : Exit → Act → World → Prop) (S : World → Prop) (z : Nat) : Nat → Array Bool → Act → World → Prop
  | 0, listed, a, w => Region.ready md ops listed = [] ∧ Q .normal a w
  | fuel + 1, listed, a, w =>
    (Region.ready md ops listed = [] → Q .normal a w) ∧
    ∀ i ∈ Region.ready md ops listed, wpOp P ops Q i (fun a' w' => (i ≠ z → S w') ∧ wpAnyZ P md ops Q S z fuel (listed.setIfInBounds i true) a' w') a w

theorem wpAny_of_Z : ∀ (fuel : Nat) (listed : Array Bool) (a : Act) (w : World), wpAnyZ P md ops Q S z fuel listed a w → wpAny P md ops Q fuel listed a w
  | 0, _, _, _, h => h
  | fuel + 1, _, _, _, h => ⟨h.1, fun i hi => wpOp_mono (fun a' w' h' => wpAny_of_Z fuel _ a' w' h'.2) (h.2 i hi)⟩

/-- Those that an operation waits for. -/
def preds (md : Region.Mode) (ops : Array Oper) (k : Nat) : List Nat :=
  match ops[k]? with
  | some o => (o.after.toList.filter (Region.binds md)).map (·.on)
  | none => []
/-- Those that it waits for through others. -/
def reach (md : Region.Mode) (ops : Array Oper) (z : Nat) : Nat → List Nat
  | 0 => preds md ops z
  | n + 1 => reach md ops z n ++ (reach md ops z n).flatMap (preds md ops)
/-- Number z waits for all others. -/
def lastB (md : Region.Mode) (ops : Array Oper) (z : Nat) : Bool := (List.range ops.size).all fun i => i == z || (reach md ops z 1).contains i
/-- What has come up had all that it waits for before it. -/
def Cl (md : Region.Mode) (ops : Array Oper) (listed : Array Bool) : Prop := ∀ k, listed.getD k false = true → ∀ j ∈ preds md ops k, listed.getD j false = true
def clB (md : Region.Mode) (ops : Array Oper) (listed : Array Bool) : Bool := (List.range listed.size).all fun k => !(listed.getD k false) || (preds md ops k).all fun j => listed.getD j false
theorem Cl.of {listed : Array Bool} (h : clB md ops listed = true) : Cl md ops listed := fun k hk j hj => by
  unfold clB at h
  simp only [List.all_eq_true, List.mem_range] at h
  have hsz : k < listed.size := by
    rcases Nat.lt_or_ge k listed.size with h' | h'
    · exact h'
    · simp [Array.getElem?_eq_none h'] at hk
  have h1 := h k hsz
  rw [hk] at h1
  simp only [Bool.not_true, Bool.false_or, List.all_eq_true] at h1
  exact h1 j hj
theorem ready_preds {listed : Array Bool} {j : Nat} (hr : j ∈ Region.ready md ops listed) : ∀ i ∈ preds md ops j, listed.getD i false = true := fun i hi => by
  obtain ⟨_, o, ho, hall⟩ := mem_ready.1 hr
  unfold preds at hi
  rw [ho] at hi
  simp only [List.mem_map, List.mem_filter, Array.mem_toList_iff] at hi
  obtain ⟨e, ⟨he, hb⟩, rfl⟩ := hi
  exact hall e he hb
theorem Cl.step {listed : Array Bool} {j : Nat} (h : Cl md ops listed) (hr : j ∈ Region.ready md ops listed) : Cl md ops (listed.setIfInBounds j true) := fun k hk i hi => by
  by_cases e : j = k
  · subst e; exact getD_set_true (ready_preds hr i hi)
  · rw [getD_set_ne false e] at hk
    exact getD_set_true (h k hk i hi)
theorem reach_listed {listed : Array Bool} (hc : Cl md ops listed) (hr : z ∈ Region.ready md ops listed) : ∀ n, ∀ i ∈ reach md ops z n, listed.getD i false = true
  | 0, i, hi => ready_preds hr i hi
  | n + 1, i, hi => by
    unfold reach at hi
    rw [List.mem_append, List.mem_flatMap] at hi
    rcases hi with hi | ⟨k, hk, hi⟩
    · exact reach_listed hc hr n i hi
    · exact hc k (reach_listed hc hr n k hk) i hi
theorem last_alone (hz : lastB md ops z = true) {listed : Array Bool} (hc : Cl md ops listed) {i : Nat} (hr : z ∈ Region.ready md ops listed) (hi : i ∈ Region.ready md ops listed) : i = z := by
  obtain ⟨hun, oi, hoi, _⟩ := mem_ready.1 hi
  unfold lastB at hz
  simp only [List.all_eq_true, List.mem_range] at hz
  have hsz : i < ops.size := by
    rcases Nat.lt_or_ge i ops.size with h | h
    · exact h
    · rw [Array.getElem?_eq_none h] at hoi; cases hoi
  have h1 := hz i hsz
  rw [Bool.or_eq_true] at h1
  rcases h1 with h1 | h1
  · simpa using h1
  · have h3 := reach_listed hc hr 1 i (by simpa using h1)
    rcases Nat.lt_or_ge i listed.size with h | h
    · simp [h] at hun h3
      rw [hun] at h3
      cases h3
    · simp [Array.getElem?_eq_none h] at h3

/-- An operation that may come up and yields its value in every world that meets S may be taken first. -/
theorem wpAnyZ_first (hz : lastB md ops z = true) {i : Nat} {oi : Oper} {v : Value} (hiz : i ≠ z) (hi : ops[i]? = some oi) (hsel : ∀ (j : Nat) (o : Oper) cs b, ops[j]? = some o → o.op ≠ .select cs b)
    (hQ : ∀ c a w, Q (.panic c) (a.put oi.dst v) w → Q (.panic c) a w) :
    ∀ (fuel : Nat) (listed : Array Bool) (a : Act) (w : World), Cl md ops listed →
      (∀ j oj, ops[j]? = some oj → j ≠ i → listed.getD j true = false → (∀ e ∈ oj.after, Region.binds md e = true → e.on ≠ i) → oi.apart ops oj = true) →
      i ∈ Region.ready md ops listed → YieldsIf P ops S oi v a → S w →
      wpAnyZ P md ops Q S z fuel (listed.setIfInBounds i true) (a.put oi.dst v) w → wpAnyZ P md ops Q S z (fuel + 1) listed a w
  | 0, listed, a, w, _, _, hr, hy, hS, H => by
    refine ⟨fun h => (by rw [h] at hr; cases hr), fun j hj => ?_⟩
    by_cases hji : j = i
    · subst hji; exact hy.wpOp hi hS ⟨fun _ => hS, H⟩
    · have := ready_mono hj hji
      rw [H.1] at this
      cases this
  | fuel + 1, listed, a, w, hc, hfree, hr, hy, hS, H => by
    refine ⟨fun h => (by rw [h] at hr; cases hr), fun j hj => ?_⟩
    by_cases hji : j = i
    · subst hji; exact hy.wpOp hi hS ⟨fun _ => hS, H⟩
    · have hjz : j ≠ z := fun e => by subst e; exact hiz (last_alone hz hc hj hr)
      have h1 := H.2 j (ready_mono hj hji)
      obtain ⟨hjun, oj, hoj, hall⟩ := mem_ready.1 hj
      have hnot : ∀ e ∈ oj.after, Region.binds md e = true → e.on ≠ i := fun e he hb heq => by
        have h2 := hall e he hb
        have h0 := (mem_ready.1 hr).1
        rw [heq] at h2
        rcases Nat.lt_or_ge i listed.size with h' | h'
        · simp [h'] at h0 h2; rw [h0] at h2; cases h2
        · simp [Array.getElem?_eq_none h'] at h2
      have h2 := wpOp_putIf hoj (hfree j oj hoj hji hjun hnot) (fun cs b => hsel i oi cs b hi) (fun cs b => hsel j oj cs b hoj) hQ hy h1
      refine wpOp_mono (fun a' w' h3 => ⟨h3.2.1, wpAnyZ_first hz hiz hi hsel hQ fuel (listed.setIfInBounds j true) a' w' (hc.step hj) (fun k ok hk hki hun hno => ?_) (ready_mono hr (Ne.symm hji)) h3.1 (h3.2.1 hjz) ?_⟩) h2
      · refine hfree k ok hk hki ?_ hno
        by_cases hjk : j = k
        · subst hjk; exact hjun
        · rw [getD_set_ne true hjk] at hun; exact hun
      · rw [Array.setIfInBounds_comm _ _ hji]
        exact h3.2.2

/-- Take number i first. -/
theorem takeZ {i : Nat} {oi : Oper} {v : Value} {fuel : Nat} {listed : Array Bool} {a : Act} {w : World} (d : Option Tmp) (hi : ops[i]? = some oi) (hd : oi.dst = d)
    (hz : lastB md ops z = true) (hiz : i ≠ z) (hcl : clB md ops listed = true) (hs : Region.noSelect ops = true) (hf : Region.free md ops listed i = true) (hr : (Region.ready md ops listed).contains i = true)
    (hQ : ∀ c a w, Q (.panic c) (a.put d v) w → Q (.panic c) a w) (hy : YieldsIf P ops S oi v a) (hS : S w)
    (h : wpAnyZ P md ops Q S z fuel (listed.setIfInBounds i true) (a.put d v) w) : wpAnyZ P md ops Q S z (fuel + 1) listed a w := by
  subst hd
  exact wpAnyZ_first hz hiz hi (Region.noSelect_spec hs) hQ fuel listed a w (Cl.of hcl) (Region.free_spec hi hf) (by simpa using hr) hy hS h
/-- Number i alone may come up. -/
theorem oneZ {i : Nat} {o : Oper} {fuel : Nat} {listed : Array Bool} {a : Act} {w : World} (hr : Region.ready md ops listed = [i]) (ho : ops[i]? = some o) (hiz : i ≠ z)
    (h : ∀ K' : Act → World → Prop, Shut (∀ a w, S w → (S w → wpAnyZ P md ops Q S z fuel (listed.setIfInBounds i true) a w) → K' a w) → if Region.wanted o (yielded ops a.tmps) = true then Oper.wp P o a w K' Q else K' (a.put o.dst undef) w) :
    wpAnyZ P md ops Q S z (fuel + 1) listed a w := by
  refine ⟨(fun h0 => by rw [hr] at h0; cases h0), fun j hj => ?_⟩
  rw [hr] at hj
  obtain rfl : j = i := by simpa using hj
  exact wpOp_step ho (fun K' hK => h K' (fun a w hS hW => hK a w ⟨fun _ => hS, hW hS⟩))
/-- The last one: nothing is asked behind it but what follows the region. -/
theorem lastZ {o : Oper} {fuel : Nat} {listed : Array Bool} {a : Act} {w : World} (hr : Region.ready md ops listed = [z]) (ho : ops[z]? = some o) (hd : Region.ready md ops (listed.setIfInBounds z true) = [])
    (h : ∀ K' : Act → World → Prop, Shut (∀ a w, Q .normal a w → K' a w) → if Region.wanted o (yielded ops a.tmps) = true then Oper.wp P o a w K' Q else K' (a.put o.dst undef) w) :
    wpAnyZ P md ops Q S z (fuel + 1) listed a w := by
  refine ⟨(fun h0 => by rw [hr] at h0; cases h0), fun j hj => ?_⟩
  rw [hr] at hj
  obtain rfl : j = z := by simpa using hj
  refine wpOp_step ho (fun K' hK => h K' (fun a w hQ => hK a w ⟨fun h => absurd rfl h, ?_⟩))
  cases fuel with
  | zero => exact ⟨hd, hQ⟩
  | succ fuel => exact ⟨fun _ => hQ, by rw [hd]; simp⟩
/-- The beginning. -/
theorem regionZ {id : Nat} {a : Act} {w : World} (z : Nat) (hm : P.follows .mixedOrders = true) (hS : S w.drew)
    (h : S w.drew → wpAnyZ P .any ops Q S z ops.size (Array.replicate ops.size false) a w.drew) : (Code.region id ops true).wp P Q a w :=
  wp_region_any hm (wpAny_of_Z _ _ _ _ (h hS))
end

end Go.Proofs.Ytlcammcifjihpaa
end

section
/- Walk: trie.add. -/
namespace Go.Proofs.Ytlcammcifjihpaa
open Go.RowKit Go.Sort

/-- Below block B nothing turns but block lb. -/
def KeepX (B lb : Nat) (w w' : World) : Prop := w'.os = w.os ∧ w'.tape = w.tape ∧ w'.output = w.output ∧ w.heap.size ≤ w'.heap.size ∧ ∀ b, b < B → b ≠ lb → w'.heap[b]? = w.heap[b]?
theorem KeepX.refl (B lb : Nat) (w : World) : KeepX B lb w w := ⟨rfl, rfl, rfl, Nat.le_refl _, fun _ _ _ => rfl⟩
theorem KeepX.trans {B lb : Nat} {a b c : World} (h : KeepX B lb a b) (k : KeepX B lb b c) : KeepX B lb a c :=
  ⟨k.1.trans h.1, k.2.1.trans h.2.1, k.2.2.1.trans h.2.2.1, Nat.le_trans h.2.2.2.1 k.2.2.2.1, fun x hx hn => (k.2.2.2.2 x hx hn).trans (h.2.2.2.2 x hx hn)⟩
theorem KeepX.below {B lb C : Nat} {a b : World} (h : Below C a b) (hB : B ≤ C) : KeepX B lb a b := ⟨h.os, h.tape, h.output, h.size, fun x hx _ => h.block x (by omega)⟩
theorem KeepX.grown {B lb : Nat} {a b : World} {row : Option Nat} (h : a.grownBy b row) (hB : B ≤ a.heap.size) (hr : ∀ k, row = some k → B ≤ k) : KeepX B lb a b := ⟨h.os, h.tape, h.output, h.size, fun x hx _ => h.block x (by omega) (fun e => by have := hr x e.symm; omega)⟩
theorem KeepX.set {B lb : Nat} (w : World) (o : Nat) (u : Value) : KeepX B lb w (w.setCell ⟨lb, o, none⟩ u) := ⟨rfl, rfl, rfl, by simp, fun x _ hn => Below.heap_setCell w ⟨lb, o, none⟩ u x hn⟩
theorem KeepX.cell {B lb : Nat} {w w' : World} (h : KeepX B lb w w') {p : Addr} (hp : p.block < B) (hn : p.block ≠ lb) : w'.cell? p = w.cell? p := World.cell?_of_block (h.2.2.2.2 p.block hp hn)

/-- What the levels hold when a row has been added up to level k. -/
def addV (vs : Nat → RL.R) (x : RL.R) (frm k : Nat) (j : Nat) : RL.R := if frm ≤ j ∧ j < k then vs j ++ [x.getD j default] else vs j
def addF (d : Nat) (vs : Nat → RL.R) (fs : Nat → List Nat) (frm k : Nat) (j : Nat) : List Nat := if frm ≤ j ∧ j < k then fs j ++ [sizeF d vs (j + 1)] else fs j
theorem addV_step (vs : Nat → RL.R) (x : RL.R) {frm k : Nat} (h : frm ≤ k) : addV vs x frm (k + 1) = upd (addV vs x frm k) k (vs k ++ [x.getD k default]) := by
  funext j
  unfold addV upd
  by_cases e : j = k
  · subst e; rw [if_pos ⟨h, by omega⟩, if_pos rfl]
  · rw [if_neg e]
    dsimp only
    by_cases h2 : frm ≤ j ∧ j < k
    · rw [if_pos h2, if_pos ⟨h2.1, by omega⟩]
    · rw [if_neg h2, if_neg (by omega)]
theorem addF_step (d : Nat) (vs : Nat → RL.R) (fs : Nat → List Nat) {frm k : Nat} (h : frm ≤ k) : addF d vs fs frm (k + 1) = upd (addF d vs fs frm k) k (fs k ++ [sizeF d vs (k + 1)]) := by
  funext j
  unfold addF upd
  by_cases e : j = k
  · subst e; rw [if_pos ⟨h, by omega⟩, if_pos rfl]
  · rw [if_neg e]
    dsimp only
    by_cases h2 : frm ≤ j ∧ j < k
    · rw [if_pos h2, if_pos ⟨h2.1, by omega⟩]
    · rw [if_neg h2, if_neg (by omega)]
theorem addV_at (vs : Nat → RL.R) (x : RL.R) (frm k : Nat) : addV vs x frm k k = vs k := by unfold addV; rw [if_neg (by omega)]
theorem addF_at (d : Nat) (vs : Nat → RL.R) (fs : Nat → List Nat) (frm k : Nat) : addF d vs fs frm k k = fs k := by unfold addF; rw [if_neg (by omega)]

set_option maxHeartbeats 8000000 in
set_option maxRecDepth 100000 in
theorem trAdd_any (B lb d dc : Nat) (vs : Nat → RL.R) (fs : Nat → List Nat) (XA : Option Addr) (XC frm : Nat) (x : RL.R) (w : World) (h : BldM B (fun _ => True) w lb d vs fs) (hx : HR (fun b => b ≠ lb) B w (.slice XA x.length XC) x) (hxd : x.length = d) (hf : frm ≤ d) (hd : d ≤ 32) (hv : ∀ l, (vs l).length ≤ 100000) (hfl : ∀ l, (fs l).length ≤ 100000) :
    Calls Try.prog 43 #[.agg #[.slice (some ⟨lb, 0, none⟩) d dc], .slice XA x.length XC, .int .i64 frm] w fun e w' => e = .returned (.tuple #[]) ∧ BldM B (fun _ => True) w' lb d (addV vs x frm d) (addF d vs fs frm d) ∧ KeepX B lb w w' := by
  have hBz : B ≤ w.heap.size := by obtain ⟨hs, _, _, _, h3', _⟩ := h; exact h3'
  have hlB : lb < B := by obtain ⟨hs, _, _, h3, _⟩ := h; exact h3
  obtain ⟨W0, hW0⟩ : ∃ W0, W0 = w.alloc (.cells #[.slice (some ⟨lb, 0, none⟩) d dc] 31) := ⟨_, rfl⟩
  have he0 : Ext w W0 := by rw [hW0]; exact (Ext.refl w).alloc _
  have hr0 : Row W0 w.heap.size 31 [.slice (some ⟨lb, 0, none⟩) d dc] := by rw [hW0]; exact Row.new w 31 _
  have HB0 : Hid (BldM B (fun b => b ≠ w.heap.size) W0 lb d vs fs) := (h.weak (fun k hk _ => by show k ≠ w.heap.size; omega)).up he0.below
  have HR0 := Lib.hid hr0
  have HK0 : Hid (KeepX B lb w W0) := KeepX.below he0.below hBz
  have HX := Lib.hid hx
  have HV := Lib.hid hv
  have HF := Lib.hid hfl
  have HXD := Lib.hid hxd
  have hxd1 : d ≤ x.length := by omega
  have hxd2 : x.length ≤ d := by omega
  clear h hx hv hfl he0 hr0 hxd
  go_enter Try.func43, Try.ntmps43
  go_wp2
  rw [← hW0]
  clear hW0
  go_loopw [6] (fun i wr => ∃ k : Nat, frm ≤ k ∧ k ≤ d ∧ i = .int .i64 k ∧ BldM B (fun b => b ≠ w.heap.size) wr lb d (addV vs x frm k) (addF d vs fs frm k) ∧ Row wr w.heap.size 31 [.slice (some ⟨lb, 0, none⟩) d dc] ∧ KeepX B lb w wr) (fun i _ => d - (intOf i).toNat)
  case atStart =>
    refine ⟨frm, Nat.le_refl _, hf, rfl, ?_, HR0.out, HK0.out⟩
    rw [show addV vs x frm frm = vs from by funext j; unfold addV; rw [if_neg (by omega)], show addF d vs fs frm frm = fs from by funext j; unfold addF; rw [if_neg (by omega)]]
    exact HB0.out
  case round =>
    obtain ⟨k, hk1, hk2, rfl, hbld, hrow, hkeep⟩ := hrel
    have hzz := hkeep.2.2.2.1
    have HBLD := Lib.hid hbld
    have HROW := Lib.hid hrow
    have HKEEP := Lib.hid hkeep
    clear HB0 HR0 HK0
    by_cases h1 : k < d
    rotate_left
    · obtain rfl : k = d := by omega
      rw [HXD.out]
      go_wp2
      go_end0
      exact ⟨rfl, OwnAll.weak HBLD.out (fun _ _ _ => trivial), HKEEP.out⟩
    obtain ⟨v, cv, ov, qv, fv⟩ := OwnAll.at_ hbld (show k * 2 < d * 2 by omega)
    rw [spF_v, addV_at] at ov
    have hkx : k < x.length := by omega
    obtain ⟨b, o, rfl, hb, c1, c2, c3⟩ := slR_at HX.out.sl hkx
    have hbl : b ≠ lb := by
      obtain ⟨A', C', e, -, -, -, hP⟩ := HX.out
      injection e with e1 _ _
      exact hP (by intro e; subst e; simp at hkx) _ e1.symm
    have HZ : Hid (x.getD k default = x[k]) := by show _ = _; rw [List.getD_eq_getElem?_getD, List.getElem?_eq_getElem hkx]; rfl
    generalize x[k] = z at *
    have t0 : wr.cell? ⟨w.heap.size, 0, none⟩ = some (.slice (some ⟨lb, 0, none⟩) d dc) := hrow.cell 0
    have c1 := (hkeep.cell (p := ⟨b, o + k * 3, none⟩) hb hbl).trans c1
    have c2 := (hkeep.cell (p := ⟨b, o + k * 3 + 1, none⟩) hb hbl).trans c2
    have c3 := (hkeep.cell (p := ⟨b, o + k * 3 + 2, none⟩) hb hbl).trans c3
    have hlw : lb < wr.heap.size := OwnAll.lt hbld
    have hbw : b < wr.heap.size := by omega
    have htw : w.heap.size < wr.heap.size := hrow.lt
    have HOV := Lib.hid ov
    have HQV := Lib.hid qv
    have hvk := HV.out k
    have HOB : Hid (∀ j, v.ownBlock = some j → B ≤ j) := fun j hj => own_base ov hj
    clear hbld hrow hkeep ov qv
    have g1 : (0 : Int) ≤ (k : Int) := by omega
    have g2 : (k : Int) < (d : Int) := by omega
    have g3 : (k : Int) < (x.length : Int) := by omega
    go_wp2
    refine regionZ (S := (fun w' => w'.cell? ⟨w.heap.size, 0, none⟩ = some (.slice (some ⟨lb, 0, none⟩) d dc) ∧ w'.cell? ⟨lb, k * 2, none⟩ = some v ∧ w'.cell? ⟨b, o + k * 3, none⟩ = some (.int .i64 z.kind) ∧ w'.cell? ⟨b, o + k * 3 + 1, none⟩ = some (.int .i64 z.int) ∧ w'.cell? ⟨b, o + k * 3 + 2, none⟩ = some (.string z.str))) 17 (by kernel_rfl) ⟨t0, cv, c1, c2, c3⟩ (fun hHeld => ?_)
    refine takeZ (i := 0) (v := ?_) (some 14) rfl rfl (by kernel_rfl) (by decide) (by kernel_rfl) (by kernel_rfl) (by kernel_rfl) (by kernel_rfl) (fun _ _ _ h => h) (Or.inl ⟨by rfl, ?_⟩) (by assumption) ?_
    rotate_left 1
    · (intro w0 hSw; (try dsimp only at hSw); go_simp; try (with_reducible rfl))
    try simp only [Act.put]
    try simp only [List.setIfInBounds_toArray]
    try simp only [List.set_cons_succ]
    try simp only [List.set_cons_zero]
    refine takeZ (i := 1) (v := ?_) (some 15) rfl rfl (by kernel_rfl) (by decide) (by kernel_rfl) (by kernel_rfl) (by kernel_rfl) (by kernel_rfl) (fun _ _ _ h => h) (Or.inl ⟨by rfl, ?_⟩) (by assumption) ?_
    rotate_left 1
    · (intro w0 hSw; (try dsimp only at hSw); go_simp; try (with_reducible rfl))
    try simp only [Act.put]
    try simp only [List.setIfInBounds_toArray]
    try simp only [List.set_cons_succ]
    try simp only [List.set_cons_zero]
    refine takeZ (i := 2) (v := ?_) (some 16) rfl rfl (by kernel_rfl) (by decide) (by kernel_rfl) (by kernel_rfl) (by kernel_rfl) (by kernel_rfl) (fun _ _ _ h => h) (Or.inl ⟨by rfl, ?_⟩) (by assumption) ?_
    rotate_left 1
    · (intro w0 hSw; (try dsimp only at hSw); go_simp; try (with_reducible rfl))
    try simp only [Act.put]
    try simp only [List.setIfInBounds_toArray]
    try simp only [List.set_cons_succ]
    try simp only [List.set_cons_zero]
    refine takeZ (i := 3) (v := ?_) (some 17) rfl rfl (by kernel_rfl) (by decide) (by kernel_rfl) (by kernel_rfl) (by kernel_rfl) (by kernel_rfl) (fun _ _ _ h => h) (Or.inl ⟨by rfl, ?_⟩) (by assumption) ?_
    rotate_left 1
    · (intro w0 hSw; (try dsimp only at hSw); go_simp; try (with_reducible rfl))
    try simp only [Act.put]
    try simp only [List.setIfInBounds_toArray]
    try simp only [List.set_cons_succ]
    try simp only [List.set_cons_zero]
    refine takeZ (i := 4) (v := ?_) (some 18) rfl rfl (by kernel_rfl) (by decide) (by kernel_rfl) (by kernel_rfl) (by kernel_rfl) (by kernel_rfl) (fun _ _ _ h => h) (Or.inl ⟨by rfl, ?_⟩) (by assumption) ?_
    rotate_left 1
    · (intro w0 hSw; (try dsimp only at hSw); go_simp; try (with_reducible rfl))
    try simp only [Act.put]
    try simp only [List.setIfInBounds_toArray]
    try simp only [List.set_cons_succ]
    try simp only [List.set_cons_zero]
    refine takeZ (i := 5) (v := ?_) (some 19) rfl rfl (by kernel_rfl) (by decide) (by kernel_rfl) (by kernel_rfl) (by kernel_rfl) (by kernel_rfl) (fun _ _ _ h => h) (Or.inl ⟨by rfl, ?_⟩) (by assumption) ?_
    rotate_left 1
    · (intro w0 hSw; (try dsimp only at hSw); go_simp; try (with_reducible rfl))
    try simp only [Act.put]
    try simp only [List.setIfInBounds_toArray]
    try simp only [List.set_cons_succ]
    try simp only [List.set_cons_zero]
    refine takeZ (i := 6) (v := ?_) (some 20) rfl rfl (by kernel_rfl) (by decide) (by kernel_rfl) (by kernel_rfl) (by kernel_rfl) (by kernel_rfl) (fun _ _ _ h => h) (Or.inl ⟨by rfl, ?_⟩) (by assumption) ?_
    rotate_left 1
    · (intro w0 hSw; (try dsimp only at hSw); go_simp; try (with_reducible rfl))
    try simp only [Act.put]
    try simp only [List.setIfInBounds_toArray]
    try simp only [List.set_cons_succ]
    try simp only [List.set_cons_zero]
    refine takeZ (i := 7) (v := ?_) (some 21) rfl rfl (by kernel_rfl) (by decide) (by kernel_rfl) (by kernel_rfl) (by kernel_rfl) (by kernel_rfl) (fun _ _ _ h => h) (Or.inl ⟨by rfl, ?_⟩) (by assumption) ?_
    rotate_left 1
    · (intro w0 hSw; (try dsimp only at hSw); go_simp; try (with_reducible rfl))
    try simp only [Act.put]
    try simp only [List.setIfInBounds_toArray]
    try simp only [List.set_cons_succ]
    try simp only [List.set_cons_zero]
    refine takeZ (i := 8) (v := ?_) (some 22) rfl rfl (by kernel_rfl) (by decide) (by kernel_rfl) (by kernel_rfl) (by kernel_rfl) (by kernel_rfl) (fun _ _ _ h => h) (Or.inl ⟨by rfl, ?_⟩) (by assumption) ?_
    rotate_left 1
    · (intro w0 hSw; (try dsimp only at hSw); go_simp; try (with_reducible rfl))
    try simp only [Act.put]
    try simp only [List.setIfInBounds_toArray]
    try simp only [List.set_cons_succ]
    try simp only [List.set_cons_zero]
    refine takeZ (i := 9) (v := ?_) (some 23) rfl rfl (by kernel_rfl) (by decide) (by kernel_rfl) (by kernel_rfl) (by kernel_rfl) (by kernel_rfl) (fun _ _ _ h => h) (Or.inl ⟨by rfl, ?_⟩) (by assumption) ?_
    rotate_left 1
    · (intro w0 hSw; (try dsimp only at hSw); go_simp; try (with_reducible rfl))
    try simp only [Act.put]
    try simp only [List.setIfInBounds_toArray]
    try simp only [List.set_cons_succ]
    try simp only [List.set_cons_zero]
    refine takeZ (i := 10) (v := ?_) (some 24) rfl rfl (by kernel_rfl) (by decide) (by kernel_rfl) (by kernel_rfl) (by kernel_rfl) (by kernel_rfl) (fun _ _ _ h => h) (Or.inl ⟨by rfl, ?_⟩) (by assumption) ?_
    rotate_left 1
    · (intro w0 hSw; (try dsimp only at hSw); go_simp; try (with_reducible rfl))
    try simp only [Act.put]
    try simp only [List.setIfInBounds_toArray]
    try simp only [List.set_cons_succ]
    try simp only [List.set_cons_zero]
    refine takeZ (i := 11) (v := ?_) (some 25) rfl rfl (by kernel_rfl) (by decide) (by kernel_rfl) (by kernel_rfl) (by kernel_rfl) (by kernel_rfl) (fun _ _ _ h => h) (Or.inl ⟨by rfl, ?_⟩) (by assumption) ?_
    rotate_left 1
    · (intro w0 hSw; (try dsimp only at hSw); go_simp; try (with_reducible rfl))
    try simp only [Act.put]
    try simp only [List.setIfInBounds_toArray]
    try simp only [List.set_cons_succ]
    try simp only [List.set_cons_zero]
    refine takeZ (i := 12) (v := ?_) (some 26) rfl rfl (by kernel_rfl) (by decide) (by kernel_rfl) (by kernel_rfl) (by kernel_rfl) (by kernel_rfl) (fun _ _ _ h => h) (Or.inl ⟨by rfl, ?_⟩) (by assumption) ?_
    rotate_left 1
    · (intro w0 hSw; (try dsimp only at hSw); go_simp; try (with_reducible rfl))
    try simp only [Act.put]
    try simp only [List.setIfInBounds_toArray]
    try simp only [List.set_cons_succ]
    try simp only [List.set_cons_zero]
    refine oneZ (i := 13) (by kernel_rfl) rfl (by decide) (fun K hK => ?_)
    go_simp
    have hxa : Ext wr ((wr.alloc (.cells #[.int .i64 z.kind, .int .i64 z.int, .string z.str] 38)).drew) := ((Ext.refl wr).alloc _).drew
    have KEEP := (⟨(hxa.cell htw).trans t0, (hxa.cell hlw).trans cv, (hxa.cell hbw).trans c1, (hxa.cell hbw).trans c2, (hxa.cell hbw).trans c3⟩ : _ ∧ _ ∧ _ ∧ _ ∧ _)
    clear hxa
    refine hK.out _ _ KEEP (fun hHeld => ?_)
    clear hK K
    try simp only [Act.put]
    try simp only [List.setIfInBounds_toArray]
    try simp only [List.set_cons_succ]
    try simp only [List.set_cons_zero]
    refine oneZ (i := 14) (by kernel_rfl) rfl (by decide) (fun K hK => ?_)
    refine stepV (w := (wr.alloc (.cells #[.int .i64 z.kind, .int .i64 z.int, .string z.str] 38)).drew) rfl (.tmp 22) (.tmp 27) rfl B v (vs k) (by simp [Act.eval]) (HOV.out.alloc _) wr.heap.size z (by simp [Act.eval]) (Row.new wr 38 (vcells z)) (by omega) (by simp; omega) ?_
    intro ng cap w2 hown2 hg2 hat2
    have KEEP2 : w2.cell? ⟨w.heap.size, 0, none⟩ = some (.slice (some ⟨lb, 0, none⟩) d dc) ∧ w2.cell? ⟨lb, k * 2, none⟩ = some v ∧ w2.cell? ⟨b, o + k * 3, none⟩ = some (.int .i64 z.kind) ∧ w2.cell? ⟨b, o + k * 3 + 1, none⟩ = some (.int .i64 z.int) ∧ w2.cell? ⟨b, o + k * 3 + 2, none⟩ = some (.string z.str) := by
      have hz : wr.heap.size ≤ ((wr.alloc (.cells #[.int .i64 z.kind, .int .i64 z.int, .string z.str] 38)).drew).heap.size := by simp
      refine ⟨(grown_cell hg2 (p := ⟨w.heap.size, 0, none⟩) (Nat.lt_of_lt_of_le htw hz) (fun e => HQV.out _ e.symm rfl)).trans KEEP.1, (grown_cell hg2 (p := ⟨lb, k * 2, none⟩) (Nat.lt_of_lt_of_le hlw hz) (fun e => by have := HOB.out _ e.symm; simp only at this; omega)).trans KEEP.2.1, (grown_cell hg2 (p := ⟨b, o + k * 3, none⟩) (Nat.lt_of_lt_of_le hbw hz) (fun e => by have := HOB.out _ e.symm; simp only at this; omega)).trans KEEP.2.2.1, (grown_cell hg2 (p := ⟨b, o + k * 3 + 1, none⟩) (Nat.lt_of_lt_of_le hbw hz) (fun e => by have := HOB.out _ e.symm; simp only at this; omega)).trans KEEP.2.2.2.1, (grown_cell hg2 (p := ⟨b, o + k * 3 + 2, none⟩) (Nat.lt_of_lt_of_le hbw hz) (fun e => by have := HOB.out _ e.symm; simp only at this; omega)).trans KEEP.2.2.2.2⟩
    have hf2 : w2.frozen? ⟨lb, k * 2, none⟩ = false := by
      have h := OwnAll.up HBLD.out ((Ext.refl wr).alloc (.cells #[.int .i64 z.kind, .int .i64 z.int, .string z.str] 38)).below
      obtain ⟨hs, q1, -, -, -, -, -, -⟩ := h
      exact (q1.grown (w := wr.alloc (.cells #[.int .i64 z.kind, .int .i64 z.int, .string z.str] 38)) (w' := w2) (row := v.ownBlock) ⟨hg2.os, hg2.tape, hg2.output, hg2.size, hg2.block⟩ (fun e => by have := HOB.out _ e.symm; omega)).frozen _
    have HOWN2 := Lib.hid hown2
    have HG2 := Lib.hid hg2
    have HAT2 := Lib.hid hat2
    clear hown2 hg2 hat2
    refine hK.out _ _ KEEP2 (fun hHeld => ?_)
    clear hK K
    try simp only [Act.put]
    try simp only [List.setIfInBounds_toArray]
    try simp only [List.set_cons_succ]
    try simp only [List.set_cons_zero]
    refine takeZ (i := 15) (v := ?_) (some 29) rfl rfl (by kernel_rfl) (by decide) (by kernel_rfl) (by kernel_rfl) (by kernel_rfl) (by kernel_rfl) (fun _ _ _ h => h) (Or.inl ⟨by rfl, ?_⟩) (by assumption) ?_
    rotate_left 1
    · (intro w0 hSw; (try dsimp only at hSw); go_simp; try (with_reducible rfl))
    try simp only [Act.put]
    try simp only [List.setIfInBounds_toArray]
    try simp only [List.set_cons_succ]
    try simp only [List.set_cons_zero]
    refine takeZ (i := 16) (v := ?_) (some 30) rfl rfl (by kernel_rfl) (by decide) (by kernel_rfl) (by kernel_rfl) (by kernel_rfl) (by kernel_rfl) (fun _ _ _ h => h) (Or.inl ⟨by rfl, ?_⟩) (by assumption) ?_
    rotate_left 1
    · (intro w0 hSw; (try dsimp only at hSw); go_simp; try (with_reducible rfl))
    try simp only [Act.put]
    try simp only [List.setIfInBounds_toArray]
    try simp only [List.set_cons_succ]
    try simp only [List.set_cons_zero]
    refine lastZ (by kernel_rfl) rfl (by kernel_rfl) (fun K hK => ?_)
    go_simp
    go_wp2_with fail
    refine hK.out _ _ ?_
    clear hK K
    try simp only [Act.put]
    try simp only [List.setIfInBounds_toArray]
    try simp only [List.set_cons_succ]
    try simp only [List.set_cons_zero]
    go_wp2
    obtain ⟨W3, hW3⟩ : ∃ W3, W3 = w2.setCell ⟨lb, k * 2, none⟩ (.slice (some ⟨ng, 0, none⟩) ((vs k).length + 1) cap) := ⟨_, rfl⟩
    have hxa : Ext wr ((wr.alloc (.cells #[.int .i64 z.kind, .int .i64 z.int, .string z.str] 38)).drew) := ((Ext.refl wr).alloc _).drew
    have hB3 : BldM B (fun b => b ≠ w.heap.size) W3 lb d (addV vs x frm (k + 1)) (addF d vs fs frm k) := by
      rw [hW3, addV_step vs x hk1]
      refine OwnAll.put (OwnAll.up HBLD.out hxa.below) KEEP.2.1 (spF_updv _ _ _ _) ?_ HG2.out (fun j hj => ?_) (fun j hj => ?_)
      · rw [spF_v, upd_self, HZ.out, List.length_append]
        exact HOWN2.out
      · injection hj with hj
        subst hj
        rcases HAT2.out with h | h
        · exact .inl h
        · exact .inr (by rw [h]; exact Nat.le_refl _)
      · injection hj with hj
        subst hj
        rcases HAT2.out with h | h
        · exact HQV.out _ h
        · rw [h]; simp; omega
    have hR3 : Row W3 w.heap.size 31 [.slice (some ⟨lb, 0, none⟩) d dc] := by
      rw [hW3]
      exact ((HROW.out.up hxa.below).grown HG2.out (fun e => HQV.out _ e.symm rfl)).far (by simp; omega) _
    have hK3 : KeepX B lb w W3 := by
      rw [hW3]
      exact ((HKEEP.out.trans (KeepX.below hxa.below (by omega))).trans (KeepX.grown HG2.out (Nat.le_trans (by omega) hxa.size) (fun j hj => HOB.out j hj))).trans (KeepX.set w2 _ _)
    rw [← hW3]
    have h3z : wr.heap.size ≤ W3.heap.size := by rw [hW3]; have := HG2.out.size; have := hxa.size; simp at *; omega
    clear hW3 KEEP KEEP2 hf2 HOWN2 HG2 HAT2 HBLD HROW HKEEP HOV HQV HOB hxa t0 cv c1 c2 c3 fv hHeld
    have t0 : W3.cell? ⟨w.heap.size, 0, none⟩ = some (.slice (some ⟨lb, 0, none⟩) d dc) := hR3.cell 0
    obtain ⟨f, cf, of, qf, ff⟩ := OwnAll.at_ hB3 (show k * 2 + 1 < d * 2 by omega)
    rw [spF_f, addF_at] at of
    have HSZ : Hid (∀ W, Ext W3 W → Calls Try.prog 32 #[.agg #[.slice (some ⟨lb, 0, none⟩) d dc], .int .i64 ((k : Int) + 1)] W fun e w' => e = .returned (.int .i64 (sizeF d vs (k + 1) : Nat)) ∧ Ext W w') := fun W hW => by
      have h := trSize_any W3.heap.size (some ⟨lb, 0, none⟩) d dc (addV vs x frm (k + 1)) (addF d vs fs frm k) (k + 1) W ((BldM.tr hB3).below hW.below (Nat.le_refl _)) hW.size (by omega) (by omega)
      have e1 : sizeF d (addV vs x frm (k + 1)) (k + 1) = sizeF d vs (k + 1) := by unfold sizeF; rw [addV_at]
      rw [e1] at h
      exact h
    have HB3 := Lib.hid hB3
    have HR3 := Lib.hid hR3
    have HK3 := Lib.hid hK3
    have hlw3 : lb < W3.heap.size := by omega
    have htw3 : w.heap.size < W3.heap.size := by omega
    have HOF := Lib.hid of
    have HQF := Lib.hid qf
    have HOB : Hid (∀ j, f.ownBlock = some j → B ≤ j) := fun j hj => own_base of hj
    have hfk := HF.out k
    have hw1 : IntKind.i64.wrap ((k : Int) + 1) = (k : Int) + 1 := IntWalk.i64_in _ (by omega)
    clear hB3 hR3 hK3 of qf
    obtain ⟨n, hn⟩ : ∃ n, n = sizeF d vs (k + 1) := ⟨_, rfl⟩
    have HN : Hid (sizeF d vs (k + 1) = n) := hn.symm
    rw [← hn] at HSZ
    clear hn

    refine regionZ (S := (fun w' => w'.cell? ⟨w.heap.size, 0, none⟩ = some (.slice (some ⟨lb, 0, none⟩) d dc) ∧ w'.cell? ⟨lb, k * 2 + 1, none⟩ = some f)) 17 (by kernel_rfl) ⟨t0, cf⟩ (fun hHeld => ?_)
    refine takeZ (i := 0) (v := ?_) (some 31) rfl rfl (by kernel_rfl) (by decide) (by kernel_rfl) (by kernel_rfl) (by kernel_rfl) (by kernel_rfl) (fun _ _ _ h => h) (Or.inl ⟨by rfl, ?_⟩) (by assumption) ?_
    rotate_left 1
    · (intro w0 hSw; (try dsimp only at hSw); go_simp; try (with_reducible rfl))
    try simp only [Act.put]
    try simp only [List.setIfInBounds_toArray]
    try simp only [List.set_cons_succ]
    try simp only [List.set_cons_zero]
    refine takeZ (i := 1) (v := ?_) (some 32) rfl rfl (by kernel_rfl) (by decide) (by kernel_rfl) (by kernel_rfl) (by kernel_rfl) (by kernel_rfl) (fun _ _ _ h => h) (Or.inl ⟨by rfl, ?_⟩) (by assumption) ?_
    rotate_left 1
    · (intro w0 hSw; (try dsimp only at hSw); go_simp; try (with_reducible rfl))
    try simp only [Act.put]
    try simp only [List.setIfInBounds_toArray]
    try simp only [List.set_cons_succ]
    try simp only [List.set_cons_zero]
    refine takeZ (i := 2) (v := ?_) (some 33) rfl rfl (by kernel_rfl) (by decide) (by kernel_rfl) (by kernel_rfl) (by kernel_rfl) (by kernel_rfl) (fun _ _ _ h => h) (Or.inl ⟨by rfl, ?_⟩) (by assumption) ?_
    rotate_left 1
    · (intro w0 hSw; (try dsimp only at hSw); go_simp; try (with_reducible rfl))
    try simp only [Act.put]
    try simp only [List.setIfInBounds_toArray]
    try simp only [List.set_cons_succ]
    try simp only [List.set_cons_zero]
    refine takeZ (i := 3) (v := ?_) (some 34) rfl rfl (by kernel_rfl) (by decide) (by kernel_rfl) (by kernel_rfl) (by kernel_rfl) (by kernel_rfl) (fun _ _ _ h => h) (Or.inl ⟨by rfl, ?_⟩) (by assumption) ?_
    rotate_left 1
    · (intro w0 hSw; (try dsimp only at hSw); go_simp; try (with_reducible rfl))
    try simp only [Act.put]
    try simp only [List.setIfInBounds_toArray]
    try simp only [List.set_cons_succ]
    try simp only [List.set_cons_zero]
    refine takeZ (i := 4) (v := ?_) (some 35) rfl rfl (by kernel_rfl) (by decide) (by kernel_rfl) (by kernel_rfl) (by kernel_rfl) (by kernel_rfl) (fun _ _ _ h => h) (Or.inl ⟨by rfl, ?_⟩) (by assumption) ?_
    rotate_left 1
    · (intro w0 hSw; (try dsimp only at hSw); go_simp; try (with_reducible rfl))
    try simp only [Act.put]
    try simp only [List.setIfInBounds_toArray]
    try simp only [List.set_cons_succ]
    try simp only [List.set_cons_zero]
    refine takeZ (i := 5) (v := ?_) (some 36) rfl rfl (by kernel_rfl) (by decide) (by kernel_rfl) (by kernel_rfl) (by kernel_rfl) (by kernel_rfl) (fun _ _ _ h => h) (Or.inl ⟨by rfl, ?_⟩) (by assumption) ?_
    rotate_left 1
    · (intro w0 hSw; (try dsimp only at hSw); go_simp; try (with_reducible rfl))
    try simp only [Act.put]
    try simp only [List.setIfInBounds_toArray]
    try simp only [List.set_cons_succ]
    try simp only [List.set_cons_zero]
    refine takeZ (i := 6) (v := ?_) (some 37) rfl rfl (by kernel_rfl) (by decide) (by kernel_rfl) (by kernel_rfl) (by kernel_rfl) (by kernel_rfl) (fun _ _ _ h => h) (Or.inl ⟨by rfl, ?_⟩) (by assumption) ?_
    rotate_left 1
    · (intro w0 hSw; (try dsimp only at hSw); go_simp; try (with_reducible rfl))
    try simp only [Act.put]
    try simp only [List.setIfInBounds_toArray]
    try simp only [List.set_cons_succ]
    try simp only [List.set_cons_zero]
    refine takeZ (i := 7) (v := ?_) (some 38) rfl rfl (by kernel_rfl) (by decide) (by kernel_rfl) (by kernel_rfl) (by kernel_rfl) (by kernel_rfl) (fun _ _ _ h => h) (Or.inl ⟨by rfl, ?_⟩) (by assumption) ?_
    rotate_left 1
    · (intro w0 hSw; (try dsimp only at hSw); go_simp; try (with_reducible rfl))
    try simp only [Act.put]
    try simp only [List.setIfInBounds_toArray]
    try simp only [List.set_cons_succ]
    try simp only [List.set_cons_zero]
    refine takeZ (i := 8) (v := ?_) (some 39) rfl rfl (by kernel_rfl) (by decide) (by kernel_rfl) (by kernel_rfl) (by kernel_rfl) (by kernel_rfl) (fun _ _ _ h => h) (Or.inl ⟨by rfl, ?_⟩) (by assumption) ?_
    rotate_left 1
    · (intro w0 hSw; (try dsimp only at hSw); go_simp; try (with_reducible rfl))
    try simp only [Act.put]
    try simp only [List.setIfInBounds_toArray]
    try simp only [List.set_cons_succ]
    try simp only [List.set_cons_zero]
    refine takeZ (i := 9) (v := ?_) (some 40) rfl rfl (by kernel_rfl) (by decide) (by kernel_rfl) (by kernel_rfl) (by kernel_rfl) (by kernel_rfl) (fun _ _ _ h => h) (Or.inl ⟨by rfl, ?_⟩) (by assumption) ?_
    rotate_left 1
    · (intro w0 hSw; (try dsimp only at hSw); go_simp; try (with_reducible rfl))
    try simp only [Act.put]
    try simp only [List.setIfInBounds_toArray]
    try simp only [List.set_cons_succ]
    try simp only [List.set_cons_zero]
    refine takeZ (i := 10) (v := ?_) (some 41) rfl rfl (by kernel_rfl) (by decide) (by kernel_rfl) (by kernel_rfl) (by kernel_rfl) (by kernel_rfl) (fun _ _ _ h => h) (Or.inl ⟨by rfl, ?_⟩) (by assumption) ?_
    rotate_left 1
    · (intro w0 hSw; (try dsimp only at hSw); go_simp; try (with_reducible rfl))
    try simp only [Act.put]
    try simp only [List.setIfInBounds_toArray]
    try simp only [List.set_cons_succ]
    try simp only [List.set_cons_zero]
    refine takeZ (i := 11) (v := ?_) (some 42) rfl rfl (by kernel_rfl) (by decide) (by kernel_rfl) (by kernel_rfl) (by kernel_rfl) (by kernel_rfl) (fun _ _ _ h => h) (Or.inl ⟨by rfl, ?_⟩) (by assumption) ?_
    rotate_left 1
    · (intro w0 hSw; (try dsimp only at hSw); go_simp; try (with_reducible rfl))
    try simp only [Act.put]
    try simp only [List.setIfInBounds_toArray]
    try simp only [List.set_cons_succ]
    try simp only [List.set_cons_zero]
    refine oneZ (i := 12) (by kernel_rfl) rfl (by decide) (fun K hK => ?_)
    go_simp
    refine (HSZ.out _ (Ext.refl W3).drew).mono ?_
    rintro e w4 ⟨rfl, hx0⟩
    have hx : Ext W3 w4 := (Ext.refl W3).drew.trans hx0
    have KEEP : w4.cell? ⟨w.heap.size, 0, none⟩ = some (.slice (some ⟨lb, 0, none⟩) d dc) ∧ w4.cell? ⟨lb, k * 2 + 1, none⟩ = some f := ⟨(hx.cell htw3).trans t0, (hx.cell hlw3).trans cf⟩
    have HX4 := Lib.hid hx
    clear hx hx0
    go_wp2_with fail
    refine hK.out _ _ KEEP (fun hHeld => ?_)
    clear hK K
    try simp only [Act.put]
    try simp only [List.setIfInBounds_toArray]
    try simp only [List.set_cons_succ]
    try simp only [List.set_cons_zero]
    refine oneZ (i := 13) (by kernel_rfl) rfl (by decide) (fun K hK => ?_)
    go_simp
    have hxa : Ext W3 (w4.alloc (.cells #[.int .i64 (n : Int)] 3)) := HX4.out.alloc _
    have KEEP1 := (⟨(hxa.cell htw3).trans t0, (hxa.cell hlw3).trans cf⟩ : _ ∧ _)
    have KEEP2K := Lib.hid KEEP1.2
    clear hxa
    refine hK.out _ _ KEEP1 (fun hHeld => ?_)
    clear hK K
    try simp only [Act.put]
    try simp only [List.setIfInBounds_toArray]
    try simp only [List.set_cons_succ]
    try simp only [List.set_cons_zero]
    refine oneZ (i := 14) (by kernel_rfl) rfl (by decide) (fun K hK => ?_)
    refine stepI (w := w4.alloc (.cells #[.int .i64 (n : Int)] 3)) rfl (.tmp 39) (.tmp 44) rfl B f (fs k) (by simp [Act.eval]) (own_keep HOF.out (HX4.out.alloc _).below) w4.heap.size n (by simp [Act.eval]) (Row.new w4 3 [.int .i64 (n : Int)]) (by omega) (by have := HX4.out.size; simp; omega) ?_
    intro ng cap w2 hown2 hg2 hat2
    have hza := (HX4.out.alloc (.cells #[.int .i64 (n : Int)] 3)).size
    have KEEP2 : w2.cell? ⟨w.heap.size, 0, none⟩ = some (.slice (some ⟨lb, 0, none⟩) d dc) ∧ w2.cell? ⟨lb, k * 2 + 1, none⟩ = some f :=
      ⟨(grown_cell hg2 (p := ⟨w.heap.size, 0, none⟩) (Nat.lt_of_lt_of_le htw3 hza) (fun e => HQF.out _ e.symm rfl)).trans KEEP1.1, (grown_cell hg2 (p := ⟨lb, k * 2 + 1, none⟩) (Nat.lt_of_lt_of_le hlw3 hza) (fun e => by have := HOB.out _ e.symm; simp only at this; omega)).trans KEEP1.2⟩
    have hf2 : w2.frozen? ⟨lb, k * 2 + 1, none⟩ = false := by
      have h := OwnAll.up HB3.out (HX4.out.alloc (.cells #[.int .i64 (n : Int)] 3)).below
      obtain ⟨hs, q1, -, -, -, -, -, -⟩ := h
      exact (q1.grown hg2 (fun e => by have := HOB.out _ e.symm; omega)).frozen _
    have HOWN2 := Lib.hid hown2
    have HG2 := Lib.hid hg2
    have HAT2 := Lib.hid hat2
    clear hown2 hg2 hat2 hza
    refine hK.out _ _ KEEP2 (fun hHeld => ?_)
    clear hK K
    try simp only [Act.put]
    try simp only [List.setIfInBounds_toArray]
    try simp only [List.set_cons_succ]
    try simp only [List.set_cons_zero]
    refine takeZ (i := 15) (v := ?_) (some 46) rfl rfl (by kernel_rfl) (by decide) (by kernel_rfl) (by kernel_rfl) (by kernel_rfl) (by kernel_rfl) (fun _ _ _ h => h) (Or.inl ⟨by rfl, ?_⟩) (by assumption) ?_
    rotate_left 1
    · (intro w0 hSw; (try dsimp only at hSw); go_simp; try (with_reducible rfl))
    try simp only [Act.put]
    try simp only [List.setIfInBounds_toArray]
    try simp only [List.set_cons_succ]
    try simp only [List.set_cons_zero]
    refine takeZ (i := 16) (v := ?_) (some 47) rfl rfl (by kernel_rfl) (by decide) (by kernel_rfl) (by kernel_rfl) (by kernel_rfl) (by kernel_rfl) (fun _ _ _ h => h) (Or.inl ⟨by rfl, ?_⟩) (by assumption) ?_
    rotate_left 1
    · (intro w0 hSw; (try dsimp only at hSw); go_simp; try (with_reducible rfl))
    try simp only [Act.put]
    try simp only [List.setIfInBounds_toArray]
    try simp only [List.set_cons_succ]
    try simp only [List.set_cons_zero]
    refine lastZ (by kernel_rfl) rfl (by kernel_rfl) (fun K hK => ?_)
    go_simp
    go_wp2_with fail
    refine hK.out _ _ ?_
    clear hK K
    try simp only [Act.put]
    try simp only [List.setIfInBounds_toArray]
    try simp only [List.set_cons_succ]
    try simp only [List.set_cons_zero]
    go_wp2
    go_roundw
    case rel =>
      have hx5 : Ext W3 (w4.alloc (.cells #[.int .i64 (n : Int)] 3)) := HX4.out.alloc _
      refine ⟨k + 1, by omega, by omega, by go_num, ?_, ?_, ?_⟩
      · rw [addF_step d vs fs hk1]
        refine OwnAll.put (OwnAll.up HB3.out hx5.below) KEEP2K.out (spF_updf _ _ _ _) ?_ HG2.out (fun j hj => ?_) (fun j hj => ?_)
        · rw [spF_f, upd_self, List.length_append, HN.out]
          exact HOWN2.out
        · injection hj with hj
          subst hj
          rcases HAT2.out with h | h
          · exact .inl h
          · exact .inr (by rw [h]; exact Nat.le_refl _)
        · injection hj with hj
          subst hj
          rcases HAT2.out with h | h
          · exact HQF.out _ h
          · have := hx5.size; rw [h]; dsimp only; omega
      · exact ((HR3.out.up hx5.below).grown HG2.out (fun e => HQF.out _ e.symm rfl)).far (by simp; omega) _
      · exact ((HK3.out.trans (KeepX.below hx5.below (by omega))).trans (KeepX.grown HG2.out (Nat.le_trans (by omega) hx5.size) (fun j hj => HOB.out j hj))).trans (KeepX.set w2 _ _)
    case measure => simp [intOf]; omega

end Go.Proofs.Ytlcammcifjihpaa
end

section
namespace Go.Proofs.Ytlcammcifjihpaa
open Go.RowKit

/-- The first place of a number in a list, or -1. -/
def idxF (xs : List Int) (x : Int) : Int := match xs.findIdx? (· == x) with | some i => i | none => -1
theorem idxF_at {xs : List Int} {x : Int} {k : Nat} (hk : k < xs.length) (h : xs[k] = x) (hall : ∀ i (_h1 : i < k) (h2 : i < xs.length), xs[i] ≠ x) : idxF xs x = k := by
  unfold idxF
  have : xs.findIdx? (· == x) = some k := by
    rw [List.findIdx?_eq_some_iff_getElem]
    exact ⟨hk, by simpa using h, fun j hj => by simpa using hall j hj (by omega)⟩
  rw [this]
theorem idxF_none {xs : List Int} {x : Int} (hall : ∀ i (h2 : i < xs.length), xs[i] ≠ x) : idxF xs x = -1 := by
  unfold idxF
  have : xs.findIdx? (· == x) = none := by
    rw [List.findIdx?_eq_none_iff]
    intro y hy
    obtain ⟨i, hi, rfl⟩ := List.getElem_of_mem hy
    simpa using hall i hi
  rw [this]

theorem take_eq_of {xs ys : List Int} {k : Nat} (hl : xs.length = ys.length) (h : ∀ i (_h1 : i < k) (h2 : i < xs.length) (h3 : i < ys.length), xs[i] = ys[i]) (hk : xs.length ≤ k) : xs = ys := by
  apply List.ext_getElem hl
  intro i h2 h3
  exact h i (by omega) h2 h3

set_option maxHeartbeats 400000 in
theorem idxInt_any (XA : Option Addr) (XC : Nat) (xs : List Int) (x : Int) (w : World) (hx : SlI .i64 w.heap.size w XA xs) (hxl : xs.length ≤ 1000000) :
    Calls Try.prog 54 #[.slice XA xs.length XC, .int .i64 x] w fun e w' => e = .returned (.int .i64 (idxF xs x)) ∧ w = w' := by
  go_enter Try.func54, Try.ntmps54
  go_wp2
  go_loop [8] (fun i => ∃ k : Nat, k ≤ xs.length ∧ i = .int .i64 k ∧ (∀ i (h1 : i < k) (h2 : i < xs.length), xs[i] ≠ x)) (fun i => xs.length - (intOf i).toNat)
  case atStart => exact ⟨0, Nat.zero_le _, rfl, fun i h => absurd h (by omega)⟩
  case round =>
    obtain ⟨k, hk, rfl, hall⟩ := hrel
    have HA := Lib.hid hall
    clear hall
    by_cases hlt : k < xs.length
    · obtain ⟨b, o, rfl, hbb, hc⟩ := slI_at hx hlt
      generalize hxk : xs[k] = xk at *
      have HX := Lib.hid hxk
      clear hxk hx
      by_cases heq : xk = x
      · have hne2 : (x == xk) = true := by simp [heq]
        have hd : idxF xs x = k := idxF_at hlt (HX.out.trans heq) HA.out
        have HD := Lib.hid hd
        clear heq hd
        go_wp2
        go_ret
        exact ⟨ret_int HD.out.symm, rfl⟩
      · have hne2 : (x == xk) = false := by simp; exact fun h => heq h.symm
        have HE := Lib.hid heq
        clear heq
        go_wp2
        go_round
        case rel =>
          refine ⟨k + 1, by omega, by go_num, ?_⟩
          intro i h1 h2
          by_cases hik : i < k
          · exact HA.out i hik h2
          · obtain rfl : i = k := by omega
            rw [HX.out]; exact HE.out
        case measure => simp [intOf]; omega
    · have hd : idxF xs x = -1 := idxF_none fun i h2 => HA.out i (by omega) h2
      have HD := Lib.hid hd
      clear hd hx
      go_wp2
      go_ret
      exact ⟨ret_int HD.out.symm, rfl⟩

end Go.Proofs.Ytlcammcifjihpaa
end

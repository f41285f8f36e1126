/- Walks: ordinalref07.Range; the laws' own width, Great, Row, Rows. -/
import Derived.Test.YtiopkooigeaneaaV5
namespace Go.Proofs.Ytiopkooigeaneaa
open Go.RowKit Go.Sort

set_option maxHeartbeats 1000000 in
set_option maxRecDepth 100000 in
theorem r7Range_any (XA A : Option Addr) (XC C : Nat) (X : List RL.R) (r : RL.R) (w : World) (hX : SlRs w.heap.size w XA X) (hr : SlR w.heap.size w A r) (hXl : X.length ≤ 1000000) (hXo : RsOk X) (hro : ROk r) (hS : RL.SS X) :
    Calls Try.prog 20 #[.slice XA X.length XC, .slice A r.length C] w fun e w' => e = .returned (.tuple #[.int .i64 (RL.rank X r), .int .i64 (RL.rank X r + RL.manyB X r : Nat)]) ∧ Ext w w' := by
  have HX := Lib.hid hX
  have HR := Lib.hid hr
  have HXO := Lib.hid hXo
  have HRO := Lib.hid hro
  have HSS := Lib.hid hS
  have hrk := RL.rank_le X r
  have HC := Lib.hid (r7Search_any XA A XC C X r w hX hr hXl hXo hro)
  clear hX hr hXo hro hS
  go_enter Try.func20, Try.ntmps20
  go_wp2_with fail
  refine HC.out.mono ?_
  rintro e w1 ⟨rfl, hx1⟩
  go_wp2
  go_loopw [8] (fun i wr => ∃ j : Nat, RL.rank X r + j ≤ X.length ∧ i = .int .i64 (RL.rank X r + j : Nat) ∧ (∀ i (hi : RL.rank X r + i < X.length), i < j → RL.beginsB X[RL.rank X r + i] r = true) ∧ Ext w wr) (fun i _ => X.length - (intOf i).toNat)
  case atStart => exact ⟨0, by omega, rfl, fun i _ h => absurd h (by omega), hx1⟩
  case round =>
    obtain ⟨j, hj, rfl, hall, he⟩ := hrel
    have HA := Lib.hid hall
    clear hall hx1
    generalize hkk : RL.rank X r + j = k at *
    have HKK := Lib.hid hkk
    clear hkk
    by_cases h1 : k < X.length
    · obtain ⟨b, o, A1, C1, rfl, hb, c1, hcap, hcm, s1⟩ := slRs_at HX.out h1
      obtain ⟨hc, hf⟩ := he.rules
      have HB := Lib.hid (fun W (hx : Ext w W) => r7Begins_any A1 A C1 C X[k] r W ((s1.ext (Nat.le_refl _) hx).more hx.size) ((HR.out.ext (Nat.le_refl _) hx).more hx.size) (HXO.out.at_ h1) HRO.out hcap hcm)
      have hbe : ∃ d, RL.beginsB X[k] r = d := ⟨_, rfl⟩
      obtain ⟨d, hd⟩ := hbe
      rw [hd] at HB
      have HD := Lib.hid hd
      clear s1 hd
      generalize X[k].length = xl at *
      cases d
      · go_wp2_with fail
        refine (HB.out _ he).mono ?_
        rintro e w2 ⟨rfl, hx2⟩
        have HE2 := Lib.hid (he.trans hx2)
        have HM : Hid (RL.manyB X r = j) := RL.manyB_eq HSS.out r (by have := HKK.out; omega) HA.out (fun hi => by
          have e1 := HKK.out
          have e2 := HD.out
          subst e1
          exact e2)
        clear hc hf c1 hx2 he HB
        go_wp2
        go_ret2
        exact ⟨by rw [HM.out, HKK.out]; rfl, HE2.out⟩
      · go_wp2_with fail
        refine (HB.out _ he).mono ?_
        rintro e w2 ⟨rfl, hx2⟩
        have HE2 := Lib.hid (he.trans hx2)
        clear hc hf c1 hx2 he HB
        go_wp2
        go_roundw
        case rel =>
          refine ⟨j + 1, by have := HKK.out; omega, ?_, ?_, HE2.out⟩
          · have := HKK.out
            rw [← Nat.add_assoc, this]; go_num
          · intro i hi hlt
            rcases Nat.lt_or_ge i j with h2 | h2
            · exact HA.out i hi h2
            · obtain rfl : i = j := by omega
              have e1 := HKK.out
              have e2 := HD.out
              subst e1
              exact e2
        case measure => simp [intOf]; omega
    · have HM : Hid (RL.manyB X r = j) := RL.manyB_eq HSS.out r (by have := HKK.out; omega) HA.out (fun hi => by have := HKK.out; omega)
      have hd : decide (k < X.length) = false := by simpa using h1
      go_wp2
      go_ret2
      exact ⟨by rw [HM.out, HKK.out]; rfl, he⟩

theorem l7width_any (n : Nat) (w : World) (hn : n < 256) : Calls Try.prog 12 #[.int .u8 n] w fun e w' => e = .returned (.int .i64 (n % 5 : Nat)) ∧ w' = w := by
  go_enter Try.func12, Try.ntmps12
  go_wp2
  go_ret
  exact ⟨ret_int (by simp), rfl⟩

/-- Rows beyond the size limit of the statements. -/
def greatR (x : RL.R) : Bool := decide (8 < x.length) || x.any fun v => decide (60 < v.str.size)
def greatF (X : List RL.R) : Bool := X.any greatR || decide (40 < X.length)

set_option maxHeartbeats 1000000 in
set_option maxRecDepth 100000 in
theorem l7Great_any (XA : Option Addr) (XC : Nat) (X : List RL.R) (w : World) (hX : SlRs w.heap.size w XA X) (hXl : X.length ≤ 9223372036854775807) (hlen : ∀ x ∈ X, x.length ≤ 9223372036854775807 ∧ ∀ v ∈ x, v.str.size ≤ 9223372036854775807) :
    Calls Try.prog 13 #[.slice XA X.length XC] w fun e w' => e = .returned (.bool (greatF X)) ∧ Ext w w' := by
  have HX := Lib.hid hX
  have HL := Lib.hid hlen
  clear hX hlen
  go_enter Try.func13, Try.ntmps13
  go_wp2
  go_loopw [9] (fun i wr => ∃ k : Nat, k ≤ X.length ∧ i = .int .i64 k ∧ X.any greatR = (X.drop k).any greatR ∧ Ext w wr) (fun i _ => X.length - (intOf i).toNat)
  case atStart => exact ⟨0, Nat.zero_le _, rfl, by simp, Ext.refl _⟩
  case round =>
    obtain ⟨k, hka, rfl, hd, he⟩ := hrel
    have HD := Lib.hid hd
    clear hd
    by_cases h1 : k < X.length
    · obtain ⟨b, o, A1, C1, rfl, hb, c1, -, -, s1⟩ := slRs_at HX.out h1
      obtain ⟨hc, hf⟩ := he.rules
      have HN := Lib.hid (HD.out.trans (by rw [List.drop_eq_getElem_cons h1, List.any_cons] : (X.drop k).any greatR = (greatR X[k] || (X.drop (k + 1)).any greatR)))
      obtain ⟨hxl, hsl⟩ := HL.out X[k] (List.getElem_mem h1)
      have HSL := Lib.hid hsl
      have HS1 := Lib.hid s1
      clear s1 hsl
      generalize X[k] = x at c1 HN hxl HSL HS1
      by_cases h8 : 8 < x.length
      · have HR : Hid (greatF X = true) := by
          show _ = _
          unfold greatF
          rw [HN.out]; simp [greatR, h8]
        go_wp2
        go_ret
        exact ⟨ret_bool HR.out.symm, he⟩
      · have HG : Hid (greatR x = x.any fun v => decide (60 < v.str.size)) := by show _ = _; simp [greatR, h8]
        obtain ⟨wo, rfl⟩ : ∃ wo : World, wo = wr := ⟨_, rfl⟩
        go_wp2
        clear hc hf
        go_loopw [18] (fun i wr => ∃ j : Nat, j ≤ x.length ∧ i = .int .i64 j ∧ greatR x = (x.drop j).any (fun v => decide (60 < v.str.size)) ∧ Ext w wr) (fun i _ => x.length - (intOf i).toNat)
        case atStart => exact ⟨0, Nat.zero_le _, rfl, by rw [HG.out]; simp, he⟩
        case round =>
          obtain ⟨j, hja, rfl, hd2, he2⟩ := hrel
          have HD2 := Lib.hid hd2
          clear hd2
          by_cases h2 : j < x.length
          · obtain ⟨b', o', rfl, hb', d1, d2, d3⟩ := slR_at HS1.out h2
            obtain ⟨hc, hf⟩ := he2.rules
            have HN2 := Lib.hid (HD2.out.trans (by rw [List.drop_eq_getElem_cons h2, List.any_cons] : (x.drop j).any (fun v => decide (60 < v.str.size)) = (decide (60 < x[j].str.size) || (x.drop (j + 1)).any (fun v => decide (60 < v.str.size)))))
            have hs := HSL.out x[j] (List.getElem_mem h2)
            generalize x[j] = v at d1 d2 d3 HN2 hs
            by_cases h60 : 60 < v.str.size
            · have HR : Hid (greatF X = true) := by
                show _ = _
                unfold greatF
                rw [HN.out, HN2.out]; simp [h60]
              go_wp2
              go_ret
              exact ⟨ret_bool HR.out.symm, he2.alloc _⟩
            · have HR : Hid (greatR x = (x.drop (j + 1)).any (fun v => decide (60 < v.str.size))) := by
                show _ = _
                rw [HN2.out]; simp [h60]
              go_wp2
              go_roundw
              case rel => exact ⟨j + 1, by omega, by go_num, HR.out, he2.alloc _⟩
              case measure => simp [intOf]; omega
          · have HR : Hid (X.any greatR = (X.drop (k + 1)).any greatR) := by
              show _ = _
              rw [HN.out, HD2.out, List.drop_of_length_le (by omega)]; simp
            go_wp2
            go_roundw
            case rel => exact ⟨k + 1, by omega, by go_num, HR.out, he2⟩
            case measure => simp [intOf]; omega
    · have HR : Hid (greatF X = decide (40 < X.length)) := by
        show _ = _
        unfold greatF
        rw [HD.out, List.drop_of_length_le (by omega)]; simp
      go_wp2
      go_ret
      exact ⟨ret_bool (by rw [HR.out, Bool.eq_iff_iff]; simp; omega), he⟩

set_option maxHeartbeats 1000000 in
set_option maxRecDepth 100000 in
/-- The laws' own Row: the row again, as a row of the reference. -/
theorem l7Row_any (XA : Option Addr) (XC : Nat) (x : RL.R) (w : World) (hx : SlR w.heap.size w XA x) (hxl : x.length ≤ 1000000) :
    Calls Try.prog 19 #[.slice XA x.length XC] w fun e w' => ∃ v, e = .returned v ∧ w'.ownsRow w.heap.size 70 3 v x.length (rcells x) ∧ Below w.heap.size w w' := by
  have HX := Lib.hid hx
  clear hx
  go_enter Try.func19, Try.ntmps19
  go_wp2
  go_loopw [3, 8] (fun v i wr => ∃ k : Nat, k ≤ x.length ∧ i = .int .i64 k ∧ wr.ownsRow w.heap.size 70 3 v (x.take k).length (rcells (x.take k)) ∧ Below w.heap.size w wr) (fun _ i _ => x.length - (intOf i).toNat)
  case atStart => exact ⟨0, Nat.zero_le _, rfl, own_nil _ _ _ _, Below.refl _ _⟩
  case round =>
    obtain ⟨k, hka, rfl, hown, hbel⟩ := hrel
    have HO := Lib.hid hown
    have HB := Lib.hid hbel
    have hzz := hbel.size
    have hlt := List.length_take_le k x
    clear hown
    by_cases h1 : k < x.length
    · obtain ⟨b, o, rfl, hb, c1, c2, c3⟩ := slR_at HX.out h1
      have d1 := (hbel.cell (p := ⟨b, o + k * 3, none⟩) hb).trans c1
      have d2 := (hbel.cell (p := ⟨b, o + k * 3 + 1, none⟩) hb).trans c2
      have d3 := (hbel.cell (p := ⟨b, o + k * 3 + 2, none⟩) hb).trans c3
      have HT := Lib.hid (List.take_succ_eq_append_getElem h1)
      clear c1 c2 c3 hbel
      generalize x[k] = u at d1 d2 d3 HT
      go_wp2_with (at_builtin; refine app1W rfl (.tmp 12) (.tmp 14) rfl w.heap.size u3 (x.take k) rfl ((HO.out.alloc _).alloc _) (wr.heap.size + 1) u rfl (by go_simp) (by go_simp) (by go_simp) (by omega) (by simp; omega) ?_
                   intro v' w1 hown1 hg1
                   have HO1 := Lib.hid hown1
                   have HB1 := Lib.hid (Below.then HB.out (app_kept2 (B := w.heap.size) (fun g hg => own_base HO.out hg) (by omega) hg1) (Nat.le_refl _))
                   clear hown1 hg1 d1 d2 d3)
      go_roundw
      case rel => exact ⟨k + 1, by omega, by go_num, by rw [HT.out]; exact HO1.out, HB1.out⟩
      case measure => simp [intOf]; omega
    · have HT := Lib.hid (List.take_of_length_le (show x.length ≤ k by omega))
      rw [HT.out] at HO
      go_wp2
      go_ret
      exact ⟨_, rfl, HO.out, hbel⟩

end Go.Proofs.Ytiopkooigeaneaa

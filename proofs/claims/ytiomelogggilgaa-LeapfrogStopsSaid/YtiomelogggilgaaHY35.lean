/- Walk: LeapfrogJoins. -/
import Derived.Test.YtiomelogggilgaaQ12
import Derived.Test.YtiomelogggilgaaQ10
namespace Go.Proofs.Ytiomelogggilgaa
open Go.RowKit Go.Sort

theorem same_refl (XA YA : Option Addr) (XC YC : Nat) (J : List RL.R) (w : World) (hX : SlRs w.heap.size w XA J) (hY : SlRs w.heap.size w YA J) (hl : J.length ≤ 1000000) (ho : RsOk J) :
    Calls Try.prog 16 #[.slice XA J.length XC, .slice YA J.length YC] w fun e w' => e = .returned (.bool true) ∧ Below w.heap.size w w' :=
  (l35same_any XA YA XC YC J J w hX hY hl hl ho ho).mono fun e w' ⟨h, hb⟩ => ⟨by rw [h, decide_eq_true rfl], hb⟩
/-- The reference's join of small atoms without error. -/
theorem refS_any {m : Nat} {X : List RA} (hg : Good0 m X) (hm : m ≤ 8) (A : Option Addr) (C : Nat) (w : World) (hr : AtsR w.heap.size w A X) :
    Calls Try.prog 15 #[.int .i64 m, .slice none 0 0, .slice A X.length C] w fun e w' => ∃ B D, e = .returned (.slice B (joinF m (X.map RA.at)).length D) ∧ (joinF m (X.map RA.at)).length ≤ D ∧ D ≤ 9223372036854775807 ∧ SlRs w'.heap.size w' B (joinF m (X.map RA.at)) ∧ Below w.heap.size w w' :=
  (r35Join_any m C A X hm (Nat.le_trans hg.many (by omega)) (fun a ha => (hg.sm a ha).ref (hg.ok a ha)) hg.at (fun v => Nat.le_trans (valsF_four hg.sm hg.ok v) (by omega)) m [] none 0 w (by simp) ⟨by simp, fun v hv => by simp at hv⟩ hr SlR.nil (Nat.le_refl _) (by omega)).mono fun e w' h => by
    unfold RJPost at h
    rw [hg.refJ] at h
    obtain ⟨⟨B, D, he, h1, h2, h3⟩, hb⟩ := h
    exact ⟨B, D, he, h1, h2, h3.sl, hb⟩

set_option maxHeartbeats 4000000 in
set_option maxRecDepth 100000 in
theorem l35Joins_any (a0 : Nat) (h0 : a0 < 256) (A : Option Addr) (C : Nat) (l : List LA) (w : World) (hA : AtsL w.heap.size w A l) (hB : LBytes l) (hl : l.length ≤ 3518437208780) :
    Calls Try.prog 8 #[.int .u8 a0, .slice A l.length C] w fun e w' => e = .returned (.bool true) ∧ Below w.heap.size w w' := by
  have HMK := Lib.hid (l35Made2 A C l w hA hB hl)
  clear hA hB hl
  obtain ⟨m, hm⟩ : ∃ m : Nat, (a0 : Int) % 9 = (m : Int) := ⟨a0 % 9, by omega⟩
  have hm8 : m ≤ 8 := by omega
  have HM := Lib.hid hm
  clear hm
  go_enter Try.func8, Try.ntmps8
  go_wp2_with fail
  refine HMK.out.mono ?_
  rintro e w1 ⟨hb1, rfl | ⟨X, A1, A2, A3, C1, C2, C3, rfl, hX, hc1, hd1, ha, hr, hz⟩⟩
  · clear HMK
    go_wp2_with fail
    refine (l35awake_any _).mono ?_
    rintro e w2 ⟨rfl, hb2⟩
    have hbw := Below.then hb1 hb2 hb1.size
    clear hb1 hb2
    go_wp2
    go_ret
    exact ⟨rfl, hbw⟩
  have HB1 := Lib.hid hb1
  by_cases h6 : X.length ≤ 6
  rotate_left
  · rw [decide_eq_false h6]
    clear HMK hX hc1 hd1 ha hr hz hb1
    go_wp2_with fail
    refine (l35awake_any _).mono ?_
    rintro e w2 ⟨rfl, hb2⟩
    have hbw := Below.then HB1.out hb2 HB1.out.size
    clear hb2
    go_wp2
    go_ret
    exact ⟨rfl, hbw⟩
  rw [decide_eq_true h6]
  have HA := Lib.hid ha
  have HR := Lib.hid hr
  have HX := Lib.hid hX
  have HW := Lib.hid (r35Wrong_any m A2 A3 C2 C3 X w1 hr hz (by omega) (vls hX))
  clear HMK hX hc1 hd1 ha hr hz hb1
  go_wp2_with fail
  rw [HM.out]
  refine HW.out.mono ?_
  rintro e w2 ⟨rfl, hb2⟩
  have HB2 := Lib.hid (Below.then HB1.out hb2 HB1.out.size)
  have HA2 := Lib.hid (HA.out.upB hb2)
  have HR2 := Lib.hid (HR.out.upB hb2)
  have HFIN := Lib.hid (fun W (hb : Below w2.heap.size w2 W) => (l35awake_any W).mono fun e W' h => (⟨h.1, Below.then HB2.out (Below.then hb h.2 hb.size) HB2.out.size⟩ : e = .returned (.bool true) ∧ Below w.heap.size w W'))
  clear HW hb2 HA HR
  by_cases he : errA m X = 0
  rotate_left
  · have hnb : (errA m X != 0) = true := by simpa using he
    clear he
    go_wp2_with fail
    refine (HFIN.out w2 (Below.refl _ _)).mono ?_
    rintro e w3 ⟨rfl, hb3⟩
    go_wp2
    go_ret
    exact ⟨rfl, hb3⟩
  obtain ⟨m', hm', hg⟩ := Good0.of HX.out he
  obtain rfl : m = m' := by omega
  have HJ := Lib.hid (joinS_any m A1 C1 X w2 HA2.out (by omega) HX.out (fun _ => by omega))
  have HC := Lib.hid (fun W (hb : Below w2.heap.size w2 W) => countS_any m A1 C1 X W (HA2.out.upB hb) (by omega) HX.out (fun _ => by omega))
  have HRJ := Lib.hid (fun W (hb : Below w2.heap.size w2 W) => refS_any hg hm8 A2 C2 W (HR2.out.upB hb))
  have HE := Lib.hid he
  have hJl := Nat.le_trans hg.len (pow4 hm8)
  have HRS := Lib.hid hg.rsOk
  rw [he]
  unfold JoinPost at HJ
  unfold CountPost at HC
  rw [Int.toNat_natCast] at HJ HC
  generalize joinF m (X.map RA.at) = J at *
  clear he hg hm'
  go_wp2_with fail
  refine HJ.out.mono ?_
  rintro e w3 ⟨-, hb3, h3⟩
  obtain ⟨A', C', st, rfl, hst1, hst2, -, -, hs3⟩ := h3 HE.out
  have HB3 := Lib.hid hb3
  have HS3 := Lib.hid hs3
  clear h3 hb3 hs3 HJ
  go_wp2_with fail
  refine (HC.out w3 HB3.out).mono ?_
  rintro e w4 ⟨-, hb4, h4⟩
  obtain ⟨B', st', rfl, hn4, hst'⟩ := h4 HE.out
  have HB4 := Lib.hid (Below.then HB3.out hb4 HB3.out.size)
  have HS4 := Lib.hid (HS3.out.upB hb4)
  have HN4 := Lib.hid (NatM.of hn4)
  generalize hT : trimN [J.length, 0] = T at HN4 ⊢
  clear h4 hb4 hn4 hT HC HS3
  go_wp2_with fail
  refine (HRJ.out w4 HB4.out).mono ?_
  rintro e w5 ⟨B5, D5, rfl, -, -, hs5, hb5⟩
  have HB5 := Lib.hid (Below.then HB4.out hb5 HB4.out.size)
  have HN5 := Lib.hid (HN4.out.up hb5)
  have HSM := Lib.hid (same_refl A' B5 C' D5 J w5 (HS4.out.upB hb5) hs5 (by omega) HRS.out)
  clear hb5 hs5 HN4 HRJ HS4
  go_wp2_with fail
  refine HSM.out.mono ?_
  rintro e w6 ⟨rfl, hb6⟩
  have HB6 := Lib.hid (Below.then HB5.out hb6 HB5.out.size)
  have HN6 := Lib.hid (HN5.out.up hb6)
  have hwL : IntKind.u64.wrap (J.length : Int) = (J.length : Int) := IntWalk.u64_in _ (by omega)
  clear hb6 HN5 HSM
  go_wp2_with fail
  refine (natOf_any J.length (by omega) w6).mono ?_
  rintro e w7 ⟨B7, rfl, hn7, hx7⟩
  have HB7 := Lib.hid (Below.then HB6.out hx7.below HB6.out.size)
  have HCM := Lib.hid (natCmp_any _ _ J.length J.length w7 (HN6.out.up hx7.below) (NatM.of hn7))
  generalize trimN [J.length, 0] = T7 at HCM ⊢
  clear hx7 hn7 HN6 hwL
  go_wp2_with fail
  refine HCM.out.mono ?_
  rintro e w8 ⟨z, rfl, hz, hx8⟩
  obtain rfl := hz.2 trivial
  have HB8 := Lib.hid (Below.then HB7.out hx8.below HB7.out.size)
  have hq1 : decide ((J.length : Int) ≤ (st : Int)) = true := decide_eq_true (by omega)
  have hq2 : decide ((0 : Int) ≤ (st' : Int)) = true := decide_eq_true (by omega)
  clear hz hx8 HCM
  go_wp2_with fail
  refine (HFIN.out w8 HB8.out).mono ?_
  rintro e w9 ⟨rfl, hb9⟩
  go_wp2
  go_ret
  exact ⟨rfl, hb9⟩

end Go.Proofs.Ytiomelogggilgaa

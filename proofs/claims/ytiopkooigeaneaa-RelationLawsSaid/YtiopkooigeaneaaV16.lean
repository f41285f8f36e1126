/- Walk: the laws' own awake (the chapter's example). -/
import Derived.Test.YtiopkooigeaneaaV15
namespace Go.Proofs.Ytiopkooigeaneaa
open Go.RowKit Go.Sort

/-- A row of integers. -/
def intR (zs : List Int) : RL.R := zs.map fun z => ⟨1, z, ⟨#[]⟩⟩

set_option maxHeartbeats 1000000 in
set_option maxRecDepth 100000 in
theorem l7awake1_any (A : Option Addr) (C : Nat) (zs : List Int) (w : World) (hz : SlI .i64 w.heap.size w A zs) (hl : zs.length ≤ 1000) :
    Calls Try.prog 52 #[.slice A zs.length C] w fun e w' => ∃ v, e = .returned v ∧ w'.ownsRow w.heap.size 60 3 v zs.length (rcells (intR zs)) ∧ Below w.heap.size w w' := by
  have HZ := Lib.hid hz
  clear hz
  go_enter Try.func52, Try.ntmps52
  go_wp2
  go_loopw [3, 8] (fun v i wr => ∃ k : Nat, k ≤ zs.length ∧ i = .int .i64 k ∧ wr.ownsRow w.heap.size 60 3 v (intR (zs.take k)).length (rcells (intR (zs.take k))) ∧ Below w.heap.size w wr) (fun _ i _ => zs.length - (intOf i).toNat)
  case atStart => exact ⟨0, Nat.zero_le _, rfl, own_nil _ _ _ _, Below.refl _ _⟩
  case round =>
    obtain ⟨k, hka, rfl, hown, hbel⟩ := hrel
    have HO := Lib.hid hown
    have HB := Lib.hid hbel
    have hzz := hbel.size
    have hlt : (intR (zs.take k)).length ≤ k := by simp [intR]; omega
    clear hown
    by_cases h1 : k < zs.length
    · obtain ⟨b, o, rfl, hb, c1⟩ := slI_at HZ.out h1
      have d1 := (hbel.cell (p := ⟨b, o + k, none⟩) hb).trans c1
      have HT : Hid (intR (zs.take (k + 1)) = intR (zs.take k) ++ [⟨1, zs[k], ⟨#[]⟩⟩]) := by
        show _ = _
        unfold intR
        rw [List.take_succ_eq_append_getElem h1, List.map_append]; rfl
      clear c1 hbel
      generalize zs[k] = z at d1 HT
      go_wp2_with (at_builtin; refine app1V rfl (.tmp 12) (.tmp 15) rfl w.heap.size u3 (intR (zs.take k)) rfl (HO.out.alloc _) wr.heap.size ⟨1, z, ⟨#[]⟩⟩ rfl (by go_simp) (by go_simp) (by go_simp) (by omega) (by simp; omega) ?_
                   intro v' w1 hown1 hg1
                   have HO1 := Lib.hid hown1
                   have HB1 := Lib.hid (Below.then HB.out (app_kept (B := w.heap.size) (fun g hg => own_base HO.out hg) (by omega) hg1) (Nat.le_refl _))
                   clear hown1 hg1 d1)
      go_roundw
      case rel => exact ⟨k + 1, by omega, by go_num, by rw [HT.out]; exact HO1.out, HB1.out⟩
      case measure => simp [intOf]; omega
    · have HT := Lib.hid (List.take_of_length_le (show zs.length ≤ k by omega))
      rw [HT.out] at HO
      go_wp2
      go_ret
      exact ⟨_, rfl, by have h := HO.out; simp only [intR, List.length_map] at h; exact h, hbel⟩

def exX : List RL.R := [intR [2, 1], intR [1, 3], intR [1, 2]]
def exY : List RL.R := [intR [1, 2], intR [1, 3], intR [2, 1]]
theorem ex_err : errF 2 exX = 0 := by decide +kernel
theorem ex_of : RL.ofF exX = exY := by decide +kernel
theorem ex_rank : RL.rank exY (intR [1]) = 0 := by decide +kernel
theorem ex_many : RL.manyB exY (intR [1]) = 2 := by decide +kernel
theorem ex_rank2 : RL.rank exY (intR [1, 9]) = 2 := by decide +kernel
theorem ex_mem : decide (intR [1, 9] ∈ exY) = false := by decide +kernel
theorem ex_cols : colsOk 2 [0] = true := by decide +kernel
theorem ex_proj : (RL.ofF (exY.map (projF · [0]))).length = 2 := by decide +kernel
theorem ROk_int (zs : List Int) (h : zs.length ≤ 1000) : ROk (intR zs) := ⟨by simp [intR]; omega, fun v hv => by
  simp [intR] at hv
  obtain ⟨z, _, rfl⟩ := hv
  show (0 : Nat) ≤ _
  omega⟩
theorem exX_ok : RsOk exX := fun x hx => by
  simp [exX] at hx
  rcases hx with rfl | rfl | rfl <;> exact ROk_int _ (by simp)
theorem exY_ok : RsOk exY := fun x hx => by
  simp [exY] at hx
  rcases hx with rfl | rfl | rfl <;> exact ROk_int _ (by simp)
theorem exY_len : ∀ x ∈ exY, (x.length : Int) = 2 := fun x hx => by
  simp [exY] at hx
  rcases hx with rfl | rfl | rfl <;> rfl
theorem exY_ss : RL.SS exY := by rw [← ex_of]; exact RL.SS.of _

/-- The closure at literal integers in a new block. -/
theorem awake1_lit (zs : List Int) (w : World) (hl : zs.length ≤ 1000) (g : Nat) (hr : Row w g 2 (zs.map (Value.int .i64))) (n : Nat) (hn : n = zs.length) :
    Calls Try.prog 52 #[.slice (some ⟨g, 0, none⟩) n n] w fun e w' => ∃ A C, e = .returned (.slice A n C) ∧ n ≤ C ∧ C ≤ 9223372036854775807 ∧ SlR w'.heap.size w' A (intR zs) ∧ Below w.heap.size w w' := by
  subst hn
  refine Calls.mono (l7awake1_any (some ⟨g, 0, none⟩) zs.length zs w hr.sl hl) fun e w' ⟨v, h1, h2, h3⟩ => ?_
  have h2' : w'.ownsRow w.heap.size 60 3 v zs.length (rcells (intR zs)) := h2
  obtain ⟨h4, A, C, h5, h6, h7, h8, _⟩ := SlR.of_own h2'
  rw [← h4] at h5 h6
  exact ⟨A, C, by rw [h1, h5], h6, h7, h8, h3⟩

set_option maxHeartbeats 2000000 in
set_option maxRecDepth 100000 in
theorem l7awake_any (w : World) : Calls Try.prog 14 #[] w fun e w' => e = .returned (.bool true) ∧ Below w.heap.size w w' := by
  have eg : ∀ args w, (callFunc 52 args).run Try.prog w = .ok (.enter 52 args) w := enters_of Try.func52 (by kernel_rfl) rfl
  go_enter Try.func14, Try.ntmps14
  go_wp2_with fail
  refine (awake1_lit [2, 1] _ (by simp) _ (Row.new w 2 [.int .i64 2, .int .i64 1]) 2 rfl).mono ?_
  rintro e w1 ⟨A1, C1, rfl, hc1, hm1, hs1, hb1⟩
  have HB1 := Lib.hid (Below.box hb1 (by simp))
  have HS1 := Lib.hid (hs1.alloc1 (.cells #[.int .i64 1, .int .i64 3] 2))
  clear hb1 hs1
  go_wp2_with fail
  refine (awake1_lit [1, 3] _ (by simp) _ (Row.new w1 2 [.int .i64 1, .int .i64 3]) 2 rfl).mono ?_
  rintro e w2 ⟨A2, C2, rfl, hc2, hm2, hs2, hb2⟩
  have HB2 := Lib.hid (Below.then HB1.out (Below.box hb2 (by simp)) HB1.out.size)
  have HS1b := Lib.hid ((HS1.out.upB hb2).alloc1 (.cells #[.int .i64 1, .int .i64 2] 2))
  have HS2 := Lib.hid (hs2.alloc1 (.cells #[.int .i64 1, .int .i64 2] 2))
  clear hb2 hs2 HS1 HB1
  go_wp2_with fail
  refine (awake1_lit [1, 2] _ (by simp) _ (Row.new w2 2 [.int .i64 1, .int .i64 2]) 2 rfl).mono ?_
  rintro e w3 ⟨A3, C3, rfl, hc3, hm3, hs3, hb3⟩
  have HB3 := Lib.hid (Below.then HB2.out (Below.box hb3 (by simp)) HB2.out.size)
  have h1 := (HS1b.out.upB hb3).alloc1 (.cells #[.slice A1 2 C1, .slice A2 2 C2, .slice A3 2 C3] 24)
  have h2 := (HS2.out.upB hb3).alloc1 (.cells #[.slice A1 2 C1, .slice A2 2 C2, .slice A3 2 C3] 24)
  have h3 := hs3.alloc1 (.cells #[.slice A1 2 C1, .slice A2 2 C2, .slice A3 2 C3] 24)
  have hrow := Row.new w3 24 [.slice A1 2 C1, .slice A2 2 C2, .slice A3 2 C3]
  have HX : Hid (SlRs (w3.alloc (.cells #[.slice A1 2 C1, .slice A2 2 C2, .slice A3 2 C3] 24)).heap.size (w3.alloc (.cells #[.slice A1 2 C1, .slice A2 2 C2, .slice A3 2 C3] 24)) (some ⟨w3.heap.size, 0, none⟩) exX) := fun _ => ⟨w3.heap.size, 0, rfl, by simp, fun i hi => by
    match i, hi with
    | 0, _ => exact ⟨A1, C1, hrow.cell 0, hc1, hm1, h1⟩
    | 1, _ => exact ⟨A2, C2, hrow.cell 1, hc2, hm2, h2⟩
    | 2, _ => exact ⟨A3, C3, hrow.cell 2, hc3, hm3, h3⟩⟩
  have HB4 := Lib.hid (HB3.out.alloc HB3.out.size (.cells #[.slice A1 2 C1, .slice A2 2 C2, .slice A3 2 C3] 24))
  have HOF := Lib.hid (rlOf_any 2 (some ⟨w3.heap.size, 0, none⟩) 3 exX _ (by omega) (by omega) HX.out exX_ok (by simp [exX]))
  clear h1 h2 h3 hrow hb3 hs3 HS1b HS2 HB2
  go_wp2_with fail
  refine HOF.out.mono ?_
  rintro e w5 ⟨hok5, -, hb5⟩
  obtain ⟨rv, rfl, RA, RC, rfl, hrc1, hrc2, hrs⟩ := hok5 ex_err
  have HB5 := Lib.hid (Below.then HB4.out hb5 HB4.out.size)
  have hrs5 := hrs.sl
  rw [ex_of] at hrs5 hrc1
  have e3 : (RL.ofF exX).length = 3 := by rw [ex_of]; rfl
  rw [e3]
  have HRS := Lib.hid (hrs5.alloc1 (.cells #[.int .i64 2, .slice RA 3 RC] 29))
  have HB6 := Lib.hid (HB5.out.alloc HB5.out.size (.cells #[.int .i64 2, .slice RA 3 RC] 29))
  have HRB := Lib.hid (Row.new w5 29 [.int .i64 2, .slice RA 3 RC])
  clear hok5 hb5 hrs hrs5 e3 HOF HB5 HX HB4 HB3
  go_wp2
  have hzr := HRB.out.lt
  generalize hrb : w5.heap.size = rb at *
  generalize w5.alloc (.cells #[.int .i64 2, .slice RA 3 RC] 29) = W6 at *
  have r0 : W6.cell? ⟨rb, 0, none⟩ = some (.int .i64 2) := HRB.out.cell 0
  have r1 : W6.cell? ⟨rb, 1, none⟩ = some (.slice RA 3 RC) := HRB.out.cell 1
  clear hrb
  go_region_held3 (fun w' => w'.cell? ⟨rb, 0, none⟩ = some (.int .i64 2) ∧ w'.cell? ⟨rb, 1, none⟩ = some (.slice RA 3 RC)) (first | exact KEEP2 | exact KEEP1 | go_keep)
    (first
      | (go_at_call 52; refine (awake1_lit [1] _ (by simp) W6.heap.size (Row.new W6 2 [.int .i64 1]).drew 1 rfl).mono ?_; rintro e w7 ⟨A7, C7, rfl, hc7, hm7, hs7, hb7⟩
         have HB7 := Lib.hid (Below.box (Below.undrew hb7) (show W6.heap.size ≤ (W6.alloc (.cells #[.int .i64 1] 2)).heap.size by simp))
         have HS7 := Lib.hid hs7
         have KEEP1 : w7.cell? ⟨rb, 0, none⟩ = some (.int .i64 2) ∧ w7.cell? ⟨rb, 1, none⟩ = some (.slice RA 3 RC) := ⟨(HB7.out.cell (p := ⟨rb, 0, none⟩) hzr).trans r0, (HB7.out.cell (p := ⟨rb, 1, none⟩) hzr).trans r1⟩
         clear hb7 hs7)
      | (go_at_call 17; refine (rlRange_any 2 RA A7 RC C7 exY (intR [1]) w7 (HRS.out.upB HB7.out) HS7.out (by simp [exY]) exY_ok (by simp [intR]) exY_ss hrc1 hrc2).mono ?_; rw [ex_rank, ex_many]; rintro e w8 ⟨rfl, hx8⟩
         have HB8 := Lib.hid (Below.then HB7.out hx8.below HB7.out.size)
         have KEEP2 : w8.cell? ⟨rb, 0, none⟩ = some (.int .i64 2) ∧ w8.cell? ⟨rb, 1, none⟩ = some (.slice RA 3 RC) := ⟨(HB8.out.cell (p := ⟨rb, 0, none⟩) hzr).trans r0, (HB8.out.cell (p := ⟨rb, 1, none⟩) hzr).trans r1⟩
         clear hx8)
      | fail)
  have HB8W := Lib.hid (Below.then HB6.out HB8.out HB6.out.size)
  have HRS8 := Lib.hid (HRS.out.upB HB8.out)
  have hzr8 : rb < w8.heap.size := Nat.lt_of_lt_of_le hzr HB8.out.size
  obtain ⟨k0, k1⟩ := KEEP2
  clear HB7 HS7 KEEP1 r0 r1 HB8 HRS HRB
  go_wp2
  go_region_held3 (fun w' => w'.cell? ⟨rb, 0, none⟩ = some (.int .i64 2) ∧ w'.cell? ⟨rb, 1, none⟩ = some (.slice RA 3 RC)) (first | exact KEEP2 | exact KEEP1 | go_keep)
    (first
      | (go_at_call 52; refine (awake1_lit [1, 9] _ (by simp) w8.heap.size (Row.new w8 2 [.int .i64 1, .int .i64 9]).drew 2 rfl).mono ?_; rintro e w9 ⟨A9, C9, rfl, hc9, hm9, hs9, hb9⟩
         have HB9 := Lib.hid (Below.box (Below.undrew hb9) (show w8.heap.size ≤ (w8.alloc (.cells #[.int .i64 1, .int .i64 9] 2)).heap.size by simp))
         have HS9 := Lib.hid hs9
         have KEEP1 : w9.cell? ⟨rb, 0, none⟩ = some (.int .i64 2) ∧ w9.cell? ⟨rb, 1, none⟩ = some (.slice RA 3 RC) := ⟨(HB9.out.cell (p := ⟨rb, 0, none⟩) hzr8).trans k0, (HB9.out.cell (p := ⟨rb, 1, none⟩) hzr8).trans k1⟩
         clear hb9 hs9)
      | (go_at_call 16; refine (rlSearch_any 2 RA A9 RC C9 exY (intR [1, 9]) w9 (HRS8.out.upB HB9.out) HS9.out (by simp [exY]) exY_ok (by simp [intR]) exY_ss).mono ?_; rw [ex_rank2, ex_mem]; rintro e w10 ⟨rfl, hx10⟩
         have HB10 := Lib.hid (Below.then HB9.out hx10.below HB9.out.size)
         have KEEP2 : w10.cell? ⟨rb, 0, none⟩ = some (.int .i64 2) ∧ w10.cell? ⟨rb, 1, none⟩ = some (.slice RA 3 RC) := ⟨(HB10.out.cell (p := ⟨rb, 0, none⟩) hzr8).trans k0, (HB10.out.cell (p := ⟨rb, 1, none⟩) hzr8).trans k1⟩
         clear hx10)
      | fail)
  obtain ⟨m0, m1⟩ := KEEP2
  have HB10W := Lib.hid (Below.then HB8W.out HB10.out HB8W.out.size)
  have HRS10 := Lib.hid ((HRS8.out.upB HB10.out).alloc1 (.cells #[.int .i64 0] 3))
  have hzr10 : rb < w10.heap.size := Nat.lt_of_lt_of_le hzr8 HB10.out.size
  clear HB9 HS9 KEEP1 k0 k1 HB10 HRS8
  have HPR := Lib.hid (rlProject_any 2 RA (some ⟨w10.heap.size, 0, none⟩) RC 1 exY [0] (w10.alloc (.cells #[.int .i64 0] 3)) HRS10.out (Row.new w10 3 [.int .i64 0]).sl exY_ok (by simp [exY]) (by simp) exY_len)
  go_wp2_with fail
  refine HPR.out.mono ?_
  rintro e w11 ⟨-, hok11, hb11⟩
  obtain ⟨pv, rfl, PA, PC, rfl, -, -, -⟩ := hok11 ex_cols
  rw [ex_proj]
  have HB11 := Lib.hid (Below.then HB10W.out (Below.box hb11 (by simp)) HB10W.out.size)
  clear hb11 hok11 HPR
  go_wp2_with fail
  refine (rlLen_any _ PA 2 PC _).mono ?_
  rintro e w12 ⟨rfl, hx12⟩
  have HB12 := Lib.hid (Below.then (HB11.out.alloc HB11.out.size _) hx12.below (by have := HB11.out.size; simp; omega))
  clear hx12
  go_wp2
  go_ret
  exact ⟨rfl, HB12.out⟩

end Go.Proofs.Ytiopkooigeaneaa

/- Walks: relation's member and its function. -/
import Derived.Test.YtiomelogggilgaaHV25
import Derived.Test.YtiomelogggilgaaQ3
namespace Go.Proofs.Ytiomelogggilgaa
open Go.RowKit Go.Sort

theorem slTail1 (A : Option Addr) (m cap : Nat) (W : World) : (Instr.slice 32 (.slice A (m + 1) cap) (some (.int .i64 1)) none none).run Try.prog W = .ok (.slice (tailA A 1 cap) m (cap - 1)) W := slTail A (m + 1) cap 1 (by omega) W

/-- How many elements the slice in the box has. -/
def boxLen (g : Nat) (w : World) : Nat := match w.cell? ⟨g, 0, none⟩ with | some v => lenOf v | none => 0
theorem boxLen_row {w : World} {g : Nat} {e : TypeId} {A : Option Addr} {n C : Nat} (h : Row w g e [.slice A n C]) : boxLen g w = n := by
  unfold boxLen
  rw [h.cell 0]
  rfl

/-- The function of member: its box holds what is left of Y behind the rows that are less than x. -/
def MemR (cb g2 : Nat) (wt : Bool) (P : Nat → Prop) (B : Nat) (Y : List RL.R) (x : RL.R) (W : World) : Prop :=
  ∃ A C j, Row W cb 32 [.slice A (Y.drop j).length C] ∧ (Y.drop j).length ≤ C ∧ C ≤ 9223372036854775807 ∧ SlRsP P B W A (Y.drop j) ∧ j ≤ Y.length ∧ Row W g2 4 [.bool wt] ∧ ∀ y ∈ Y.take j, RL.cmpR y x < 0


set_option maxHeartbeats 2000000 in
set_option maxRecDepth 100000 in
theorem rlMember1_any (cb g2 : Nat) (wt : Bool) (P : Nat → Prop) (B : Nat) (Y : List RL.R) (x : RL.R) (A' : Option Addr) (C' : Nat) (W : World)
    (hI : MemR cb g2 wt P B Y x W) (hPc : ∀ b, P b → b ≠ cb) (hB : B ≤ W.heap.size) (hx : HR P B W (.slice A' x.length C') x) (hxl : x.length ≤ 1000000) (hYo : RsOk Y) (hYl : Y.length ≤ 1000000) (hS : RL.SS Y) (hg : g2 ≠ cb) :
    Calls Try.prog 69 #[.slice A' x.length C', .pointer (some ⟨cb, 0, none⟩), .pointer (some ⟨g2, 0, none⟩)] W fun e W' => e = .returned (.bool (decide (x ∈ Y) == wt)) ∧ MemR cb g2 wt P B Y x W' ∧ W.grownBy W' (some cb) := by
  have HI := Lib.hid hI
  have HPC := Lib.hid hPc
  have HX := Lib.hid hx
  have HYO := Lib.hid hYo
  have HS := Lib.hid hS
  clear hI hPc hx hYo hS
  go_enter Try.func69, Try.ntmps69
  go_wp2
  go_loopw [6] (fun _ wr => MemR cb g2 wt P B Y x wr ∧ HR P B wr (.slice A' x.length C') x ∧ W.grownBy wr (some cb)) (fun _ wr => boxLen cb wr)
  case atStart => exact ⟨HI.out, HX.out, ⟨rfl, rfl, rfl, Nat.le_refl _, fun _ _ _ => rfl⟩⟩
  case round =>
    obtain ⟨⟨A, C, j, hrow, hc1, hc2, hs, hj, hrw, hlt⟩, hx, hgr⟩ := hrel
    have HROW := Lib.hid hrow
    have HRW := Lib.hid hrw
    have HSL := Lib.hid hs
    have HLT := Lib.hid hlt
    have HXR := Lib.hid hx
    have HGR := Lib.hid hgr
    have hzz := hgr.size
    have hz1 := hrow.lt
    have hz2 := hrw.lt
    clear HI HX
    by_cases h1 : j < Y.length
    rotate_left
    · have hd0 : Y.drop j = [] := List.drop_of_length_le (by omega)
      have HD := Lib.hid (RL.mem_drop_none hlt (show Y.length ≤ j by omega))
      have r0 : wr.cell? ⟨cb, 0, none⟩ = some (.slice A 0 C) := by rw [hrow.cell 0, hd0]; rfl
      have r1 : wr.cell? ⟨g2, 0, none⟩ = some (.bool wt) := hrw.cell 0
      have HM : Hid (MemR cb g2 wt P B Y x wr) := ⟨A, C, j, hrow, hc1, hc2, hs, hj, hrw, hlt⟩
      clear hd0 hrow hs hrw hlt hx hgr hc1
      go_wp2
      go_ret
      exact ⟨by rw [HD.out]; cases wt <;> rfl, HM.out, HGR.out⟩
    · obtain ⟨m, hm⟩ : ∃ m, (Y.drop j).length = m + 1 := ⟨(Y.drop j).length - 1, by simp; omega⟩
      have hml : m ≤ 1000000 := by simp at hm; omega
      have hmc : m + 1 ≤ C := by omega
      obtain ⟨b, o, A1, C1, rfl, hb, hbP, hcell, hhr⟩ := hs.at_ (i := 0) (by omega)
      have hbc := HPC.out b hbP
      have e0 : (Y.drop j)[0]'(by omega) = Y[j] := by simp
      rw [e0] at hcell hhr
      have r0 : wr.cell? ⟨cb, 0, none⟩ = some (.slice (some ⟨b, o, none⟩) (m + 1) C) := by rw [hrow.cell 0, hm]; rfl
      have f0 := hrow.frozen 0
      have r1 : wr.cell? ⟨g2, 0, none⟩ = some (.bool wt) := hrw.cell 0
      have hc0 : wr.cell? ⟨b, o, none⟩ = some (.slice A1 Y[j].length C1) := hcell
      have HHR := Lib.hid hhr
      have hyl := (HYO.out.at_ h1).1
      have HC := Lib.hid (rwCompare_any A1 A' C1 C' Y[j] x wr (hhr.sl.more (by omega)) (hx.sl.more (by omega)) hyl hxl)
      have HE := Lib.hid (fun (w1 : World) (h : Ext wr w1) => rwEqual_any A1 A' C1 C' Y[j] x w1 ((hhr.sl.more (show B ≤ wr.heap.size by omega)).up h) ((hx.sl.more (show B ≤ wr.heap.size by omega)).up h) hyl hxl)
      have HY1 := Lib.hid (fun h => RL.mem_drop_head HS.out hlt h1 h)
      have HY2 := Lib.hid (fun h => RL.take_snoc_lt hlt h1 h)
      have hst := slTail1 (some ⟨b, o, none⟩) m C
      have HT : Hid (SlRsP P B wr (tailA (some ⟨b, o, none⟩) 1 C) (Y.drop (j + 1))) := by have h := hs.tail (cap := C) (by omega) 1; rw [List.drop_drop] at h; exact h
      have hd1 : (Y.drop (j + 1)).length = m := by simp at hm ⊢; omega
      have HD1 := Lib.hid hd1
      have HM1 := Lib.hid hm
      obtain ⟨TA, hTA⟩ : ∃ TA, TA = tailA (some ⟨b, o, none⟩) 1 C := ⟨_, rfl⟩
      rw [← hTA] at hst HT
      clear hrow hs hrw hlt hx hgr hcell hhr hd1 hm hTA e0
      generalize Y[j] = y at *
      go_wp2_with fail
      refine HC.out.mono ?_
      rintro e w1 ⟨rfl, hx1⟩
      have hz3 := hx1.size
      have hrow1 := HROW.out.up hx1.below
      rw [HM1.out] at hrow1
      have r01 : w1.cell? ⟨cb, 0, none⟩ = some (.slice (some ⟨b, o, none⟩) (m + 1) C) := hrow1.cell 0
      have f01 := hrow1.frozen 0
      have hc01 : w1.cell? ⟨b, o, none⟩ = some (.slice A1 y.length C1) := (hx1.cell (show b < wr.heap.size by omega)).trans hc0
      have r11 : w1.cell? ⟨g2, 0, none⟩ = some (.bool wt) := (HRW.out.up hx1.below).cell 0
      have HROW1 := Lib.hid hrow1
      have HX1 := Lib.hid hx1
      clear hx1 hrow1 HC r0 f0 r1 hc0
      by_cases hq : RL.cmpR y x < 0
      · have hqd : decide (RL.cmpR y x < 0) = true := by simpa using hq
        have HLT2 := Lib.hid (HY2.out hq)
        have hbl := Lib.hid (boxLen_row HROW1.out)
        clear hq HY1 HY2
        generalize RL.cmpR y x = qv at *
        go_wp2
        go_roundw
        case rel =>
          have hrow2 : Row (w1.setCell ⟨cb, 0, none⟩ (.slice TA m (C - 1))) cb 32 [.slice TA m (C - 1)] := HROW1.out.set 0 _
          have hk : ∀ p : Addr, p.block < B → P p.block → (w1.setCell ⟨cb, 0, none⟩ (.slice TA m (C - 1))).cell? p = wr.cell? p := fun p hp hP => far_cell (p := ⟨cb, 0, none⟩) (fun e => HPC.out _ hP e.symm) (HX1.out.below.cell (by omega))
          refine ⟨⟨TA, C - 1, j + 1, by rw [HD1.out]; exact hrow2, by rw [HD1.out]; omega, by omega, HT.out.keep hk, by omega, (HRW.out.up HX1.out.below).far (p := ⟨cb, 0, none⟩) hg _, HLT2.out⟩, HXR.out.keep hk, ?_⟩
          refine grown_trans HGR.out (grown_trans (HX1.out.grown _) ?_)
          exact ⟨rfl, rfl, rfl, by simp, fun b hb hne => Below.heap_setCell _ _ _ _ (fun e => hne (by rw [e]))⟩
        case measure =>
          rw [boxLen_row HROW.out, HM1.out, boxLen_row (HROW1.out.set 0 _)]
          omega
      · have hqd : decide (RL.cmpR y x < 0) = false := by simpa using hq
        have HDM := Lib.hid (HY1.out (by omega))
        clear hq HY1 HY2 HT hst
        generalize RL.cmpR y x = qv at *
        go_wp2_with fail
        refine (HE.out _ HX1.out).mono ?_
        rintro e w2 ⟨rfl, hx2⟩
        have r12 : w2.cell? ⟨g2, 0, none⟩ = some (.bool wt) := ((HRW.out.up HX1.out.below).up hx2.below).cell 0
        have HX2 := Lib.hid (HX1.out.trans hx2)
        clear hx2 HE
        obtain ⟨dq, hdq⟩ : ∃ dq, dq = decide (y = x) := ⟨_, rfl⟩
        rw [← hdq]
        have HDQ := Lib.hid hdq
        clear hdq
        go_wp2
        go_ret
        refine ⟨by rw [HDM.out, ← HDQ.out]; rfl, ⟨_, C, j, HROW.out.up HX2.out.below, by rw [HM1.out]; omega, hc2, HSL.out.below HX2.out.below (by omega), hj, HRW.out.up HX2.out.below, HLT.out⟩, grown_trans HGR.out (HX2.out.grown _)⟩

end Go.Proofs.Ytiomelogggilgaa

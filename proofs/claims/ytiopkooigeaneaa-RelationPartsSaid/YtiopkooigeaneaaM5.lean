/- Walk: the law RelationParts. -/
import Derived.Test.YtiopkooigeaneaaV21
import Derived.Test.YtiopkooigeaneaaRParts
import Derived.Test.YtiopkooigeaneaaM2
import Derived.Deep.CutRange
namespace Go.Proofs.Ytiopkooigeaneaa
open Go.RowKit Go.Sort

theorem validR_val {n : Int} {X : List RL.R} : ∀ x ∈ RL.ofF (validR n X), x.all RL.validV = true := fun x hx => by
  have h := (List.mem_filter.1 ((RL.mem_ofF _ _).1 hx)).2
  simp only [decide_eq_true_eq] at h
  unfold wrongF at h
  split at h
  · simp at h
  · split at h
    · assumption
    · simp at h
theorem validR_len2 {n : Int} {X : List RL.R} : ∀ x ∈ RL.ofF (validR n X), (x.length : Int) = n := fun x hx => by
  have h := (List.mem_filter.1 ((RL.mem_ofF _ _).1 hx)).2
  simp only [decide_eq_true_eq] at h
  unfold wrongF at h
  split at h
  · simp at h
  · rename_i h1; omega

theorem sel_parts {Y : List RL.R} (h : RL.SS Y) (h2 : Two Y) (v : RL.V) : selF Y 0 0 v = (Y.drop (RL.rank Y [v])).take (RL.manyB Y [v]) := by
  rw [← filter_range h]
  unfold selF
  apply List.filter_congr
  intro y hy
  rw [begins_one (h2 y hy)]
  rfl

theorem far2 {w : World} {p1 p2 q : Addr} {u1 u2 : Value} {v : Option Value} (h1 : p1.block ≠ q.block) (h2 : p2.block ≠ q.block) (h : w.cell? q = v) : ((w.setCell p1 u1).setCell p2 u2).cell? q = v := far_cell h2 (far_cell h1 h)

set_option maxHeartbeats 4000000 in
set_option maxRecDepth 100000 in
theorem parts_walk (A : Option Addr) (C : Nat) (X : List RL.R) (w : World) (hX : SlRs w.heap.size w A X) (hbX : BigRs X) :
    Calls Try.prog 7 #[.slice A X.length C] w fun e w' => e = .returned (.bool true) ∧ Below w.heap.size w w' := by
  have HX := Lib.hid hX
  have HG := Lib.hid (l7Great_any A C X w hX (by have := hbX.1; omega) hbX.2)
  clear hX hbX
  go_enter Try.func7, Try.ntmps7
  go_wp2_with fail
  refine HG.out.mono ?_
  rintro e w1 ⟨rfl, hx1⟩
  have HB1 := Lib.hid hx1.below
  clear hx1 HG
  cases hgr : greatF X
  rotate_left
  · clear hgr
    go_wp2_with fail
    refine (l7awake_any _).mono ?_
    rintro e w5 ⟨rfl, hb5⟩
    have HB5 := Lib.hid (Below.then HB1.out hb5 HB1.out.size)
    clear hb5
    go_wp2
    go_ret
    exact ⟨rfl, HB5.out⟩
  obtain ⟨g1, g2, -⟩ := greatF_false hgr
  have HOK := Lib.hid g2
  clear g2 hgr
  go_wp2_with fail
  refine (l7made_any 2 A C X w1 (by omega) (by omega) ((HX.out.below HB1.out (Nat.le_refl _)).more HB1.out.size) HOK.out (by omega)).mono ?_
  rintro e w2 ⟨rv, mv, rfl, ⟨RA, RC, rfl, hrc1, hrc2, hrs⟩, ⟨MA, MC, rfl, -, -, -⟩, hb2⟩
  have hyl := Nat.le_trans (RL.ofF_length_le (validR 2 X)) (validR_length _ X)
  have HYO : Hid (RsOk (RL.ofF (validR 2 X))) := HOK.out.of_mem (fun y hy => validR_sub _ X y ((RL.mem_ofF _ _).1 hy))
  have HLEN : Hid (∀ x ∈ RL.ofF (validR 2 X), (x.length : Int) = 2) := validR_len2
  have HVAL : Hid (∀ x ∈ RL.ofF (validR 2 X), x.all RL.validV = true) := validR_val
  have HSS := Lib.hid (RL.SS.of (validR 2 X))
  generalize RL.ofF (validR 2 X) = Y at *
  have HTWO : Hid (Two Y) := fun y hy => by have := HLEN.out y hy; omega
  have HB2 := Lib.hid ((Below.then (Below.then HB1.out hb2 HB1.out.size) ((Below.refl _ w2).alloc (Nat.le_refl _) (.cells #[.int .i64 2, .slice RA Y.length RC] 29)) (by have := hb2.size; have := HB1.out.size; omega)))
  have HRS := Lib.hid (hrs.alloc1 (.cells #[.int .i64 2, .slice RA Y.length RC] 29))
  have HRB := Lib.hid (Row.new w2 29 [.int .i64 2, .slice RA Y.length RC])
  clear hrs hb2 HB1
  go_wp2_with fail
  have hzr := HRB.out.lt
  have hW2s : (w2.alloc (.cells #[.int .i64 2, .slice RA Y.length RC] 29)).heap.size = w2.heap.size + 1 := by simp
  generalize hrb : w2.heap.size = rb at *
  generalize w2.alloc (.cells #[.int .i64 2, .slice RA Y.length RC] 29) = W2 at *
  clear hrb
  have HSL0 : Hid (SlI .i64 (W2.alloc (.cells #[.int .i64 0] 3)).heap.size (W2.alloc (.cells #[.int .i64 0] 3)) (some ⟨rb + 1, 0, none⟩) [0]) := by rw [← hW2s]; exact (Row.new W2 3 [.int .i64 0]).sl
  clear hW2s
  have HPR := Lib.hid (rlProject_any 2 RA (some ⟨rb + 1, 0, none⟩) RC 1 Y [0] (W2.alloc (.cells #[.int .i64 0] 3)) (HRS.out.alloc1 _) HSL0.out HYO.out (by omega) (by simp) HLEN.out)
  refine HPR.out.mono ?_
  rintro e w3 ⟨-, hok3, hb3⟩
  obtain ⟨pv, rfl, PA, PC, rfl, -, -, hps⟩ := hok3 ex_cols
  have HFE : Hid (RL.ofF (Y.map (projF · [0])) = firsts Y) := rfl
  rw [HFE.out] at hps
  rw [HFE.out]
  have hfl : (firsts Y).length ≤ Y.length := by have := RL.ofF_length_le (Y.map (projF · [0])); simpa [firsts] using this
  have HB3 := Lib.hid (Below.box hb3 (by simp))
  have hb3' := HB3.out.alloc HB3.out.size (.cells #[.int .i64 1, .slice PA (firsts Y).length PC] 29)
  have HPS := Lib.hid (hps.sl.alloc1 (.cells #[.int .i64 1, .slice PA (firsts Y).length PC] 29))
  have HPB := Lib.hid (Row.new w3 29 [.int .i64 1, .slice PA (firsts Y).length PC])
  have HFO : Hid (RsOk (firsts Y)) := (HYO.out.proj (n := 2) (cs := [0]) (by simp) HLEN.out ex_cols).of_mem (fun y hy => (RL.mem_ofF _ _).1 hy)
  have HRS3 := Lib.hid (HRS.out.upB hb3')
  have HRB3 := Lib.hid (HRB.out.below hb3' hzr)
  have HB4 := Lib.hid (Below.then HB2.out hb3' HB2.out.size)
  have hz3 : rb < w3.heap.size := by have := HB3.out.size; omega
  clear hok3 hb3 hb3' hps HPR HFE HB3 HRS HRB HB2
  go_wp2_with fail
  have hzp := HPB.out.lt
  generalize hpb : w3.heap.size = pb at *
  generalize w3.alloc (.cells #[.int .i64 1, .slice PA (firsts Y).length PC] 29) = W4 at *
  clear hpb
  have hzr4 := HRB3.out.lt
  refine (rlLen_any 1 PA (firsts Y).length PC W4).mono ?_
  rintro e w5 ⟨rfl, hx5⟩
  have HB5 := Lib.hid hx5.below
  clear hx5
  go_wp2
  go_loopw [8, 44] (fun a i wr => ∃ k : Nat, k ≤ (firsts Y).length ∧ a = .int .i64 (atF Y k) ∧ i = .int .i64 k ∧ Below W4.heap.size W4 wr) (fun _ i _ => (firsts Y).length - (intOf i).toNat)
  case atStart => exact ⟨0, Nat.zero_le _, by rw [atF_zero HTWO.out]; rfl, rfl, HB5.out⟩
  case round =>
    obtain ⟨k, hka, rfl, rfl, hbel⟩ := hrel
    have HB := Lib.hid hbel
    have hzz := hbel.size
    clear hbel HB5
    have r0 : wr.cell? ⟨rb, 0, none⟩ = some (.int .i64 2) := (HB.out.cell (p := ⟨rb, 0, none⟩) hzr4).trans (HRB3.out.cell 0)
    have r1 : wr.cell? ⟨rb, 1, none⟩ = some (.slice RA Y.length RC) := (HB.out.cell (p := ⟨rb, 1, none⟩) hzr4).trans (HRB3.out.cell 1)
    by_cases h1 : k < (firsts Y).length
    · have p0 : wr.cell? ⟨pb, 0, none⟩ = some (.int .i64 1) := (HB.out.cell (p := ⟨pb, 0, none⟩) hzp).trans (HPB.out.cell 0)
      have p1 : wr.cell? ⟨pb, 1, none⟩ = some (.slice PA (firsts Y).length PC) := (HB.out.cell (p := ⟨pb, 1, none⟩) hzp).trans (HPB.out.cell 1)
      obtain ⟨y, hy, hxe⟩ := firsts_at h1
      have HSTEP := Lib.hid (atF_step HSS.out HTWO.out h1)
      have hpos := many_pos HSS.out HTWO.out h1
      have HAT := Lib.hid (rlAt_ok 1 PA PC (firsts Y) k wr (HPS.out.upB HB.out) HFO.out (by omega) h1)
      have HATF : Hid (atF Y k = RL.rank Y (firsts Y)[k]) := by show _ = _; unfold atF; rw [dif_pos h1]
      have hbnd := RL.manyB_le Y (firsts Y)[k]
      rw [hxe] at HSTEP hpos HAT HATF hbnd
      have HVV : Hid (RL.validV (hd y) = true) := by
        show _ = _
        have hl := HLEN.out y hy
        have h0 : 0 < y.length := by omega
        have e : hd y = y[0] := by simp [hd, List.getD, h0]
        rw [e]
        exact List.all_eq_true.1 (HVAL.out y hy) _ (List.getElem_mem h0)
      have HVS : Hid ((hd y).str.size ≤ 1000000000) := by
        show _ ≤ _
        have hl := HLEN.out y hy
        have h0 : 0 < y.length := by omega
        have e : hd y = y[0] := by simp [hd, List.getD, h0]
        rw [e]
        exact (HYO.out y hy).2.at_ h0
      have HSEL := Lib.hid (sel_parts HSS.out HTWO.out (hd y))
      clear hxe hy
      generalize hd y = v at *
      rw [HATF.out]
      clear HATF
      simp only [List.length_cons, List.length_nil, Nat.zero_add] at HAT
      go_wp2_with fail
      refine HAT.out.mono ?_
      rintro e w6 ⟨v6, rfl, hown6, hb6⟩
      obtain ⟨-, A6, C6, e6, -, -, hs6, -⟩ := SlR.of_own (x := [v]) hown6
      subst e6
      have HS6 := Lib.hid hs6
      have hb6' := Below.then HB.out hb6 hzz
      have HB6 := Lib.hid hb6'
      have hz6 := hb6'.size
      have ROv : ROk [v] := ⟨by simp, fun u hu => by simp at hu; subst hu; exact HVS.out⟩
      have HRO := Lib.hid ROv
      clear hown6 hb6 hs6 HAT r0 r1 p0 p1 hb6' ROv
      simp only [List.length_cons, List.length_nil, Nat.zero_add]
      have r0 : w6.cell? ⟨rb, 0, none⟩ = some (.int .i64 2) := (HB6.out.cell (p := ⟨rb, 0, none⟩) hzr4).trans (HRB3.out.cell 0)
      have r1 : w6.cell? ⟨rb, 1, none⟩ = some (.slice RA Y.length RC) := (HB6.out.cell (p := ⟨rb, 1, none⟩) hzr4).trans (HRB3.out.cell 1)
      go_wp2_with fail
      refine (rlRange_any 2 RA A6 RC C6 Y [v] w6 (HRS3.out.upB HB6.out) HS6.out (by omega) HYO.out (by simp) HSS.out hrc1 hrc2).mono ?_
      rintro e w7 ⟨rfl, hx7⟩
      have HS7 := Lib.hid (HS6.out.up hx7)
      have hb7 := Below.then HB6.out hx7.below hz6
      have HB7 := Lib.hid hb7
      have hz7 := hb7.size
      clear hx7 r0 r1 HS6 hb7
      have r0 : w7.cell? ⟨rb, 0, none⟩ = some (.int .i64 2) := (HB7.out.cell (p := ⟨rb, 0, none⟩) hzr4).trans (HRB3.out.cell 0)
      have r1 : w7.cell? ⟨rb, 1, none⟩ = some (.slice RA Y.length RC) := (HB7.out.cell (p := ⟨rb, 1, none⟩) hzr4).trans (HRB3.out.cell 1)
      obtain ⟨b, o, rfl, hb, c1, c2, c3⟩ := slR_at (x := [v]) HS7.out (i := 0) (by simp)
      simp only [Nat.zero_mul, Nat.add_zero, List.getElem_cons_zero] at c1 c2 c3
      have HSE : Hid (selErr 2 0 0 v = 0) := by show _ = _; unfold selErr; rw [if_pos (by omega), if_neg (by omega), if_pos HVV.out]
      have HSC : Hid (∀ (P : Nat → Prop) (W : World), (∀ b, b < W4.heap.size → P b) → (∀ b, W.heap.size ≤ b → P b) → Below w7.heap.size w7 W → Calls Try.prog 33 #[.agg #[.int .i64 2, .slice RA Y.length RC], .int .i64 0, .int .i64 0, vv v] W fun e W' => ∃ SA SC, e = .returned (.tuple #[.agg #[.int .i64 2, .slice SA (RL.manyB Y [v]) SC], .int .i64 0]) ∧ SlRsP P W'.heap.size W' SA ((Y.drop (RL.rank Y [v])).take (RL.manyB Y [v])) ∧ Below W.heap.size W W') := fun P W hP hPn hW => by
        have hbW := Below.then HB7.out hW hz7
        refine (rlSelect_P P 2 RA RC Y 0 0 v W ((((HRS3.out.toP.keep (w' := W) (fun p hp _ => hbW.cell hp))).weak (fun b hb _ => hP b hb)).more hbW.size) hPn HYO.out (by omega) HLEN.out HVAL.out HVS.out).mono ?_
        rintro e W' ⟨rv, rfl, -, hrel, hb'⟩
        obtain ⟨SA, SC, rfl, -, -, hs⟩ := hrel HSE.out
        rw [HSE.out]
        rw [HSEL.out] at hs
        rw [HSEL.out]
        have hl : ((Y.drop (RL.rank Y [v])).take (RL.manyB Y [v])).length = RL.manyB Y [v] := by simp; omega
        rw [hl]
        exact ⟨SA, SC, rfl, hs, hb'⟩
      generalize RL.rank Y [v] = lo at *
      generalize RL.manyB Y [v] = m at *
      clear HSEL HSE
      go_upto_region 15 with fail
      go_cut [14, 15, 44] from 44 to 121 (fun s e i wx => i = .int .i64 k ∧ e = .int .i64 0 ∧ ∃ sb SA SC, s = .pointer (some ⟨sb, 0, none⟩) ∧ Row wx sb 29 [.int .i64 2, .slice SA m SC] ∧ SlRs wx.heap.size wx SA ((Y.drop lo).take m) ∧ Below w7.heap.size w7 wx)
      case first =>
        have hz47 : rb < w7.heap.size := by omega
        go_region_held3 (fun w' => w'.cell? ⟨rb, 0, none⟩ = some (.int .i64 2) ∧ w'.cell? ⟨rb, 1, none⟩ = some (.slice RA Y.length RC) ∧ w'.cell? ⟨b, o, none⟩ = some (.int .i64 v.kind) ∧ w'.cell? ⟨b, o + 1, none⟩ = some (.int .i64 v.int) ∧ w'.cell? ⟨b, o + 2, none⟩ = some (.string v.str)) (first | exact KEEP2 | exact KEEP | go_keep)
          (first
            | (go_at_call 33; with_reducible refine (HSC.out (fun _ => True) w7.drew (fun _ _ => trivial) (fun _ _ => trivial) (Below.refl _ _).drew).mono ?_; rintro e w8 ⟨SA, SC, rfl, hs8, hb8⟩
               have HS8 := Lib.hid hs8.sl
               have HB8 := Lib.hid (Below.undrew hb8)
               have KEEP : w8.cell? ⟨rb, 0, none⟩ = some (.int .i64 2) ∧ w8.cell? ⟨rb, 1, none⟩ = some (.slice RA Y.length RC) ∧ w8.cell? ⟨b, o, none⟩ = some (.int .i64 v.kind) ∧ w8.cell? ⟨b, o + 1, none⟩ = some (.int .i64 v.int) ∧ w8.cell? ⟨b, o + 2, none⟩ = some (.string v.str) := ⟨(hb8.cell (p := ⟨rb, 0, none⟩) hz47).trans r0, (hb8.cell (p := ⟨rb, 1, none⟩) hz47).trans r1, (hb8.cell (p := ⟨b, o, none⟩) hb).trans c1, (hb8.cell (p := ⟨b, o + 1, none⟩) hb).trans c2, (hb8.cell (p := ⟨b, o + 2, none⟩) hb).trans c3⟩
               clear hs8 hb8)
            | (go_at_call 33; with_reducible refine (HSC.out (fun b => b ≠ w7.heap.size) (w7.alloc (.cells #[.int .i64 0, .slice none 0 0] 29)).drew (fun b hb => by omega) (fun b hb => by simp at hb; omega) ((Below.refl _ _).alloc (Nat.le_refl _) _).drew).mono ?_; rintro e w8 ⟨SA, SC, rfl, hs8, hb8⟩
               have HS8P := Lib.hid hs8
               have hq8 := (Row.new w7 29 [.int .i64 0, .slice none 0 0]).drew.below hb8 (by simp)
               have HQ8 := Lib.hid hq8
               have z0 : w8.cell? ⟨w7.heap.size, 0, none⟩ = some (.int .i64 0) := hq8.cell 0
               have z1 : w8.cell? ⟨w7.heap.size, 1, none⟩ = some (.slice none 0 0) := hq8.cell 1
               have zf0 := hq8.frozen 0
               have zf1 := hq8.frozen 1
               have HB8 := Lib.hid (Below.box (Below.undrew hb8) (by simp))
               have KEEP : w8.cell? ⟨rb, 0, none⟩ = some (.int .i64 2) ∧ w8.cell? ⟨rb, 1, none⟩ = some (.slice RA Y.length RC) ∧ w8.cell? ⟨b, o, none⟩ = some (.int .i64 v.kind) ∧ w8.cell? ⟨b, o + 1, none⟩ = some (.int .i64 v.int) ∧ w8.cell? ⟨b, o + 2, none⟩ = some (.string v.str) := ⟨(HB8.out.cell (p := ⟨rb, 0, none⟩) hz47).trans r0, (HB8.out.cell (p := ⟨rb, 1, none⟩) hz47).trans r1, (HB8.out.cell (p := ⟨b, o, none⟩) hb).trans c1, (HB8.out.cell (p := ⟨b, o + 1, none⟩) hb).trans c2, (HB8.out.cell (p := ⟨b, o + 2, none⟩) hb).trans c3⟩
               have KEEP2 : ((w8.setCell ⟨w7.heap.size, 0, none⟩ (.int .i64 2)).setCell ⟨w7.heap.size, 1, none⟩ (.slice SA m SC)).cell? ⟨rb, 0, none⟩ = some (.int .i64 2) ∧ ((w8.setCell ⟨w7.heap.size, 0, none⟩ (.int .i64 2)).setCell ⟨w7.heap.size, 1, none⟩ (.slice SA m SC)).cell? ⟨rb, 1, none⟩ = some (.slice RA Y.length RC) ∧ ((w8.setCell ⟨w7.heap.size, 0, none⟩ (.int .i64 2)).setCell ⟨w7.heap.size, 1, none⟩ (.slice SA m SC)).cell? ⟨b, o, none⟩ = some (.int .i64 v.kind) ∧ ((w8.setCell ⟨w7.heap.size, 0, none⟩ (.int .i64 2)).setCell ⟨w7.heap.size, 1, none⟩ (.slice SA m SC)).cell? ⟨b, o + 1, none⟩ = some (.int .i64 v.int) ∧ ((w8.setCell ⟨w7.heap.size, 0, none⟩ (.int .i64 2)).setCell ⟨w7.heap.size, 1, none⟩ (.slice SA m SC)).cell? ⟨b, o + 2, none⟩ = some (.string v.str) := by
                 have e1 : w7.heap.size ≠ rb := by omega
                 have e2 : w7.heap.size ≠ b := by omega
                 exact ⟨far2 e1 e1 KEEP.1, far2 e1 e1 KEEP.2.1, far2 e2 e2 KEEP.2.2.1, far2 e2 e2 KEEP.2.2.2.1, far2 e2 e2 KEEP.2.2.2.2⟩
               clear hs8 hb8 hq8)
            | fail)
        · go_wp2_with fail
          go_meet
          case rel => exact ⟨rfl, rfl, w8.heap.size, SA, SC, rfl, Row.new w8 29 [.int .i64 2, .slice SA m SC], HS8.out.alloc1 _, HB8.out.alloc HB8.out.size _⟩
        · go_wp2_with fail
          go_meet
          case rel =>
            refine ⟨rfl, rfl, w7.heap.size, SA, SC, rfl, (HQ8.out.set 0 (.int .i64 2)).set 1 (.slice SA m SC), ?_, (HB8.out.setCell (p := ⟨w7.heap.size, 0, none⟩) (Nat.le_refl _) _).setCell (p := ⟨w7.heap.size, 1, none⟩) (Nat.le_refl _) _⟩
            have h := (HS8P.out.keep (w' := (w8.setCell ⟨w7.heap.size, 0, none⟩ (.int .i64 2)).setCell ⟨w7.heap.size, 1, none⟩ (.slice SA m SC)) (fun p hp hne => far2 (p1 := ⟨w7.heap.size, 0, none⟩) (p2 := ⟨w7.heap.size, 1, none⟩) (fun e => hne e.symm) (fun e => hne e.symm) rfl)).sl
            simpa using h
      case rest =>
        obtain ⟨rfl, rfl, sb, SA, SC, rfl, hrow, hs, hb8⟩ := hcut
        have HROW := Lib.hid hrow
        have HS := Lib.hid hs
        have hb8' := Below.then HB7.out hb8 hz7
        have HB8 := Lib.hid hb8'
        have hz8 := hb8'.size
        have hzs := hrow.lt
        have s0 : wc.cell? ⟨sb, 0, none⟩ = some (.int .i64 2) := hrow.cell 0
        have s1 : wc.cell? ⟨sb, 1, none⟩ = some (.slice SA m SC) := hrow.cell 1
        have hwm : IntKind.i64.wrap ((lo : Int) + (m : Int) - (lo : Int)) = (m : Int) := by rw [IntWalk.i64_in _ (by omega)]; omega
        have hnle : decide ((lo : Int) + (m : Int) ≤ (lo : Int)) = false := by simp; omega
        have hm0 : ¬ m = 0 := by omega
        have hm1 : decide (m = 0) = false := by simpa using hm0
        clear hrow hs hb8 hb8' r0 r1 c1 c2 c3
        go_wp2_with fail
        refine (rlLen_any 2 SA m SC wc).mono ?_
        rintro e w9 ⟨rfl, hx9⟩
        have HE9 := Lib.hid hx9
        have HS9 := Lib.hid (HS.out.up hx9)
        have HROW9 := Lib.hid (HROW.out.below hx9.below hzs)
        have hzs9 := HROW9.out.lt
        have HB9 := Lib.hid (Below.then HB8.out hx9.below hz8)
        have hz9 := HB9.out.size
        clear hx9 s0 s1 HS HROW
        have s0 : w9.cell? ⟨sb, 0, none⟩ = some (.int .i64 2) := HROW9.out.cell 0
        have s1 : w9.cell? ⟨sb, 1, none⟩ = some (.slice SA m SC) := HROW9.out.cell 1
        go_wp2_with fail
        refine (rlLen_any 2 SA m SC w9).mono ?_
        rintro e w10 ⟨rfl, hx10⟩
        have HS10 := Lib.hid (HS9.out.up hx10)
        have HROW10 := Lib.hid (HROW9.out.below hx10.below hzs9)
        have hzs10 := HROW10.out.lt
        have HB10 := Lib.hid (Below.then HB9.out hx10.below hz9)
        have hz10 := HB10.out.size
        clear hx10 s0 s1 HS9 HROW9 HE9
        clear hwm
        obtain ⟨wo, hwo⟩ : ∃ wo, wo = wr := ⟨_, rfl⟩
        subst hwo
        go_wp2
        go_loopw [96] (fun i wr2 => ∃ j : Nat, j ≤ m ∧ i = .int .i64 j ∧ Below w10.heap.size w10 wr2) (fun i _ => m - (intOf i).toNat)
        case atStart => exact ⟨0, Nat.zero_le _, rfl, Below.refl _ _⟩
        case round =>
          obtain ⟨j, hja, rfl, hbel2⟩ := hrel
          have HBI := Lib.hid hbel2
          have hbW := Below.then HB10.out hbel2 hz10
          have HBW := Lib.hid hbW
          have hzi := hbel2.size
          by_cases h2 : j < m
          · have hlj : lo + j < Y.length := by omega
            have hSl : ((Y.drop lo).take m).length = m := by simp; omega
            have hSj : j < ((Y.drop lo).take m).length := by omega
            have HSO : Hid (RsOk ((Y.drop lo).take m)) := HYO.out.of_mem (fun y hy => List.mem_of_mem_drop (List.mem_of_mem_take hy))
            have HEQ : Hid (((Y.drop lo).take m)[j] = Y[lo + j]) := by show _ = _; rw [List.getElem_take, List.getElem_drop]
            have HAT1 : Hid (Calls Try.prog 27 #[.agg #[.int .i64 2, .slice SA m SC], .int .i64 j] wr fun e w' => ∃ v, e = .returned (.tuple #[v, .bool true]) ∧ w'.ownsRow wr.heap.size 60 3 v ((Y.drop lo).take m)[j].length (rcells ((Y.drop lo).take m)[j]) ∧ Below wr.heap.size wr w') := by
              have h := rlAt_ok 2 SA SC ((Y.drop lo).take m) j wr (HS10.out.upB hbel2) HSO.out (by omega) hSj
              rw [hSl] at h
              exact h
            have HOKJ := Lib.hid (HYO.out.at_ hlj)
            rw [HEQ.out] at HAT1
            have HAT2 := Lib.hid (fun W (hW : Below wr.heap.size wr W) => rlAt_ok 2 RA RC Y (lo + j) W (HRS3.out.upB (Below.then hbW hW hbW.size)) HYO.out (by omega) hlj)
            generalize Y[lo + j] = z at HAT1 HAT2 HOKJ
            have s0 : wr.cell? ⟨sb, 0, none⟩ = some (.int .i64 2) := (hbel2.cell (p := ⟨sb, 0, none⟩) hzs10).trans (HROW10.out.cell 0)
            have s1 : wr.cell? ⟨sb, 1, none⟩ = some (.slice SA m SC) := (hbel2.cell (p := ⟨sb, 1, none⟩) hzs10).trans (HROW10.out.cell 1)
            clear hbel2 hbW hSl hSj HEQ HSO
            go_wp2_with fail
            refine HAT1.out.mono ?_
            rintro e w11 ⟨v11, rfl, hown11, hb11⟩
            obtain ⟨-, A11, C11, rfl, -, -, hs11, -⟩ := SlR.of_own hown11
            have HS11 := Lib.hid hs11
            have HB11 := Lib.hid hb11
            have hbW11 := Below.then HBW.out hb11 HBW.out.size
            have HBW11 := Lib.hid hbW11
            have r0 : w11.cell? ⟨rb, 0, none⟩ = some (.int .i64 2) := (hbW11.cell (p := ⟨rb, 0, none⟩) hzr4).trans (HRB3.out.cell 0)
            have r1 : w11.cell? ⟨rb, 1, none⟩ = some (.slice RA Y.length RC) := (hbW11.cell (p := ⟨rb, 1, none⟩) hzr4).trans (HRB3.out.cell 1)
            have hwj : IntKind.i64.wrap ((lo : Int) + (j : Int)) = ((lo + j : Nat) : Int) := by rw [IntWalk.i64_in _ (by omega)]; omega
            clear hown11 hs11 hb11 hbW11 s0 s1 HAT1
            go_wp2_with fail
            refine (HAT2.out w11 HB11.out).mono ?_
            rintro e w12 ⟨v12, rfl, hown12, hb12⟩
            obtain ⟨-, A12, C12, rfl, -, -, hs12, -⟩ := SlR.of_own hown12
            have HS12 := Lib.hid hs12
            have HS11b := Lib.hid (HS11.out.upB hb12)
            have HB12 := Lib.hid (Below.then HB11.out hb12 HB11.out.size)
            clear hown12 hs12 hb12 r0 r1 HAT2 hwj HS11
            go_wp2_with fail
            refine (l7Row_any A11 C11 z w12 HS11b.out HOKJ.out.1).mono ?_
            rintro e w13 ⟨v13, rfl, hown13, hb13⟩
            obtain ⟨-, A13, C13, rfl, -, -, hs13, -⟩ := SlR.of_own hown13
            have HS13 := Lib.hid hs13
            have HS12b := Lib.hid (HS12.out.upB hb13)
            have HB13 := Lib.hid (Below.then HB12.out hb13 HB12.out.size)
            clear hown13 hs13 hb13 HS12 HS11b
            go_wp2_with fail
            refine (l7Row_any A12 C12 z w13 HS12b.out HOKJ.out.1).mono ?_
            rintro e w14 ⟨v14, rfl, hown14, hb14⟩
            obtain ⟨-, A14, C14, rfl, -, -, hs14, -⟩ := SlR.of_own hown14
            have HS14 := Lib.hid hs14
            have HS13b := Lib.hid (HS13.out.upB hb14)
            have HB14 := Lib.hid (Below.then HB13.out hb14 HB13.out.size)
            clear hown14 hs14 hb14 HS13 HS12b
            go_wp2_with fail
            refine (r7Compare_self A13 A14 C13 C14 z w14 HS13b.out HS14.out HOKJ.out).mono ?_
            rintro e w15 ⟨rfl, hx15⟩
            have HB15 := Lib.hid (Below.then HBI.out (Below.then HB14.out hx15.below HB14.out.size) hzi)
            clear hx15 HS13b HS14
            go_wp2
            go_roundw
            case rel => exact ⟨j + 1, by omega, by go_num, HB15.out⟩
            case measure => simp [intOf]; omega
          · obtain rfl : j = m := by omega
            have HSTEP2 : Hid ((lo : Int) + (j : Int) = ((atF Y (k + 1) : Nat) : Int)) := by show _ = _; rw [← HSTEP.out]; omega
            go_wp2
            go_roundw
            case rel => exact ⟨k + 1, by omega, by rw [← HSTEP2.out], by go_num, HBW.out⟩
            case measure => simp [intOf]; omega
    · obtain rfl : k = (firsts Y).length := by omega
      have HE : Hid (atF Y (firsts Y).length = Y.length) := by show _ = _; unfold atF; rw [dif_neg (by omega)]
      rw [HE.out]
      go_wp2_with fail
      refine (rlLen_any 2 RA Y.length RC wr).mono ?_
      rintro e w6 ⟨rfl, hx6⟩
      have HB6 := Lib.hid (Below.then HB.out hx6.below hzz)
      clear hx6 r0 r1
      go_wp2_with fail
      refine (l7awake_any _).mono ?_
      rintro e w7 ⟨rfl, hb7⟩
      have HB7 := Lib.hid (Below.then HB4.out (Below.then HB6.out hb7 HB6.out.size) HB4.out.size)
      clear hb7
      go_wp2
      go_ret
      exact ⟨rfl, HB7.out⟩

end Go.Proofs.Ytiopkooigeaneaa

/- Walk: relation's Union. -/
import Derived.Test.YtiopkooigeaneaaV27
namespace Go.Proofs.Ytiopkooigeaneaa
open Go.RowKit Go.Sort

theorem makeRowsN (n : Nat) (hn : n ≤ 1000000) (w : World) : (Instr.makeSlice 22 (.int .i64 0) (.int .i64 (n : Int))).run Try.prog w = .ok (.slice (some ⟨w.heap.size, 0, none⟩) 0 n) (w.alloc (.cells (zerosA (.slice none 0 0) n) 24)) := by
  obtain ⟨i0, hi0, hz0, hz1, hz2⟩ := info_parts rowInfo
  have := run_make (P := Try.prog) w 22 24 i0 _ Try.underlying22 hi0 hz0 .i64 .i64 0 (n : Int) (by omega) (by omega) (by rw [hz2]; omega) (by omega)
  rw [this, hz1]
  rw [show ((n : Int)).toNat = n by omega]
  rw [zeros_made _ _ rfl]
  rfl

/-- What is left of Y, as a slice, and what has been merged. -/
def UnI (P : Nat → Prop) (w0 : Nat) (W0 : World) (X Y : List RL.R) (k : Nat) (v rv : Value) (wr : World) : Prop :=
  ∃ (L : List RL.R) (hs : List Value) (A : Option Addr) (C j : Nat), rv = .slice A (Y.drop j).length C ∧ (Y.drop j).length ≤ C ∧ C ≤ 9223372036854775807 ∧ SlRsP P w0 wr A (Y.drop j) ∧ RL.Merge X Y k j L ∧ wr.ownsRow W0.heap.size 24 1 v L.length hs ∧ Hdrs P w0 wr hs L ∧ Below W0.heap.size W0 wr
/-- What Union leaves. -/
def UnPost (P : Nat → Prop) (w : World) (n : Int) (X Y : List RL.R) (e : Ending) (w' : World) : Prop :=
  ∃ v Z, e = .returned (.tuple #[v, .int .i64 0]) ∧ RelP P w' n Z v ∧ RL.SS Z ∧ (∀ r, r ∈ Z ↔ r ∈ X ∨ r ∈ Y) ∧ Z.length ≤ X.length + Y.length ∧ Below w.heap.size w w'

theorem rlUnion_arity (n m : Int) (RA YA : Option Addr) (RC YC k l : Nat) (w : World) (h : n ≠ m) :
    Calls Try.prog 43 #[.agg #[.int .i64 n, .slice RA k RC], .agg #[.int .i64 m, .slice YA l YC]] w fun e w' => e = .returned (.tuple #[.agg #[.int .i64 0, .slice none 0 0], .int .i64 6]) ∧ Below w.heap.size w w' := by
  have h1 : (n != m) = true := by simpa using h
  clear h
  go_enter Try.func43, Try.ntmps43
  go_wp2
  refine bodyPost_ret (v := .tuple #[.agg #[.int .i64 0, .slice none 0 0], .int .i64 6]) (by simp [results, Try.results43, go_sem]) rfl ⟨rfl, ?_⟩
  exact ((((Ext.refl w).alloc _).alloc _).alloc _).below

set_option maxHeartbeats 4000000 in
set_option maxRecDepth 100000 in
theorem rlUnion_P (P : Nat → Prop) (n : Int) (RA YA : Option Addr) (RC YC : Nat) (X Y : List RL.R) (w : World) (hX : SlRsP P w.heap.size w RA X) (hY : SlRsP P w.heap.size w YA Y) (hPn : ∀ b, w.heap.size ≤ b → P b) (hXo : RsOk X) (hYo : RsOk Y) (hl : X.length + Y.length ≤ 60000) (hXS : RL.SS X) (hYS : RL.SS Y) (hYc : Y.length ≤ YC) (hYm : YC ≤ 9223372036854775807) :
    Calls Try.prog 43 #[.agg #[.int .i64 n, .slice RA X.length RC], .agg #[.int .i64 n, .slice YA Y.length YC]] w (UnPost P w n X Y) := by
  have HX := Lib.hid hX
  have HY := Lib.hid hY
  have HPN := Lib.hid hPn
  have HXO := Lib.hid hXo
  have HYO := Lib.hid hYo
  have HXS := Lib.hid hXS
  have HYS := Lib.hid hYS
  clear hX hY hPn hXo hYo hXS hYS
  have hmk : ∀ W : World, (Instr.makeSlice 22 (.int .i64 0) (.int .i64 ((X.length : Int) + (Y.length : Int)))).run Try.prog W = .ok (.slice (some ⟨W.heap.size, 0, none⟩) 0 (X.length + Y.length)) (W.alloc (.cells (zerosA (.slice none 0 0) (X.length + Y.length)) 24)) := fun W => by
    have := makeRowsN (X.length + Y.length) (by omega) W
    rw [Int.natCast_add] at this
    exact this
  go_enter Try.func43, Try.ntmps43
  have HW : Hid (∃ W0, W0 = ((w.alloc (.cells #[.int .i64 n, .slice RA X.length RC] 29)).alloc (.cells #[.int .i64 n, .slice YA Y.length YC] 29)).alloc (.cells #[.int .i64 0, .slice none 0 0] 29) ∧ W0.heap.size = w.heap.size + 3 ∧ Ext w W0 ∧ Row W0 w.heap.size 29 [.int .i64 n, .slice RA X.length RC] ∧ Row W0 (w.heap.size + 2) 29 [.int .i64 0, .slice none 0 0]) := by
    have q1 := ((Row.new w 29 [.int .i64 n, .slice RA X.length RC]).alloc (.cells #[.int .i64 n, .slice YA Y.length YC] 29)).alloc (.cells #[.int .i64 0, .slice none 0 0] 29)
    have q3 := Row.new ((w.alloc (.cells #[.int .i64 n, .slice RA X.length RC] 29)).alloc (.cells #[.int .i64 n, .slice YA Y.length YC] 29)) 29 [.int .i64 0, .slice none 0 0]
    simp only [World.size_alloc] at q3
    exact ⟨_, rfl, by simp only [World.size_alloc], ((Ext.refl w).alloc _).alloc _ |>.alloc _, q1, q3⟩
  obtain ⟨W0, hW0, hz0, he0, q1, q3⟩ := HW.out
  have HZ0 := Lib.hid hz0
  have HE0 := Lib.hid he0
  have HQ1 := Lib.hid q1
  have HQ3 := Lib.hid q3
  have hzle : w.heap.size + 3 ≤ W0.heap.size := by omega
  have HX0 := Lib.hid (HX.out.below he0.below (Nat.le_refl _))
  have HY0 := Lib.hid (HY.out.below he0.below (Nat.le_refl _))
  clear hz0 he0 q1 q3
  go_wp2
  rw [← hW0]
  clear HW hW0 hmk
  have HO0 : Hid ((W0.alloc (.cells (zerosA (.slice none 0 0) (X.length + Y.length)) 24)).ownsRow W0.heap.size 24 1 (.slice (some ⟨w.heap.size + 1 + 1 + 1, 0, none⟩) 0 (X.length + Y.length)) 0 []) := by
    have h := own_made W0 (X.length + Y.length) W0.heap.size (by omega) (Nat.le_refl _)
    show World.ownsRow _ _ _ _ _ _ _
    rw [← show W0.heap.size = w.heap.size + 1 + 1 + 1 from HZ0.out]
    exact h
  have HB0 := Lib.hid ((Below.refl W0.heap.size W0).alloc (Nat.le_refl _) (.cells (zerosA (.slice none 0 0) (X.length + Y.length)) 24))
  go_loopw [6, 7, 29] (fun v rv i wr => ∃ k : Nat, k ≤ X.length ∧ i = .int .i64 k ∧ UnI P w.heap.size W0 X Y k v rv wr) (fun _ _ i _ => X.length - (intOf i).toNat)
  case atStart => exact ⟨0, Nat.zero_le _, rfl, [], [], YA, YC, 0, rfl, hYc, hYm, HY0.out.below HB0.out (by omega), RL.Merge.start X Y, HO0.out, Hdrs.nil, HB0.out⟩
  case round =>
    obtain ⟨k, hka, rfl, hun⟩ := hrel
    have HUN := Lib.hid hun
    have hbel : Below W0.heap.size W0 wr := by obtain ⟨_, _, _, _, _, _, _, _, _, _, _, _, h⟩ := hun; exact h
    clear hun HO0 HB0
    have n1 : wr.cell? ⟨w.heap.size, 1, none⟩ = some (.slice RA X.length RC) := (HQ1.out.up hbel).cell 1
    have n0 : wr.cell? ⟨w.heap.size, 0, none⟩ = some (.int .i64 n) := (HQ1.out.up hbel).cell 0
    by_cases h1 : k < X.length
    · obtain ⟨b, o, A1, C1, rfl, hb, -, c1, hhr⟩ := HX0.out.at_ h1
      have d1 := (hbel.cell (p := ⟨b, o + k, none⟩) (show b < W0.heap.size by omega)).trans c1
      have HHR := Lib.hid hhr
      have hxl := (HXO.out.at_ h1).1
      have HCMP := Lib.hid (fun (W : World) (hW : Below W0.heap.size W0 W) (j : Nat) (hj : j < Y.length) (A2 : Option Addr) (C2 : Nat) (h2 : HR P w.heap.size W (.slice A2 Y[j].length C2) Y[j]) => rwCompare_any A2 A1 C2 C1 Y[j] X[k] W (h2.sl.more (by have := hW.size; omega)) ((hhr.below hW (by omega)).sl.more (by have := hW.size; omega)) (HYO.out.at_ hj).1 hxl)
      have HEQ := Lib.hid (fun (W : World) (hW : Below W0.heap.size W0 W) (j : Nat) (hj : j < Y.length) (A2 : Option Addr) (C2 : Nat) (h2 : HR P w.heap.size W (.slice A2 Y[j].length C2) Y[j]) => rwEqual_any A2 A1 C2 C1 Y[j] X[k] W (h2.sl.more (by have := hW.size; omega)) ((hhr.below hW (by omega)).sl.more (by have := hW.size; omega)) (HYO.out.at_ hj).1 hxl)
      have HTY := Lib.hid (fun (j : Nat) (L : List RL.R) (m : RL.Merge X Y k j L) (hj : j < Y.length) (h : RL.cmpR Y[j] X[k] < 0) => m.takeY HXS.out HYS.out h1 hj h)
      have HTX := Lib.hid (fun (j j' : Nat) (L : List RL.R) (m : RL.Merge X Y k j L) (h : (j' = j ∧ ∀ hj : j < Y.length, 0 < RL.cmpR Y[j] X[k]) ∨ (j' = j + 1 ∧ ∃ hj : j < Y.length, Y[j] = X[k])) => m.takeX HXS.out HYS.out h1 h)
      clear c1 hhr
      generalize X[k] = x at *
      obtain ⟨wo, hwo⟩ : ∃ wo, wo = wr := ⟨_, rfl⟩
      subst hwo
      go_wp2
      clear n1 n0 d1
      go_loopw [6, 7] (fun v rv wr => UnI P w.heap.size W0 X Y k v rv wr) (fun _ rv _ => lenOf rv)
      case atStart => exact HUN.out
      case round =>
        obtain ⟨L, hs, A, C, j, rfl, hc1, hc2, hsl, hM, hown, hH, hbel2⟩ := hrel
        have HSL := Lib.hid hsl
        have HM := Lib.hid hM
        have HO := Lib.hid hown
        have HH := Lib.hid hH
        have HB := Lib.hid hbel2
        have hzz := hbel2.size
        have hLl := hM.len
        have hjl := hM.jle
        clear HUN hown hH hbel hM
        -- the row x is appended: one lemma for the three ways
        have HAPPX : Hid (∀ (W W4 : World) (v4 : Value) (j' : Nat) (A2 : Option Addr) (C2 : Nat), W4.ownsRow W0.heap.size 24 1 v4 (L.length + 1) (hs ++ [.slice A1 x.length C1]) → Below W0.heap.size wr W4 → SlRsP P w.heap.size wr A2 (Y.drop j') → (Y.drop j').length ≤ C2 → C2 ≤ 9223372036854775807 → RL.Merge X Y (k + 1) j' (L ++ [x]) → UnI P w.heap.size W0 X Y (k + 1) v4 (.slice A2 (Y.drop j').length C2) W4) := fun W W4 v4 j' A2 C2 h1 h2 h3 h4 h5 h6 =>
          ⟨L ++ [x], hs ++ [.slice A1 x.length C1], A2, C2, j', rfl, h4, h5, h3.below h2 (by omega), h6, by rw [List.length_append]; exact h1, (HH.out.keep (w' := W4) (fun p hp _ => h2.cell (by omega))).append (Hdrs.one (HHR.out.below (Below.then HB.out h2 (Nat.le_refl _)) (by omega))), Below.then HB.out h2 (Nat.le_refl _)⟩
        by_cases h2 : j < Y.length
        rotate_left
        · have hd0 : Y.drop j = [] := List.drop_of_length_le (by omega)
          have HD0 := Lib.hid hd0
          have HM2 := Lib.hid (HTX.out j j L HM.out (.inl ⟨rfl, fun h => absurd h h2⟩))
          have HO2 := Lib.hid (HO.out.alloc (.cells #[.slice A1 x.length C1] 24))
          rw [hd0, List.length_nil]
          clear hd0 hsl hc1 hbel2
          go_wp2_with (at_builtin; refine appH1 rfl (.tmp 68) (.tmp 70) rfl W0.heap.size u6 L.length hs rfl HO2.out wr.heap.size (.slice A1 x.length C1) rfl (by go_simp) rfl (by omega) (by simp; omega) ?_
                       intro v4 w4 hown4 hg4 _
                       have HO4 := Lib.hid hown4
                       have HB4 := Lib.hid (Below.then ((Below.refl W0.heap.size wr).alloc hzz (.cells #[.slice A1 x.length C1] 24)) (app_grown (B := W0.heap.size) hg4 (fun g hk => own_base HO2.out hk) (by simp; omega)) (Nat.le_refl _))
                       clear hown4 hg4)
          go_roundw
          case rel =>
            refine ⟨k + 1, by omega, by go_num, ?_⟩
            have := HAPPX.out wr w4 v4 j A C HO4.out HB4.out HSL.out (by rw [HD0.out]; simp) hc2 HM2.out
            rw [HD0.out, List.length_nil] at this
            exact this
          case measure => simp [intOf]; omega
        · obtain ⟨m, hm⟩ : ∃ m, (Y.drop j).length = m + 1 := ⟨(Y.drop j).length - 1, by simp; omega⟩
          have hml : m ≤ 1000000 := by simp at hm; omega
          have hmc : m + 1 ≤ C := by omega
          obtain ⟨b2, o2, A2, C2, rfl, hb2, -, hcell, hhr2⟩ := hsl.at_ (i := 0) (by omega)
          have e0 : (Y.drop j)[0]'(by omega) = Y[j] := by simp
          rw [e0] at hcell hhr2
          have hc0 : wr.cell? ⟨b2, o2, none⟩ = some (.slice A2 Y[j].length C2) := hcell
          have HHR2 := Lib.hid hhr2
          have HC := Lib.hid (HCMP.out wr hbel2 j h2 A2 C2 hhr2)
          have HE := Lib.hid (fun (W : World) (hW : Ext wr W) => HEQ.out W (Below.then hbel2 hW.below hzz) j h2 A2 C2 (hhr2.below hW.below (by omega)))
          have HY1 := Lib.hid (fun h => HTY.out j L HM.out h2 h)
          have HY2 : Hid (0 < RL.cmpR Y[j] x → RL.Merge X Y (k + 1) j (L ++ [x])) := fun h => HTX.out j j L HM.out (.inl ⟨rfl, fun _ => h⟩)
          have HY3 : Hid (Y[j] = x → RL.Merge X Y (k + 1) (j + 1) (L ++ [x])) := fun h => HTX.out j (j + 1) L HM.out (.inr ⟨rfl, h2, h⟩)
          have HY4 : Hid (RL.cmpR Y[j] x = 0 ↔ Y[j] = x) := RL.tot_cmpR.z _ _
          have hst := slTail1 (some ⟨b2, o2, none⟩) m C
          have HT : Hid (SlRsP P w.heap.size wr (tailA (some ⟨b2, o2, none⟩) 1 C) (Y.drop (j + 1))) := by have h := hsl.tail (cap := C) (by omega) 1; rw [List.drop_drop] at h; exact h
          have hd1 : (Y.drop (j + 1)).length = m := by simp at hm ⊢; omega
          have HD1 := Lib.hid hd1
          have HM1 := Lib.hid hm
          obtain ⟨TA, hTA⟩ : ∃ TA, TA = tailA (some ⟨b2, o2, none⟩) 1 C := ⟨_, rfl⟩
          rw [← hTA] at hst HT
          rw [hm]
          clear hsl hcell hhr2 hd1 hm hTA e0 hc1
          generalize Y[j] = y at *
          go_wp2_with fail
          refine HC.out.mono ?_
          rintro e w1 ⟨rfl, hx1⟩
          have hz1 := hx1.size
          have hc01 : w1.cell? ⟨b2, o2, none⟩ = some (.slice A2 y.length C2) := (hx1.cell (show b2 < wr.heap.size by omega)).trans hc0
          have HX1 := Lib.hid hx1
          have HO1 := Lib.hid (own_keep HO.out hx1.below)
          clear hx1 HC hc0 hbel2
          by_cases hq : RL.cmpR y x < 0
          · have hqd : decide (RL.cmpR y x < 0) = true := by simpa using hq
            have HM3 := Lib.hid (HY1.out hq)
            have HO2 := Lib.hid (HO1.out.alloc (.cells #[.slice A2 y.length C2] 24))
            clear hq HY1 HY2 HY3 HY4
            generalize RL.cmpR y x = qv at *
            go_wp2_with (at_builtin; refine appH1 rfl (.tmp 48) (.tmp 52) rfl W0.heap.size u6 L.length hs rfl HO2.out w1.heap.size (.slice A2 y.length C2) rfl (by go_simp) rfl (by omega) (by simp; omega) ?_
                         intro v4 w4 hown4 hg4 _
                         have HO4 := Lib.hid hown4
                         have HB4 := Lib.hid (Below.then (HX1.out.below.mono hzz) (Below.then ((Below.refl W0.heap.size w1).alloc (show W0.heap.size ≤ w1.heap.size by omega) (.cells #[.slice A2 y.length C2] 24)) (app_grown (B := W0.heap.size) hg4 (fun g hk => own_base HO2.out hk) (by simp; omega)) (Nat.le_refl _)) (Nat.le_refl _))
                         clear hown4 hg4)
            go_roundw
            case rel =>
              refine ⟨L ++ [y], hs ++ [.slice A2 y.length C2], TA, C - 1, j + 1, by rw [HD1.out], by rw [HD1.out]; omega, by omega, HT.out.below HB4.out (by omega), HM3.out, by rw [List.length_append]; exact HO4.out, (HH.out.keep (w' := w4) (fun p hp _ => HB4.out.cell (by omega))).append (Hdrs.one (HHR2.out.below HB4.out (by omega))), Below.then HB.out HB4.out (Nat.le_refl _)⟩
            case measure => simp [lenOf]
          · have hqd : decide (RL.cmpR y x < 0) = false := by simpa using hq
            have HQ := Lib.hid hq
            clear hq HY1
            have HO2 := Lib.hid (fun (W : World) (hW : Ext w1 W) => (own_keep HO1.out hW.below).alloc (.cells #[.slice A1 x.length C1] 24))
            obtain ⟨qv, hqv⟩ : ∃ qv, qv = RL.cmpR y x := ⟨_, rfl⟩
            rw [← hqv] at hqd HQ HY2 HY4
            rw [← hqv]
            clear hqv
            go_wp2_with fail
            refine (HE.out _ HX1.out).mono ?_
            rintro e w2 ⟨rfl, hx2⟩
            have hz2 := hx2.size
            have HX2 := Lib.hid (HX1.out.trans hx2)
            have HO3 := Lib.hid (HO2.out w2 hx2)
            clear hx2 HE HO2
            by_cases hyx : y = x
            · have hdq : decide (y = x) = true := by simpa using hyx
              have HM3 := Lib.hid (HY3.out hyx)
              rw [hdq]
              clear hdq hyx HY2 HY3 HY4
              go_wp2_with (at_builtin; refine appH1 rfl (.tmp 68) (.tmp 70) rfl W0.heap.size u6 L.length hs rfl HO3.out w2.heap.size (.slice A1 x.length C1) rfl (by go_simp) rfl (by omega) (by simp; omega) ?_
                           intro v4 w4 hown4 hg4 _
                           have HO4 := Lib.hid hown4
                           have HB4 := Lib.hid (Below.then (HX2.out.below.mono hzz) (Below.then ((Below.refl W0.heap.size w2).alloc (show W0.heap.size ≤ w2.heap.size by omega) (.cells #[.slice A1 x.length C1] 24)) (app_grown (B := W0.heap.size) hg4 (fun g hk => own_base HO3.out hk) (by simp; omega)) (Nat.le_refl _)) (Nat.le_refl _))
                           clear hown4 hg4)
              go_roundw
              case rel =>
                refine ⟨k + 1, by omega, by go_num, ?_⟩
                have := HAPPX.out wr w4 v4 (j + 1) TA (C - 1) HO4.out HB4.out HT.out (by rw [HD1.out]; omega) (by omega) HM3.out
                rw [HD1.out] at this
                exact this
              case measure => simp [intOf]; omega
            · have hdq : decide (y = x) = false := by simpa using hyx
              have HM3 := Lib.hid (HY2.out (by have h1 := HQ.out; have h2 : ¬ qv = 0 := fun h => hyx (HY4.out.1 h); omega))
              rw [hdq]
              clear hdq hyx HY2 HY3 HY4 hst
              go_wp2_with (at_builtin; refine appH1 rfl (.tmp 68) (.tmp 70) rfl W0.heap.size u6 L.length hs rfl HO3.out w2.heap.size (.slice A1 x.length C1) rfl (by go_simp) rfl (by omega) (by simp; omega) ?_
                           intro v4 w4 hown4 hg4 _
                           have HO4 := Lib.hid hown4
                           have HB4 := Lib.hid (Below.then (HX2.out.below.mono hzz) (Below.then ((Below.refl W0.heap.size w2).alloc (show W0.heap.size ≤ w2.heap.size by omega) (.cells #[.slice A1 x.length C1] 24)) (app_grown (B := W0.heap.size) hg4 (fun g hk => own_base HO3.out hk) (by simp; omega)) (Nat.le_refl _)) (Nat.le_refl _))
                           clear hown4 hg4)
              go_roundw
              case rel =>
                refine ⟨k + 1, by omega, by go_num, ?_⟩
                have := HAPPX.out wr w4 v4 j (some ⟨b2, o2, none⟩) C HO4.out HB4.out HSL.out (by rw [HM1.out]; omega) hc2 HM3.out
                rw [HM1.out] at this
                exact this
              case measure => simp [intOf]; omega
    · obtain ⟨L, hs, A, C, j, rfl, hc1, hc2, hsl, hM, hown, hH, hbel2⟩ := HUN.out
      have hkX : k = X.length := by omega
      have hM2 : RL.Merge X Y X.length j L := by rw [← hkX]; exact hM
      have HDN := Lib.hid (hM2.done HYS.out)
      have hLl := hM2.len
      have hjl := hM2.jle
      obtain ⟨h2s, hH2, hcc2, hnn2⟩ := hsl.hdrs2
      have hl2 := hH2.1
      have HL2 := Lib.hid hl2
      have HCC := Lib.hid (hcc2 wr (fun _ _ _ => rfl))
      have HNN := Lib.hid hnn2
      have HH2 := Lib.hid hH2
      have HH := Lib.hid hH
      have HO := Lib.hid hown
      have HB := Lib.hid hbel2
      have hzz := hbel2.size
      have hdl : (Y.drop j).length = Y.length - j := by simp
      have hlt : (L ++ Y.drop j).length ≤ X.length + Y.length := by simp; omega
      have HLEN := Lib.hid hlt
      obtain ⟨q, hq⟩ : ∃ q, q = (Y.drop j).length := ⟨_, rfl⟩
      rw [← hq] at hc1 HL2 hdl
      have HQ := Lib.hid hq
      rw [← hq]
      clear HUN hbel hM hM2 hown hH hsl hcc2 hnn2 hH2 hl2 hbel2 hlt hq hkX
      go_wp2_with (at_builtin; refine appH rfl (.tmp 73) (.tmp 74) rfl W0.heap.size u6 L.length hs rfl HO.out A q C h2s HL2.out rfl HCC.out HNN.out HH2.out.cells (by omega) hzz ?_
                   intro v4 w4 hown4 hg4 _
                   have HB4 := Lib.hid (app_grown (B := W0.heap.size) hg4 (fun g hk => own_base HO.out hk) hzz)
                   have hH4 := (HH.out.append HH2.out).keep (w' := w4) (fun p hp _ => HB4.out.cell (by omega))
                   have hbb := Below.then HB.out HB4.out (Nat.le_refl _)
                   have hq3 := HQ3.out.up hbb
                   have hq1 := HQ1.out.up hbb
                   rw [show L.length + q = (L ++ Y.drop j).length by rw [List.length_append, HQ.out]] at hown4
                   obtain ⟨Z, hZ⟩ : ∃ Z, Z = L ++ Y.drop j := ⟨_, rfl⟩
                   rw [← hZ] at hown4 hH4 HDN HLEN
                   obtain ⟨A6, C6, rfl, hc6, hm6, hs6⟩ := own_slrs (P := fun b => P b ∧ b ≠ w.heap.size + 2) hown4 (hH4.weak (fun b hb h => ⟨h, by omega⟩)) (by have := HB4.out.size; omega) (fun b hb => ⟨HPN.out b (by omega), by omega⟩)
                   have HS6 := Lib.hid hs6
                   have HQ34 := Lib.hid hq3
                   have HBB := Lib.hid hbb
                   have hZl : Z.length ≤ 60000 := by have := HLEN.out; omega
                   have m0 : w4.cell? ⟨w.heap.size, 0, none⟩ = some (.int .i64 n) := hq1.cell 0
                   have e0 : w4.cell? ⟨w.heap.size + 2, 0, none⟩ = some (.int .i64 0) := hq3.cell 0
                   have e1 : w4.cell? ⟨w.heap.size + 2, 1, none⟩ = some (.slice none 0 0) := hq3.cell 1
                   have f0 := hq3.frozen 0
                   have f1 := hq3.frozen 1
                   clear hown4 hg4 hH4 hbb hq3 hq1 hZ hs6)
      refine bodyPost_ret (v := .tuple #[.agg #[.int .i64 n, .slice A6 Z.length C6], .int .i64 0]) ?_ rfl ⟨_, Z, rfl, ?_, HDN.out.1, HDN.out.2, HLEN.out, ?_⟩
      · have h := HQ34.out.set2 (.int .i64 n) (.slice A6 Z.length C6)
        have z0 := h.cell 0
        have z1 := h.cell 1
        simp only [List.getElem?_cons_zero, List.getElem?_cons_succ] at z0 z1
        simp [results, Try.results43, go_sem, z0, z1]
      · refine ⟨A6, C6, rfl, hc6, hm6, ?_⟩
        have h := (HS6.out.keep (w' := (w4.setCell ⟨w.heap.size + 2, 0, none⟩ (.int .i64 n)).setCell ⟨w.heap.size + 2, 1, none⟩ (.slice A6 Z.length C6)) (fun p hp hne => far_cell (p := ⟨w.heap.size + 2, 1, none⟩) (fun e => hne.2 e.symm) (far_cell (p := ⟨w.heap.size + 2, 0, none⟩) (fun e => hne.2 e.symm) rfl))).weak (P' := P) (fun b _ h => h.1)
        simpa using h
      · exact ((Below.then HE0.out.below HBB.out (by have := HE0.out.size; omega)).setCell (p := ⟨w.heap.size + 2, 0, none⟩) (show w.heap.size ≤ w.heap.size + 2 by omega) _).setCell (p := ⟨w.heap.size + 2, 1, none⟩) (show w.heap.size ≤ w.heap.size + 2 by omega) _

end Go.Proofs.Ytiopkooigeaneaa

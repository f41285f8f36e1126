/- Walks: relation's SelectSame; the reference's Select and SelectSame. -/
import Derived.Test.YtiopkooigeaneaaV21
namespace Go.Proofs.Ytiopkooigeaneaa
open Go.RowKit Go.Sort

/-- The rows that have equal values in two columns. -/
def sameF (X : List RL.R) (i j : Int) : List RL.R := X.filter fun x => RL.cmpV (x.getD i.toNat zV) (x.getD j.toNat zV) == 0
/-- Both columns exist. -/
def inBoth (n i j : Int) : Bool := decide (0 ≤ i) && decide (i < n) && (decide (0 ≤ j) && decide (j < n))
def SamePost (w : World) (n : Int) (X : List RL.R) (i j : Int) (e : Ending) (w' : World) : Prop :=
  (inBoth n i j = false → e = .returned (.tuple #[.agg #[.int .i64 0, .slice none 0 0], .int .i64 3])) ∧ (inBoth n i j = true → ∃ rv, e = .returned (.tuple #[rv, .int .i64 0]) ∧ RelIs w' n (sameF X i j) rv) ∧ Below w.heap.size w w'

theorem rlSelectSame_range (n : Int) (RA : Option Addr) (l RC : Nat) (i j : Int) (w : World) (h : inBoth n i j = false) :
    Calls Try.prog 35 #[.agg #[.int .i64 n, .slice RA l RC], .int .i64 i, .int .i64 j] w fun e w' => e = .returned (.tuple #[.agg #[.int .i64 0, .slice none 0 0], .int .i64 3]) ∧ Below w.heap.size w w' := by
  have hcase : i < 0 ∨ (0 ≤ i ∧ n ≤ i) ∨ (0 ≤ i ∧ i < n ∧ j < 0) ∨ (0 ≤ i ∧ i < n ∧ 0 ≤ j ∧ n ≤ j) := by
    unfold inBoth at h
    simp at h
    omega
  clear h
  rcases hcase with h1 | ⟨h1, h2⟩ | ⟨h1, h2, h3⟩ | ⟨h1, h2, h3, h4⟩
  · go_enter Try.func35, Try.ntmps35
    go_wp2
    refine bodyPost_ret (v := .tuple #[.agg #[.int .i64 0, .slice none 0 0], .int .i64 3]) (by simp [results, Try.results35, go_sem]) rfl ⟨rfl, ?_⟩
    exact (((((Ext.refl w).alloc _).alloc _).alloc _).alloc _).below
  · have g1 : decide (i < 0) = false := by simp; omega
    go_enter Try.func35, Try.ntmps35
    go_wp2
    refine bodyPost_ret (v := .tuple #[.agg #[.int .i64 0, .slice none 0 0], .int .i64 3]) (by simp [results, Try.results35, go_sem]) rfl ⟨rfl, ?_⟩
    exact (((((Ext.refl w).alloc _).alloc _).alloc _).alloc _).below
  · have g1 : decide (i < 0) = false := by simp; omega
    have g2 : decide (n ≤ i) = false := by simp; omega
    go_enter Try.func35, Try.ntmps35
    go_wp2
    refine bodyPost_ret (v := .tuple #[.agg #[.int .i64 0, .slice none 0 0], .int .i64 3]) (by simp [results, Try.results35, go_sem]) rfl ⟨rfl, ?_⟩
    exact (((((Ext.refl w).alloc _).alloc _).alloc _).alloc _).below
  · have g1 : decide (i < 0) = false := by simp; omega
    have g2 : decide (n ≤ i) = false := by simp; omega
    have g3 : decide (j < 0) = false := by simp; omega
    go_enter Try.func35, Try.ntmps35
    go_wp2
    refine bodyPost_ret (v := .tuple #[.agg #[.int .i64 0, .slice none 0 0], .int .i64 3]) (by simp [results, Try.results35, go_sem]) rfl ⟨rfl, ?_⟩
    exact (((((Ext.refl w).alloc _).alloc _).alloc _).alloc _).below

set_option maxHeartbeats 2000000 in
set_option maxRecDepth 100000 in
theorem rlSelectSame_any (n : Int) (RA : Option Addr) (RC : Nat) (X : List RL.R) (i j : Int) (w : World) (hX : SlRs w.heap.size w RA X) (hXo : RsOk X) (hXl : X.length ≤ 60000) (hlen : ∀ x ∈ X, (x.length : Int) = n) :
    Calls Try.prog 35 #[.agg #[.int .i64 n, .slice RA X.length RC], .int .i64 i, .int .i64 j] w (SamePost w n X i j) := by
  cases hin : inBoth n i j
  · exact (rlSelectSame_range n RA X.length RC i j w hin).mono fun e w' ⟨h1, h2⟩ => ⟨fun _ => h1, (fun h => by rw [hin] at h; cases h), h2⟩
  have hin' := hin
  unfold inBoth at hin'
  simp only [Bool.and_eq_true, decide_eq_true_eq] at hin'
  have g1 : decide (i < 0) = false := by simp; omega
  have g2 : decide (n ≤ i) = false := by simp; omega
  have g3 : decide (j < 0) = false := by simp; omega
  have g4 : decide (n ≤ j) = false := by simp; omega
  obtain ⟨c, rfl⟩ := Int.eq_ofNat_of_zero_le (show 0 ≤ i by omega)
  obtain ⟨c2, rfl⟩ := Int.eq_ofNat_of_zero_le (show 0 ≤ j by omega)
  have HX := Lib.hid hX
  have HXO := Lib.hid hXo
  have HLEN := Lib.hid hlen
  have HIN := Lib.hid hin
  have HCN := Lib.hid (show (c : Int) < n ∧ (c2 : Int) < n by omega)
  clear hX hXo hlen hin hin'
  go_enter Try.func35, Try.ntmps35
  have HW : Hid (∃ W0, W0 = (((w.alloc (.cells #[.int .i64 n, .slice RA X.length RC] 29)).alloc (.cells #[.int .i64 c] 3)).alloc (.cells #[.int .i64 c2] 3)).alloc (.cells #[.int .i64 0, .slice none 0 0] 29) ∧ W0.heap.size = w.heap.size + 4 ∧ Ext w W0 ∧ Row W0 w.heap.size 29 [.int .i64 n, .slice RA X.length RC] ∧ Row W0 (w.heap.size + 1) 3 [.int .i64 c] ∧ Row W0 (w.heap.size + 2) 3 [.int .i64 c2] ∧ Row W0 (w.heap.size + 3) 29 [.int .i64 0, .slice none 0 0]) := by
    have q1 := (((Row.new w 29 [.int .i64 n, .slice RA X.length RC]).alloc (.cells #[.int .i64 c] 3)).alloc (.cells #[.int .i64 c2] 3)).alloc (.cells #[.int .i64 0, .slice none 0 0] 29)
    have q2 := ((Row.new (w.alloc (.cells #[.int .i64 n, .slice RA X.length RC] 29)) 3 [.int .i64 c]).alloc (.cells #[.int .i64 c2] 3)).alloc (.cells #[.int .i64 0, .slice none 0 0] 29)
    have q3 := (Row.new ((w.alloc (.cells #[.int .i64 n, .slice RA X.length RC] 29)).alloc (.cells #[.int .i64 c] 3)) 3 [.int .i64 c2]).alloc (.cells #[.int .i64 0, .slice none 0 0] 29)
    have q5 := Row.new (((w.alloc (.cells #[.int .i64 n, .slice RA X.length RC] 29)).alloc (.cells #[.int .i64 c] 3)).alloc (.cells #[.int .i64 c2] 3)) 29 [.int .i64 0, .slice none 0 0]
    simp only [World.size_alloc] at q2 q3 q5
    exact ⟨_, rfl, by simp only [World.size_alloc], ((((Ext.refl w).alloc _).alloc _).alloc _).alloc _, q1, q2, q3, q5⟩
  obtain ⟨w1, hW0, hz0, he0, q1, q2, q3, q5⟩ := HW.out
  have HE1 := Lib.hid he0
  have HQ1 := Lib.hid q1
  have HQ2 := Lib.hid q2
  have HQ3 := Lib.hid q3
  have HQ5 := Lib.hid q5
  clear q1 q2 q3 q5 he0
  have HFI := Lib.hid (rlFilter_any n RA RC X 68 #[.pointer (some ⟨w.heap.size + 1, 0, none⟩), .pointer (some ⟨w.heap.size + 2, 0, none⟩)]
    (fun x => RL.cmpV (x.getD (c : Int).toNat zV) (x.getD (c2 : Int).toNat zV) == 0) (fun b => b < w.heap.size ∨ w1.heap.size ≤ b) (w.heap.size + 1) (fun _ W => Row W (w.heap.size + 1) 3 [.int .i64 c] ∧ Row W (w.heap.size + 2) 3 [.int .i64 c2]) w1
    (enters_of Try.func68 (by kernel_rfl) rfl) (((HX.out.toP.keep (fun p hp _ => HE1.out.below.cell hp)).more HE1.out.size).weak (fun b _ h => .inl h)) (by omega) (fun b h => by omega) (fun b h => .inr h) (by omega)
    ⟨HQ2.out, HQ3.out⟩ (fun k W W' h hb hz => ⟨h.1.below hb (by omega), h.2.below hb (by omega)⟩)
    (fun k hk W A' C' hI hg hs => by
      have hl := HLEN.out X[k] (List.getElem_mem hk)
      have hc := HCN.out
      refine (rlSelectSame1_any (w.heap.size + 1) (w.heap.size + 2) A' C' X[k] c c2 W (hI.1.cell 0) (hI.2.cell 0) hs (by omega) (by omega) (HXO.out.at_ hk)).mono ?_
      rintro e W' ⟨rfl, hx⟩
      exact ⟨by simp, ⟨hI.1.below hx.below hI.1.lt, hI.2.below hx.below hI.2.lt⟩, hx.grown _⟩))
  go_wp2_with fail
  rw [← hW0]
  clear HW hW0
  refine HFI.out.mono ?_
  rintro e w2 ⟨rv, rfl, ⟨A5, C5, rfl, hc5, hm5, hs5⟩, hg2⟩
  obtain ⟨Y, hY⟩ : ∃ Y, Y = X.filter fun x => RL.cmpV (x.getD (c : Int).toNat zV) (x.getD (c2 : Int).toNat zV) == 0 := ⟨_, rfl⟩
  rw [← hY] at hs5 hc5
  rw [← hY]
  have HYE := Lib.hid hY
  have hb2 : Below w.heap.size w w2 := Below.then HE1.out.below (below_of_grown hg2 (show w.heap.size ≤ w.heap.size + 1 by omega) (by omega)) (Nat.le_refl _)
  have r5 := HQ5.out.grown hg2 (fun e => by injection e with e; omega)
  have e0 : w2.cell? ⟨w.heap.size + 3, 0, none⟩ = some (.int .i64 0) := r5.cell 0
  have e1 : w2.cell? ⟨w.heap.size + 3, 1, none⟩ = some (.slice none 0 0) := r5.cell 1
  have f20 := r5.frozen 0
  have f21 := r5.frozen 1
  have z0 : (w2.setCell ⟨w.heap.size + 3, 0, none⟩ (.int .i64 n)).cell? ⟨w.heap.size + 3, 0, none⟩ = some (.int .i64 n) := World.cell?_setCell_same _ _ _ e0
  have z1 : ((w2.setCell ⟨w.heap.size + 3, 0, none⟩ (.int .i64 n)).setCell ⟨w.heap.size + 3, 1, none⟩ (.slice A5 Y.length C5)).cell? ⟨w.heap.size + 3, 1, none⟩ = some (.slice A5 Y.length C5) := World.cell?_setCell_same _ _ _ ((World.cell?_setCell_other _ _ _ _ (by simp)).trans e1)
  have Z0 := Lib.hid z0
  have Z1 := Lib.hid z1
  have HS5 : Hid (SlRs w2.heap.size ((w2.setCell ⟨w.heap.size + 3, 0, none⟩ (.int .i64 n)).setCell ⟨w.heap.size + 3, 1, none⟩ (.slice A5 Y.length C5)) A5 Y) := (hs5.keep (fun p hp hne => by
    have hpn : p.block ≠ w.heap.size + 3 := by rcases hne with h | h <;> omega
    exact far_cell (p := ⟨w.heap.size + 3, 1, none⟩) (fun e => hpn e.symm) (far_cell (p := ⟨w.heap.size + 3, 0, none⟩) (fun e => hpn e.symm) rfl))).sl
  have HB2 := Lib.hid hb2
  clear hY hs5 z0 z1 hg2 hb2 r5 HFI
  go_wp2
  refine bodyPost_ret (v := .tuple #[.agg #[.int .i64 n, .slice A5 Y.length C5], .int .i64 0]) (by simp [results, Try.results35, go_sem, Z0.out, Z1.out]) rfl ⟨(fun h => by rw [HIN.out] at h; cases h), fun _ => ⟨_, rfl, ?_⟩, ?_⟩
  · unfold sameF
    rw [← HYE.out]
    exact ⟨A5, C5, rfl, hc5, hm5, by simpa using HS5.out⟩
  · exact (HB2.out.setCell (p := ⟨w.heap.size + 3, 0, none⟩) (show w.heap.size ≤ w.heap.size + 3 by omega) _).setCell (p := ⟨w.heap.size + 3, 1, none⟩) (show w.heap.size ≤ w.heap.size + 3 by omega) _

set_option maxHeartbeats 2000000 in
set_option maxRecDepth 100000 in
theorem r7Select_any (XA : Option Addr) (XC : Nat) (X : List RL.R) (c : Nat) (op : Int) (v : RL.V) (w : World) (hX : SlRs w.heap.size w XA X) (hXl : X.length ≤ 100000) (hXo : RsOk X) (hc : ∀ x ∈ X, c < x.length) (hvs : v.str.size ≤ 1000000000) :
    Calls Try.prog 37 #[.slice XA X.length XC, .int .i64 c, .int .i64 op, vv v] w fun e w' => ∃ rv, e = .returned rv ∧ RowsIs w' (selF X c op v) rv ∧ Below w.heap.size w w' := by
  have HX := Lib.hid hX
  have HXO := Lib.hid hXo
  have HCC := Lib.hid hc
  clear hX hXo hc
  go_enter Try.func37, Try.ntmps37
  have HQ0 := Lib.hid (Row.new w 70 [.int .i64 v.kind, .int .i64 v.int, .string v.str])
  have HB0 := Lib.hid ((Below.refl w.heap.size w).alloc (Nat.le_refl _) (.cells #[.int .i64 v.kind, .int .i64 v.int, .string v.str] 70))
  go_wp2
  generalize w.alloc (.cells #[.int .i64 v.kind, .int .i64 v.int, .string v.str] 70) = W0 at *
  go_loopw [9, 10] (fun u i wr => ∃ k : Nat, k ≤ X.length ∧ i = .int .i64 k ∧ OwnRs wr (w.heap.size + 1) 39 u ((X.take k).filter fun x => RL.holdsF op (RL.cmpV (x.getD (c : Int).toNat zV) v)) ∧ Row wr w.heap.size 70 [.int .i64 v.kind, .int .i64 v.int, .string v.str] ∧ Below w.heap.size w wr) (fun _ i _ => X.length - (intOf i).toNat)
  case atStart => exact ⟨0, Nat.zero_le _, rfl, OwnRs.nil _ _ _, HQ0.out, HB0.out⟩
  case round =>
    obtain ⟨k, hka, rfl, hown, hrw, hbel⟩ := hrel
    have HO := Lib.hid hown
    have HRW := Lib.hid hrw
    have HB := Lib.hid hbel
    have hzz := hbel.size
    have hz1 := hrw.lt
    have hfl := filt_take_le (fun x => RL.holdsF op (RL.cmpV (x.getD (c : Int).toNat zV) v)) X k
    clear hown HQ0 HB0
    by_cases h1 : k < X.length
    · obtain ⟨b, o, A1, C1, rfl, hb, c1, hcap, hcm, s1⟩ := slRs_at HX.out h1
      have d1 := (hbel.cell (p := ⟨b, o + k, none⟩) hb).trans c1
      have hck := HCC.out X[k] (List.getElem_mem h1)
      have s1' := s1.below hbel (Nat.le_refl _)
      have HS1 := Lib.hid s1'
      obtain ⟨b2, o2, e2, hb2, g1, g2, g3⟩ := slR_at s1' hck
      have HN := Lib.hid (filt_snoc (fun x => RL.holdsF op (RL.cmpV (x.getD (c : Int).toNat zV) v)) X k h1)
      have HG : Hid (X[k].getD (c : Int).toNat zV = X[k][c]) := by show _ = _; simp [List.getD, hck]
      have HOK := Lib.hid (HXO.out.at_ h1)
      have HC := Lib.hid (fun W => r1Holds_any X[k][c] v op W (HOK.out.2.at_ hck) hvs)
      clear c1 s1 hbel s1'
      generalize X[k][c] = z at g1 g2 g3 HG HC
      generalize X[k] = x at d1 HN HS1 hcap hck HOK HG
      subst e2
      generalize (X.take k).filter (fun x => RL.holdsF op (RL.cmpV (x.getD (c : Int).toNat zV) v)) = Fk at HO HN hfl
      have HN1 : Hid ((X.take (k + 1)).filter (fun x => RL.holdsF op (RL.cmpV (x.getD (c : Int).toNat zV) v)) = Fk ++ (if RL.holdsF op (RL.cmpV z v) = true then [x] else [])) := by
        have h := HN.out
        simp only [HG.out] at h
        exact h
      clear HN HG
      have v0 : wr.cell? ⟨w.heap.size, 0, none⟩ = some (.int .i64 v.kind) := hrw.cell 0
      have v1 : wr.cell? ⟨w.heap.size, 1, none⟩ = some (.int .i64 v.int) := hrw.cell 1
      have v2 : wr.cell? ⟨w.heap.size, 2, none⟩ = some (.string v.str) := hrw.cell 2
      have hxl := HOK.out.1
      have hbw : b < wr.heap.size := by omega
      have hb2w : b2 < wr.heap.size := by omega
      clear hrw
      go_wp2
      go_region_held3 (fun w' => w'.cell? ⟨w.heap.size, 0, none⟩ = some (.int .i64 v.kind) ∧ w'.cell? ⟨w.heap.size, 1, none⟩ = some (.int .i64 v.int) ∧ w'.cell? ⟨w.heap.size, 2, none⟩ = some (.string v.str) ∧ w'.cell? ⟨b, o + k, none⟩ = some (.slice (some ⟨b2, o2, none⟩) x.length C1) ∧ w'.cell? ⟨b2, o2 + c * 3, none⟩ = some (.int .i64 z.kind) ∧ w'.cell? ⟨b2, o2 + c * 3 + 1, none⟩ = some (.int .i64 z.int) ∧ w'.cell? ⟨b2, o2 + c * 3 + 2, none⟩ = some (.string z.str)) (first | exact KEEP | go_keep)
        (first | (go_at_call 70; refine (HC.out _).mono ?_; rintro e w1 ⟨rfl, hx1⟩
                  have HX1 := Lib.hid ((Ext.refl wr).drew.trans hx1)
                  have KEEP : w1.cell? ⟨w.heap.size, 0, none⟩ = some (.int .i64 v.kind) ∧ w1.cell? ⟨w.heap.size, 1, none⟩ = some (.int .i64 v.int) ∧ w1.cell? ⟨w.heap.size, 2, none⟩ = some (.string v.str) ∧ w1.cell? ⟨b, o + k, none⟩ = some (.slice (some ⟨b2, o2, none⟩) x.length C1) ∧ w1.cell? ⟨b2, o2 + c * 3, none⟩ = some (.int .i64 z.kind) ∧ w1.cell? ⟨b2, o2 + c * 3 + 1, none⟩ = some (.int .i64 z.int) ∧ w1.cell? ⟨b2, o2 + c * 3 + 2, none⟩ = some (.string z.str) := ⟨(hx1.cell hz1).trans v0, (hx1.cell hz1).trans v1, (hx1.cell hz1).trans v2, (hx1.cell hbw).trans d1, (hx1.cell hb2w).trans g1, (hx1.cell hb2w).trans g2, (hx1.cell hb2w).trans g3⟩
                  clear hx1)
               | fail)
      have d2 := KEEP.2.2.2.1
      have hx1 := HX1.out
      have HB1 := Lib.hid (Below.then HB.out hx1.below hzz)
      have HO1 := Lib.hid (HO.out.keep hx1.below)
      have HRW1 := Lib.hid (HRW.out.below hx1.below hz1)
      have HS2 := Lib.hid (HS1.out.below hx1.below hzz)
      have hw1 := hx1.size
      have hzw1 := HB1.out.size
      clear hx1 HC d1 HS1 HO KEEP v0 v1 v2 g1 g2 g3 HX1
      cases hq : RL.holdsF op (RL.cmpV z v)
      · have HN2 := Lib.hid (HN1.out.trans (by simp [hq] : _ = Fk))
        clear HN1 hq
        go_wp2
        go_roundw
        case rel => exact ⟨k + 1, by omega, by go_num, by rw [HN2.out]; exact HO1.out, HRW1.out, HB1.out⟩
        case measure => simp [intOf]; omega
      · have HN2 := Lib.hid (HN1.out.trans (by simp [hq] : _ = Fk ++ [x]))
        have HO2 := Lib.hid (HO1.out.keep ((Below.refl _ _).alloc (Nat.le_refl _) (.cells #[.slice (some ⟨b2, o2, none⟩) x.length C1] 39)))
        have HB2 := Lib.hid (HB1.out.alloc hzw1 (.cells #[.slice (some ⟨b2, o2, none⟩) x.length C1] 39))
        have HRW2 := Lib.hid (HRW1.out.alloc (.cells #[.slice (some ⟨b2, o2, none⟩) x.length C1] 39))
        clear hq HN1
        go_wp2_with (at_builtin; refine app1R7 rfl (.tmp 27) (.tmp 32) rfl (w.heap.size + 1) u9 Fk rfl HO2.out w1.heap.size (some ⟨b2, o2, none⟩) C1 x rfl (by go_simp) ((HS2.out.ext hzw1 ((Ext.refl _).alloc _)).more (by simp; omega)) hcap hcm (HS2.out.apart (fun g hg => by have := HO2.out.base g hg; omega)) (by omega) (by simp; omega) ?_
                     intro v4 w4 hown4 hg4
                     have HO4 := Lib.hid hown4
                     have HRW4 := Lib.hid (HRW2.out.grown hg4 (fun e => by have := HO2.out.base _ e.symm; omega))
                     have HB4 := Lib.hid (Below.then HB2.out (app_grown (B := w.heap.size) hg4 (fun g hg => by have := HO2.out.base g hg; omega) (by simp; omega)) (Nat.le_refl _))
                     clear hown4 hg4)
        go_roundw
        case rel => exact ⟨k + 1, by omega, by go_num, by rw [HN2.out]; exact HO4.out, HRW4.out, HB4.out⟩
        case measure => simp [intOf]; omega
    · have HT := Lib.hid (List.take_of_length_le (show X.length ≤ k by omega))
      rw [HT.out] at HO
      go_wp2
      go_ret
      exact ⟨_, rfl, HO.out.sl, hbel⟩

set_option maxHeartbeats 2000000 in
set_option maxRecDepth 100000 in
theorem r7SelectSame_any (XA : Option Addr) (XC : Nat) (X : List RL.R) (c c2 : Nat) (w : World) (hX : SlRs w.heap.size w XA X) (hXl : X.length ≤ 100000) (hXo : RsOk X) (hc : ∀ x ∈ X, c < x.length ∧ c2 < x.length) :
    Calls Try.prog 38 #[.slice XA X.length XC, .int .i64 c, .int .i64 c2] w fun e w' => ∃ rv, e = .returned rv ∧ RowsIs w' (sameF X c c2) rv ∧ Below w.heap.size w w' := by
  have HX := Lib.hid hX
  have HXO := Lib.hid hXo
  have HCC := Lib.hid hc
  clear hX hXo hc
  go_enter Try.func38, Try.ntmps38
  go_wp2
  go_loopw [7, 8] (fun u i wr => ∃ k : Nat, k ≤ X.length ∧ i = .int .i64 k ∧ OwnRs wr w.heap.size 39 u ((X.take k).filter fun x => RL.cmpV (x.getD (c : Int).toNat zV) (x.getD (c2 : Int).toNat zV) == 0) ∧ Below w.heap.size w wr) (fun _ i _ => X.length - (intOf i).toNat)
  case atStart => exact ⟨0, Nat.zero_le _, rfl, OwnRs.nil _ _ _, Below.refl _ _⟩
  case round =>
    obtain ⟨k, hka, rfl, hown, hbel⟩ := hrel
    have HO := Lib.hid hown
    have HB := Lib.hid hbel
    have hzz := hbel.size
    have hfl := filt_take_le (fun x => RL.cmpV (x.getD (c : Int).toNat zV) (x.getD (c2 : Int).toNat zV) == 0) X k
    clear hown
    by_cases h1 : k < X.length
    · obtain ⟨b, o, A1, C1, rfl, hb, c1, hcap, hcm, s1⟩ := slRs_at HX.out h1
      have d1 := (hbel.cell (p := ⟨b, o + k, none⟩) hb).trans c1
      obtain ⟨hck, hck2⟩ := HCC.out X[k] (List.getElem_mem h1)
      have s1' := s1.below hbel (Nat.le_refl _)
      have HS1 := Lib.hid s1'
      obtain ⟨b2, o2, e2, hb2, g1, g2, g3⟩ := slR_at s1' hck
      obtain ⟨b3, o3, e3, -, k1, k2, k3⟩ := slR_at s1' hck2
      rw [e2] at e3
      simp at e3
      obtain ⟨rfl, rfl⟩ := e3
      have HN := Lib.hid (filt_snoc (fun x => RL.cmpV (x.getD (c : Int).toNat zV) (x.getD (c2 : Int).toNat zV) == 0) X k h1)
      have HG : Hid (X[k].getD (c : Int).toNat zV = X[k][c] ∧ X[k].getD (c2 : Int).toNat zV = X[k][c2]) := ⟨by simp [List.getD, hck], by simp [List.getD, hck2]⟩
      have HOK := Lib.hid (HXO.out.at_ h1)
      have HC := Lib.hid (fun W => r1Compare_any X[k][c] X[k][c2] W (HOK.out.2.at_ hck) (HOK.out.2.at_ hck2))
      clear c1 s1 hbel s1'
      generalize X[k][c] = z at g1 g2 g3 HG HC
      generalize X[k][c2] = z2 at k1 k2 k3 HG HC
      generalize X[k] = x at d1 HN HS1 hcap hck hck2 HOK HG
      subst e2
      generalize (X.take k).filter (fun x => RL.cmpV (x.getD (c : Int).toNat zV) (x.getD (c2 : Int).toNat zV) == 0) = Fk at HO HN hfl
      have HN1 : Hid ((X.take (k + 1)).filter (fun x => RL.cmpV (x.getD (c : Int).toNat zV) (x.getD (c2 : Int).toNat zV) == 0) = Fk ++ (if (RL.cmpV z z2 == 0) = true then [x] else [])) := by
        have h := HN.out
        simp only [HG.out.1, HG.out.2] at h
        exact h
      clear HN HG
      have hxl := HOK.out.1
      have hbw : b < wr.heap.size := by omega
      have hb2w : b2 < wr.heap.size := by omega
      generalize RL.cmpV z z2 = q at *
      go_wp2
      go_region_held3 (fun w' => w'.cell? ⟨b, o + k, none⟩ = some (.slice (some ⟨b2, o2, none⟩) x.length C1) ∧ w'.cell? ⟨b2, o2 + c * 3, none⟩ = some (.int .i64 z.kind) ∧ w'.cell? ⟨b2, o2 + c * 3 + 1, none⟩ = some (.int .i64 z.int) ∧ w'.cell? ⟨b2, o2 + c * 3 + 2, none⟩ = some (.string z.str) ∧ w'.cell? ⟨b2, o2 + c2 * 3, none⟩ = some (.int .i64 z2.kind) ∧ w'.cell? ⟨b2, o2 + c2 * 3 + 1, none⟩ = some (.int .i64 z2.int) ∧ w'.cell? ⟨b2, o2 + c2 * 3 + 2, none⟩ = some (.string z2.str)) (first | exact KEEP | go_keep)
        (first | (go_at_call 67; refine (HC.out _).mono ?_; rintro e w1 ⟨rfl, hx1⟩
                  have HX1 := Lib.hid ((Ext.refl wr).drew.trans hx1)
                  have KEEP : w1.cell? ⟨b, o + k, none⟩ = some (.slice (some ⟨b2, o2, none⟩) x.length C1) ∧ w1.cell? ⟨b2, o2 + c * 3, none⟩ = some (.int .i64 z.kind) ∧ w1.cell? ⟨b2, o2 + c * 3 + 1, none⟩ = some (.int .i64 z.int) ∧ w1.cell? ⟨b2, o2 + c * 3 + 2, none⟩ = some (.string z.str) ∧ w1.cell? ⟨b2, o2 + c2 * 3, none⟩ = some (.int .i64 z2.kind) ∧ w1.cell? ⟨b2, o2 + c2 * 3 + 1, none⟩ = some (.int .i64 z2.int) ∧ w1.cell? ⟨b2, o2 + c2 * 3 + 2, none⟩ = some (.string z2.str) := ⟨(hx1.cell hbw).trans d1, (hx1.cell hb2w).trans g1, (hx1.cell hb2w).trans g2, (hx1.cell hb2w).trans g3, (hx1.cell hb2w).trans k1, (hx1.cell hb2w).trans k2, (hx1.cell hb2w).trans k3⟩
                  clear hx1)
               | fail)
      have d2 := KEEP.1
      have hx1 := HX1.out
      have HB1 := Lib.hid (Below.then HB.out hx1.below hzz)
      have HO1 := Lib.hid (HO.out.keep hx1.below)
      have HS2 := Lib.hid (HS1.out.below hx1.below hzz)
      have hw1 := hx1.size
      have hzw1 := HB1.out.size
      clear hx1 HC d1 HS1 HO KEEP g1 g2 g3 HX1 k1 k2 k3
      cases hq : (q == 0)
      · have HN2 := Lib.hid (HN1.out.trans (by simp [hq] : _ = Fk))
        clear HN1
        go_wp2
        go_roundw
        case rel => exact ⟨k + 1, by omega, by go_num, by rw [HN2.out]; exact HO1.out, HB1.out⟩
        case measure => simp [intOf]; omega
      · have HN2 := Lib.hid (HN1.out.trans (by simp [hq] : _ = Fk ++ [x]))
        have HO2 := Lib.hid (HO1.out.keep ((Below.refl _ _).alloc (Nat.le_refl _) (.cells #[.slice (some ⟨b2, o2, none⟩) x.length C1] 39)))
        have HB2 := Lib.hid (HB1.out.alloc hzw1 (.cells #[.slice (some ⟨b2, o2, none⟩) x.length C1] 39))
        clear HN1
        go_wp2_with (at_builtin; refine app1R7 rfl (.tmp 31) (.tmp 36) rfl w.heap.size u7 Fk rfl HO2.out w1.heap.size (some ⟨b2, o2, none⟩) C1 x rfl (by go_simp) ((HS2.out.ext hzw1 ((Ext.refl _).alloc _)).more (by simp; omega)) hcap hcm (HS2.out.apart HO2.out.base) (by omega) (by simp; omega) ?_
                     intro v4 w4 hown4 hg4
                     have HO4 := Lib.hid hown4
                     have HB4 := Lib.hid (Below.then HB2.out (app_grown (B := w.heap.size) hg4 HO2.out.base (by simp; omega)) (Nat.le_refl _))
                     clear hown4 hg4)
        go_roundw
        case rel => exact ⟨k + 1, by omega, by go_num, by rw [HN2.out]; exact HO4.out, HB4.out⟩
        case measure => simp [intOf]; omega
    · have HT := Lib.hid (List.take_of_length_le (show X.length ≤ k by omega))
      rw [HT.out] at HO
      go_wp2
      go_ret
      exact ⟨_, rfl, HO.out.sl, hbel⟩

end Go.Proofs.Ytiopkooigeaneaa

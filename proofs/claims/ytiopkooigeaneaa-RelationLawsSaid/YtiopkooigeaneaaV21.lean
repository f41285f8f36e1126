/- Walks: relation's Select and SelectSame. -/
import Derived.Test.YtiopkooigeaneaaV20
import Derived.Test.YtiopkooigeaneaaV14
namespace Go.Proofs.Ytiopkooigeaneaa
open Go.RowKit Go.Sort

theorem cell_lt {w : World} {b o : Nat} {v : Value} (h : w.cell? ⟨b, o, none⟩ = some v) : b < w.heap.size := by
  rcases Nat.lt_or_ge b w.heap.size with hlt | hge
  · exact hlt
  · simp [World.cell?, Array.getElem?_eq_none hge] at h

set_option maxHeartbeats 400000 in
set_option maxRecDepth 100000 in
theorem rlSelect1_any (p1 p2 p3 : Nat) (A : Option Addr) (C : Nat) (x : RL.R) (c : Nat) (op : Int) (v : RL.V) (W : World)
    (h1 : W.cell? ⟨p1, 0, none⟩ = some (.int .i64 c)) (h2 : W.cell? ⟨p2, 0, none⟩ = some (.int .i64 op))
    (h30 : W.cell? ⟨p3, 0, none⟩ = some (.int .i64 v.kind)) (h31 : W.cell? ⟨p3, 1, none⟩ = some (.int .i64 v.int)) (h32 : W.cell? ⟨p3, 2, none⟩ = some (.string v.str))
    (hx : SlR W.heap.size W A x) (hc : c < x.length) (hxo : ROk x) (h0 : 0 ≤ op) (h5 : op ≤ 5) (hvs : v.str.size ≤ 1000000000) (hvx : RL.validV x[c] = true) (hvv : RL.validV v = true) :
    Calls Try.prog 66 #[.slice A x.length C, .pointer (some ⟨p1, 0, none⟩), .pointer (some ⟨p2, 0, none⟩), .pointer (some ⟨p3, 0, none⟩)] W fun e w' => e = .returned (.bool (RL.holdsF op (RL.cmpV (x.getD c zV) v))) ∧ Ext W w' := by
  obtain ⟨b, o, rfl, hb, c1, c2, c3⟩ := slR_at hx hc
  have HC := Lib.hid (fun W' => vHolds_ok x[c] v op W' h0 h5 (by have := hxo.2.at_ hc; omega) (by omega) hvx hvv)
  have hxl := hxo.1
  have HG : Hid (x.getD c zV = x[c]) := by show _ = _; simp [List.getD, hc]
  clear hx hxo hvx hvv
  generalize x[c] = z at *
  rw [HG.out]
  generalize RL.holdsF op (RL.cmpV z v) = q at *
  go_enter Try.func66, Try.ntmps66
  go_wp2
  have l1 := cell_lt h1
  have l2 := cell_lt h2
  have l3 := cell_lt h30
  go_region_held3 (fun w' => w'.cell? ⟨p1, 0, none⟩ = some (.int .i64 c) ∧ w'.cell? ⟨p2, 0, none⟩ = some (.int .i64 op) ∧ w'.cell? ⟨p3, 0, none⟩ = some (.int .i64 v.kind) ∧ w'.cell? ⟨p3, 1, none⟩ = some (.int .i64 v.int) ∧ w'.cell? ⟨p3, 2, none⟩ = some (.string v.str) ∧ w'.cell? ⟨b, o + c * 3, none⟩ = some (.int .i64 z.kind) ∧ w'.cell? ⟨b, o + c * 3 + 1, none⟩ = some (.int .i64 z.int) ∧ w'.cell? ⟨b, o + c * 3 + 2, none⟩ = some (.string z.str)) (first | exact KEEP | go_keep)
    (first | (go_at_call 64; refine (HC.out _).mono ?_; rintro e w' ⟨rfl, hx⟩
              have KEEP : w'.cell? ⟨p1, 0, none⟩ = some (.int .i64 c) ∧ w'.cell? ⟨p2, 0, none⟩ = some (.int .i64 op) ∧ w'.cell? ⟨p3, 0, none⟩ = some (.int .i64 v.kind) ∧ w'.cell? ⟨p3, 1, none⟩ = some (.int .i64 v.int) ∧ w'.cell? ⟨p3, 2, none⟩ = some (.string v.str) ∧ w'.cell? ⟨b, o + c * 3, none⟩ = some (.int .i64 z.kind) ∧ w'.cell? ⟨b, o + c * 3 + 1, none⟩ = some (.int .i64 z.int) ∧ w'.cell? ⟨b, o + c * 3 + 2, none⟩ = some (.string z.str) := ⟨(hx.cell l1).trans h1, (hx.cell l2).trans h2, (hx.cell l3).trans h30, (hx.cell l3).trans h31, (hx.cell l3).trans h32, (hx.cell hb).trans c1, (hx.cell hb).trans c2, (hx.cell hb).trans c3⟩)
           | fail)
  go_wp2
  go_ret
  exact ⟨rfl, (Ext.refl _).drew.trans hx⟩

set_option maxHeartbeats 400000 in
set_option maxRecDepth 100000 in
theorem rlSelectSame1_any (p1 p2 : Nat) (A : Option Addr) (C : Nat) (x : RL.R) (i j : Nat) (W : World)
    (h1 : W.cell? ⟨p1, 0, none⟩ = some (.int .i64 i)) (h2 : W.cell? ⟨p2, 0, none⟩ = some (.int .i64 j))
    (hx : SlR W.heap.size W A x) (hi : i < x.length) (hj : j < x.length) (hxo : ROk x) :
    Calls Try.prog 68 #[.slice A x.length C, .pointer (some ⟨p1, 0, none⟩), .pointer (some ⟨p2, 0, none⟩)] W fun e w' => e = .returned (.bool (RL.cmpV (x.getD i zV) (x.getD j zV) == 0)) ∧ Ext W w' := by
  obtain ⟨b, o, rfl, hb, c1, c2, c3⟩ := slR_at hx hi
  obtain ⟨b', o', e, -, d1, d2, d3⟩ := slR_at hx hj
  simp at e
  obtain ⟨rfl, rfl⟩ := e
  have HC := Lib.hid (fun W' => vCompare_any x[i] x[j] W')
  have hxl := hxo.1
  have HG : Hid (x.getD i zV = x[i] ∧ x.getD j zV = x[j]) := ⟨by simp [List.getD, hi], by simp [List.getD, hj]⟩
  clear hx hxo
  generalize x[i] = z at *
  generalize x[j] = z2 at *
  rw [HG.out.1, HG.out.2]
  generalize RL.cmpV z z2 = q at *
  go_enter Try.func68, Try.ntmps68
  go_wp2
  go_still_tail 8, (by kernel_rfl)
  go_wp2_with (go_at_call 69; refine (HC.out _).mono ?_; rintro e w' ⟨rfl, hx⟩)
  go_ret
  exact ⟨rfl, (Ext.refl _).drew.trans hx⟩

/-- What Select answers as its error. -/
def selErr (n col op : Int) (v : RL.V) : Int := if 0 ≤ col ∧ col < n then (if op < 0 ∨ 5 < op then 2 else if RL.validV v = true then 0 else 4) else 3
/-- The rows that a selection keeps. -/
def selF (X : List RL.R) (c op : Int) (v : RL.V) : List RL.R := X.filter fun x => RL.holdsF op (RL.cmpV (x.getD c.toNat zV) v)
/-- What relation's Select leaves. -/
def SelPost (P : Nat → Prop) (w : World) (n : Int) (X : List RL.R) (col op : Int) (v : RL.V) (e : Ending) (w' : World) : Prop :=
  ∃ rv, e = .returned (.tuple #[rv, .int .i64 (selErr n col op v)]) ∧ (selErr n col op v ≠ 0 → rv = .agg #[.int .i64 0, .slice none 0 0]) ∧ (selErr n col op v = 0 → RelP P w' n (selF X col op v) rv) ∧ Below w.heap.size w w'

theorem holds_self (v : RL.V) (op : Int) (w : World) (hvs : v.str.size ≤ 1000000000) : Calls Try.prog 64 #[vv v, .int .i64 op, vv v] w fun e w' => ∃ b, e = .returned (.tuple #[.bool b, .int .i64 (if op < 0 ∨ 5 < op then 2 else if RL.validV v = true then 0 else 4)]) ∧ Ext w w' := by
  by_cases h : op < 0 ∨ 5 < op
  · rw [if_pos h]
    exact (vHolds_kind v v op w h).mono fun e w' ⟨h1, h2⟩ => ⟨false, h1, h2⟩
  · rw [if_neg h]
    cases hv : RL.validV v
    · exact (vHolds_value v v op w (by omega) (by omega) (by omega) (by omega) (by rw [hv]; rfl)).mono fun e w' ⟨h1, h2⟩ => ⟨false, h1, h2⟩
    · exact (vHolds_ok v v op w (by omega) (by omega) (by omega) (by omega) hv hv).mono fun e w' ⟨h1, h2⟩ => ⟨_, h1, h2⟩

theorem rlSelect_range (n : Int) (RA : Option Addr) (l RC : Nat) (col op : Int) (v : RL.V) (w : World) (h : col < 0 ∨ n ≤ col) :
    Calls Try.prog 33 #[.agg #[.int .i64 n, .slice RA l RC], .int .i64 col, .int .i64 op, vv v] w fun e w' => e = .returned (.tuple #[.agg #[.int .i64 0, .slice none 0 0], .int .i64 3]) ∧ Below w.heap.size w w' := by
  by_cases h1 : col < 0
  · go_enter Try.func33, Try.ntmps33
    go_wp2
    refine bodyPost_ret (v := .tuple #[.agg #[.int .i64 0, .slice none 0 0], .int .i64 3]) (by simp [results, Try.results33, go_sem]) rfl ⟨rfl, ?_⟩
    exact ((((((Ext.refl w).alloc _).alloc _).alloc _).alloc _).alloc _).below
  · have h2 : decide (n ≤ col) = true := by simp; omega
    have h3 : decide (col < 0) = false := by simpa using h1
    clear h h1
    go_enter Try.func33, Try.ntmps33
    go_wp2
    refine bodyPost_ret (v := .tuple #[.agg #[.int .i64 0, .slice none 0 0], .int .i64 3]) (by simp [results, Try.results33, go_sem]) rfl ⟨rfl, ?_⟩
    exact ((((((Ext.refl w).alloc _).alloc _).alloc _).alloc _).alloc _).below

set_option maxHeartbeats 2000000 in
set_option maxRecDepth 100000 in
theorem rlSelect_P (P : Nat → Prop) (n : Int) (RA : Option Addr) (RC : Nat) (X : List RL.R) (col op : Int) (v : RL.V) (w : World) (hX : SlRsP P w.heap.size w RA X) (hPn : ∀ b, w.heap.size ≤ b → P b) (hXo : RsOk X) (hXl : X.length ≤ 60000) (hlen : ∀ x ∈ X, (x.length : Int) = n) (hval : ∀ x ∈ X, x.all RL.validV = true) (hvs : v.str.size ≤ 1000000000) :
    Calls Try.prog 33 #[.agg #[.int .i64 n, .slice RA X.length RC], .int .i64 col, .int .i64 op, vv v] w (SelPost P w n X col op v) := by
  by_cases hr : col < 0 ∨ n ≤ col
  · have he : selErr n col op v = 3 := by unfold selErr; rw [if_neg (by omega)]
    refine (rlSelect_range n RA X.length RC col op v w hr).mono fun e w' ⟨h1, h2⟩ => ⟨_, by rw [h1, he], fun _ => rfl, fun h => by rw [he] at h; omega, h2⟩
  have he : selErr n col op v = if op < 0 ∨ 5 < op then 2 else if RL.validV v = true then 0 else 4 := by unfold selErr; rw [if_pos (by omega)]
  have g1 : decide (col < 0) = false := by simp; omega
  have g2 : decide (n ≤ col) = false := by simp; omega
  obtain ⟨c, rfl⟩ := Int.eq_ofNat_of_zero_le (show 0 ≤ col by omega)
  have HX := Lib.hid hX
  have HPN := Lib.hid hPn
  have HXO := Lib.hid hXo
  have HLEN := Lib.hid hlen
  have HVAL := Lib.hid hval
  have HERR := Lib.hid he
  have HCN := Lib.hid (show (c : Int) < n by omega)
  clear hX hXo hlen hval he hr hPn
  go_enter Try.func33, Try.ntmps33
  have HW : Hid (∃ W0, W0 = ((((w.alloc (.cells #[.int .i64 n, .slice RA X.length RC] 29)).alloc (.cells #[.int .i64 c] 3)).alloc (.cells #[.int .i64 op] 3)).alloc (.cells #[.int .i64 v.kind, .int .i64 v.int, .string v.str] 60)).alloc (.cells #[.int .i64 0, .slice none 0 0] 29) ∧ W0.heap.size = w.heap.size + 5 ∧ Ext w W0 ∧ Row W0 w.heap.size 29 [.int .i64 n, .slice RA X.length RC] ∧ Row W0 (w.heap.size + 1) 3 [.int .i64 c] ∧ Row W0 (w.heap.size + 2) 3 [.int .i64 op] ∧ Row W0 (w.heap.size + 3) 60 [.int .i64 v.kind, .int .i64 v.int, .string v.str] ∧ Row W0 (w.heap.size + 4) 29 [.int .i64 0, .slice none 0 0]) := by
    have q1 := ((((Row.new w 29 [.int .i64 n, .slice RA X.length RC]).alloc (.cells #[.int .i64 c] 3)).alloc (.cells #[.int .i64 op] 3)).alloc (.cells #[.int .i64 v.kind, .int .i64 v.int, .string v.str] 60)).alloc (.cells #[.int .i64 0, .slice none 0 0] 29)
    have q2 := (((Row.new (w.alloc (.cells #[.int .i64 n, .slice RA X.length RC] 29)) 3 [.int .i64 c]).alloc (.cells #[.int .i64 op] 3)).alloc (.cells #[.int .i64 v.kind, .int .i64 v.int, .string v.str] 60)).alloc (.cells #[.int .i64 0, .slice none 0 0] 29)
    have q3 := ((Row.new ((w.alloc (.cells #[.int .i64 n, .slice RA X.length RC] 29)).alloc (.cells #[.int .i64 c] 3)) 3 [.int .i64 op]).alloc (.cells #[.int .i64 v.kind, .int .i64 v.int, .string v.str] 60)).alloc (.cells #[.int .i64 0, .slice none 0 0] 29)
    have q4 := (Row.new (((w.alloc (.cells #[.int .i64 n, .slice RA X.length RC] 29)).alloc (.cells #[.int .i64 c] 3)).alloc (.cells #[.int .i64 op] 3)) 60 [.int .i64 v.kind, .int .i64 v.int, .string v.str]).alloc (.cells #[.int .i64 0, .slice none 0 0] 29)
    have q5 := Row.new ((((w.alloc (.cells #[.int .i64 n, .slice RA X.length RC] 29)).alloc (.cells #[.int .i64 c] 3)).alloc (.cells #[.int .i64 op] 3)).alloc (.cells #[.int .i64 v.kind, .int .i64 v.int, .string v.str] 60)) 29 [.int .i64 0, .slice none 0 0]
    simp only [World.size_alloc] at q2 q3 q4 q5
    exact ⟨_, rfl, by simp only [World.size_alloc], (((((Ext.refl w).alloc _).alloc _).alloc _).alloc _).alloc _, q1, q2, q3, q4, q5⟩
  obtain ⟨W0, hW0, hz0, he0, q1, q2, q3, q4, q5⟩ := HW.out
  have HOLDS := Lib.hid (fun W => holds_self v op W hvs)
  go_wp2_with fail
  rw [← hW0]
  clear HW hW0
  refine (HOLDS.out W0).mono ?_
  rintro e w1 ⟨bb, rfl, hx1⟩
  have HE1 := Lib.hid (he0.trans hx1)
  have HQ1 := Lib.hid (q1.below hx1.below (by omega))
  have HQ2 := Lib.hid (q2.below hx1.below (by omega))
  have HQ3 := Lib.hid (q3.below hx1.below (by omega))
  have HQ4 := Lib.hid (q4.below hx1.below (by omega))
  have HQ5 := Lib.hid (q5.below hx1.below (by omega))
  have hz1 : w.heap.size + 5 ≤ w1.heap.size := by have := hx1.size; omega
  clear hx1 q1 q2 q3 q4 q5 HOLDS he0
  rw [← HERR.out]
  have d0 : w1.cell? ⟨w.heap.size + 4, 0, none⟩ = some (.int .i64 0) := HQ5.out.cell 0
  have d1 : w1.cell? ⟨w.heap.size + 4, 1, none⟩ = some (.slice none 0 0) := HQ5.out.cell 1
  have f0 := HQ5.out.frozen 0
  have f1 := HQ5.out.frozen 1
  by_cases hq : selErr n c op v = 0
  rotate_left
  · have hq2 : (selErr n c op v != 0) = true := by simpa using hq
    have HQ := Lib.hid hq
    clear hq HERR
    obtain ⟨q, hqe⟩ : ∃ q, q = selErr n c op v := ⟨_, rfl⟩
    rw [← hqe] at hq2
    rw [← hqe]
    have HQE := Lib.hid hqe
    clear hqe
    go_wp2
    refine bodyPost_ret (v := .tuple #[.agg #[.int .i64 0, .slice none 0 0], .int .i64 q]) (by simp [results, Try.results33, go_sem, d0, d1]) rfl ⟨_, by rw [← HQE.out], fun _ => rfl, fun h => absurd h HQ.out, ?_⟩
    exact (HE1.out.below.setCell (p := ⟨w.heap.size + 4, 0, none⟩) (show w.heap.size ≤ w.heap.size + 4 by omega) _).setCell (p := ⟨w.heap.size + 4, 1, none⟩) (show w.heap.size ≤ w.heap.size + 4 by omega) _
  · have hop : ¬ (op < 0 ∨ 5 < op) := fun h => by rw [HERR.out, if_pos h] at hq; omega
    have hvv : RL.validV v = true := by
      rw [HERR.out, if_neg hop] at hq
      cases hv : RL.validV v
      · rw [hv] at hq; simp at hq
      · rfl
    rw [hq]
    have HQ := Lib.hid hq
    have n0 : w1.cell? ⟨w.heap.size, 0, none⟩ = some (.int .i64 n) := HQ1.out.cell 0
    have n1 : w1.cell? ⟨w.heap.size, 1, none⟩ = some (.slice RA X.length RC) := HQ1.out.cell 1
    have HFI := Lib.hid (rlFilter_any n RA RC X 66 #[.pointer (some ⟨w.heap.size + 1, 0, none⟩), .pointer (some ⟨w.heap.size + 2, 0, none⟩), .pointer (some ⟨w.heap.size + 3, 0, none⟩)]
      (fun x => RL.holdsF op (RL.cmpV (x.getD (c : Int).toNat zV) v)) (fun b => P b ∧ (b < w.heap.size ∨ w1.heap.size ≤ b)) (w.heap.size + 1) (fun _ W => Row W (w.heap.size + 1) 3 [.int .i64 c] ∧ Row W (w.heap.size + 2) 3 [.int .i64 op] ∧ Row W (w.heap.size + 3) 60 [.int .i64 v.kind, .int .i64 v.int, .string v.str]) w1
      (enters_of Try.func66 (by kernel_rfl) rfl) (((HX.out.keep (w' := w1) (fun p hp _ => HE1.out.below.cell hp)).weak (P' := fun b => P b ∧ (b < w.heap.size ∨ w1.heap.size ≤ b)) (fun b hb h => ⟨h, .inl hb⟩)).more HE1.out.size) (by omega) (fun b h => by omega) (fun b h => ⟨HPN.out b (by omega), .inr h⟩) (by omega)
      ⟨HQ2.out, HQ3.out, HQ4.out⟩ (fun k W W' h hb hz => ⟨h.1.below hb (by omega), h.2.1.below hb (by omega), h.2.2.below hb (by omega)⟩)
      (fun k hk W A' C' hI hg hs => by
        have hl := HLEN.out X[k] (List.getElem_mem hk)
        have hc := HCN.out
        have hck : c < X[k].length := by omega
        have hv := List.all_eq_true.1 (HVAL.out X[k] (List.getElem_mem hk)) _ (List.getElem_mem hck)
        refine (rlSelect1_any (w.heap.size + 1) (w.heap.size + 2) (w.heap.size + 3) A' C' X[k] c op v W (hI.1.cell 0) (hI.2.1.cell 0) (hI.2.2.cell 0) (hI.2.2.cell 1) (hI.2.2.cell 2) hs hck (HXO.out.at_ hk) (by omega) (by omega) hvs hv hvv).mono ?_
        rintro e W' ⟨rfl, hx⟩
        exact ⟨by simp, ⟨hI.1.below hx.below hI.1.lt, hI.2.1.below hx.below hI.2.1.lt, hI.2.2.below hx.below hI.2.2.lt⟩, hx.grown _⟩))
    clear HERR hq hop hvv
    go_wp2_with fail
    refine HFI.out.mono ?_
    rintro e w2 ⟨rv, rfl, ⟨A5, C5, rfl, hc5, hm5, hs5⟩, hg2⟩
    obtain ⟨Y, hY⟩ : ∃ Y, Y = X.filter fun x => RL.holdsF op (RL.cmpV (x.getD (c : Int).toNat zV) v) := ⟨_, rfl⟩
    rw [← hY] at hs5 hc5
    rw [← hY]
    have HYE := Lib.hid hY
    have hb2 : Below w.heap.size w w2 := Below.then HE1.out.below (below_of_grown hg2 (show w.heap.size ≤ w.heap.size + 1 by omega) (by omega)) (Nat.le_refl _)
    have r5 := HQ5.out.grown hg2 (fun e => by injection e with e; omega)
    have e0 : w2.cell? ⟨w.heap.size + 4, 0, none⟩ = some (.int .i64 0) := r5.cell 0
    have e1 : w2.cell? ⟨w.heap.size + 4, 1, none⟩ = some (.slice none 0 0) := r5.cell 1
    have f20 := r5.frozen 0
    have f21 := r5.frozen 1
    have z0 : (w2.setCell ⟨w.heap.size + 4, 0, none⟩ (.int .i64 n)).cell? ⟨w.heap.size + 4, 0, none⟩ = some (.int .i64 n) := World.cell?_setCell_same _ _ _ e0
    have z1 : ((w2.setCell ⟨w.heap.size + 4, 0, none⟩ (.int .i64 n)).setCell ⟨w.heap.size + 4, 1, none⟩ (.slice A5 Y.length C5)).cell? ⟨w.heap.size + 4, 1, none⟩ = some (.slice A5 Y.length C5) := World.cell?_setCell_same _ _ _ ((World.cell?_setCell_other _ _ _ _ (by simp)).trans e1)
    have Z0 := Lib.hid z0
    have Z1 := Lib.hid z1
    have HS5 : Hid (SlRsP P w2.heap.size ((w2.setCell ⟨w.heap.size + 4, 0, none⟩ (.int .i64 n)).setCell ⟨w.heap.size + 4, 1, none⟩ (.slice A5 Y.length C5)) A5 Y) := (hs5.keep (fun p hp hne => by
      have hpn : p.block ≠ w.heap.size + 4 := by rcases hne.2 with h | h <;> omega
      exact far_cell (p := ⟨w.heap.size + 4, 1, none⟩) (fun e => hpn e.symm) (far_cell (p := ⟨w.heap.size + 4, 0, none⟩) (fun e => hpn e.symm) rfl))).weak (fun b _ h => h.1)
    have HB2 := Lib.hid hb2
    clear hY hs5 z0 z1 hg2 hb2 r5 HFI d0 d1 f0 f1 n0 n1
    go_wp2
    refine bodyPost_ret (v := .tuple #[.agg #[.int .i64 n, .slice A5 Y.length C5], .int .i64 0]) (by simp [results, Try.results33, go_sem, Z0.out, Z1.out]) rfl ⟨_, by rw [HQ.out], fun h => absurd HQ.out h, fun _ => ?_, ?_⟩
    · unfold selF
      rw [← HYE.out]
      exact ⟨A5, C5, rfl, hc5, hm5, by simpa using HS5.out⟩
    · exact (HB2.out.setCell (p := ⟨w.heap.size + 4, 0, none⟩) (show w.heap.size ≤ w.heap.size + 4 by omega) _).setCell (p := ⟨w.heap.size + 4, 1, none⟩) (show w.heap.size ≤ w.heap.size + 4 by omega) _

theorem rlSelect_any (n : Int) (RA : Option Addr) (RC : Nat) (X : List RL.R) (col op : Int) (v : RL.V) (w : World) (hX : SlRs w.heap.size w RA X) (hXo : RsOk X) (hXl : X.length ≤ 60000) (hlen : ∀ x ∈ X, (x.length : Int) = n) (hval : ∀ x ∈ X, x.all RL.validV = true) (hvs : v.str.size ≤ 1000000000) :
    Calls Try.prog 33 #[.agg #[.int .i64 n, .slice RA X.length RC], .int .i64 col, .int .i64 op, vv v] w (SelPost (fun _ => True) w n X col op v) :=
  rlSelect_P (fun _ => True) n RA RC X col op v w (hX.toP.weak fun _ _ _ => trivial) (fun _ _ => trivial) hXo hXl hlen hval hvs

end Go.Proofs.Ytiopkooigeaneaa

/- Walks: relation's member, Intersect, Minus. -/
import Derived.Test.YtiomelogggilgaaHV27
import Derived.Test.YtiomelogggilgaaQ3
import Derived.Deep.RegionHeld3
namespace Go.Proofs.Ytiomelogggilgaa
open Go.RowKit Go.Sort

set_option maxHeartbeats 400000 in
set_option maxRecDepth 100000 in
theorem rlMember_any (n : Int) (YA : Option Addr) (YC l : Nat) (wt : Bool) (w : World) :
    Calls Try.prog 50 #[.agg #[.int .i64 n, .slice YA l YC], .bool wt] w fun e w' => ∃ cb g2, e = .returned (.func (.func 69) #[] #[.pointer (some ⟨cb, 0, none⟩), .pointer (some ⟨g2, 0, none⟩)]) ∧ Row w' cb 32 [.slice YA l YC] ∧ Row w' g2 4 [.bool wt] ∧ w.heap.size ≤ cb ∧ w.heap.size ≤ g2 ∧ g2 ≠ cb ∧ Ext w w' := by
  go_enter Try.func50, Try.ntmps50
  go_wp2
  go_ret
  refine ⟨w.heap.size + 2, w.heap.size + 1, rfl, ?_, ?_, by omega, by omega, by omega, ((((Ext.refl w).alloc _).alloc _).alloc _)⟩
  · have h := Row.new ((w.alloc (.cells #[.int .i64 n, .slice YA l YC] 48)).alloc (.cells #[.bool wt] 4)) 32 [.slice YA l YC]
    simp only [World.size_alloc] at h
    exact h
  · have h := (Row.new (w.alloc (.cells #[.int .i64 n, .slice YA l YC] 48)) 4 [.bool wt]).alloc (.cells #[.slice YA l YC] 32)
    simp only [World.size_alloc] at h
    exact h

/-- What Intersect and Minus leave: the rows of X that are, or are not, in Y. -/
def BothPost (P : Nat → Prop) (w : World) (n : Int) (X Y : List RL.R) (wt : Bool) (e : Ending) (w' : World) : Prop :=
  ∃ v, e = .returned (.tuple #[v, .int .i64 0]) ∧ RelP P w' n (X.filter fun x => decide (x ∈ Y) == wt) v ∧ Below w.heap.size w w'

/-- The filter of Intersect and Minus. -/
theorem both_filter (P : Nat → Prop) (n : Int) (RA YA : Option Addr) (RC YC : Nat) (X Y : List RL.R) (wt : Bool) (w0 B : Nat) (cb g2 : Nat) (w1 : World)
    (hX : SlRsP P w0 w1 RA X) (hY : SlRsP P w0 w1 YA Y) (hPn : ∀ b, w0 ≤ b → P b) (hB : w0 ≤ B) (hcb : B ≤ cb) (_hg2 : B ≤ g2) (hne : g2 ≠ cb) (hr1 : Row w1 cb 32 [.slice YA Y.length YC]) (hr2 : Row w1 g2 4 [.bool wt])
    (hXo : RsOk X) (hYo : RsOk Y) (hXl : X.length ≤ 60000) (hYl : Y.length ≤ 60000) (hXS : RL.SS X) (hYS : RL.SS Y) (hYc : Y.length ≤ YC) (hYm : YC ≤ 9223372036854775807) :
    Calls Try.prog 49 #[.agg #[.int .i64 n, .slice RA X.length RC], .func (.func 69) #[] #[.pointer (some ⟨cb, 0, none⟩), .pointer (some ⟨g2, 0, none⟩)]] w1 fun e w' => ∃ v, e = .returned v ∧ RelP (fun b => P b ∧ (b < w0 ∨ w1.heap.size ≤ b)) w' n (X.filter fun x => decide (x ∈ Y) == wt) v ∧ w1.grownBy w' (some cb) := by
  have hz1 := hr1.lt
  have hz2 := hr2.lt
  refine rlFilter_P n RA RC X 69 #[.pointer (some ⟨cb, 0, none⟩), .pointer (some ⟨g2, 0, none⟩)] (fun x => decide (x ∈ Y) == wt) (fun b => P b ∧ (b < w0 ∨ w1.heap.size ≤ b)) cb
    (fun k W => ∃ A C j, Row W cb 32 [.slice A (Y.drop j).length C] ∧ (Y.drop j).length ≤ C ∧ C ≤ 9223372036854775807 ∧ SlRsP (fun b => P b ∧ (b < w0 ∨ w1.heap.size ≤ b)) w1.heap.size W A (Y.drop j) ∧ j ≤ Y.length ∧ Row W g2 4 [.bool wt] ∧ ∀ y ∈ Y.take j, ∀ x ∈ X.drop k, RL.cmpR y x < 0) w1
    (enters_of Try.func69 (by kernel_rfl) rfl) ((hX.weak (fun b hb h => ⟨h, .inl hb⟩)).more (by omega)) (by omega) (fun b h => by omega) (fun b h => ⟨hPn b (by omega), .inr h⟩) hz1
    ⟨YA, YC, 0, hr1, hYc, hYm, (hY.weak (fun b hb h => ⟨h, .inl hb⟩)).more (by omega), Nat.zero_le _, hr2, fun y hy => by simp at hy⟩ ?_ ?_
  · rintro k W W' ⟨A, C, j, h1, h2, h3, h4, h5, h6, h7⟩ hb hz
    exact ⟨A, C, j, h1.below hb hz1, h2, h3, h4.below hb (Nat.le_refl _), h5, h6.below hb hz2, h7⟩
  · rintro k hk W A' C' ⟨A, C, j, h1, h2, h3, h4, h5, h6, h7⟩ hg hr
    have hM : MemR cb g2 wt (fun b => P b ∧ (b < w0 ∨ w1.heap.size ≤ b)) w1.heap.size Y X[k] W := ⟨A, C, j, h1, h2, h3, h4, h5, h6, fun y hy => h7 y hy _ (RL.mem_drop_self hk)⟩
    refine (rlMember1_any cb g2 wt _ w1.heap.size Y X[k] A' C' W hM (fun b h => by omega) hg.size hr (hXo.at_ hk).1 hYo (by omega) hYS hne).mono ?_
    rintro e W' ⟨rfl, ⟨A2, C2, j2, k1, k2, k3, k4, k5, k6, k7⟩, hg'⟩
    exact ⟨rfl, ⟨A2, C2, j2, k1, k2, k3, k4, k5, k6, fun y hy => RL.below_next hXS hk (k7 y hy)⟩, hg'⟩

set_option maxHeartbeats 2000000 in
set_option maxRecDepth 100000 in
theorem rlIntersect_P (P : Nat → Prop) (n : Int) (RA YA : Option Addr) (RC YC : Nat) (X Y : List RL.R) (w : World) (hX : SlRsP P w.heap.size w RA X) (hY : SlRsP P w.heap.size w YA Y) (hPn : ∀ b, w.heap.size ≤ b → P b) (hXo : RsOk X) (hYo : RsOk Y) (hXl : X.length ≤ 60000) (hYl : Y.length ≤ 60000) (hXS : RL.SS X) (hYS : RL.SS Y) (hYc : Y.length ≤ YC) (hYm : YC ≤ 9223372036854775807) :
    Calls Try.prog 27 #[.agg #[.int .i64 n, .slice RA X.length RC], .agg #[.int .i64 n, .slice YA Y.length YC]] w (BothPost P w n X Y true) := by
  have HX := Lib.hid hX
  have HY := Lib.hid hY
  have HPN := Lib.hid hPn
  have HXO := Lib.hid hXo
  have HYO := Lib.hid hYo
  have HXS := Lib.hid hXS
  have HYS := Lib.hid hYS
  clear hX hY hPn hXo hYo hXS hYS
  go_enter Try.func27, Try.ntmps27
  have HW : Hid (∃ W0, W0 = ((w.alloc (.cells #[.int .i64 n, .slice RA X.length RC] 48)).alloc (.cells #[.int .i64 n, .slice YA Y.length YC] 48)).alloc (.cells #[.int .i64 0, .slice none 0 0] 48) ∧ W0.heap.size = w.heap.size + 3 ∧ Ext w W0 ∧ Row W0 w.heap.size 48 [.int .i64 n, .slice RA X.length RC] ∧ Row W0 (w.heap.size + 1) 48 [.int .i64 n, .slice YA Y.length YC] ∧ Row W0 (w.heap.size + 2) 48 [.int .i64 0, .slice none 0 0]) := by
    have q1 := ((Row.new w 48 [.int .i64 n, .slice RA X.length RC]).alloc (.cells #[.int .i64 n, .slice YA Y.length YC] 48)).alloc (.cells #[.int .i64 0, .slice none 0 0] 48)
    have q2 := (Row.new (w.alloc (.cells #[.int .i64 n, .slice RA X.length RC] 48)) 48 [.int .i64 n, .slice YA Y.length YC]).alloc (.cells #[.int .i64 0, .slice none 0 0] 48)
    have q3 := Row.new ((w.alloc (.cells #[.int .i64 n, .slice RA X.length RC] 48)).alloc (.cells #[.int .i64 n, .slice YA Y.length YC] 48)) 48 [.int .i64 0, .slice none 0 0]
    simp only [World.size_alloc] at q2 q3
    exact ⟨_, rfl, by simp only [World.size_alloc], ((Ext.refl w).alloc _).alloc _ |>.alloc _, q1, q2, q3⟩
  obtain ⟨W0, hW0, hz0, he0, q1, q2, q3⟩ := HW.out
  have HZ0 := Lib.hid hz0
  have HE0 := Lib.hid he0
  have HQ1 := Lib.hid q1
  have HQ2 := Lib.hid q2
  have HQ3 := Lib.hid q3
  have hzle : w.heap.size + 3 ≤ W0.heap.size := by omega
  clear hz0 he0
  go_wp2
  rw [← hW0]
  clear HW hW0
  have a0 : W0.cell? ⟨w.heap.size, 0, none⟩ = some (.int .i64 n) := q1.cell 0
  have a1 : W0.cell? ⟨w.heap.size, 1, none⟩ = some (.slice RA X.length RC) := q1.cell 1
  have b0 : W0.cell? ⟨w.heap.size + 1, 0, none⟩ = some (.int .i64 n) := q2.cell 0
  have b1 : W0.cell? ⟨w.heap.size + 1, 1, none⟩ = some (.slice YA Y.length YC) := q2.cell 1
  clear q1 q2 q3
  have HM := Lib.hid (fun W => rlMember_any n YA YC Y.length true W)
  go_region_held3 (fun w' => w'.cell? ⟨w.heap.size, 0, none⟩ = some (.int .i64 n) ∧ w'.cell? ⟨w.heap.size, 1, none⟩ = some (.slice RA X.length RC) ∧ w'.cell? ⟨w.heap.size + 1, 0, none⟩ = some (.int .i64 n) ∧ w'.cell? ⟨w.heap.size + 1, 1, none⟩ = some (.slice YA Y.length YC)) (first | exact KEEP2 | exact KEEP | exact HK3.out _ _ | go_keep)
    (first
      | (go_at_call 50; refine (HM.out _).mono ?_; rintro e w1 ⟨cb, g2, rfl, hr1, hr2, hcb, hg2, hne, hx1⟩
         have HX1 := Lib.hid ((Ext.refl W0).drew.trans hx1)
         have HR1 := Lib.hid hr1
         have HR2 := Lib.hid hr2
         have hcb' : W0.heap.size ≤ cb := hcb
         have hg2' : W0.heap.size ≤ g2 := hg2
         have HNE := Lib.hid hne
         have KEEP : w1.cell? ⟨w.heap.size, 0, none⟩ = some (.int .i64 n) ∧ w1.cell? ⟨w.heap.size, 1, none⟩ = some (.slice RA X.length RC) ∧ w1.cell? ⟨w.heap.size + 1, 0, none⟩ = some (.int .i64 n) ∧ w1.cell? ⟨w.heap.size + 1, 1, none⟩ = some (.slice YA Y.length YC) := ⟨(HQ1.out.up HX1.out.below).cell 0, (HQ1.out.up HX1.out.below).cell 1, (HQ2.out.up HX1.out.below).cell 0, (HQ2.out.up HX1.out.below).cell 1⟩
         clear hcb hg2 hne hx1 hr1 hr2)
      | (go_at_call 49; refine (both_filter P n RA YA RC YC X Y true w.heap.size W0.heap.size cb g2 w1 (HX.out.below (HE0.out.trans HX1.out).below (Nat.le_refl _)) (HY.out.below (HE0.out.trans HX1.out).below (Nat.le_refl _)) HPN.out (by omega) hcb' hg2' HNE.out HR1.out HR2.out HXO.out HYO.out hXl hYl HXS.out HYS.out hYc hYm).mono ?_
         rintro e w2 ⟨rv, rfl, ⟨A5, C5, rfl, hc5, hm5, hs5⟩, hg3⟩
         have r3 := ((HQ3.out.up HX1.out.below).grown hg3 (fun e => by injection e with e; omega))
         have r1 := ((HQ1.out.up HX1.out.below).grown hg3 (fun e => by injection e with e; omega))
         have r2 := ((HQ2.out.up HX1.out.below).grown hg3 (fun e => by injection e with e; omega))
         have HB2 := Lib.hid (Below.then (HE0.out.trans HX1.out).below (below_of_grown hg3 (show w.heap.size ≤ cb by omega) (HE0.out.trans HX1.out).size) (Nat.le_refl _))
         have e0 : w2.cell? ⟨w.heap.size + 2, 0, none⟩ = some (.int .i64 0) := r3.cell 0
         have e1 : w2.cell? ⟨w.heap.size + 2, 1, none⟩ = some (.slice none 0 0) := r3.cell 1
         have f0 := r3.frozen 0
         have f1 := r3.frozen 1
         have HR3 := Lib.hid r3
         have HS5 := Lib.hid hs5
         have KEEP2 : w2.cell? ⟨w.heap.size, 0, none⟩ = some (.int .i64 n) ∧ w2.cell? ⟨w.heap.size, 1, none⟩ = some (.slice RA X.length RC) ∧ w2.cell? ⟨w.heap.size + 1, 0, none⟩ = some (.int .i64 n) ∧ w2.cell? ⟨w.heap.size + 1, 1, none⟩ = some (.slice YA Y.length YC) := ⟨r1.cell 0, r1.cell 1, r2.cell 0, r2.cell 1⟩
         have KEEP3 : ∀ u v, ((w2.setCell ⟨w.heap.size + 1 + 1, 0, none⟩ u).setCell ⟨w.heap.size + 1 + 1, 1, none⟩ v).cell? ⟨w.heap.size, 0, none⟩ = some (.int .i64 n) ∧ ((w2.setCell ⟨w.heap.size + 1 + 1, 0, none⟩ u).setCell ⟨w.heap.size + 1 + 1, 1, none⟩ v).cell? ⟨w.heap.size, 1, none⟩ = some (.slice RA X.length RC) ∧ ((w2.setCell ⟨w.heap.size + 1 + 1, 0, none⟩ u).setCell ⟨w.heap.size + 1 + 1, 1, none⟩ v).cell? ⟨w.heap.size + 1, 0, none⟩ = some (.int .i64 n) ∧ ((w2.setCell ⟨w.heap.size + 1 + 1, 0, none⟩ u).setCell ⟨w.heap.size + 1 + 1, 1, none⟩ v).cell? ⟨w.heap.size + 1, 1, none⟩ = some (.slice YA Y.length YC) := fun u v => ⟨far_cell (by show w.heap.size + 1 + 1 ≠ w.heap.size; omega) (far_cell (by show w.heap.size + 1 + 1 ≠ w.heap.size; omega) KEEP2.1), far_cell (by show w.heap.size + 1 + 1 ≠ w.heap.size; omega) (far_cell (by show w.heap.size + 1 + 1 ≠ w.heap.size; omega) KEEP2.2.1), far_cell (by show w.heap.size + 1 + 1 ≠ w.heap.size + 1; omega) (far_cell (by show w.heap.size + 1 + 1 ≠ w.heap.size + 1; omega) KEEP2.2.2.1), far_cell (by show w.heap.size + 1 + 1 ≠ w.heap.size + 1; omega) (far_cell (by show w.heap.size + 1 + 1 ≠ w.heap.size + 1; omega) KEEP2.2.2.2)⟩
         have HK3 := Lib.hid KEEP3
         clear KEEP3
         obtain ⟨Z, hZ⟩ : ∃ Z, Z = X.filter fun x => decide (x ∈ Y) == true := ⟨_, rfl⟩
         rw [← hZ] at HS5 hc5
         rw [← hZ]
         have HZ := Lib.hid hZ
         clear hZ hs5 hg3 r1 r2 r3)
      | fail)
  go_wp2
  refine bodyPost_ret (v := .tuple #[.agg #[.int .i64 n, .slice A5 Z.length C5], .int .i64 0]) ?_ rfl ⟨_, rfl, ?_, ?_⟩
  · have h := HR3.out.set2 (.int .i64 n) (.slice A5 Z.length C5)
    have z0 := h.cell 0
    have z1 := h.cell 1
    simp only [List.getElem?_cons_zero, List.getElem?_cons_succ] at z0 z1
    simp [results, Try.results27, go_sem, z0, z1]
  · rw [← HZ.out]
    refine ⟨A5, C5, rfl, hc5, hm5, ?_⟩
    have hx1 := HX1.out.size
    have h := (HS5.out.keep (w' := (w2.setCell ⟨w.heap.size + 2, 0, none⟩ (.int .i64 n)).setCell ⟨w.heap.size + 2, 1, none⟩ (.slice A5 Z.length C5)) (fun p hp hne => by
      have hpn : p.block ≠ w.heap.size + 2 := by rcases hne.2 with h | h <;> omega
      exact far_cell (p := ⟨w.heap.size + 2, 1, none⟩) (fun e => hpn e.symm) (far_cell (p := ⟨w.heap.size + 2, 0, none⟩) (fun e => hpn e.symm) rfl))).weak (P' := P) (fun b _ h => h.1)
    simpa using h
  · exact (HB2.out.setCell (p := ⟨w.heap.size + 2, 0, none⟩) (show w.heap.size ≤ w.heap.size + 2 by omega) _).setCell (p := ⟨w.heap.size + 2, 1, none⟩) (show w.heap.size ≤ w.heap.size + 2 by omega) _

theorem rlIntersect_arity (n m : Int) (RA YA : Option Addr) (RC YC k l : Nat) (w : World) (h : n ≠ m) :
    Calls Try.prog 27 #[.agg #[.int .i64 n, .slice RA k RC], .agg #[.int .i64 m, .slice YA l YC]] w fun e w' => e = .returned (.tuple #[.agg #[.int .i64 0, .slice none 0 0], .int .i64 6]) ∧ Below w.heap.size w w' := by
  have h1 : (n != m) = true := by simpa using h
  clear h
  go_enter Try.func27, Try.ntmps27
  go_wp2
  refine bodyPost_ret (v := .tuple #[.agg #[.int .i64 0, .slice none 0 0], .int .i64 6]) (by simp [results, Try.results27, go_sem]) rfl ⟨rfl, ?_⟩
  exact ((((Ext.refl w).alloc _).alloc _).alloc _).below
end Go.Proofs.Ytiomelogggilgaa

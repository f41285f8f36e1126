/- The functions of the law RelationLaws, and the laws of sets. -/
import Derived.Test.YtiopkooigeaneaaV31
import Derived.Test.YtiopkooigeaneaaM8
namespace Go.Proofs.Ytiopkooigeaneaa
open Go.RowKit Go.Sort

theorem rlUnion_allP (P : Nat → Prop) (n : Int) (RA YA : Option Addr) (RC YC : Nat) (X Y : List RL.R) (w : World) (hX : SlRsP P w.heap.size w RA X) (hY : SlRsP P w.heap.size w YA Y) (hPn : ∀ b, w.heap.size ≤ b → P b) (hXo : RelOk X) (hYo : RelOk Y) (hl : X.length + Y.length ≤ 60000) (hYc : Y.length ≤ YC) (hYm : YC ≤ 9223372036854775807) :
    Calls Try.prog 43 #[.agg #[.int .i64 n, .slice RA X.length RC], .agg #[.int .i64 n, .slice YA Y.length YC]] w fun e w' => ∃ A C, e = .returned (.tuple #[.agg #[.int .i64 n, .slice A (unionF X Y).length C], .int .i64 0]) ∧ SlRsP P w'.heap.size w' A (unionF X Y) ∧ (unionF X Y).length ≤ C ∧ C ≤ 9223372036854775807 ∧ Below w.heap.size w w' := by
  refine (rlUnion_P P n RA YA RC YC X Y w hX hY hPn hXo.2 hYo.2 hl hXo.1 hYo.1 hYc hYm).mono ?_
  rintro e w' ⟨v, Z, rfl, ⟨A, C, rfl, h1, h2, h3⟩, hs, hm, -, hb⟩
  obtain rfl : Z = unionF X Y := RL.SS.ext hs (unionF_ss Y hXo.1) (fun r => by rw [hm, mem_unionF'])
  exact ⟨A, C, rfl, h3, h1, h2, hb⟩
theorem rlIntersect_allP (P : Nat → Prop) (n : Int) (RA YA : Option Addr) (RC YC : Nat) (X Y : List RL.R) (w : World) (hX : SlRsP P w.heap.size w RA X) (hY : SlRsP P w.heap.size w YA Y) (hPn : ∀ b, w.heap.size ≤ b → P b) (hXo : RelOk X) (hYo : RelOk Y) (hl : X.length + Y.length ≤ 60000) (hYc : Y.length ≤ YC) (hYm : YC ≤ 9223372036854775807) :
    Calls Try.prog 45 #[.agg #[.int .i64 n, .slice RA X.length RC], .agg #[.int .i64 n, .slice YA Y.length YC]] w fun e w' => ∃ A C, e = .returned (.tuple #[.agg #[.int .i64 n, .slice A (bothF X Y false).length C], .int .i64 0]) ∧ SlRsP P w'.heap.size w' A (bothF X Y false) ∧ (bothF X Y false).length ≤ C ∧ C ≤ 9223372036854775807 ∧ Below w.heap.size w w' := by
  refine (rlIntersect_P P n RA YA RC YC X Y w hX hY hPn hXo.2 hYo.2 (by omega) (by omega) hXo.1 hYo.1 hYc hYm).mono ?_
  rintro e w' ⟨v, rfl, ⟨A, C, rfl, h1, h2, h3⟩, hb⟩
  rw [bothF_eq] at h1 h3 ⊢
  exact ⟨A, C, rfl, h3, h1, h2, hb⟩
theorem rlMinus_allP (P : Nat → Prop) (n : Int) (RA YA : Option Addr) (RC YC : Nat) (X Y : List RL.R) (w : World) (hX : SlRsP P w.heap.size w RA X) (hY : SlRsP P w.heap.size w YA Y) (hPn : ∀ b, w.heap.size ≤ b → P b) (hXo : RelOk X) (hYo : RelOk Y) (hl : X.length + Y.length ≤ 60000) (hYc : Y.length ≤ YC) (hYm : YC ≤ 9223372036854775807) :
    Calls Try.prog 47 #[.agg #[.int .i64 n, .slice RA X.length RC], .agg #[.int .i64 n, .slice YA Y.length YC]] w fun e w' => ∃ A C, e = .returned (.tuple #[.agg #[.int .i64 n, .slice A (bothF X Y true).length C], .int .i64 0]) ∧ SlRsP P w'.heap.size w' A (bothF X Y true) ∧ (bothF X Y true).length ≤ C ∧ C ≤ 9223372036854775807 ∧ Below w.heap.size w w' := by
  refine (rlMinus_P P n RA YA RC YC X Y w hX hY hPn hXo.2 hYo.2 (by omega) (by omega) hXo.1 hYo.1 hYc hYm).mono ?_
  rintro e w' ⟨v, rfl, ⟨A, C, rfl, h1, h2, h3⟩, hb⟩
  rw [bothF_eq] at h1 h3 ⊢
  exact ⟨A, C, rfl, h3, h1, h2, hb⟩

set_option maxHeartbeats 1000000 in
set_option maxRecDepth 100000 in
theorem l7Laws1_any (n : Int) (RA YA : Option Addr) (RC YC : Nat) (X Y : List RL.R) (w : World) (hX : RelV w n X RA RC) (hY : RelV w n Y YA YC) (hXo : RelOk X) (hYo : RelOk Y) (hl : X.length + Y.length ≤ 60000) :
    Calls Try.prog 42 #[.agg #[.int .i64 n, .slice RA X.length RC], .agg #[.int .i64 n, .slice YA Y.length YC]] w fun e w' => ∃ A C, e = .returned (.agg #[.int .i64 n, .slice A (unionF X Y).length C]) ∧ RelV w' n (unionF X Y) A C ∧ Below w.heap.size w w' := by
  have HXO := Lib.hid hXo
  have HYO := Lib.hid hYo
  have HX := Lib.hid hX
  have HY := Lib.hid hY
  clear hXo hYo hX hY
  go_enter Try.func42, Try.ntmps42
  have HW : Hid (∃ W0, W0 = ((w.alloc (.cells #[.int .i64 n, .slice RA X.length RC] 29)).alloc (.cells #[.int .i64 n, .slice YA Y.length YC] 29)).alloc (.cells #[.int .i64 0, .slice none 0 0] 29) ∧ W0.heap.size = w.heap.size + 3 ∧ Ext w W0 ∧ Row W0 (w.heap.size + 2) 29 [.int .i64 0, .slice none 0 0]) := by
    have q3 := Row.new ((w.alloc (.cells #[.int .i64 n, .slice RA X.length RC] 29)).alloc (.cells #[.int .i64 n, .slice YA Y.length YC] 29)) 29 [.int .i64 0, .slice none 0 0]
    simp only [World.size_alloc] at q3
    exact ⟨_, rfl, by simp only [World.size_alloc], ((Ext.refl w).alloc _).alloc _ |>.alloc _, q3⟩
  obtain ⟨W0, hW0, hz0, he0, q3⟩ := HW.out
  have hzle : w.heap.size + 3 ≤ W0.heap.size := by omega
  have HE0 := Lib.hid he0
  have HQ3 := Lib.hid q3
  have HC := Lib.hid (rlUnion_allP (fun b => b ≠ w.heap.size + 2) n RA YA RC YC X Y W0 (((HX.out.1.toP.weak (P' := fun b => b ≠ w.heap.size + 2) (fun b hb _ => by show _ ≠ _; omega)).below he0.below (Nat.le_refl _)).more he0.size) (((HY.out.1.toP.weak (P' := fun b => b ≠ w.heap.size + 2) (fun b hb _ => by show _ ≠ _; omega)).below he0.below (Nat.le_refl _)).more he0.size) (fun b hb => by show _ ≠ _; omega) HXO.out HYO.out hl HY.out.2.1 HY.out.2.2)
  clear hz0 he0 q3
  go_wp2_with fail
  rw [← hW0]
  clear HW hW0
  refine HC.out.mono ?_
  rintro e w1 ⟨A, C, rfl, hs, hc1, hc2, hb⟩
  obtain ⟨Z, hZ⟩ : ∃ Z, Z = unionF X Y := ⟨_, rfl⟩
  rw [← hZ] at hs hc1
  rw [← hZ]
  have HZ := Lib.hid hZ
  have hq3 := HQ3.out.up hb
  have e0 : w1.cell? ⟨w.heap.size + 2, 0, none⟩ = some (.int .i64 0) := hq3.cell 0
  have e1 : w1.cell? ⟨w.heap.size + 2, 1, none⟩ = some (.slice none 0 0) := hq3.cell 1
  have f0 := hq3.frozen 0
  have f1 := hq3.frozen 1
  have hlt := hq3.lt
  have HQ := Lib.hid hq3
  have HS := Lib.hid hs
  have HB := Lib.hid (Below.then HE0.out.below hb HE0.out.size)
  clear hZ hs hb hq3 HC
  go_wp2
  have h := (HQ.out.set2 (.int .i64 n) (.slice A Z.length C)).alloc (.cells #[.int .i64 n, .slice A Z.length C] 29)
  refine bodyPost_ret (v := .agg #[.int .i64 n, .slice A Z.length C]) ?_ rfl ⟨A, C, by rw [← HZ.out], ⟨?_, by rw [← HZ.out]; exact hc1, hc2⟩, ?_⟩
  · have z0 := h.cell 0
    have z1 := h.cell 1
    simp only [List.getElem?_cons_zero, List.getElem?_cons_succ] at z0 z1
    simp [results, Try.results42, go_sem, z0, z1]
  · rw [← HZ.out]
    have h2 := HS.out.keep (w' := ((w1.setCell ⟨w.heap.size + 2, 0, none⟩ (.int .i64 n)).setCell ⟨w.heap.size + 2, 1, none⟩ (.slice A Z.length C)).alloc (.cells #[.int .i64 n, .slice A Z.length C] 29)) (fun p hp hne => (World.cell?_alloc_lt _ _ p (by simpa using hp)).trans (far_cell (p := ⟨w.heap.size + 2, 1, none⟩) (fun e => hne e.symm) (far_cell (p := ⟨w.heap.size + 2, 0, none⟩) (fun e => hne e.symm) rfl)))
    exact (h2.more (by simp)).sl
  · exact ((HB.out.setCell (p := ⟨w.heap.size + 2, 0, none⟩) (show w.heap.size ≤ w.heap.size + 2 by omega) _).setCell (p := ⟨w.heap.size + 2, 1, none⟩) (show w.heap.size ≤ w.heap.size + 2 by omega) _).alloc (by have := HB.out.size; simpa using this) _
set_option maxHeartbeats 1000000 in
set_option maxRecDepth 100000 in
theorem l7Laws2_any (n : Int) (RA YA : Option Addr) (RC YC : Nat) (X Y : List RL.R) (w : World) (hX : RelV w n X RA RC) (hY : RelV w n Y YA YC) (hXo : RelOk X) (hYo : RelOk Y) (hl : X.length + Y.length ≤ 60000) :
    Calls Try.prog 44 #[.agg #[.int .i64 n, .slice RA X.length RC], .agg #[.int .i64 n, .slice YA Y.length YC]] w fun e w' => ∃ A C, e = .returned (.agg #[.int .i64 n, .slice A (bothF X Y false).length C]) ∧ RelV w' n (bothF X Y false) A C ∧ Below w.heap.size w w' := by
  have HXO := Lib.hid hXo
  have HYO := Lib.hid hYo
  have HX := Lib.hid hX
  have HY := Lib.hid hY
  clear hXo hYo hX hY
  go_enter Try.func44, Try.ntmps44
  have HW : Hid (∃ W0, W0 = ((w.alloc (.cells #[.int .i64 n, .slice RA X.length RC] 29)).alloc (.cells #[.int .i64 n, .slice YA Y.length YC] 29)).alloc (.cells #[.int .i64 0, .slice none 0 0] 29) ∧ W0.heap.size = w.heap.size + 3 ∧ Ext w W0 ∧ Row W0 (w.heap.size + 2) 29 [.int .i64 0, .slice none 0 0]) := by
    have q3 := Row.new ((w.alloc (.cells #[.int .i64 n, .slice RA X.length RC] 29)).alloc (.cells #[.int .i64 n, .slice YA Y.length YC] 29)) 29 [.int .i64 0, .slice none 0 0]
    simp only [World.size_alloc] at q3
    exact ⟨_, rfl, by simp only [World.size_alloc], ((Ext.refl w).alloc _).alloc _ |>.alloc _, q3⟩
  obtain ⟨W0, hW0, hz0, he0, q3⟩ := HW.out
  have hzle : w.heap.size + 3 ≤ W0.heap.size := by omega
  have HE0 := Lib.hid he0
  have HQ3 := Lib.hid q3
  have HC := Lib.hid (rlIntersect_allP (fun b => b ≠ w.heap.size + 2) n RA YA RC YC X Y W0 (((HX.out.1.toP.weak (P' := fun b => b ≠ w.heap.size + 2) (fun b hb _ => by show _ ≠ _; omega)).below he0.below (Nat.le_refl _)).more he0.size) (((HY.out.1.toP.weak (P' := fun b => b ≠ w.heap.size + 2) (fun b hb _ => by show _ ≠ _; omega)).below he0.below (Nat.le_refl _)).more he0.size) (fun b hb => by show _ ≠ _; omega) HXO.out HYO.out hl HY.out.2.1 HY.out.2.2)
  clear hz0 he0 q3
  go_wp2_with fail
  rw [← hW0]
  clear HW hW0
  refine HC.out.mono ?_
  rintro e w1 ⟨A, C, rfl, hs, hc1, hc2, hb⟩
  obtain ⟨Z, hZ⟩ : ∃ Z, Z = bothF X Y false := ⟨_, rfl⟩
  rw [← hZ] at hs hc1
  rw [← hZ]
  have HZ := Lib.hid hZ
  have hq3 := HQ3.out.up hb
  have e0 : w1.cell? ⟨w.heap.size + 2, 0, none⟩ = some (.int .i64 0) := hq3.cell 0
  have e1 : w1.cell? ⟨w.heap.size + 2, 1, none⟩ = some (.slice none 0 0) := hq3.cell 1
  have f0 := hq3.frozen 0
  have f1 := hq3.frozen 1
  have hlt := hq3.lt
  have HQ := Lib.hid hq3
  have HS := Lib.hid hs
  have HB := Lib.hid (Below.then HE0.out.below hb HE0.out.size)
  clear hZ hs hb hq3 HC
  go_wp2
  have h := (HQ.out.set2 (.int .i64 n) (.slice A Z.length C)).alloc (.cells #[.int .i64 n, .slice A Z.length C] 29)
  refine bodyPost_ret (v := .agg #[.int .i64 n, .slice A Z.length C]) ?_ rfl ⟨A, C, by rw [← HZ.out], ⟨?_, by rw [← HZ.out]; exact hc1, hc2⟩, ?_⟩
  · have z0 := h.cell 0
    have z1 := h.cell 1
    simp only [List.getElem?_cons_zero, List.getElem?_cons_succ] at z0 z1
    simp [results, Try.results44, go_sem, z0, z1]
  · rw [← HZ.out]
    have h2 := HS.out.keep (w' := ((w1.setCell ⟨w.heap.size + 2, 0, none⟩ (.int .i64 n)).setCell ⟨w.heap.size + 2, 1, none⟩ (.slice A Z.length C)).alloc (.cells #[.int .i64 n, .slice A Z.length C] 29)) (fun p hp hne => (World.cell?_alloc_lt _ _ p (by simpa using hp)).trans (far_cell (p := ⟨w.heap.size + 2, 1, none⟩) (fun e => hne e.symm) (far_cell (p := ⟨w.heap.size + 2, 0, none⟩) (fun e => hne e.symm) rfl)))
    exact (h2.more (by simp)).sl
  · exact ((HB.out.setCell (p := ⟨w.heap.size + 2, 0, none⟩) (show w.heap.size ≤ w.heap.size + 2 by omega) _).setCell (p := ⟨w.heap.size + 2, 1, none⟩) (show w.heap.size ≤ w.heap.size + 2 by omega) _).alloc (by have := HB.out.size; simpa using this) _
set_option maxHeartbeats 1000000 in
set_option maxRecDepth 100000 in
theorem l7Laws3_any (n : Int) (RA YA : Option Addr) (RC YC : Nat) (X Y : List RL.R) (w : World) (hX : RelV w n X RA RC) (hY : RelV w n Y YA YC) (hXo : RelOk X) (hYo : RelOk Y) (hl : X.length + Y.length ≤ 60000) :
    Calls Try.prog 46 #[.agg #[.int .i64 n, .slice RA X.length RC], .agg #[.int .i64 n, .slice YA Y.length YC]] w fun e w' => ∃ A C, e = .returned (.agg #[.int .i64 n, .slice A (bothF X Y true).length C]) ∧ RelV w' n (bothF X Y true) A C ∧ Below w.heap.size w w' := by
  have HXO := Lib.hid hXo
  have HYO := Lib.hid hYo
  have HX := Lib.hid hX
  have HY := Lib.hid hY
  clear hXo hYo hX hY
  go_enter Try.func46, Try.ntmps46
  have HW : Hid (∃ W0, W0 = ((w.alloc (.cells #[.int .i64 n, .slice RA X.length RC] 29)).alloc (.cells #[.int .i64 n, .slice YA Y.length YC] 29)).alloc (.cells #[.int .i64 0, .slice none 0 0] 29) ∧ W0.heap.size = w.heap.size + 3 ∧ Ext w W0 ∧ Row W0 (w.heap.size + 2) 29 [.int .i64 0, .slice none 0 0]) := by
    have q3 := Row.new ((w.alloc (.cells #[.int .i64 n, .slice RA X.length RC] 29)).alloc (.cells #[.int .i64 n, .slice YA Y.length YC] 29)) 29 [.int .i64 0, .slice none 0 0]
    simp only [World.size_alloc] at q3
    exact ⟨_, rfl, by simp only [World.size_alloc], ((Ext.refl w).alloc _).alloc _ |>.alloc _, q3⟩
  obtain ⟨W0, hW0, hz0, he0, q3⟩ := HW.out
  have hzle : w.heap.size + 3 ≤ W0.heap.size := by omega
  have HE0 := Lib.hid he0
  have HQ3 := Lib.hid q3
  have HC := Lib.hid (rlMinus_allP (fun b => b ≠ w.heap.size + 2) n RA YA RC YC X Y W0 (((HX.out.1.toP.weak (P' := fun b => b ≠ w.heap.size + 2) (fun b hb _ => by show _ ≠ _; omega)).below he0.below (Nat.le_refl _)).more he0.size) (((HY.out.1.toP.weak (P' := fun b => b ≠ w.heap.size + 2) (fun b hb _ => by show _ ≠ _; omega)).below he0.below (Nat.le_refl _)).more he0.size) (fun b hb => by show _ ≠ _; omega) HXO.out HYO.out hl HY.out.2.1 HY.out.2.2)
  clear hz0 he0 q3
  go_wp2_with fail
  rw [← hW0]
  clear HW hW0
  refine HC.out.mono ?_
  rintro e w1 ⟨A, C, rfl, hs, hc1, hc2, hb⟩
  obtain ⟨Z, hZ⟩ : ∃ Z, Z = bothF X Y true := ⟨_, rfl⟩
  rw [← hZ] at hs hc1
  rw [← hZ]
  have HZ := Lib.hid hZ
  have hq3 := HQ3.out.up hb
  have e0 : w1.cell? ⟨w.heap.size + 2, 0, none⟩ = some (.int .i64 0) := hq3.cell 0
  have e1 : w1.cell? ⟨w.heap.size + 2, 1, none⟩ = some (.slice none 0 0) := hq3.cell 1
  have f0 := hq3.frozen 0
  have f1 := hq3.frozen 1
  have hlt := hq3.lt
  have HQ := Lib.hid hq3
  have HS := Lib.hid hs
  have HB := Lib.hid (Below.then HE0.out.below hb HE0.out.size)
  clear hZ hs hb hq3 HC
  go_wp2
  have h := (HQ.out.set2 (.int .i64 n) (.slice A Z.length C)).alloc (.cells #[.int .i64 n, .slice A Z.length C] 29)
  refine bodyPost_ret (v := .agg #[.int .i64 n, .slice A Z.length C]) ?_ rfl ⟨A, C, by rw [← HZ.out], ⟨?_, by rw [← HZ.out]; exact hc1, hc2⟩, ?_⟩
  · have z0 := h.cell 0
    have z1 := h.cell 1
    simp only [List.getElem?_cons_zero, List.getElem?_cons_succ] at z0 z1
    simp [results, Try.results46, go_sem, z0, z1]
  · rw [← HZ.out]
    have h2 := HS.out.keep (w' := ((w1.setCell ⟨w.heap.size + 2, 0, none⟩ (.int .i64 n)).setCell ⟨w.heap.size + 2, 1, none⟩ (.slice A Z.length C)).alloc (.cells #[.int .i64 n, .slice A Z.length C] 29)) (fun p hp hne => (World.cell?_alloc_lt _ _ p (by simpa using hp)).trans (far_cell (p := ⟨w.heap.size + 2, 1, none⟩) (fun e => hne e.symm) (far_cell (p := ⟨w.heap.size + 2, 0, none⟩) (fun e => hne e.symm) rfl)))
    exact (h2.more (by simp)).sl
  · exact ((HB.out.setCell (p := ⟨w.heap.size + 2, 0, none⟩) (show w.heap.size ≤ w.heap.size + 2 by omega) _).setCell (p := ⟨w.heap.size + 2, 1, none⟩) (show w.heap.size ≤ w.heap.size + 2 by omega) _).alloc (by have := HB.out.size; simpa using this) _

theorem rlEqual_true (n : Int) (XA YA : Option Addr) (XC YC : Nat) (X Y : List RL.R) (w : World) (hX : RelV w n X XA XC) (hY : RelV w n Y YA YC) (hXo : RelOk X) (hl : X.length ≤ 60000) (h : X = Y) :
    Calls Try.prog 48 #[.agg #[.int .i64 n, .slice XA X.length XC], .agg #[.int .i64 n, .slice YA Y.length YC]] w fun e w' => e = .returned (.bool true) ∧ Below w.heap.size w w' := by
  subst h
  refine (rlEqual_any n n XA YA XC YC X X w hX.1 hY.1 (by omega) (by omega) hXo.2 hXo.2).mono fun e w' h => ⟨by rw [h.1]; simp, h.2.below⟩

section
variable {X Y Z : List RL.R} (hX : RelOk X) (hY : RelOk Y)
include hX hY
theorem union_comm : unionF X Y = unionF Y X := RL.SS.ext (unionF_ss Y hX.1) (unionF_ss X hY.1) fun r => by simp only [mem_unionF']; exact Or.comm
theorem meet_comm : bothF X Y false = bothF Y X false := RL.SS.ext (bothF_ss Y _ hX.1) (bothF_ss X _ hY.1) fun r => by simp only [mem_bothF]; simp [and_comm]
omit hY in
theorem union_assoc : unionF (unionF X Y) Z = unionF X (unionF Y Z) := RL.SS.ext (unionF_ss Z (unionF_ss Y hX.1)) (unionF_ss _ hX.1) fun r => by simp only [mem_unionF', or_assoc]
omit hY in
theorem meet_union : bothF X (unionF Y Z) false = unionF (bothF X Y false) (bothF X Z false) := RL.SS.ext (bothF_ss _ _ hX.1) (unionF_ss _ (bothF_ss Y _ hX.1)) fun r => by
  simp only [mem_unionF', mem_bothF]
  simp [mem_unionF', and_or_left]
end
theorem union_self {X : List RL.R} (hX : RelOk X) : unionF X X = X := RL.SS.ext (unionF_ss X hX.1) hX.1 fun r => by simp [mem_unionF']
theorem meet_self {X : List RL.R} (hX : RelOk X) : bothF X X false = X := RL.SS.ext (bothF_ss X _ hX.1) hX.1 fun r => by simp [mem_bothF]
theorem minus_meet {X Y : List RL.R} (hX : RelOk X) : unionF (bothF X Y true) (bothF X Y false) = X := RL.SS.ext (unionF_ss _ (bothF_ss Y _ hX.1)) hX.1 fun r => by
  simp only [mem_unionF', mem_bothF]
  by_cases h : r ∈ Y <;> simp [h]
theorem minus_none {X Y : List RL.R} : bothF (bothF X Y true) Y false = [] := by
  apply List.eq_nil_iff_forall_not_mem.2
  intro r hr
  simp only [mem_bothF] at hr
  by_cases h : r ∈ Y <;> simp [h] at hr

end Go.Proofs.Ytiopkooigeaneaa

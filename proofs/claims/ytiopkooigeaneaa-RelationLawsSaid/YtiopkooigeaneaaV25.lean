/- Walk: relation's Delete. -/
import Derived.Test.YtiopkooigeaneaaV24
namespace Go.Proofs.Ytiopkooigeaneaa
open Go.RowKit Go.Sort

/-- What relation's Delete leaves. -/
def DelPost (P : Nat → Prop) (w : World) (n : Int) (X : List RL.R) (x : RL.R) (e : Ending) (w' : World) : Prop :=
  (wrongF n x ≠ 0 → e = .returned (.tuple #[.agg #[.int .i64 0, .slice none 0 0], .bool false, .int .i64 (wrongF n x)])) ∧ (wrongF n x = 0 → ∃ v, e = .returned (.tuple #[v, .bool (decide (x ∈ X)), .int .i64 0]) ∧ RelP P w' n (RL.delF X x) v) ∧ Below w.heap.size w w'

set_option maxHeartbeats 2000000 in
set_option maxRecDepth 100000 in
theorem rlDelete_any (P : Nat → Prop) (n : Int) (RA A : Option Addr) (RC C : Nat) (X : List RL.R) (x : RL.R) (w : World) (hX : SlRsP P w.heap.size w RA X) (hPn : ∀ b, w.heap.size ≤ b → P b) (hx : SlR w.heap.size w A x) (hXo : RsOk X) (hxo : ROk x) (hXl : X.length ≤ 60000) (hS : RL.SS X) (hXc : X.length ≤ RC) (hXm : RC ≤ 9223372036854775807) :
    Calls Try.prog 39 #[.agg #[.int .i64 n, .slice RA X.length RC], .slice A x.length C] w (DelPost P w n X x) := by
  have HX := Lib.hid hX
  have HPN := Lib.hid hPn
  have HXX := Lib.hid hx
  have HXO := Lib.hid hXo
  have HXO2 := Lib.hid hxo
  have HSS := Lib.hid hS
  clear hX hPn hx hXo hxo hS
  go_enter Try.func39, Try.ntmps39
  have q1 := (Row.new w 29 [.int .i64 n, .slice RA X.length RC]).alloc (.cells #[.int .i64 0, .slice none 0 0] 29)
  have q2 := Row.new (w.alloc (.cells #[.int .i64 n, .slice RA X.length RC] 29)) 29 [.int .i64 0, .slice none 0 0]
  simp only [World.size_alloc] at q2
  have HQ1 := Lib.hid q1
  have HQ2 := Lib.hid q2
  have HE0 := Lib.hid (((Ext.refl w).alloc (.cells #[.int .i64 n, .slice RA X.length RC] 29)).alloc (.cells #[.int .i64 0, .slice none 0 0] 29))
  clear q1 q2
  go_wp2_with fail
  generalize (w.alloc (.cells #[.int .i64 n, .slice RA X.length RC] 29)).alloc (.cells #[.int .i64 0, .slice none 0 0] 29) = W0 at *
  refine (rlAccepts_any n RA A X.length RC C x W0 (HXX.out.up HE0.out) HXO2.out).mono ?_
  rintro e w1 ⟨rfl, hx1⟩
  have HE1 := Lib.hid (HE0.out.trans hx1)
  have HR1 := Lib.hid (HQ1.out.below hx1.below HQ1.out.lt)
  have HR2 := Lib.hid (HQ2.out.below hx1.below HQ2.out.lt)
  have hz1 : w.heap.size + 1 < w1.heap.size := HR2.out.lt
  clear hx1 HE0 HQ1 HQ2
  by_cases hw : wrongF n x = 0
  rotate_left
  · have hw2 : (wrongF n x != 0) = true := by simpa using hw
    have HW := Lib.hid hw
    have c0 : w1.cell? ⟨w.heap.size + 1, 0, none⟩ = some (.int .i64 0) := HR2.out.cell 0
    have c1 : w1.cell? ⟨w.heap.size + 1, 1, none⟩ = some (.slice none 0 0) := HR2.out.cell 1
    have f0 := HR2.out.frozen 0
    have f1 := HR2.out.frozen 1
    clear hw
    obtain ⟨q, hqe⟩ : ∃ q, q = wrongF n x := ⟨_, rfl⟩
    rw [← hqe] at hw2
    rw [← hqe]
    have HQE := Lib.hid hqe
    clear hqe
    go_wp2
    refine bodyPost_ret (v := .tuple #[.agg #[.int .i64 0, .slice none 0 0], .bool false, .int .i64 q]) (by simp [results, Try.results39, go_sem, c0, c1]) rfl ⟨fun _ => by rw [← HQE.out], fun h => absurd h HW.out, ?_⟩
    exact (HE1.out.below.setCell (p := ⟨w.heap.size + 1, 0, none⟩) (show w.heap.size ≤ w.heap.size + 1 by omega) _).setCell (p := ⟨w.heap.size + 1, 1, none⟩) (show w.heap.size ≤ w.heap.size + 1 by omega) _
  have HW := Lib.hid hw
  rw [hw]
  clear hw
  have n0 : w1.cell? ⟨w.heap.size, 0, none⟩ = some (.int .i64 n) := HR1.out.cell 0
  have n1 : w1.cell? ⟨w.heap.size, 1, none⟩ = some (.slice RA X.length RC) := HR1.out.cell 1
  go_wp2_with fail
  refine (rlSearch_any n RA A RC C X x w1 (HX.out.sl.up HE1.out) (HXX.out.up HE1.out) (by omega) HXO.out HXO2.out.1 HSS.out).mono ?_
  rintro e w2 ⟨rfl, hx2⟩
  have HE2 := Lib.hid (HE1.out.trans hx2)
  have HR12 := Lib.hid (HR1.out.below hx2.below HR1.out.lt)
  have HR22 := Lib.hid (HR2.out.below hx2.below HR2.out.lt)
  have hz2 : w.heap.size + 1 < w2.heap.size := HR22.out.lt
  clear hx2 n0 n1 HR1 HR2 HE1
  have n0 : w2.cell? ⟨w.heap.size, 0, none⟩ = some (.int .i64 n) := HR12.out.cell 0
  have n1 : w2.cell? ⟨w.heap.size, 1, none⟩ = some (.slice RA X.length RC) := HR12.out.cell 1
  have c0 : w2.cell? ⟨w.heap.size + 1, 0, none⟩ = some (.int .i64 0) := HR22.out.cell 0
  have c1 : w2.cell? ⟨w.heap.size + 1, 1, none⟩ = some (.slice none 0 0) := HR22.out.cell 1
  have f0 := HR22.out.frozen 0
  have f1 := HR22.out.frozen 1
  by_cases hm : x ∈ X
  rotate_left
  · have HI : Hid (RL.delF X x = X) := del_none hm
    have hd : decide (x ∈ X) = false := by simpa using hm
    have HD := Lib.hid hd
    rw [hd]
    clear hm hd
    generalize RL.rank X x = k at *
    have z0 : (w2.setCell ⟨w.heap.size + 1, 0, none⟩ (.int .i64 n)).cell? ⟨w.heap.size + 1, 0, none⟩ = some (.int .i64 n) := World.cell?_setCell_same _ _ _ c0
    have z1 : ((w2.setCell ⟨w.heap.size + 1, 0, none⟩ (.int .i64 n)).setCell ⟨w.heap.size + 1, 1, none⟩ (.slice RA X.length RC)).cell? ⟨w.heap.size + 1, 1, none⟩ = some (.slice RA X.length RC) := World.cell?_setCell_same _ _ _ ((World.cell?_setCell_other _ _ _ _ (by simp)).trans c1)
    have Z0 := Lib.hid z0
    have Z1 := Lib.hid z1
    have HB := Lib.hid ((HE2.out.below.setCell (p := ⟨w.heap.size + 1, 0, none⟩) (show w.heap.size ≤ w.heap.size + 1 by omega) (.int .i64 n)).setCell (p := ⟨w.heap.size + 1, 1, none⟩) (show w.heap.size ≤ w.heap.size + 1 by omega) (.slice RA X.length RC))
    clear z0 z1
    go_wp2
    refine bodyPost_ret (v := .tuple #[.agg #[.int .i64 n, .slice RA X.length RC], .bool false, .int .i64 0]) (by simp [results, Try.results39, go_sem, Z0.out, Z1.out]) rfl ⟨fun h => absurd HW.out h, fun _ => ⟨_, by rw [HD.out], ?_⟩, HB.out⟩
    rw [HI.out]
    refine ⟨RA, RC, rfl, hXc, hXm, ?_⟩
    exact (HX.out.keep (fun p hp _ => HB.out.cell hp)).more HB.out.size
  · have HI : Hid (RL.delF X x = X.take (RL.rank X x) ++ X.drop (RL.rank X x + 1)) := del_at HSS.out hm
    have hd : decide (x ∈ X) = true := by simpa using hm
    have HD := Lib.hid hd
    rw [hd]
    have hrk : RL.rank X x < X.length := ((RL.mem_iff_rank HSS.out x).1 hm).1
    clear hm hd
    generalize RL.rank X x = k at *
    have hw1 : IntKind.i64.wrap ((k : Int) + 1) = ((k + 1 : Nat) : Int) := by rw [IntWalk.i64_in _ (by omega)]; omega
    have hst := slTail RA X.length RC (k + 1) hrk
    have hsh := slHead RA X.length RC k (by omega)
    obtain ⟨TA, hTA⟩ : ∃ TA, TA = tailA RA (k + 1) RC := ⟨_, rfl⟩
    rw [← hTA] at hst
    rw [Int.natCast_add, Int.natCast_one] at hst
    have HX2 := Lib.hid ((HX.out.keep (w' := w2) (fun p hp _ => HE2.out.below.cell hp)))
    have HTAIL : Hid (SlRsP P w.heap.size w2 TA (X.drop (k + 1))) := by rw [hTA]; exact HX2.out.tail hXc (k + 1)
    have HHEAD := Lib.hid (HX2.out.head k)
    clear hTA
    have HCC : Hid (∀ W cb, Below w2.heap.size w2 W → Row W cb 22 [.slice RA k RC, .slice TA (X.length - (k + 1)) (RC - (k + 1))] → Calls Try.prog 71 #[.slice (some ⟨cb, 0, none⟩) 2 2] W fun e w' => ∃ v hs, e = .returned v ∧ w'.ownsRow W.heap.size 24 1 v (k + (X.length - (k + 1))) hs ∧ Hdrs (fun b => P b ∧ b ≠ w.heap.size + 1) w.heap.size w' hs (X.take k ++ X.drop (k + 1)) ∧ Below W.heap.size W w') := fun W cb hb hrow => by
      have hk : ∀ p : Addr, p.block < w.heap.size → P p.block → W.cell? p = w2.cell? p := fun p hp _ => hb.cell (by omega)
      have h := concat2_any (fun b => P b ∧ b ≠ w.heap.size + 1) w.heap.size cb RA TA RC (RC - (k + 1)) (X.take k) (X.drop (k + 1)) W (by simpa [Nat.min_eq_left (Nat.le_of_lt hrk)] using hrow) ((HHEAD.out.keep hk).weak (fun b hb h => ⟨h, by omega⟩)) ((HTAIL.out.keep hk).weak (fun b hb h => ⟨h, by omega⟩)) (by have := hb.size; omega) (by simp; omega) (by simp; omega)
      simpa [Nat.min_eq_left (Nat.le_of_lt hrk)] using h
    go_wp2
    go_still_tail 9, (by kernel_rfl)
    go_wp2_with fail
    refine (HCC.out _ w2.heap.size ((Below.refl _ w2).alloc (Nat.le_refl _) _).drew (Row.new w2 22 _)).mono ?_
    rintro e w3 ⟨v3, hs3, rfl, hown3, hH3, hb3⟩
    have hb3' : Below w2.heap.size w2 w3 := Below.then ((Below.refl _ w2).alloc (Nat.le_refl _) _) (Below.undrew hb3) (by simp)
    have hz3 := hb3'.size
    have r16 := HR12.out.below hb3' (by omega)
    have r26 := HR22.out.below hb3' (by omega)
    have m06 : w3.cell? ⟨w.heap.size, 0, none⟩ = some (.int .i64 n) := r16.cell 0
    have c06 : w3.cell? ⟨w.heap.size + 1, 0, none⟩ = some (.int .i64 0) := r26.cell 0
    have c16 : w3.cell? ⟨w.heap.size + 1, 1, none⟩ = some (.slice none 0 0) := r26.cell 1
    have f06 := r26.frozen 0
    have f16 := r26.frozen 1
    obtain ⟨Y, hY⟩ : ∃ Y, Y = X.take k ++ X.drop (k + 1) := ⟨_, rfl⟩
    rw [← hY] at hH3
    have hlY : k + (X.length - (k + 1)) = Y.length := by rw [hY]; simp; omega
    have HYE := Lib.hid hY
    rw [hlY] at hown3
    obtain ⟨A6, C6, rfl, hc6, hm6, hs6'⟩ := own_slrs hown3 (hH3.more (show w.heap.size ≤ w3.heap.size by omega)) (Nat.le_refl _) (fun b hb => ⟨HPN.out b (by simp at hb; omega), by simp at hb; omega⟩)
    have HB3 := Lib.hid (Below.then HE2.out.below hb3' HE2.out.size)
    have HS6 := Lib.hid hs6'
    clear hown3 hb3 hb3' r16 r26 hY hlY hH3 hs6' n0 n1 c0 c1 f0 f1 hst hsh
    go_wp2
    refine bodyPost_ret (v := .tuple #[.agg #[.int .i64 n, .slice A6 Y.length C6], .bool true, .int .i64 0]) ?_ rfl ⟨fun h => absurd HW.out h, fun _ => ⟨_, by rw [HD.out], ?_⟩, ?_⟩
    · have z0 : (w3.setCell ⟨w.heap.size + 1, 0, none⟩ (.int .i64 n)).cell? ⟨w.heap.size + 1, 0, none⟩ = some (.int .i64 n) := World.cell?_setCell_same _ _ _ c06
      have z1 : ((w3.setCell ⟨w.heap.size + 1, 0, none⟩ (.int .i64 n)).setCell ⟨w.heap.size + 1, 1, none⟩ (.slice A6 Y.length C6)).cell? ⟨w.heap.size + 1, 1, none⟩ = some (.slice A6 Y.length C6) := World.cell?_setCell_same _ _ _ ((World.cell?_setCell_other _ _ _ _ (by simp)).trans c16)
      simp [results, Try.results39, go_sem, z0, z1]
    · rw [HI.out, ← HYE.out]
      refine ⟨A6, C6, rfl, hc6, hm6, ?_⟩
      have h := (HS6.out.keep (w' := (w3.setCell ⟨w.heap.size + 1, 0, none⟩ (.int .i64 n)).setCell ⟨w.heap.size + 1, 1, none⟩ (.slice A6 Y.length C6)) (fun p hp hne => far_cell (p := ⟨w.heap.size + 1, 1, none⟩) (fun e => hne.2 e.symm) (far_cell (p := ⟨w.heap.size + 1, 0, none⟩) (fun e => hne.2 e.symm) rfl))).weak (P' := P) (fun b _ h => h.1)
      rw [show w3.heap.size = ((w3.setCell ⟨w.heap.size + 1, 0, none⟩ (.int .i64 n)).setCell ⟨w.heap.size + 1, 1, none⟩ (.slice A6 Y.length C6)).heap.size by simp] at h
      exact h
    · exact (HB3.out.setCell (p := ⟨w.heap.size + 1, 0, none⟩) (show w.heap.size ≤ w.heap.size + 1 by omega) _).setCell (p := ⟨w.heap.size + 1, 1, none⟩) (show w.heap.size ≤ w.heap.size + 1 by omega) _

end Go.Proofs.Ytiopkooigeaneaa

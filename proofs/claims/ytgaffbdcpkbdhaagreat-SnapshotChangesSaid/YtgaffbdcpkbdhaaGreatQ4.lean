/- Parts of the proof, merged: V25, Z11, Z12, Z13, Z14. -/
import Derived.Test.YtgaffbdcpkbdhaaGreatQ3
import Derived.Test.YtgaffbdcpkbdhaaGreatQ1
import Derived.Deep.DeepCutAuto

section
/- Walk: relation's Delete. -/
namespace Go.Proofs.YtgaffbdcpkbdhaaGreat
open Go.RowKit Go.Sort

/-- What relation's Delete leaves. -/
def DelPost (P : Nat → Prop) (w : World) (n : Int) (X : List RL.R) (x : RL.R) (e : Ending) (w' : World) : Prop :=
  (wrongF n x ≠ 0 → e = .returned (.tuple #[.agg #[.int .i64 0, .slice none 0 0], .bool false, .int .i64 (wrongF n x)])) ∧ (wrongF n x = 0 → ∃ v, e = .returned (.tuple #[v, .bool (decide (x ∈ X)), .int .i64 0]) ∧ RelP P w' n (RL.delF X x) v) ∧ Below w.heap.size w w'

set_option maxHeartbeats 2000000 in
set_option maxRecDepth 100000 in
theorem rlDelete_any (P : Nat → Prop) (n : Int) (RA A : Option Addr) (RC C : Nat) (X : List RL.R) (x : RL.R) (w : World) (hX : SlRsP P w.heap.size w RA X) (hPn : ∀ b, w.heap.size ≤ b → P b) (hx : SlR w.heap.size w A x) (hXo : RsOk X) (hxo : ROk x) (hXl : X.length ≤ 60000) (hS : RL.SS X) (hXc : X.length ≤ RC) (hXm : RC ≤ 9223372036854775807) :
    Calls Tryz.prog 49 #[.agg #[.int .i64 n, .slice RA X.length RC], .slice A x.length C] w (DelPost P w n X x) := by
  have HX := Lib.hid hX
  have HPN := Lib.hid hPn
  have HXX := Lib.hid hx
  have HXO := Lib.hid hXo
  have HXO2 := Lib.hid hxo
  have HSS := Lib.hid hS
  clear hX hPn hx hXo hxo hS
  go_enter Tryz.func49, Tryz.ntmps49
  have q1 := (Row.new w 71 [.int .i64 n, .slice RA X.length RC]).alloc (.cells #[.int .i64 0, .slice none 0 0] 71)
  have q2 := Row.new (w.alloc (.cells #[.int .i64 n, .slice RA X.length RC] 71)) 71 [.int .i64 0, .slice none 0 0]
  simp only [World.size_alloc] at q2
  have HQ1 := Lib.hid q1
  have HQ2 := Lib.hid q2
  have HE0 := Lib.hid (((Ext.refl w).alloc (.cells #[.int .i64 n, .slice RA X.length RC] 71)).alloc (.cells #[.int .i64 0, .slice none 0 0] 71))
  clear q1 q2
  go_wp2_with fail
  generalize (w.alloc (.cells #[.int .i64 n, .slice RA X.length RC] 71)).alloc (.cells #[.int .i64 0, .slice none 0 0] 71) = W0 at *
  refine (rlAccepts_any n RA A X.length RC C x W0 (HXX.out.up HE0.out) HXO2.out).mono ?_
  rintro e w1 ⟨rfl, hx1⟩
  have HE1 := Lib.hid (HE0.out.trans hx1)
  have HR1 := Lib.hid (HQ1.out.below hx1.below HQ1.out.lt)
  have HR2 := Lib.hid (HQ2.out.below hx1.below HQ2.out.lt)
  have hz1 : w.heap.size + 1 < w1.heap.size := HR2.out.lt
  clear hx1 HE0 HQ1 HQ2
  by_cases hw : wrongF n x = 0
  rotate_left
  · have hw2 : (wrongF n x != 0) = true := by simpa using hw
    have HW := Lib.hid hw
    have c0 : w1.cell? ⟨w.heap.size + 1, 0, none⟩ = some (.int .i64 0) := HR2.out.cell 0
    have c1 : w1.cell? ⟨w.heap.size + 1, 1, none⟩ = some (.slice none 0 0) := HR2.out.cell 1
    have f0 := HR2.out.frozen 0
    have f1 := HR2.out.frozen 1
    clear hw
    obtain ⟨q, hqe⟩ : ∃ q, q = wrongF n x := ⟨_, rfl⟩
    rw [← hqe] at hw2
    rw [← hqe]
    have HQE := Lib.hid hqe
    clear hqe
    go_wp2
    refine bodyPost_ret (v := .tuple #[.agg #[.int .i64 0, .slice none 0 0], .bool false, .int .i64 q]) (by simp [results, Tryz.results49, go_sem, c0, c1]) rfl ⟨fun _ => by rw [← HQE.out], fun h => absurd h HW.out, ?_⟩
    exact (HE1.out.below.setCell (p := ⟨w.heap.size + 1, 0, none⟩) (show w.heap.size ≤ w.heap.size + 1 by omega) _).setCell (p := ⟨w.heap.size + 1, 1, none⟩) (show w.heap.size ≤ w.heap.size + 1 by omega) _
  have HW := Lib.hid hw
  rw [hw]
  clear hw
  have n0 : w1.cell? ⟨w.heap.size, 0, none⟩ = some (.int .i64 n) := HR1.out.cell 0
  have n1 : w1.cell? ⟨w.heap.size, 1, none⟩ = some (.slice RA X.length RC) := HR1.out.cell 1
  go_wp2_with fail
  refine (rlSearch_any n RA A RC C X x w1 (HX.out.sl.up HE1.out) (HXX.out.up HE1.out) (by omega) HXO.out HXO2.out.1 HSS.out).mono ?_
  rintro e w2 ⟨rfl, hx2⟩
  have HE2 := Lib.hid (HE1.out.trans hx2)
  have HR12 := Lib.hid (HR1.out.below hx2.below HR1.out.lt)
  have HR22 := Lib.hid (HR2.out.below hx2.below HR2.out.lt)
  have hz2 : w.heap.size + 1 < w2.heap.size := HR22.out.lt
  clear hx2 n0 n1 HR1 HR2 HE1
  have n0 : w2.cell? ⟨w.heap.size, 0, none⟩ = some (.int .i64 n) := HR12.out.cell 0
  have n1 : w2.cell? ⟨w.heap.size, 1, none⟩ = some (.slice RA X.length RC) := HR12.out.cell 1
  have c0 : w2.cell? ⟨w.heap.size + 1, 0, none⟩ = some (.int .i64 0) := HR22.out.cell 0
  have c1 : w2.cell? ⟨w.heap.size + 1, 1, none⟩ = some (.slice none 0 0) := HR22.out.cell 1
  have f0 := HR22.out.frozen 0
  have f1 := HR22.out.frozen 1
  by_cases hm : x ∈ X
  rotate_left
  · have HI : Hid (RL.delF X x = X) := del_none hm
    have hd : decide (x ∈ X) = false := by simpa using hm
    have HD := Lib.hid hd
    rw [hd]
    clear hm hd
    generalize RL.rank X x = k at *
    have z0 : (w2.setCell ⟨w.heap.size + 1, 0, none⟩ (.int .i64 n)).cell? ⟨w.heap.size + 1, 0, none⟩ = some (.int .i64 n) := World.cell?_setCell_same _ _ _ c0
    have z1 : ((w2.setCell ⟨w.heap.size + 1, 0, none⟩ (.int .i64 n)).setCell ⟨w.heap.size + 1, 1, none⟩ (.slice RA X.length RC)).cell? ⟨w.heap.size + 1, 1, none⟩ = some (.slice RA X.length RC) := World.cell?_setCell_same _ _ _ ((World.cell?_setCell_other _ _ _ _ (by simp)).trans c1)
    have Z0 := Lib.hid z0
    have Z1 := Lib.hid z1
    have HB := Lib.hid ((HE2.out.below.setCell (p := ⟨w.heap.size + 1, 0, none⟩) (show w.heap.size ≤ w.heap.size + 1 by omega) (.int .i64 n)).setCell (p := ⟨w.heap.size + 1, 1, none⟩) (show w.heap.size ≤ w.heap.size + 1 by omega) (.slice RA X.length RC))
    clear z0 z1
    go_wp2
    refine bodyPost_ret (v := .tuple #[.agg #[.int .i64 n, .slice RA X.length RC], .bool false, .int .i64 0]) (by simp [results, Tryz.results49, go_sem, Z0.out, Z1.out]) rfl ⟨fun h => absurd HW.out h, fun _ => ⟨_, by rw [HD.out], ?_⟩, HB.out⟩
    rw [HI.out]
    refine ⟨RA, RC, rfl, hXc, hXm, ?_⟩
    exact (HX.out.keep (fun p hp _ => HB.out.cell hp)).more HB.out.size
  · have HI : Hid (RL.delF X x = X.take (RL.rank X x) ++ X.drop (RL.rank X x + 1)) := del_at HSS.out hm
    have hd : decide (x ∈ X) = true := by simpa using hm
    have HD := Lib.hid hd
    rw [hd]
    have hrk : RL.rank X x < X.length := ((RL.mem_iff_rank HSS.out x).1 hm).1
    clear hm hd
    generalize RL.rank X x = k at *
    have hw1 : IntKind.i64.wrap ((k : Int) + 1) = ((k + 1 : Nat) : Int) := by rw [IntWalk.i64_in _ (by omega)]; omega
    have hst := slTail RA X.length RC (k + 1) hrk
    have hsh := slHead RA X.length RC k (by omega)
    obtain ⟨TA, hTA⟩ : ∃ TA, TA = tailA RA (k + 1) RC := ⟨_, rfl⟩
    rw [← hTA] at hst
    rw [Int.natCast_add, Int.natCast_one] at hst
    have HX2 := Lib.hid ((HX.out.keep (w' := w2) (fun p hp _ => HE2.out.below.cell hp)))
    have HTAIL : Hid (SlRsP P w.heap.size w2 TA (X.drop (k + 1))) := by rw [hTA]; exact HX2.out.tail hXc (k + 1)
    have HHEAD := Lib.hid (HX2.out.head k)
    clear hTA
    have HCC : Hid (∀ W cb, Below w2.heap.size w2 W → Row W cb 69 [.slice RA k RC, .slice TA (X.length - (k + 1)) (RC - (k + 1))] → Calls Tryz.prog 65 #[.slice (some ⟨cb, 0, none⟩) 2 2] W fun e w' => ∃ v hs, e = .returned v ∧ w'.ownsRow W.heap.size 59 1 v (k + (X.length - (k + 1))) hs ∧ Hdrs (fun b => P b ∧ b ≠ w.heap.size + 1) w.heap.size w' hs (X.take k ++ X.drop (k + 1)) ∧ Below W.heap.size W w') := fun W cb hb hrow => by
      have hk : ∀ p : Addr, p.block < w.heap.size → P p.block → W.cell? p = w2.cell? p := fun p hp _ => hb.cell (by omega)
      have h := concat2_any (fun b => P b ∧ b ≠ w.heap.size + 1) w.heap.size cb RA TA RC (RC - (k + 1)) (X.take k) (X.drop (k + 1)) W (by simpa [Nat.min_eq_left (Nat.le_of_lt hrk)] using hrow) ((HHEAD.out.keep hk).weak (fun b hb h => ⟨h, by omega⟩)) ((HTAIL.out.keep hk).weak (fun b hb h => ⟨h, by omega⟩)) (by have := hb.size; omega) (by simp; omega) (by simp; omega)
      simpa [Nat.min_eq_left (Nat.le_of_lt hrk)] using h
    go_wp2
    go_still_tail 9, (by kernel_rfl)
    go_wp2_with fail
    refine (HCC.out _ w2.heap.size ((Below.refl _ w2).alloc (Nat.le_refl _) _).drew (Row.new w2 69 _)).mono ?_
    rintro e w3 ⟨v3, hs3, rfl, hown3, hH3, hb3⟩
    have hb3' : Below w2.heap.size w2 w3 := Below.then ((Below.refl _ w2).alloc (Nat.le_refl _) _) (Below.undrew hb3) (by simp)
    have hz3 := hb3'.size
    have r16 := HR12.out.below hb3' (by omega)
    have r26 := HR22.out.below hb3' (by omega)
    have m06 : w3.cell? ⟨w.heap.size, 0, none⟩ = some (.int .i64 n) := r16.cell 0
    have c06 : w3.cell? ⟨w.heap.size + 1, 0, none⟩ = some (.int .i64 0) := r26.cell 0
    have c16 : w3.cell? ⟨w.heap.size + 1, 1, none⟩ = some (.slice none 0 0) := r26.cell 1
    have f06 := r26.frozen 0
    have f16 := r26.frozen 1
    obtain ⟨Y, hY⟩ : ∃ Y, Y = X.take k ++ X.drop (k + 1) := ⟨_, rfl⟩
    rw [← hY] at hH3
    have hlY : k + (X.length - (k + 1)) = Y.length := by rw [hY]; simp; omega
    have HYE := Lib.hid hY
    rw [hlY] at hown3
    obtain ⟨A6, C6, rfl, hc6, hm6, hs6'⟩ := own_slrs hown3 (hH3.more (show w.heap.size ≤ w3.heap.size by omega)) (Nat.le_refl _) (fun b hb => ⟨HPN.out b (by simp at hb; omega), by simp at hb; omega⟩)
    have HB3 := Lib.hid (Below.then HE2.out.below hb3' HE2.out.size)
    have HS6 := Lib.hid hs6'
    clear hown3 hb3 hb3' r16 r26 hY hlY hH3 hs6' n0 n1 c0 c1 f0 f1 hst hsh
    go_wp2
    refine bodyPost_ret (v := .tuple #[.agg #[.int .i64 n, .slice A6 Y.length C6], .bool true, .int .i64 0]) ?_ rfl ⟨fun h => absurd HW.out h, fun _ => ⟨_, by rw [HD.out], ?_⟩, ?_⟩
    · have z0 : (w3.setCell ⟨w.heap.size + 1, 0, none⟩ (.int .i64 n)).cell? ⟨w.heap.size + 1, 0, none⟩ = some (.int .i64 n) := World.cell?_setCell_same _ _ _ c06
      have z1 : ((w3.setCell ⟨w.heap.size + 1, 0, none⟩ (.int .i64 n)).setCell ⟨w.heap.size + 1, 1, none⟩ (.slice A6 Y.length C6)).cell? ⟨w.heap.size + 1, 1, none⟩ = some (.slice A6 Y.length C6) := World.cell?_setCell_same _ _ _ ((World.cell?_setCell_other _ _ _ _ (by simp)).trans c16)
      simp [results, Tryz.results49, go_sem, z0, z1]
    · rw [HI.out, ← HYE.out]
      refine ⟨A6, C6, rfl, hc6, hm6, ?_⟩
      have h := (HS6.out.keep (w' := (w3.setCell ⟨w.heap.size + 1, 0, none⟩ (.int .i64 n)).setCell ⟨w.heap.size + 1, 1, none⟩ (.slice A6 Y.length C6)) (fun p hp hne => far_cell (p := ⟨w.heap.size + 1, 1, none⟩) (fun e => hne.2 e.symm) (far_cell (p := ⟨w.heap.size + 1, 0, none⟩) (fun e => hne.2 e.symm) rfl))).weak (P' := P) (fun b _ h => h.1)
      rw [show w3.heap.size = ((w3.setCell ⟨w.heap.size + 1, 0, none⟩ (.int .i64 n)).setCell ⟨w.heap.size + 1, 1, none⟩ (.slice A6 Y.length C6)).heap.size by simp] at h
      exact h
    · exact (HB3.out.setCell (p := ⟨w.heap.size + 1, 0, none⟩) (show w.heap.size ≤ w.heap.size + 1 by omega) _).setCell (p := ⟨w.heap.size + 1, 1, none⟩) (show w.heap.size ≤ w.heap.size + 1 by omega) _

end Go.Proofs.YtgaffbdcpkbdhaaGreat
end

section
/- Walk: catalog.update. -/
namespace Go.Proofs.YtgaffbdcpkbdhaaGreat
open Go.RowKit Go.Sort Go.ChangeMaps Go.WideShapes

/-- What update makes of the rows: an error, the rows, whether they changed. -/
def updF (del : Bool) (X : List RL.R) (x : RL.R) : Int × List RL.R × Bool :=
  if del then (0, RL.delF X x, decide (x ∈ X)) else if 4096 ≤ X.length then (if x ∈ X then (0, X, false) else (11, X, false)) else (0, RL.insF X x, !decide (x ∈ X))
theorem SlRsP.stay {P : Nat → Prop} {w w' : World} {A : Option Addr} {X : List RL.R} (h : SlRsP P w.heap.size w A X) (hk : Stay P w w') : SlRsP P w'.heap.size w' A X := (h.keep fun p hp hP => World.cell?_of_block (hk.2 p.block hp hP)).more hk.1
def UpdPost (P : Nat → Prop) (n : Nat) (r : Int × List RL.R × Bool) (w : World) (e : Ending) (w' : World) : Prop :=
  (r.1 = 0 → ∃ A C, e = .returned (.tuple #[.agg #[.int .i64 n, .slice A r.2.1.length C], .bool r.2.2, .int .i64 0]) ∧ r.2.1.length ≤ C ∧ C ≤ 9223372036854775807 ∧ SlRsP P w'.heap.size w' A r.2.1) ∧
  (r.1 ≠ 0 → e = .returned (.tuple #[.agg #[.int .i64 0, .slice none 0 0], .bool false, .int .i64 r.1])) ∧ Below w.heap.size w w'
theorem UpdPost.ok {P : Nat → Prop} {n : Nat} {r : List RL.R} {ch : Bool} {w w' : World} {A : Option Addr} {C : Nat} (h1 : r.length ≤ C) (h2 : C ≤ 9223372036854775807) (hs : SlRsP P w'.heap.size w' A r) (hb : Below w.heap.size w w') : UpdPost P n (0, r, ch) w (.returned (.tuple #[.agg #[.int .i64 n, .slice A r.length C], .bool ch, .int .i64 0])) w' :=
  ⟨fun _ => ⟨A, C, rfl, h1, h2, hs⟩, fun h => absurd rfl h, hb⟩
theorem wrong_ok {n : Nat} {x : RL.R} (h : wrongF (n : Int) x = 0) : x.length = n ∧ x.all RL.validV = true := by
  unfold wrongF at h
  split at h
  · cases h
  · rename_i h1
    split at h
    · rename_i h2
      exact ⟨by omega, h2⟩
    · cases h
theorem valid_str {v : RL.V} (h : RL.validV v = true) : v.str.size ≤ 24 := by
  unfold RL.validV at h
  rcases Bool.or_eq_true_iff.1 h with h | h
  · have := of_decide_eq_true (Bool.and_eq_true_iff.1 h).2
    omega
  · exact of_decide_eq_true (Bool.and_eq_true_iff.1 h).2
theorem rOk_of {n : Nat} (hn : n ≤ 1000000) {x : RL.R} (h : wrongF (n : Int) x = 0) : ROk x := by
  obtain ⟨h1, h2⟩ := wrong_ok h
  exact ⟨by omega, fun v hv => by have := valid_str (List.all_eq_true.1 h2 v hv); omega⟩
theorem RowsOk.rs {n : Nat} {X : List RL.R} (h : RowsOk n X) (hn : n ≤ 1000000) : RsOk X := fun x hx => rOk_of hn (h.ok x hx)

set_option maxHeartbeats 4000000 in
set_option maxRecDepth 100000 in
theorem ctUpdate_any (P : Nat → Prop) (n : Nat) (del : Bool) (nm : ByteArray) (A RA : Option Addr) (C RC : Nat) (X : List RL.R) (x : RL.R) (w : World) (hX : SlRsP P w.heap.size w A X) (hPn : ∀ b, w.heap.size ≤ b → P b) (hx : SlR w.heap.size w RA x) (hro : RowsOk n X) (hn : n ≤ 1000) (hxo : wrongF (n : Int) x = 0) (hXc : X.length ≤ C) (hXm : C ≤ 9223372036854775807) :
    Calls Tryz.prog 31 #[.agg #[.int .i64 n, .slice A X.length C], .agg #[.bool del, .string nm, .slice RA x.length RC]] w (UpdPost P n (updF del X x) w) := by
  obtain ⟨W0, hW0⟩ : ∃ W0, W0 = ((w.alloc (.cells #[.int .i64 (n : Nat), .slice A X.length C] 71)).alloc (.cells #[.bool del, .string nm, .slice RA x.length RC] 61)).alloc (.cells #[.int .i64 0, .slice none 0 0] 71) := ⟨_, rfl⟩
  have hx0 : Ext w W0 := by rw [hW0]; exact (((Ext.refl w).alloc _).alloc _).alloc _
  have hr1 : Row W0 w.heap.size 71 [.int .i64 (n : Nat), .slice A X.length C] := by rw [hW0]; exact ((Row.new w 71 _).alloc _).alloc _
  have hr2 : Row W0 (w.heap.size + 1) 61 [.bool del, .string nm, .slice RA x.length RC] := by
    have h := (Row.new (w.alloc (.cells #[.int .i64 (n : Nat), .slice A X.length C] 71)) 61 [.bool del, .string nm, .slice RA x.length RC]).alloc (.cells #[.int .i64 0, .slice none 0 0] 71)
    rw [World.size_alloc] at h
    rw [hW0]; exact h
  have hr3 : Row W0 (w.heap.size + 1 + 1) 71 [.int .i64 0, .slice none 0 0] := by
    have h := Row.new ((w.alloc (.cells #[.int .i64 (n : Nat), .slice A X.length C] 71)).alloc (.cells #[.bool del, .string nm, .slice RA x.length RC] 61)) 71 [.int .i64 0, .slice none 0 0]
    rw [World.size_alloc, World.size_alloc] at h
    rw [hW0]; exact h
  have hxo2 : ROk x := rOk_of (by omega) hxo
  have hrs : RsOk X := hro.rs (by omega)
  have hXP := (hX.weak (P' := fun b => P b ∧ b ≠ w.heap.size + 1 + 1) fun b hb hp => ⟨hp, by omega⟩).stay (Stay.of hx0.below)
  have hPn2 : ∀ b, W0.heap.size ≤ b → P b ∧ b ≠ w.heap.size + 1 + 1 := fun b hb => ⟨hPn b (Nat.le_trans hx0.size hb), by have := hr3.lt; omega⟩
  have hxx := (hx.ext (Nat.le_refl _) hx0).more hx0.size
  have hml : X.length ≤ 60000 := Nat.le_trans hro.many (by omega)
  have HDEL := Lib.hid (rlDelete_any (fun b => P b ∧ b ≠ w.heap.size + 1 + 1) n A RA C RC X x W0 hXP hPn2 hxx hrs hxo2 hml hro.ss hXc hXm)
  have HLEN := Lib.hid (rlLen_any (n : Nat) A X.length C W0)
  have HSEA := Lib.hid (fun W (h : Ext W0 W) => rlSearch_any (n : Nat) A RA C RC X x W (hXP.sl.up h) ((hxx.ext (Nat.le_refl _) h).more h.size) (by omega) hrs hxo2.1 hro.ss)
  have HINS := Lib.hid (fun W (h : Ext W0 W) => rlInsert_any (fun b => P b ∧ b ≠ w.heap.size + 1 + 1) n A RA C RC X x W (hXP.stay (Stay.of h.below)) (fun b hb => hPn2 b (Nat.le_trans h.size hb)) ((hxx.ext (Nat.le_refl _) h).more h.size) hrs hxo2 hml hro.ss hXc hXm)
  have HX := Lib.hid hX
  have HC2 := Lib.hid (And.intro hXc hXm)
  have HWR := Lib.hid hxo
  have HR1 := Lib.hid hr1
  have HR2 := Lib.hid hr2
  have HR3 := Lib.hid hr3
  have HX0 := Lib.hid hx0
  clear hX hPn hx hro hxo hrs hXP hPn2 hxx hml hxo2 hx0 hr1 hr2 hr3 hXc hXm
  obtain ⟨ch, hch⟩ : ∃ ch, ch = decide (x ∈ X) := ⟨_, rfl⟩
  cases del
  rotate_left
  · -- deletion
    have f0 : W0.cell? ⟨w.heap.size, 0, none⟩ = some (.int .i64 (n : Nat)) := HR1.out.cell 0
    have f1 : W0.cell? ⟨w.heap.size, 1, none⟩ = some (.slice A X.length C) := HR1.out.cell 1
    have f2 : W0.cell? ⟨w.heap.size + 1, 0, none⟩ = some (.bool true) := HR2.out.cell 0
    have f3 : W0.cell? ⟨w.heap.size + 1, 2, none⟩ = some (.slice RA x.length RC) := HR2.out.cell 2
    have z1 := HR1.out.lt
    have z2 := HR2.out.lt
    have z3 := HR3.out.lt
    have HU : Hid (updF true X x = (0, RL.delF X x, ch)) := by show _ = _; unfold updF; rw [if_pos rfl, hch]
    have HDEL2 := HDEL.out
    unfold DelPost at HDEL2
    rw [← hch] at HDEL2
    have HCALL := HDEL2
    clear HDEL HLEN HSEA HINS HDEL2 hch
    have HCALL := Lib.hid HCALL
    go_enter Tryz.func31, Tryz.ntmps31
    go_upto_region 1 with (fail)
    rw [← hW0]
    clear hW0
    go_wp2_with fail
    refine HCALL.out.mono ?_
    rintro e w1 ⟨-, hok, hb⟩
    obtain ⟨v, rfl, A', C', rfl, hc1, hc2, hsl⟩ := hok HWR.out
    have q3 := HR3.out.up hb
    have k0 : w1.cell? ⟨w.heap.size + 1 + 1, 0, none⟩ = some (.int .i64 0) := q3.cell 0
    have k1 : w1.cell? ⟨w.heap.size + 1 + 1, 1, none⟩ = some (.slice none 0 0) := q3.cell 1
    have k2 := q3.frozen 0
    have k3 := q3.frozen 1
    have k4 := q3.lt
    have HQ3 := Lib.hid q3
    have HB1 := Lib.hid (Below.then HX0.out.below hb HX0.out.size)
    have HSL := Lib.hid hsl
    clear q3 hb hsl hok
    generalize RL.delF X x = R at *
    go_wp2_with fail
    obtain ⟨W3, hW3⟩ : ∃ W3, W3 = (w1.setCell ⟨w.heap.size + 1 + 1, 0, none⟩ (.int .i64 (n : Nat))).setCell ⟨w.heap.size + 1 + 1, 1, none⟩ (.slice A' R.length C') := ⟨_, rfl⟩
    rw [← hW3]
    have q := HQ3.out.set2 (.int .i64 (n : Nat)) (.slice A' R.length C')
    rw [← hW3] at q
    have c0 := q.cell 0
    have c1 := q.cell 1
    have hb3 : Below w.heap.size w W3 := by
      rw [hW3]
      exact (HB1.out.setCell (by show w.heap.size ≤ w.heap.size + 1 + 1; omega) _).setCell (by show w.heap.size ≤ w.heap.size + 1 + 1; omega) _
    have hs3 : SlRsP P W3.heap.size W3 A' R := by
      have h : SlRsP (fun b => P b ∧ b ≠ w.heap.size + 1 + 1) W3.heap.size W3 A' R := by
        rw [hW3]
        exact (HSL.out.stay (Stay.set (fun e => e.2 rfl) 0 _)).stay (Stay.set (fun e => e.2 rfl) 1 _)
      exact h.weak fun b _ hp => hp.1
    exact bodyPost_ret (v := .tuple #[.agg #[.int .i64 (n : Nat), .slice A' R.length C'], .bool ch, .int .i64 0]) (by simp [results, Tryz.results31, go_sem, c0, c1]) rfl (by rw [HU.out]; exact UpdPost.ok hc1 hc2 hs3 hb3)
  have f0 : W0.cell? ⟨w.heap.size, 0, none⟩ = some (.int .i64 (n : Nat)) := HR1.out.cell 0
  have f1 : W0.cell? ⟨w.heap.size, 1, none⟩ = some (.slice A X.length C) := HR1.out.cell 1
  have f2 : W0.cell? ⟨w.heap.size + 1, 0, none⟩ = some (.bool false) := HR2.out.cell 0
  have z1 := HR1.out.lt
  have z2 := HR2.out.lt
  have z3 := HR3.out.lt
  go_enter Tryz.func31, Tryz.ntmps31
  go_upto_region 1 with (fail)
  rw [← hW0]
  clear hW0
  go_wp2_with fail
  refine HLEN.out.mono ?_
  rintro e w2 ⟨rfl, hx2⟩
  have HX2 := Lib.hid hx2
  have r1 := HR1.out.up hx2.below
  have r2 := HR2.out.up hx2.below
  have r3 := HR3.out.up hx2.below
  have f4 : w2.cell? ⟨w.heap.size, 0, none⟩ = some (.int .i64 (n : Nat)) := r1.cell 0
  have f5 : w2.cell? ⟨w.heap.size, 1, none⟩ = some (.slice A X.length C) := r1.cell 1
  have f6 : w2.cell? ⟨w.heap.size + 1, 2, none⟩ = some (.slice RA x.length RC) := r2.cell 2
  have z4 := r1.lt
  have z5 := r2.lt
  have z6 := r3.lt
  have HR1 := Lib.hid r1
  have HR3 := Lib.hid r3
  have HB2 := Lib.hid (Below.then HX0.out.below hx2.below HX0.out.size)
  clear hx2 r1 r2 r3 f0 f1 f2 z1 z2 z3 HLEN
  by_cases h4 : 4096 ≤ X.length
  · have hg : decide ((4096 : Int) ≤ (X.length : Int)) = true := decide_eq_true (by omega)
    have HSE := Lib.hid (HSEA.out w2 HX2.out)
    clear HSEA HDEL HINS
    rw [← hch] at HSE
    generalize RL.rank X x = rk at HSE
    go_wp2_with fail
    refine HSE.out.mono ?_
    rintro e w3 ⟨rfl, hx3⟩
    have r1 := HR1.out.up hx3.below
    have r3 := HR3.out.up hx3.below
    have k5 : w3.cell? ⟨w.heap.size, 0, none⟩ = some (.int .i64 (n : Nat)) := r1.cell 0
    have k6 : w3.cell? ⟨w.heap.size, 1, none⟩ = some (.slice A X.length C) := r1.cell 1
    have k0 : w3.cell? ⟨w.heap.size + 1 + 1, 0, none⟩ = some (.int .i64 0) := r3.cell 0
    have k1 : w3.cell? ⟨w.heap.size + 1 + 1, 1, none⟩ = some (.slice none 0 0) := r3.cell 1
    have k2 := r3.frozen 0
    have k3 := r3.frozen 1
    have k4 := r3.lt
    have k7 := r1.lt
    have HQ3 := Lib.hid r3
    have HB1 := Lib.hid (Below.then HB2.out hx3.below HB2.out.size)
    clear hx3 r1 r3 HSE
    cases ch
    · have HU : Hid (updF false X x = (11, X, false)) := by show _ = _; unfold updF; rw [if_neg (by decide), if_pos h4, if_neg (of_decide_eq_false hch.symm)]
      clear hch
      go_wp2_with fail
      obtain ⟨W3, hW3⟩ : ∃ W3, W3 = (w3.setCell ⟨w.heap.size + 1 + 1, 0, none⟩ (.int .i64 0)).setCell ⟨w.heap.size + 1 + 1, 1, none⟩ (.slice none 0 0) := ⟨_, rfl⟩
      rw [← hW3]
      have q := HQ3.out.set2 (.int .i64 0) (.slice none 0 0)
      rw [← hW3] at q
      have c0 := q.cell 0
      have c1 := q.cell 1
      have hb3 : Below w.heap.size w W3 := by
        rw [hW3]
        exact (HB1.out.setCell (by show w.heap.size ≤ w.heap.size + 1 + 1; omega) _).setCell (by show w.heap.size ≤ w.heap.size + 1 + 1; omega) _
      exact bodyPost_ret (v := .tuple #[.agg #[.int .i64 0, .slice none 0 0], .bool false, .int .i64 11]) (by simp [results, Tryz.results31, go_sem, c0, c1]) rfl (by rw [HU.out]; exact ⟨fun h => absurd (show (11 : Int) = 0 from h) (by decide), fun _ => rfl, hb3⟩)
    · have HU : Hid (updF false X x = (0, X, false)) := by show _ = _; unfold updF; rw [if_neg (by decide), if_pos h4, if_pos (of_decide_eq_true hch.symm)]
      clear hch
      go_wp2_with fail
      obtain ⟨W3, hW3⟩ : ∃ W3, W3 = (w3.setCell ⟨w.heap.size + 1 + 1, 0, none⟩ (.int .i64 (n : Nat))).setCell ⟨w.heap.size + 1 + 1, 1, none⟩ (.slice A X.length C) := ⟨_, rfl⟩
      rw [← hW3]
      have q := HQ3.out.set2 (.int .i64 (n : Nat)) (.slice A X.length C)
      rw [← hW3] at q
      have c0 := q.cell 0
      have c1 := q.cell 1
      have hb3 : Below w.heap.size w W3 := by
        rw [hW3]
        exact (HB1.out.setCell (by show w.heap.size ≤ w.heap.size + 1 + 1; omega) _).setCell (by show w.heap.size ≤ w.heap.size + 1 + 1; omega) _
      exact bodyPost_ret (v := .tuple #[.agg #[.int .i64 (n : Nat), .slice A X.length C], .bool false, .int .i64 0]) (by simp [results, Tryz.results31, go_sem, c0, c1]) rfl (by rw [HU.out]; exact UpdPost.ok HC2.out.1 HC2.out.2 (HX.out.stay (Stay.of hb3)) hb3)
  have hg : decide ((4096 : Int) ≤ (X.length : Int)) = false := decide_eq_false (by omega)
  have HU : Hid (updF false X x = (0, RL.insF X x, !ch)) := by show _ = _; unfold updF; rw [if_neg (by decide), if_neg h4, hch]
  have HINS2 := HINS.out w2 HX2.out
  unfold InsPost at HINS2
  rw [← hch] at HINS2
  have HCALL := Lib.hid HINS2
  clear HDEL HSEA HINS HINS2 hch
  generalize (!ch) = nch at *
  go_wp2_with fail
  refine HCALL.out.mono ?_
  rintro e w1 ⟨-, hok, hb⟩
  obtain ⟨v, rfl, A', C', rfl, hc1, hc2, hsl⟩ := hok HWR.out
  have q3 := HR3.out.up hb
  have k0 : w1.cell? ⟨w.heap.size + 1 + 1, 0, none⟩ = some (.int .i64 0) := q3.cell 0
  have k1 : w1.cell? ⟨w.heap.size + 1 + 1, 1, none⟩ = some (.slice none 0 0) := q3.cell 1
  have k2 := q3.frozen 0
  have k3 := q3.frozen 1
  have k4 := q3.lt
  have HQ3 := Lib.hid q3
  have HB1 := Lib.hid (Below.then HB2.out hb HB2.out.size)
  have HSL := Lib.hid hsl
  clear q3 hb hsl hok
  generalize RL.insF X x = R at *
  go_wp2_with fail
  obtain ⟨W3, hW3⟩ : ∃ W3, W3 = (w1.setCell ⟨w.heap.size + 1 + 1, 0, none⟩ (.int .i64 (n : Nat))).setCell ⟨w.heap.size + 1 + 1, 1, none⟩ (.slice A' R.length C') := ⟨_, rfl⟩
  rw [← hW3]
  have q := HQ3.out.set2 (.int .i64 (n : Nat)) (.slice A' R.length C')
  rw [← hW3] at q
  have c0 := q.cell 0
  have c1 := q.cell 1
  have hb3 : Below w.heap.size w W3 := by
    rw [hW3]
    exact (HB1.out.setCell (by show w.heap.size ≤ w.heap.size + 1 + 1; omega) _).setCell (by show w.heap.size ≤ w.heap.size + 1 + 1; omega) _
  have hs3 : SlRsP P W3.heap.size W3 A' R := by
    have h : SlRsP (fun b => P b ∧ b ≠ w.heap.size + 1 + 1) W3.heap.size W3 A' R := by
      rw [hW3]
      exact (HSL.out.stay (Stay.set (fun e => e.2 rfl) 0 _)).stay (Stay.set (fun e => e.2 rfl) 1 _)
    exact h.weak fun b _ hp => hp.1
  exact bodyPost_ret (v := .tuple #[.agg #[.int .i64 (n : Nat), .slice A' R.length C'], .bool nch, .int .i64 0]) (by simp [results, Tryz.results31, go_sem, c0, c1]) rfl (by rw [HU.out]; exact UpdPost.ok hc1 hc2 hs3 hb3)

end Go.Proofs.YtgaffbdcpkbdhaaGreat
end

section
/- Words and plain facts for catalog.Apply. -/
namespace Go.Proofs.YtgaffbdcpkbdhaaGreat
open Go.RowKit Go.Sort Go.ChangeMaps Go.WideShapes

structure Upd where
  del : Bool
  rel : ByteArray
  row : RL.R
/-- Updates in memory. -/
def UpdsM (B : Nat) (w : World) (A : Option Addr) (us : List Upd) : Prop :=
  us ≠ [] → ∃ b o, A = some ⟨b, o, none⟩ ∧ b < B ∧ ∀ i (h : i < us.length), ∃ RA RC, w.cell? ⟨b, o + i * 3, none⟩ = some (.bool us[i].del) ∧ w.cell? ⟨b, o + i * 3 + 1, none⟩ = some (.string us[i].rel) ∧ w.cell? ⟨b, o + i * 3 + 2, none⟩ = some (.slice RA us[i].row.length RC) ∧ SlR B w RA us[i].row
def UpdOk (u : Upd) : Prop := u.rel.size ≤ 9223372036854775807 ∧ u.row.length ≤ 1000000 ∧ ∀ v ∈ u.row, v.str.size ≤ 9223372036854775807
def updC (F : Cont) (nm : ByteArray) (X : List RL.R) : Cont := fun s => if s = nm then X else F s
def stepU (S : Sch) (F : Cont) (u : Upd) : Int × Cont × Bool :=
  if checkF S u.rel u.row = 0 then
    (if (updF u.del (F u.rel) u.row).1 = 0 then (0, if (updF u.del (F u.rel) u.row).2.2 then updC F u.rel (updF u.del (F u.rel) u.row).2.1 else F, (updF u.del (F u.rel) u.row).2.2) else ((updF u.del (F u.rel) u.row).1, F, false))
  else (checkF S u.rel u.row, F, false)
def applyF (S : Sch) : Cont → Nat → List Upd → Int × Cont × Nat
  | F, n, [] => (0, F, n)
  | F, n, u :: t => if (stepU S F u).1 = 0 then applyF S (stepU S F u).2.1 (if (stepU S F u).2.2 then n + 1 else n) t else ((stepU S F u).1, F, 0)
def ApPost (P : Nat → Prop) (S : Sch) (r : Int × Cont × Nat) (w : World) (e : Ending) (w' : World) : Prop :=
  (r.1 = 0 → ∃ m, e = .returned (.tuple #[.agg #[m], .int .i64 r.2.2, .int .i64 0]) ∧ DbM P S w' m r.2.1) ∧ (r.1 ≠ 0 → e = .returned (.tuple #[.agg #[.map none], .int .i64 0, .int .i64 r.1])) ∧ Below w.heap.size w w'
theorem ApPost.err {P : Nat → Prop} {S : Sch} {r : Int × Cont × Nat} {w w' : World} {k : Int} (he : r.1 = k) (hk : k ≠ 0) (hb : Below w.heap.size w w') : ApPost P S r w (.returned (.tuple #[.agg #[.map none], .int .i64 0, .int .i64 k])) w' :=
  ⟨fun h => absurd (he.symm.trans h) hk, fun _ => by rw [he], hb⟩
theorem checkF_zero {S : Sch} {nm : ByteArray} {x : RL.R} (h : checkF S nm x = 0) : ∃ ks, (nm, ks) ∈ S ∧ wrongF (ks.length : Nat) x = 0 := by
  unfold checkF at h
  split at h
  · cases h
  · rename_i p hf
    have hp := List.mem_of_find?_eq_some hf
    have hpe : p.1 = nm := by have := List.find?_some hf; simpa using this
    obtain ⟨n, ks⟩ := p
    have hpe : n = nm := hpe
    subst hpe
    refine ⟨ks, hp, ?_⟩
    unfold checkE at h
    split at h
    · cases h
    · rename_i h1
      split at h
      · cases h
      · rename_i h2
        unfold wrongF
        rw [if_neg (by have h1 : x.length = ks.length := by simpa using h1
                       omega), if_pos (by simpa using h2)]
/-- An entry another in its place. -/
theorem EntsM.put {P : Nat → Prop} {S : Sch} {w w' : World} {D : DataW Value} {F : Cont} (h : EntsM P S w D F) (ht : Maps.Tidy D) {nm : ByteArray} {val : Value} {X : List RL.R} (hn : nm ∈ S.map Prod.fst) (hk : Stay P w w') (he : ∀ ks, (nm, ks) ∈ S → EntM P w' val ks X) : EntsM P S w' (D.put (litS nm) (.held val)) (updC F nm X) := by
  have hh : Maps.has D (litS nm) = true := by rw [h.has nm]; exact memB_iff.2 hn
  refine ⟨?_, fun k hkk => ?_, fun q hq => ?_⟩
  · rw [Maps.size_put ht, hh, h.1]
    rfl
  · by_cases e : k = litS nm
    · obtain ⟨p, hp, e2⟩ := List.mem_map.1 hn
      exact ⟨p, hp, by rw [e, e2]⟩
    · rw [Maps.has_put_other e] at hkk
      exact h.2.1 k hkk
  · by_cases e : q.1 = nm
    · obtain ⟨n, ks⟩ := q
      have e : n = nm := e
      subst e
      refine ⟨val, fun z => Maps.atKey_put_same ht.isMap (isKeyS _) _ z, ?_⟩
      show EntM P w' val ks (updC F n X n)
      unfold updC
      rw [if_pos rfl]
      exact he ks hq
    · obtain ⟨v, g1, g2⟩ := h.2.2 q hq
      refine ⟨v, fun z => by rw [Maps.atKey_put_other (fun e2 => e (litS_inj e2))]; exact g1 z, ?_⟩
      unfold updC
      rw [if_neg e]
      exact g2.keep hk
theorem updF_ok {n : Nat} {X : List RL.R} {x : RL.R} {del : Bool} (hX : RowsOk n X) (hx : wrongF (n : Int) x = 0) : RowsOk n (updF del X x).2.1 := by
  unfold updF
  split
  · exact ⟨hX.ss.del x, fun y hy => hX.ok y ((RL.mem_delF _ _ _).1 hy).1, Nat.le_trans (List.length_filter_le _ _) hX.many⟩
  · split
    · split
      · exact hX
      · exact hX
    · rename_i h
      exact ⟨hX.ss.ins x, fun y hy => by
        rcases (RL.mem_insF _ _ _).1 hy with hy | rfl
        · exact hX.ok y hy
        · exact hx, Nat.le_trans (RL.insF_length_le _ _) (by show X.length + 1 ≤ 4096; omega)⟩

theorem UpdPost.shape {P : Nat → Prop} {n : Nat} {r : Int × List RL.R × Bool} {w w' : World} {e : Ending} (h : UpdPost P n r w e w') : Below w.heap.size w w' ∧ ∃ (q1 : Int) (A : Option Addr) (q2 C : Nat) (ch : Bool), e = .returned (.tuple #[.agg #[.int .i64 q1, .slice A q2 C], .bool ch, .int .i64 r.1]) ∧ (r.1 = 0 → q1 = (n : Nat) ∧ q2 = r.2.1.length ∧ ch = r.2.2 ∧ q2 ≤ C ∧ C ≤ 9223372036854775807 ∧ SlRsP P w'.heap.size w' A r.2.1) := by
  obtain ⟨h1, h2, hb⟩ := h
  refine ⟨hb, ?_⟩
  by_cases h0 : r.1 = 0
  · obtain ⟨A, C, rfl, a1, a2, a3⟩ := h1 h0
    exact ⟨_, A, _, C, _, by rw [h0], fun _ => ⟨rfl, rfl, rfl, a1, a2, a3⟩⟩
  · exact ⟨0, none, 0, 0, false, h2 h0, fun h => absurd h h0⟩

end Go.Proofs.YtgaffbdcpkbdhaaGreat
end

section
/- Walk: catalog.Apply. -/
namespace Go.Proofs.YtgaffbdcpkbdhaaGreat
open Go.RowKit Go.Sort Go.ChangeMaps Go.WideShapes

set_option maxHeartbeats 8000000 in
set_option maxRecDepth 100000 in
theorem ctApply_any (P : Nat → Prop) (S : Sch) (m : Value) (F : Cont) (A : Option Addr) (C : Nat) (us : List Upd) (w : World) (hd : DbM P S w m F) (hPn : ∀ b, w.heap.size ≤ b → P b) (hU : UpdsM w.heap.size w A us) (hok : ∀ u ∈ us, UpdOk u) (hl : us.length ≤ 1000000) (hSl : S.length ≤ 1000000) :
    Calls Tryz.prog 13 #[.agg #[m], .slice A us.length C] w (ApPost P S (applyF S F 0 us) w) := by
  obtain ⟨b, D0, rfl, hPb, hown, hent⟩ := hd.ents
  obtain ⟨W0, hW0⟩ : ∃ W0, W0 = (w.alloc (.cells #[.map (some b)] 29)).alloc (.cells #[.map none] 29) := ⟨_, rfl⟩
  have hx0 : Ext w W0 := by rw [hW0]; exact ((Ext.refl w).alloc _).alloc _
  have hr1 : Row W0 w.heap.size 29 [.map (some b)] := by rw [hW0]; exact (Row.new w 29 _).alloc _
  have hr2 : Row W0 (w.heap.size + 1) 29 [.map none] := by
    have h := Row.new (w.alloc (.cells #[.map (some b)] 29)) 29 [.map none]
    rw [World.size_alloc] at h
    rw [hW0]; exact h
  have hz0 : W0.heap.size = w.heap.size + 1 + 1 := by rw [hW0]; simp
  have HCL := Lib.hid (ctClone_some b _ D0 W0 (map_up hown hx0.below))
  have HENT := Lib.hid (((hent.weak (P' := fun b => (P b ∧ b ≠ w.heap.size + 1) ∧ b ≠ W0.heap.size) fun b hb hp => ⟨⟨hp, by omega⟩, by omega⟩).keep (Stay.of hx0.below)))
  have HU := Lib.hid hU
  have HOK := Lib.hid hok
  have HPN := Lib.hid hPn
  have HR2 := Lib.hid hr2
  have HX0 := Lib.hid hx0
  have HZ0 := Lib.hid hz0
  have HSL := Lib.hid hSl
  have f0 : W0.cell? ⟨w.heap.size, 0, none⟩ = some (.map (some b)) := hr1.cell 0
  have z1 := hr1.lt
  clear hd hown hent hU hok hPn hr1 hr2 hx0 hz0 hPb hSl
  go_enter Tryz.func13, Tryz.ntmps13
  go_wp2_with fail
  rw [← hW0]
  clear hW0
  refine HCL.out.mono ?_
  rintro e w1 ⟨rfl, hown1, hx1⟩
  obtain ⟨bM, hbM⟩ : ∃ bM, bM = W0.heap.size := ⟨_, rfl⟩
  obtain ⟨W1, hW1⟩ : ∃ W1, W1 = w1.alloc (.cells #[.map (some bM)] 29) := ⟨_, rfl⟩
  have hx2 : Ext w1 W1 := by rw [hW1]; exact (Ext.refl w1).alloc _
  have hr7 : Row W1 w1.heap.size 29 [.map (some bM)] := by rw [hW1]; exact Row.new w1 29 _
  rw [← hbM] at hown1 HENT ⊢
  have HST : Hid (W1.ownsMap Tryz.prog 9 heldR bM (Maps.size D0) D0 ∧ EntsM (fun b => (P b ∧ b ≠ w.heap.size + 1) ∧ b ≠ bM) S W1 D0 F ∧ Row W1 (w.heap.size + 1) 29 [.map none] ∧ Row W1 w1.heap.size 29 [.map (some bM)] ∧ Below w.heap.size w W1) :=
    ⟨map_up hown1 hx2.below, HENT.out.keep (Stay.of (Below.then hx1.below hx2.below hx1.size)), (HR2.out.up hx1.below).up hx2.below, hr7, Below.then (Below.then HX0.out.below hx1.below HX0.out.size) hx2.below (Nat.le_trans HX0.out.size hx1.size)⟩
  obtain ⟨b7, hb7⟩ : ∃ b7, b7 = w1.heap.size := ⟨_, rfl⟩
  have hbz : w.heap.size + 1 < bM := by have := HZ0.out; omega
  have hb7z : bM < b7 := by have := hown1.lt; omega
  have hb7w : b7 < W1.heap.size := by rw [hb7]; exact hr7.lt
  rw [← hb7] at HST
  have HMB := Lib.hid hbM
  have HW1 := Lib.hid hW1
  have HB7 := Lib.hid hb7
  clear hown1 hx1 hx2 hr7 hbM hW1 hb7 HENT HCL HR2 f0
  go_wp2_with fail
  rw [← HW1.out, ← HB7.out]
  clear HW1 HB7
  go_loopw [8, 21] (fun n c wx => ∃ (i k : Nat) (D : DataW Value) (F' : Cont), i ≤ us.length ∧ k ≤ i ∧ c = .int .i64 i ∧ n = .int .i64 k ∧ applyF S F 0 us = applyF S F' k (us.drop i) ∧ wx.ownsMap Tryz.prog 9 heldR bM (Maps.size D) D ∧ EntsM (fun b => (P b ∧ b ≠ w.heap.size + 1) ∧ b ≠ bM) S wx D F' ∧ Row wx (w.heap.size + 1) 29 [.map none] ∧ Row wx b7 29 [.map (some bM)] ∧ Below w.heap.size w wx) (fun _ c _ => us.length - (intOf c).toNat)
  case atStart => exact ⟨0, 0, D0, F, Nat.zero_le _, Nat.le_refl _, rfl, rfl, rfl, HST.out.1, HST.out.2.1, HST.out.2.2.1, HST.out.2.2.2.1, HST.out.2.2.2.2⟩
  case round =>
    obtain ⟨i, k, D, F', hi, hki, rfl, rfl, hap, hown, hent, hrg, hr7, hbw⟩ := hrel
    have HAP := Lib.hid hap
    have HO := Lib.hid hown
    have HEN := Lib.hid hent
    have HRG := Lib.hid hrg
    have HR7 := Lib.hid hr7
    have HB := Lib.hid hbw
    have hzb := hbw.size
    have g0 : wr.cell? ⟨w.heap.size + 1, 0, none⟩ = some (.map none) := hrg.cell 0
    have g1 := hrg.frozen 0
    have g2 := hrg.lt
    have g3 : wr.cell? ⟨b7, 0, none⟩ = some (.map (some bM)) := hr7.cell 0
    have g4 := hr7.lt
    clear hap hown hent hrg hr7 hbw HST z1
    by_cases hil : i < us.length
    rotate_left
    · obtain rfl : i = us.length := by omega
      have HF : Hid (applyF S F 0 us = (0, F', k)) := by
        have h := HAP.out
        rw [List.drop_length] at h
        exact h
      clear hil
      go_wp2_with fail
      obtain ⟨W3, hW3⟩ : ∃ W3, W3 = wr.setCell ⟨w.heap.size + 1, 0, none⟩ (.map (some bM)) := ⟨_, rfl⟩
      rw [← hW3]
      have q := HRG.out.set 0 (.map (some bM))
      rw [← hW3] at q
      have c0 := q.cell 0
      have hb3 : Below w.heap.size w W3 := by rw [hW3]; exact HB.out.setCell (by show w.heap.size ≤ w.heap.size + 1; omega) _
      have hst : Stay (fun b => P b ∧ b ≠ w.heap.size + 1) wr W3 := by rw [hW3]; exact Stay.set (fun e => e.2 rfl) 0 _
      have hdb : DbM P S W3 (.map (some bM)) F' := by
        have h1 := (HEN.out.weak (P' := fun b => P b ∧ b ≠ w.heap.size + 1) fun b _ hb => hb.1).db (b := bM) ⟨HPN.out _ (by omega), by omega⟩ HO.out
        exact (h1.keep hst).weak fun b _ hb => hb.1
      exact bodyPost_ret (v := .tuple #[.agg #[.map (some bM)], .int .i64 (k : Nat), .int .i64 0]) (by simp [results, Tryz.results13, go_sem, c0]) rfl (by rw [HF.out]; exact ⟨fun _ => ⟨_, rfl, hdb⟩, fun h => absurd rfl h, hb3⟩)
    obtain ⟨ub, uo, rfl, hub, huc⟩ := HU.out (by intro h0; rw [h0] at hil; simp at hil)
    obtain ⟨RA, RC, u0, u1, u2, ur⟩ := huc i hil
    have u0 := (HB.out.cell (p := ⟨ub, uo + i * 3, none⟩) hub).trans u0
    have u1 := (HB.out.cell (p := ⟨ub, uo + i * 3 + 1, none⟩) hub).trans u1
    have u2 := (HB.out.cell (p := ⟨ub, uo + i * 3 + 2, none⟩) hub).trans u2
    have hub2 := Nat.lt_of_lt_of_le hub hzb
    have HUR := Lib.hid ((ur.below HB.out (Nat.le_refl _)).more hzb)
    have HOK1 := Lib.hid (HOK.out _ (List.getElem_mem hil))
    have HAT : Hid (applyF S F' k (us.drop i) = if (stepU S F' us[i]).1 = 0 then applyF S (stepU S F' us[i]).2.1 (if (stepU S F' us[i]).2.2 then k + 1 else k) (us.drop (i + 1)) else ((stepU S F' us[i]).1, F', 0)) := by
      show _ = _
      rw [List.drop_eq_getElem_cons hil]
      rfl
    have q1 : (0 : Int) ≤ (i : Int) := by omega
    have q2 : (i : Int) < (us.length : Int) := by omega
    have hw1 : IntKind.i64.wrap ((i : Int) + 1) = ((i + 1 : Nat) : Int) := by rw [IntWalk.i64_in _ (by omega)]; omega
    have hw2 : IntKind.i64.wrap ((k : Int) + 1) = ((k + 1 : Nat) : Int) := by rw [IntWalk.i64_in _ (by omega)]; omega
    clear huc ur
    generalize us[i] = u at *
    obtain ⟨del, nm, x⟩ := u
    have HBAD : Hid (∀ e, (stepU S F' ⟨del, nm, x⟩).1 = e → e ≠ 0 → (applyF S F 0 us).1 = e) := fun e he h0 => by
      rw [HAP.out, HAT.out, if_neg (by rw [he]; exact h0)]
      exact he
    have HGOOD : Hid ((stepU S F' ⟨del, nm, x⟩).1 = 0 → applyF S F 0 us = applyF S (stepU S F' ⟨del, nm, x⟩).2.1 (if (stepU S F' ⟨del, nm, x⟩).2.2 then k + 1 else k) (us.drop (i + 1))) := fun h0 => by
      rw [HAP.out, HAT.out, if_pos h0]
    clear HAT
    have HOK2 : Hid (nm.size ≤ 9223372036854775807 ∧ x.length ≤ 1000000 ∧ ∀ v ∈ x, v.str.size ≤ 9223372036854775807) := HOK1.out
    have u0 : wr.cell? ⟨ub, uo + i * 3, none⟩ = some (.bool del) := u0
    have u1 : wr.cell? ⟨ub, uo + i * 3 + 1, none⟩ = some (.string nm) := u1
    have u2 : wr.cell? ⟨ub, uo + i * 3 + 2, none⟩ = some (.slice RA x.length RC) := u2
    have HUX : Hid (SlR wr.heap.size wr RA x) := HUR.out
    clear HOK1 HUR
    obtain ⟨wo, hwo⟩ : ∃ wo, wo = wr := ⟨_, rfl⟩
    subst hwo
    have HKP : Hid (∀ V, Below wo.heap.size wo V → V.cell? ⟨b7, 0, none⟩ = some (.map (some bM)) ∧ V.cell? ⟨ub, uo + i * 3, none⟩ = some (.bool del) ∧ V.cell? ⟨ub, uo + i * 3 + 1, none⟩ = some (.string nm) ∧ V.cell? ⟨ub, uo + i * 3 + 2, none⟩ = some (.slice RA x.length RC)) := fun V hb =>
      ⟨(hb.cell (p := ⟨b7, 0, none⟩) g4).trans g3, (hb.cell (p := ⟨ub, uo + i * 3, none⟩) hub2).trans u0, (hb.cell (p := ⟨ub, uo + i * 3 + 1, none⟩) hub2).trans u1, (hb.cell (p := ⟨ub, uo + i * 3 + 2, none⟩) hub2).trans u2⟩
    have HCH : Hid (∀ V, Below wo.heap.size wo V → Calls Tryz.prog 30 #[.agg #[.map (some bM)], .agg #[.bool del, .string nm, .slice RA x.length RC]] V fun e w' => e = .returned (.int .i64 (checkF S nm x)) ∧ Ext V w') := fun V hb =>
      ctCheck_any (P := fun _ => True) (F := F') del nm RA RC x V (((HEN.out.weak (P' := fun _ => True) fun _ _ _ => trivial).keep (Stay.of hb)).db trivial (map_up HO.out hb)) HOK2.out.1 ((HUX.out.below hb (Nat.le_refl _)).more hb.size) HOK2.out.2.1 HOK2.out.2.2
    clear u0 u1 u2 g3
    go_upto_region 6 with (fail)
    refine wp_region_held_drew (S := (fun w' => w'.cell? ⟨b7, 0, none⟩ = some (.map (some bM)) ∧ w'.cell? ⟨ub, uo + i * 3, none⟩ = some (.bool del) ∧ w'.cell? ⟨ub, uo + i * 3 + 1, none⟩ = some (.string nm) ∧ w'.cell? ⟨ub, uo + i * 3 + 2, none⟩ = some (.slice RA x.length RC))) (by kernel_rfl) (HKP.out wo (Below.refl _ _)) (fun hHeld => ?_)
    refine takeOp (i := 0) (v := ?_) (some 24) rfl rfl (by kernel_rfl) (by kernel_rfl) (by kernel_rfl) (fun _ _ _ h => h) (Or.inl ⟨by rfl, ?_⟩) (by assumption) ?_
    rotate_left 1
    · (intro w0 hSw; (try dsimp only at hSw); go_simp; try (with_reducible rfl))
    try simp only [Act.put]
    try simp only [List.setIfInBounds_toArray]
    try simp only [List.set_cons_succ]
    try simp only [List.set_cons_zero]
    refine takeOp (i := 1) (v := ?_) (some 25) rfl rfl (by kernel_rfl) (by kernel_rfl) (by kernel_rfl) (fun _ _ _ h => h) (Or.inl ⟨by rfl, ?_⟩) (by assumption) ?_
    rotate_left 1
    · (intro w0 hSw; (try dsimp only at hSw); go_simp; try (with_reducible rfl))
    try simp only [Act.put]
    try simp only [List.setIfInBounds_toArray]
    try simp only [List.set_cons_succ]
    try simp only [List.set_cons_zero]
    refine takeOp (i := 2) (v := ?_) (some 26) rfl rfl (by kernel_rfl) (by kernel_rfl) (by kernel_rfl) (fun _ _ _ h => h) (Or.inl ⟨by rfl, ?_⟩) (by assumption) ?_
    rotate_left 1
    · (intro w0 hSw; (try dsimp only at hSw); go_simp; try (with_reducible rfl))
    try simp only [Act.put]
    try simp only [List.setIfInBounds_toArray]
    try simp only [List.set_cons_succ]
    try simp only [List.set_cons_zero]
    refine takeOp (i := 3) (v := ?_) (some 27) rfl rfl (by kernel_rfl) (by kernel_rfl) (by kernel_rfl) (fun _ _ _ h => h) (Or.inl ⟨by rfl, ?_⟩) (by assumption) ?_
    rotate_left 1
    · (intro w0 hSw; (try dsimp only at hSw); go_simp; try (with_reducible rfl))
    try simp only [Act.put]
    try simp only [List.setIfInBounds_toArray]
    try simp only [List.set_cons_succ]
    try simp only [List.set_cons_zero]
    refine takeOp (i := 4) (v := ?_) (some 28) rfl rfl (by kernel_rfl) (by kernel_rfl) (by kernel_rfl) (fun _ _ _ h => h) (Or.inl ⟨by rfl, ?_⟩) (by assumption) ?_
    rotate_left 1
    · (intro w0 hSw; (try dsimp only at hSw); go_simp; try (with_reducible rfl))
    try simp only [Act.put]
    try simp only [List.setIfInBounds_toArray]
    try simp only [List.set_cons_succ]
    try simp only [List.set_cons_zero]
    refine wpAnyH_ready (rs := [5]) (by kernel_rfl) (by simp) ?_
    refine AllReadyH.cons rfl (fun K hK => ?_) AllReadyH.nil
    go_simp
    refine (HCH.out wo.drew (Below.refl _ _).drew).mono ?_
    rintro e V1 ⟨rfl, hx⟩
    have HV1 : Hid (Below wo.heap.size wo V1) := Below.undrew hx.below
    clear hx
    go_wp2_with fail
    refine hK.out _ _ (HKP.out V1 HV1.out) (fun hHeld => ?_)
    clear hK K
    try simp only [Act.put]
    try simp only [List.setIfInBounds_toArray]
    try simp only [List.set_cons_succ]
    try simp only [List.set_cons_zero]
    refine takeOp (i := 6) (v := ?_) (some 10) rfl rfl (by kernel_rfl) (by kernel_rfl) (by kernel_rfl) (fun _ _ _ h => h) (Or.inl ⟨by rfl, ?_⟩) (by assumption) ?_
    rotate_left 1
    · (intro w0 hSw; (try dsimp only at hSw); go_simp; try (with_reducible rfl))
    try simp only [Act.put]
    try simp only [List.setIfInBounds_toArray]
    try simp only [List.set_cons_succ]
    try simp only [List.set_cons_zero]
    refine wpAnyH_done (by kernel_rfl) ?_ _
    have HRG1 := Lib.hid (HRG.out.up HV1.out)
    have HBV1 := Lib.hid (Below.then HB.out HV1.out hzb)
    by_cases hce : checkF S nm x = 0
    rotate_left
    · have hne : (checkF S nm x != 0) = true := by simpa using hce
      have HSE : Hid ((stepU S F' ⟨del, nm, x⟩).1 = checkF S nm x) := by show _ = _; unfold stepU; rw [if_neg hce]
      have HCE : Hid (checkF S nm x ≠ 0) := hce
      have g5 : V1.cell? ⟨w.heap.size + 1, 0, none⟩ = some (.map none) := HRG1.out.cell 0
      have g6 := HRG1.out.frozen 0
      have g7 := HRG1.out.lt
      clear hce
      generalize checkF S nm x = ce at *
      go_wp2_with fail
      obtain ⟨W9, hW9⟩ : ∃ W9, W9 = V1.setCell ⟨w.heap.size + 1, 0, none⟩ (.map none) := ⟨_, rfl⟩
      rw [← hW9]
      have q := HRG1.out.set 0 (.map none)
      rw [← hW9] at q
      have c9 := q.cell 0
      have hb9 : Below w.heap.size w W9 := by rw [hW9]; exact HBV1.out.setCell (by show w.heap.size ≤ w.heap.size + 1; omega) _
      exact bodyPost_ret (v := .tuple #[.agg #[.map none], .int .i64 0, .int .i64 ce]) (by simp [results, Tryz.results13, go_sem, c9]) rfl (ApPost.err (HBAD.out ce HSE.out HCE.out) HCE.out hb9)
    obtain ⟨ks, hks, hwr⟩ := checkF_zero hce
    obtain ⟨val, hv1, KA, KC, A2, C2, rfl, hk6, hki, hxc, hxm, hsl, hro⟩ := HEN.out.2.2 (nm, ks) hks
    have hv1 : ∀ z, D.atKey (litS nm) z = .held (.agg #[.slice KA ks.length KC, .int .i64 (ks.length : Nat), .slice A2 (F' nm).length C2]) := hv1
    have hk6 : ks.length ≤ 6 := hk6
    have HKI : Hid (SlIP (fun b => (P b ∧ b ≠ w.heap.size + 1) ∧ b ≠ bM) wo KA ks) := hki
    have HSL2 : Hid (SlRsP (fun b => (P b ∧ b ≠ w.heap.size + 1) ∧ b ≠ bM) wo.heap.size wo A2 (F' nm)) := hsl
    have HRO : Hid (RowsOk ks.length (F' nm)) := hro
    have HC2 : Hid ((F' nm).length ≤ C2 ∧ C2 ≤ 9223372036854775807) := ⟨hxc, hxm⟩
    have HKS2 : Hid (∀ ks', (nm, ks') ∈ S → ks'.length = ks.length ∧ SlIP (fun b => (P b ∧ b ≠ w.heap.size + 1) ∧ b ≠ bM) wo KA ks') := fun ks' h' => by
      obtain ⟨val', hv', KA', KC', A', C', e', -, hki', -⟩ := HEN.out.2.2 (nm, ks') h'
      have e2 : DataW.held val' = .held _ := (hv' .nil).symm.trans (hv1 .nil)
      injection e2 with e2
      rw [e'] at e2
      simp at e2
      obtain ⟨⟨e3, e4, e5⟩, -⟩ := e2
      subst e3
      exact ⟨e4, hki'⟩
    have HWR := Lib.hid hwr
    have HKS := Lib.hid hks
    have HCE := Lib.hid hce
    rw [hce]
    have HLK : Hid (∀ V, Below wo.heap.size wo V → (Instr.lookup 27 (.map (some bM)) (.string nm) false).run Tryz.prog V = .ok (.agg #[.slice KA ks.length KC, .int .i64 (ks.length : Nat), .slice A2 (F' nm).length C2]) V) := fun V hb => (look_yes keyedS Tryz.underlying27 zeroEnt (map_up HO.out hb) (keyS HOK2.out.1) hv1).2
    have HKP2 : Hid (∀ V, Below wo.heap.size wo V → V.cell? ⟨b7, 0, none⟩ = some (.map (some bM)) ∧ V.cell? ⟨ub, uo + i * 3 + 1, none⟩ = some (.string nm) ∧ (Instr.lookup 27 (.map (some bM)) (.string nm) false).run Tryz.prog V = .ok (.agg #[.slice KA ks.length KC, .int .i64 (ks.length : Nat), .slice A2 (F' nm).length C2]) V) := fun V hb => ⟨(HKP.out V hb).1, (HKP.out V hb).2.2.1, HLK.out V hb⟩
    obtain ⟨XL, hXL⟩ : ∃ XL, XL = (F' nm).length := ⟨_, rfl⟩
    rw [← hXL] at HKP2
    have HXL := Lib.hid hXL
    clear hce hks hwr hv1 hki hsl hro hxc hxm hXL HLK
    have hV1z := HV1.out.size
    have hb71 : b7 < V1.heap.size := by omega
    have hub1 : ub < V1.heap.size := by omega
    go_upto_region 9 with (fail)
    refine wp_region_held_drew (S := (fun w' => w'.cell? ⟨b7, 0, none⟩ = some (.map (some bM)) ∧ w'.cell? ⟨ub, uo + i * 3 + 1, none⟩ = some (.string nm) ∧ (Instr.lookup 27 (.map (some bM)) (.string nm) false).run Tryz.prog w' = .ok (.agg #[.slice KA ks.length KC, .int .i64 (ks.length : Nat), .slice A2 XL C2]) w')) (by kernel_rfl) (HKP2.out V1.drew HV1.out.drew) (fun hHeld => ?_)
    refine takeOp (i := 0) (v := ?_) (some 34) rfl rfl (by kernel_rfl) (by kernel_rfl) (by kernel_rfl) (fun _ _ _ h => h) (Or.inl ⟨by rfl, ?_⟩) (by assumption) ?_
    rotate_left 1
    · (intro w0 hSw; (try dsimp only at hSw); go_simp; try (with_reducible rfl))
    try simp only [Act.put]
    try simp only [List.setIfInBounds_toArray]
    try simp only [List.set_cons_succ]
    try simp only [List.set_cons_zero]
    refine takeOp (i := 1) (v := ?_) (some 35) rfl rfl (by kernel_rfl) (by kernel_rfl) (by kernel_rfl) (fun _ _ _ h => h) (Or.inl ⟨by rfl, ?_⟩) (by assumption) ?_
    rotate_left 1
    · (intro w0 hSw; (try dsimp only at hSw); go_simp; try (with_reducible rfl))
    try simp only [Act.put]
    try simp only [List.setIfInBounds_toArray]
    try simp only [List.set_cons_succ]
    try simp only [List.set_cons_zero]
    refine takeOp (i := 2) (v := ?_) (some 36) rfl rfl (by kernel_rfl) (by kernel_rfl) (by kernel_rfl) (fun _ _ _ h => h) (Or.inl ⟨by rfl, ?_⟩) (by assumption) ?_
    rotate_left 1
    · (intro w0 hSw; (try dsimp only at hSw); go_simp; try (with_reducible rfl))
    try simp only [Act.put]
    try simp only [List.setIfInBounds_toArray]
    try simp only [List.set_cons_succ]
    try simp only [List.set_cons_zero]
    refine takeOp (i := 3) (v := ?_) (some 37) rfl rfl (by kernel_rfl) (by kernel_rfl) (by kernel_rfl) (fun _ _ _ h => h) (Or.inl ⟨by rfl, ?_⟩) (by assumption) ?_
    rotate_left 1
    · (intro w0 hSw; (try dsimp only at hSw); go_simp; try (with_reducible rfl))
    try simp only [Act.put]
    try simp only [List.setIfInBounds_toArray]
    try simp only [List.set_cons_succ]
    try simp only [List.set_cons_zero]
    refine takeOp (i := 4) (v := ?_) (some 38) rfl rfl (by kernel_rfl) (by kernel_rfl) (by kernel_rfl) (fun _ _ _ h => h) (Or.inl ⟨by rfl, ?_⟩) (by assumption) ?_
    rotate_left 1
    · (intro w0 hSw; (try dsimp only at hSw); go_simp; try (with_reducible rfl))
    try simp only [Act.put]
    try simp only [List.setIfInBounds_toArray]
    try simp only [List.set_cons_succ]
    try simp only [List.set_cons_zero]
    refine takeOp (i := 5) (v := ?_) (some 39) rfl rfl (by kernel_rfl) (by kernel_rfl) (by kernel_rfl) (fun _ _ _ h => h) (Or.inl ⟨by rfl, ?_⟩) (by assumption) ?_
    rotate_left 1
    · (intro w0 hSw; (try dsimp only at hSw); go_simp; try (with_reducible rfl))
    try simp only [Act.put]
    try simp only [List.setIfInBounds_toArray]
    try simp only [List.set_cons_succ]
    try simp only [List.set_cons_zero]
    refine takeOp (i := 6) (v := ?_) (some 40) rfl rfl (by kernel_rfl) (by kernel_rfl) (by kernel_rfl) (fun _ _ _ h => h) (Or.inl ⟨by rfl, ?_⟩) (by assumption) ?_
    rotate_left 1
    · (intro w0 hSw; (try dsimp only at hSw); go_simp; try (with_reducible rfl))
    try simp only [Act.put]
    try simp only [List.setIfInBounds_toArray]
    try simp only [List.set_cons_succ]
    try simp only [List.set_cons_zero]
    refine takeOp (i := 7) (v := ?_) (some 41) rfl rfl (by kernel_rfl) (by kernel_rfl) (by kernel_rfl) (fun _ _ _ h => h) (Or.inl ⟨by rfl, ?_⟩) (by assumption) ?_
    rotate_left 1
    · (intro w0 hSw; (try dsimp only at hSw); go_simp; try (with_reducible rfl))
    try simp only [Act.put]
    try simp only [List.setIfInBounds_toArray]
    try simp only [List.set_cons_succ]
    try simp only [List.set_cons_zero]
    refine wpAnyH_ready (rs := [8]) (by kernel_rfl) (by simp) ?_
    refine AllReadyH.cons rfl (fun K hK => ?_) AllReadyH.nil
    go_simp
    obtain ⟨V2, hV⟩ : ∃ V', V' = (V1.alloc (.cells #[.slice none 0 0, .int .i64 0, .slice none 0 0] 73)).drew := ⟨_, rfl⟩
    rw [← hV]
    have HV2 : Hid (Below wo.heap.size wo V2) := by show Below _ _ _; rw [hV]; exact (HV1.out.alloc hV1z _).drew
    have HE2 : Hid (Row V2 V1.heap.size 73 [.slice none 0 0, .int .i64 0, .slice none 0 0]) := by show Row _ _ _ _; rw [hV]; exact (Row.new V1 73 [.slice none 0 0, .int .i64 0, .slice none 0 0]).drew
    clear hV
    refine hK.out _ _ (HKP2.out V2 HV2.out) (fun hHeld => ?_)
    clear hK K
    try simp only [Act.put]
    try simp only [List.setIfInBounds_toArray]
    try simp only [List.set_cons_succ]
    try simp only [List.set_cons_zero]
    refine wpAnyH_ready (rs := [9]) (by kernel_rfl) (by simp) ?_
    refine AllReadyH.cons rfl (fun K hK => ?_) AllReadyH.nil
    have m0 : V2.cell? ⟨V1.heap.size, 0, none⟩ = some (.slice none 0 0) := HE2.out.cell 0
    have m1 : V2.cell? ⟨V1.heap.size, 1, none⟩ = some (.int .i64 0) := HE2.out.cell 1
    have m2 : V2.cell? ⟨V1.heap.size, 2, none⟩ = some (.slice none 0 0) := HE2.out.cell 2
    have m3 := HE2.out.frozen 0
    have m4 := HE2.out.frozen 1
    have m5 := HE2.out.frozen 2
    have m6 := HE2.out.lt
    go_simp
    obtain ⟨V3, hV⟩ : ∃ V', V' = ((V2.setCell ⟨V1.heap.size, 0, none⟩ (.slice KA ks.length KC)).setCell ⟨V1.heap.size, 1, none⟩ (.int .i64 (ks.length : Nat))).setCell ⟨V1.heap.size, 2, none⟩ (.slice A2 XL C2) := ⟨_, rfl⟩
    rw [← hV]
    have HV3 : Hid (Below wo.heap.size wo V3) := by show Below _ _ _; rw [hV]; exact ((HV2.out.setCell hV1z _).setCell hV1z _).setCell hV1z _
    have HE3 : Hid (Row V3 V1.heap.size 73 [.slice KA ks.length KC, .int .i64 (ks.length : Nat), .slice A2 XL C2]) := by show Row _ _ _ _; rw [hV]; exact ((HE2.out.set 0 _).set 1 _).set 2 _
    have HZ3 : Hid (V1.heap.size < V3.heap.size) := HE3.out.lt
    clear hV m0 m1 m2 m3 m4 m5 m6
    refine hK.out _ _ (HKP2.out V3 HV3.out) (fun hHeld => ?_)
    clear hK K
    try simp only [Act.put]
    try simp only [List.setIfInBounds_toArray]
    try simp only [List.set_cons_succ]
    try simp only [List.set_cons_zero]
    refine wpAnyH_done (by kernel_rfl) ?_ _
    clear HE2 HV2 HKP2
    go_upto_region 10 with (fail)
    have HKU : Hid (∀ V, Below V3.heap.size V3 V → V.cell? ⟨V1.heap.size, 1, none⟩ = some (.int .i64 (ks.length : Nat)) ∧ V.cell? ⟨V1.heap.size, 2, none⟩ = some (.slice A2 XL C2) ∧ V.cell? ⟨ub, uo + i * 3, none⟩ = some (.bool del) ∧ V.cell? ⟨ub, uo + i * 3 + 1, none⟩ = some (.string nm) ∧ V.cell? ⟨ub, uo + i * 3 + 2, none⟩ = some (.slice RA x.length RC)) := fun V hb =>
      ⟨(HE3.out.up hb).cell 1, (HE3.out.up hb).cell 2, (HKP.out V (Below.then HV3.out hb HV3.out.size)).2⟩
    have HPB : Hid (∀ b, V3.heap.size ≤ b → (P b ∧ b ≠ w.heap.size + 1) ∧ b ≠ bM) := fun b hb => by
      have h1 := HV3.out.size
      exact ⟨⟨HPN.out _ (by omega), by omega⟩, by omega⟩
    obtain ⟨R, hR⟩ : ∃ R, R = updF del (F' nm) x := ⟨_, rfl⟩
    have HUP : Hid (∀ (V : World) (hb : Below V3.heap.size V3 V) (O : Nat → Prop) (h1 : ∀ b, b < V3.heap.size → ((P b ∧ b ≠ w.heap.size + 1) ∧ b ≠ bM) → O b) (h2 : ∀ b, V.heap.size ≤ b → O b), Calls Tryz.prog 31 #[.agg #[.int .i64 (ks.length : Nat), .slice A2 XL C2], .agg #[.bool del, .string nm, .slice RA x.length RC]] V fun e w' => Below V.heap.size V w' ∧ ∃ (q1 : Int) (A : Option Addr) (q2 C : Nat) (ch : Bool), e = .returned (.tuple #[.agg #[.int .i64 q1, .slice A q2 C], .bool ch, .int .i64 R.1]) ∧ (R.1 = 0 → q1 = (ks.length : Nat) ∧ q2 = R.2.1.length ∧ ch = R.2.2 ∧ q2 ≤ C ∧ C ≤ 9223372036854775807 ∧ SlRsP O w'.heap.size w' A R.2.1)) := fun V hb O h1 h2 => by
      rw [HXL.out, hR]
      have hV := Below.then HV3.out hb HV3.out.size
      exact (ctUpdate_any O ks.length del nm A2 RA C2 RC (F' nm) x V (((HSL2.out.stay (Stay.of HV3.out)).weak h1).stay (Stay.of hb)) h2 ((HUX.out.below hV (Nat.le_refl _)).more hV.size) HRO.out (by omega) HWR.out HC2.out.1 HC2.out.2).mono fun e w' h => h.shape
    have HR := Lib.hid hR
    clear hR
    go_cut [12, 13, 14] from 42 to 52 (fun r c e wx => Below V3.heap.size V3 wx ∧ ∃ (b12 : Nat) (q1 : Int) (AR : Option Addr) (q2 CR : Nat) (ch : Bool), r = .pointer (some ⟨b12, 0, none⟩) ∧ c = .bool ch ∧ e = .int .i64 R.1 ∧ V3.heap.size ≤ b12 ∧ Row wx b12 71 [.int .i64 q1, .slice AR q2 CR] ∧ (R.1 = 0 → q1 = (ks.length : Nat) ∧ q2 = R.2.1.length ∧ ch = R.2.2 ∧ q2 ≤ CR ∧ CR ≤ 9223372036854775807 ∧ SlRsP (fun b => (P b ∧ b ≠ w.heap.size + 1) ∧ b ≠ bM) wx.heap.size wx AR R.2.1))
    case first =>
      refine wp_region_held_drew (S := (fun w' => w'.cell? ⟨V1.heap.size, 1, none⟩ = some (.int .i64 (ks.length : Nat)) ∧ w'.cell? ⟨V1.heap.size, 2, none⟩ = some (.slice A2 XL C2) ∧ w'.cell? ⟨ub, uo + i * 3, none⟩ = some (.bool del) ∧ w'.cell? ⟨ub, uo + i * 3 + 1, none⟩ = some (.string nm) ∧ w'.cell? ⟨ub, uo + i * 3 + 2, none⟩ = some (.slice RA x.length RC))) (by kernel_rfl) (HKU.out V3 (Below.refl _ _)) (fun hHeld => ?_)
      obtain ⟨U0, hV0⟩ : ∃ V, V = V3.drew := ⟨_, rfl⟩
      have HV : Hid (Below V3.heap.size V3 U0) := by show Below _ _ _; rw [hV0]; exact ((Ext.refl V3).drew).below
      rw [← hV0]
      clear hV0
      have hHeld0 := HKU.out U0 HV.out
      refine takeOp (i := 0) (v := ?_) (some 43) rfl rfl (by kernel_rfl) (by kernel_rfl) (by kernel_rfl) (fun _ _ _ h => h) (Or.inl ⟨by rfl, ?_⟩) (by assumption) ?_
      rotate_left 1
      · (intro w0 hSw; (try dsimp only at hSw); go_simp; try (with_reducible rfl))
      try simp only [Act.put]
      try simp only [List.setIfInBounds_toArray]
      try simp only [List.set_cons_succ]
      try simp only [List.set_cons_zero]
      refine takeOp (i := 1) (v := ?_) (some 44) rfl rfl (by kernel_rfl) (by kernel_rfl) (by kernel_rfl) (fun _ _ _ h => h) (Or.inl ⟨by rfl, ?_⟩) (by assumption) ?_
      rotate_left 1
      · (intro w0 hSw; (try dsimp only at hSw); go_simp; try (with_reducible rfl))
      try simp only [Act.put]
      try simp only [List.setIfInBounds_toArray]
      try simp only [List.set_cons_succ]
      try simp only [List.set_cons_zero]
      refine takeOp (i := 2) (v := ?_) (some 45) rfl rfl (by kernel_rfl) (by kernel_rfl) (by kernel_rfl) (fun _ _ _ h => h) (Or.inl ⟨by rfl, ?_⟩) (by assumption) ?_
      rotate_left 1
      · (intro w0 hSw; (try dsimp only at hSw); go_simp; try (with_reducible rfl))
      try simp only [Act.put]
      try simp only [List.setIfInBounds_toArray]
      try simp only [List.set_cons_succ]
      try simp only [List.set_cons_zero]
      refine takeOp (i := 3) (v := ?_) (some 46) rfl rfl (by kernel_rfl) (by kernel_rfl) (by kernel_rfl) (fun _ _ _ h => h) (Or.inl ⟨by rfl, ?_⟩) (by assumption) ?_
      rotate_left 1
      · (intro w0 hSw; (try dsimp only at hSw); go_simp; try (with_reducible rfl))
      try simp only [Act.put]
      try simp only [List.setIfInBounds_toArray]
      try simp only [List.set_cons_succ]
      try simp only [List.set_cons_zero]
      refine takeOp (i := 4) (v := ?_) (some 47) rfl rfl (by kernel_rfl) (by kernel_rfl) (by kernel_rfl) (fun _ _ _ h => h) (Or.inl ⟨by rfl, ?_⟩) (by assumption) ?_
      rotate_left 1
      · (intro w0 hSw; (try dsimp only at hSw); go_simp; try (with_reducible rfl))
      try simp only [Act.put]
      try simp only [List.setIfInBounds_toArray]
      try simp only [List.set_cons_succ]
      try simp only [List.set_cons_zero]
      refine takeOp (i := 5) (v := ?_) (some 48) rfl rfl (by kernel_rfl) (by kernel_rfl) (by kernel_rfl) (fun _ _ _ h => h) (Or.inl ⟨by rfl, ?_⟩) (by assumption) ?_
      rotate_left 1
      · (intro w0 hSw; (try dsimp only at hSw); go_simp; try (with_reducible rfl))
      try simp only [Act.put]
      try simp only [List.setIfInBounds_toArray]
      try simp only [List.set_cons_succ]
      try simp only [List.set_cons_zero]
      refine wpAnyH_ready (rs := [6, 11]) (by kernel_rfl) (by simp) ?_
      refine (AllReadyH.cons rfl (fun K hK => ?_) (AllReadyH.cons rfl (fun K hK => ?_) AllReadyH.nil))
      · go_simp
        refine (HUP.out U0 HV.out (fun b => (P b ∧ b ≠ w.heap.size + 1) ∧ b ≠ bM) (fun b hb hp => hp) (fun b hb => HPB.out b (Nat.le_trans HV.out.size hb))).mono ?_
        rintro e U1 ⟨hb, q1, AR, q2, CR, ch, rfl, hs⟩
        have HS := Lib.hid hs
        have HV := Lib.hid (Below.then HV.out hb HV.out.size)
        clear hs hb
        go_wp2_with fail
        refine hK.out _ _ (HKU.out _ HV.out) (fun hHeld => ?_)
        clear hK K
        try simp only [Act.put]
        try simp only [List.setIfInBounds_toArray]
        try simp only [List.set_cons_succ]
        try simp only [List.set_cons_zero]
        refine takeOp (i := 7) (v := ?_) (some 42) rfl rfl (by kernel_rfl) (by kernel_rfl) (by kernel_rfl) (fun _ _ _ h => h) (Or.inl ⟨by rfl, ?_⟩) (by assumption) ?_
        rotate_left 1
        · (intro w0 hSw; (try dsimp only at hSw); go_simp; try (with_reducible rfl))
        try simp only [Act.put]
        try simp only [List.setIfInBounds_toArray]
        try simp only [List.set_cons_succ]
        try simp only [List.set_cons_zero]
        refine takeOp (i := 8) (v := ?_) (some 50) rfl rfl (by kernel_rfl) (by kernel_rfl) (by kernel_rfl) (fun _ _ _ h => h) (Or.inl ⟨by rfl, ?_⟩) (by assumption) ?_
        rotate_left 1
        · (intro w0 hSw; (try dsimp only at hSw); go_simp; try (with_reducible rfl))
        try simp only [Act.put]
        try simp only [List.setIfInBounds_toArray]
        try simp only [List.set_cons_succ]
        try simp only [List.set_cons_zero]
        refine takeOp (i := 9) (v := ?_) (some 51) rfl rfl (by kernel_rfl) (by kernel_rfl) (by kernel_rfl) (fun _ _ _ h => h) (Or.inl ⟨by rfl, ?_⟩) (by assumption) ?_
        rotate_left 1
        · (intro w0 hSw; (try dsimp only at hSw); go_simp; try (with_reducible rfl))
        try simp only [Act.put]
        try simp only [List.setIfInBounds_toArray]
        try simp only [List.set_cons_succ]
        try simp only [List.set_cons_zero]
        refine takeOp (i := 10) (v := ?_) (some 52) rfl rfl (by kernel_rfl) (by kernel_rfl) (by kernel_rfl) (fun _ _ _ h => h) (Or.inl ⟨by rfl, ?_⟩) (by assumption) ?_
        rotate_left 1
        · (intro w0 hSw; (try dsimp only at hSw); go_simp; try (with_reducible rfl))
        try simp only [Act.put]
        try simp only [List.setIfInBounds_toArray]
        try simp only [List.set_cons_succ]
        try simp only [List.set_cons_zero]
        refine wpAnyH_ready (rs := [11]) (by kernel_rfl) (by simp) ?_
        refine (AllReadyH.cons rfl (fun K hK => ?_) AllReadyH.nil)
        go_simp
        obtain ⟨U2, hV⟩ : ∃ V', V' = U1.alloc (.cells #[.int .i64 0, .slice none 0 0] 71) := ⟨_, rfl⟩
        rw [← hV]
        have hx : Ext U1 U2 := by rw [hV]; exact (Ext.refl U1).alloc _
        have HM : Hid (Row U2 U1.heap.size 71 [.int .i64 0, .slice none 0 0]) := by show Row _ _ _ _; rw [hV]; exact Row.new U1 71 _
        have HLO : Hid (V3.heap.size ≤ U1.heap.size) := HV.out.size
        have HS : Hid (R.1 = 0 → q1 = (ks.length : Nat) ∧ q2 = R.2.1.length ∧ ch = R.2.2 ∧ q2 ≤ CR ∧ CR ≤ 9223372036854775807 ∧ SlRsP (fun x => (fun b => (P b ∧ b ≠ w.heap.size + 1) ∧ b ≠ bM) x ∧ x ≠ U1.heap.size) U2.heap.size U2 AR R.2.1) := fun h => by
          obtain ⟨a1, a2, a3, a4, a5, a6⟩ := HS.out h
          exact ⟨a1, a2, a3, a4, a5, (a6.weak fun b hb hp => ⟨hp, by omega⟩).stay (Stay.of hx.below)⟩
        have HV := Lib.hid (Below.then HV.out hx.below HV.out.size)
        clear hx hV
        refine hK.out _ _ (HKU.out _ HV.out) (fun hHeld => ?_)
        clear hK K
        try simp only [Act.put]
        try simp only [List.setIfInBounds_toArray]
        try simp only [List.set_cons_succ]
        try simp only [List.set_cons_zero]
        refine wpAnyH_ready (rs := [12]) (by kernel_rfl) (by simp) ?_
        refine (AllReadyH.cons rfl (fun K hK => ?_) AllReadyH.nil)
        have m0 := HM.out.cell 0
        have m1 := HM.out.cell 1
        have m2 := HM.out.frozen 0
        have m3 := HM.out.frozen 1
        have m4 := HM.out.lt
        simp only [List.getElem?_cons_zero, List.getElem?_cons_succ] at m0 m1
        go_simp
        obtain ⟨U3, hV⟩ : ∃ V', V' = (U2.setCell ⟨U1.heap.size, 0, none⟩ (.int .i64 q1)).setCell ⟨U1.heap.size, 1, none⟩ (.slice AR q2 CR) := ⟨_, rfl⟩
        rw [← hV]
        have HM : Hid (Row U3 U1.heap.size 71 [.int .i64 q1, .slice AR q2 CR]) := by show Row _ _ _ _; rw [hV]; exact HM.out.set2 _ _
        have HS : Hid (R.1 = 0 → q1 = (ks.length : Nat) ∧ q2 = R.2.1.length ∧ ch = R.2.2 ∧ q2 ≤ CR ∧ CR ≤ 9223372036854775807 ∧ SlRsP (fun b => (P b ∧ b ≠ w.heap.size + 1) ∧ b ≠ bM) U3.heap.size U3 AR R.2.1) := fun h => by
          obtain ⟨a1, a2, a3, a4, a5, a6⟩ := HS.out h
          refine ⟨a1, a2, a3, a4, a5, ?_⟩
          rw [hV]
          exact ((a6.stay (Stay.set (fun e => e.2 rfl) 0 _)).stay (Stay.set (fun e => e.2 rfl) 1 _)).weak fun _ _ hb => hb.1
        have HV : Hid (Below V3.heap.size V3 U3) := by show Below _ _ _; rw [hV]; exact (HV.out.setCell (by show V3.heap.size ≤ U1.heap.size; exact HLO.out) _).setCell (by show V3.heap.size ≤ U1.heap.size; exact HLO.out) _
        clear hV m0 m1 m2 m3 m4
        refine hK.out _ _ (HKU.out _ HV.out) (fun hHeld => ?_)
        clear hK K
        try simp only [Act.put]
        try simp only [List.setIfInBounds_toArray]
        try simp only [List.set_cons_succ]
        try simp only [List.set_cons_zero]
        refine takeOp (i := 13) (v := ?_) (some 13) rfl rfl (by kernel_rfl) (by kernel_rfl) (by kernel_rfl) (fun _ _ _ h => h) (Or.inl ⟨by rfl, ?_⟩) (by assumption) ?_
        rotate_left 1
        · (intro w0 hSw; (try dsimp only at hSw); go_simp; try (with_reducible rfl))
        try simp only [Act.put]
        try simp only [List.setIfInBounds_toArray]
        try simp only [List.set_cons_succ]
        try simp only [List.set_cons_zero]
        refine takeOp (i := 14) (v := ?_) (some 14) rfl rfl (by kernel_rfl) (by kernel_rfl) (by kernel_rfl) (fun _ _ _ h => h) (Or.inl ⟨by rfl, ?_⟩) (by assumption) ?_
        rotate_left 1
        · (intro w0 hSw; (try dsimp only at hSw); go_simp; try (with_reducible rfl))
        try simp only [Act.put]
        try simp only [List.setIfInBounds_toArray]
        try simp only [List.set_cons_succ]
        try simp only [List.set_cons_zero]
        refine wpAnyH_done (by kernel_rfl) ?_ _
        go_wp2_with fail
        go_meet
        case rel => exact ⟨HV.out, U1.heap.size, q1, AR, q2, CR, ch, rfl, rfl, rfl, HLO.out, HM.out, HS.out⟩
      · go_simp
        obtain ⟨U1, hV⟩ : ∃ V', V' = U0.alloc (.cells #[.int .i64 0, .slice none 0 0] 71) := ⟨_, rfl⟩
        rw [← hV]
        have hx : Ext U0 U1 := by rw [hV]; exact (Ext.refl U0).alloc _
        have HM : Hid (Row U1 U0.heap.size 71 [.int .i64 0, .slice none 0 0]) := by show Row _ _ _ _; rw [hV]; exact Row.new U0 71 _
        have HLO : Hid (V3.heap.size ≤ U0.heap.size) := HV.out.size
        have HV := Lib.hid (Below.then HV.out hx.below HV.out.size)
        clear hx hV
        refine hK.out _ _ (HKU.out _ HV.out) (fun hHeld => ?_)
        clear hK K
        try simp only [Act.put]
        try simp only [List.setIfInBounds_toArray]
        try simp only [List.set_cons_succ]
        try simp only [List.set_cons_zero]
        refine wpAnyH_ready (rs := [6]) (by kernel_rfl) (by simp) ?_
        refine (AllReadyH.cons rfl (fun K hK => ?_) AllReadyH.nil)
        go_simp
        refine (HUP.out U1 HV.out (fun x => (fun b => (P b ∧ b ≠ w.heap.size + 1) ∧ b ≠ bM) x ∧ x ≠ U0.heap.size) (fun b hb hp => ⟨hp, by have := HLO.out; omega⟩) (fun b hb => ⟨HPB.out b (Nat.le_trans HV.out.size hb), by have := HM.out.lt; omega⟩)).mono ?_
        rintro e U2 ⟨hb, q1, AR, q2, CR, ch, rfl, hs⟩
        have HM := Lib.hid (HM.out.up hb)
        have HS := Lib.hid hs
        have HV := Lib.hid (Below.then HV.out hb HV.out.size)
        clear hs hb
        go_wp2_with fail
        refine hK.out _ _ (HKU.out _ HV.out) (fun hHeld => ?_)
        clear hK K
        try simp only [Act.put]
        try simp only [List.setIfInBounds_toArray]
        try simp only [List.set_cons_succ]
        try simp only [List.set_cons_zero]
        refine takeOp (i := 7) (v := ?_) (some 42) rfl rfl (by kernel_rfl) (by kernel_rfl) (by kernel_rfl) (fun _ _ _ h => h) (Or.inl ⟨by rfl, ?_⟩) (by assumption) ?_
        rotate_left 1
        · (intro w0 hSw; (try dsimp only at hSw); go_simp; try (with_reducible rfl))
        try simp only [Act.put]
        try simp only [List.setIfInBounds_toArray]
        try simp only [List.set_cons_succ]
        try simp only [List.set_cons_zero]
        refine takeOp (i := 8) (v := ?_) (some 50) rfl rfl (by kernel_rfl) (by kernel_rfl) (by kernel_rfl) (fun _ _ _ h => h) (Or.inl ⟨by rfl, ?_⟩) (by assumption) ?_
        rotate_left 1
        · (intro w0 hSw; (try dsimp only at hSw); go_simp; try (with_reducible rfl))
        try simp only [Act.put]
        try simp only [List.setIfInBounds_toArray]
        try simp only [List.set_cons_succ]
        try simp only [List.set_cons_zero]
        refine takeOp (i := 9) (v := ?_) (some 51) rfl rfl (by kernel_rfl) (by kernel_rfl) (by kernel_rfl) (fun _ _ _ h => h) (Or.inl ⟨by rfl, ?_⟩) (by assumption) ?_
        rotate_left 1
        · (intro w0 hSw; (try dsimp only at hSw); go_simp; try (with_reducible rfl))
        try simp only [Act.put]
        try simp only [List.setIfInBounds_toArray]
        try simp only [List.set_cons_succ]
        try simp only [List.set_cons_zero]
        refine takeOp (i := 10) (v := ?_) (some 52) rfl rfl (by kernel_rfl) (by kernel_rfl) (by kernel_rfl) (fun _ _ _ h => h) (Or.inl ⟨by rfl, ?_⟩) (by assumption) ?_
        rotate_left 1
        · (intro w0 hSw; (try dsimp only at hSw); go_simp; try (with_reducible rfl))
        try simp only [Act.put]
        try simp only [List.setIfInBounds_toArray]
        try simp only [List.set_cons_succ]
        try simp only [List.set_cons_zero]
        refine wpAnyH_ready (rs := [12]) (by kernel_rfl) (by simp) ?_
        refine (AllReadyH.cons rfl (fun K hK => ?_) AllReadyH.nil)
        have m0 := HM.out.cell 0
        have m1 := HM.out.cell 1
        have m2 := HM.out.frozen 0
        have m3 := HM.out.frozen 1
        have m4 := HM.out.lt
        simp only [List.getElem?_cons_zero, List.getElem?_cons_succ] at m0 m1
        go_simp
        obtain ⟨U3, hV⟩ : ∃ V', V' = (U2.setCell ⟨U0.heap.size, 0, none⟩ (.int .i64 q1)).setCell ⟨U0.heap.size, 1, none⟩ (.slice AR q2 CR) := ⟨_, rfl⟩
        rw [← hV]
        have HM : Hid (Row U3 U0.heap.size 71 [.int .i64 q1, .slice AR q2 CR]) := by show Row _ _ _ _; rw [hV]; exact HM.out.set2 _ _
        have HS : Hid (R.1 = 0 → q1 = (ks.length : Nat) ∧ q2 = R.2.1.length ∧ ch = R.2.2 ∧ q2 ≤ CR ∧ CR ≤ 9223372036854775807 ∧ SlRsP (fun b => (P b ∧ b ≠ w.heap.size + 1) ∧ b ≠ bM) U3.heap.size U3 AR R.2.1) := fun h => by
          obtain ⟨a1, a2, a3, a4, a5, a6⟩ := HS.out h
          refine ⟨a1, a2, a3, a4, a5, ?_⟩
          rw [hV]
          exact ((a6.stay (Stay.set (fun e => e.2 rfl) 0 _)).stay (Stay.set (fun e => e.2 rfl) 1 _)).weak fun _ _ hb => hb.1
        have HV : Hid (Below V3.heap.size V3 U3) := by show Below _ _ _; rw [hV]; exact (HV.out.setCell (by show V3.heap.size ≤ U0.heap.size; exact HLO.out) _).setCell (by show V3.heap.size ≤ U0.heap.size; exact HLO.out) _
        clear hV m0 m1 m2 m3 m4
        refine hK.out _ _ (HKU.out _ HV.out) (fun hHeld => ?_)
        clear hK K
        try simp only [Act.put]
        try simp only [List.setIfInBounds_toArray]
        try simp only [List.set_cons_succ]
        try simp only [List.set_cons_zero]
        refine takeOp (i := 13) (v := ?_) (some 13) rfl rfl (by kernel_rfl) (by kernel_rfl) (by kernel_rfl) (fun _ _ _ h => h) (Or.inl ⟨by rfl, ?_⟩) (by assumption) ?_
        rotate_left 1
        · (intro w0 hSw; (try dsimp only at hSw); go_simp; try (with_reducible rfl))
        try simp only [Act.put]
        try simp only [List.setIfInBounds_toArray]
        try simp only [List.set_cons_succ]
        try simp only [List.set_cons_zero]
        refine takeOp (i := 14) (v := ?_) (some 14) rfl rfl (by kernel_rfl) (by kernel_rfl) (by kernel_rfl) (fun _ _ _ h => h) (Or.inl ⟨by rfl, ?_⟩) (by assumption) ?_
        rotate_left 1
        · (intro w0 hSw; (try dsimp only at hSw); go_simp; try (with_reducible rfl))
        try simp only [Act.put]
        try simp only [List.setIfInBounds_toArray]
        try simp only [List.set_cons_succ]
        try simp only [List.set_cons_zero]
        refine wpAnyH_done (by kernel_rfl) ?_ _
        go_wp2_with fail
        go_meet
        case rel => exact ⟨HV.out, U0.heap.size, q1, AR, q2, CR, ch, rfl, rfl, rfl, HLO.out, HM.out, HS.out⟩
    case rest =>
      obtain ⟨hbc, b12, n1, AR, n2, CR, ch, rfl, rfl, rfl, hlo, hrm, hsm⟩ := hcut
      have HBC := Lib.hid hbc
      have HRM := Lib.hid hrm
      have HSM := Lib.hid hsm
      have HBV := Lib.hid (Below.then HV3.out hbc HV3.out.size)
      have HBW := Lib.hid (Below.then HB.out (Below.then HV3.out hbc HV3.out.size) hzb)
      have HRG2 := Lib.hid (HRG.out.up (Below.then HV3.out hbc HV3.out.size))
      have hlt1 := (HE3.out.up hbc).lt
      have hlt2 := hrm.lt
      clear hbc hrm hsm
      by_cases he : R.1 = 0
      rotate_left
      · have hne : (R.1 != 0) = true := by simpa using he
        have HSE : Hid ((stepU S F' ⟨del, nm, x⟩).1 = R.1) := by
          show _ = _
          unfold stepU
          rw [if_pos HCE.out, if_neg (by rw [← HR.out]; exact he), ← HR.out]
        have HEE : Hid (R.1 ≠ 0) := he
        have g5 : wc.cell? ⟨w.heap.size + 1, 0, none⟩ = some (.map none) := HRG2.out.cell 0
        have g6 := HRG2.out.frozen 0
        have g7 := HRG2.out.lt
        clear he
        generalize R.1 = ce at *
        go_wp2_with fail
        obtain ⟨W9, hW9⟩ : ∃ W9, W9 = wc.setCell ⟨w.heap.size + 1, 0, none⟩ (.map none) := ⟨_, rfl⟩
        rw [← hW9]
        have q := HRG2.out.set 0 (.map none)
        rw [← hW9] at q
        have c9 := q.cell 0
        have hb9 : Below w.heap.size w W9 := by rw [hW9]; exact HBW.out.setCell (by show w.heap.size ≤ w.heap.size + 1; omega) _
        exact bodyPost_ret (v := .tuple #[.agg #[.map none], .int .i64 0, .int .i64 ce]) (by simp [results, Tryz.results13, go_sem, c9]) rfl (ApPost.err (HBAD.out ce HSE.out HEE.out) HEE.out hb9)
      obtain ⟨rfl, rfl, rfl, ha4, ha5, ha6⟩ := HSM.out he
      have HA := Lib.hid (And.intro ha4 (And.intro ha5 ha6))
      have HSE : Hid (stepU S F' ⟨del, nm, x⟩ = (0, if R.2.2 then updC F' nm R.2.1 else F', R.2.2)) := by
        show _ = _
        unfold stepU
        rw [if_pos HCE.out, if_pos (by rw [← HR.out]; exact he), ← HR.out]
      rw [he]
      have HRR : Hid (RowsOk ks.length R.2.1) := by show RowsOk _ _; rw [HR.out]; exact updF_ok HRO.out HWR.out
      clear he ha4 ha5 ha6 HSM HUP
      obtain ⟨rows, hrows⟩ : ∃ rows, rows = R.2.1 := ⟨_, rfl⟩
      obtain ⟨ch, hch⟩ : ∃ ch, ch = R.2.2 := ⟨_, rfl⟩
      rw [← hrows] at HA HSE HRM HRR
      rw [← hch] at HSE ⊢
      clear hrows hch
      cases ch
      · have HG := HGOOD.out (by rw [HSE.out])
        rw [HSE.out] at HG
        have HG2 : Hid (applyF S F 0 us = applyF S F' k (us.drop (i + 1))) := HG
        have HO2 := Lib.hid (map_up HO.out HBV.out)
        have HEN2 := Lib.hid (HEN.out.keep (Stay.of HBV.out))
        have HR72 := Lib.hid (HR7.out.up HBV.out)
        clear HG
        go_wp2_with fail
        go_roundw
        case rel => exact ⟨i + 1, k, D, F', hil, by omega, by go_num, rfl, HG2.out, HO2.out, HEN2.out, HRG2.out, HR72.out, HBW.out⟩
        case measure => simp [intOf]; omega
      · have HG := HGOOD.out (by rw [HSE.out])
        rw [HSE.out] at HG
        have HG2 : Hid (applyF S F 0 us = applyF S (updC F' nm rows) (k + 1) (us.drop (i + 1))) := HG
        clear HG
        have HKF : Hid (∀ V, Below wc.heap.size wc V → V.cell? ⟨b7, 0, none⟩ = some (.map (some bM)) ∧ V.cell? ⟨ub, uo + i * 3 + 1, none⟩ = some (.string nm) ∧ V.cell? ⟨V1.heap.size, 0, none⟩ = some (.slice KA ks.length KC) ∧ V.cell? ⟨b12, 0, none⟩ = some (.int .i64 (ks.length : Nat)) ∧ V.cell? ⟨b12, 1, none⟩ = some (.slice AR rows.length CR)) := fun V hb => by
          have h1 := HKP.out V (Below.then HBV.out hb HBV.out.size)
          exact ⟨h1.1, h1.2.2.1, (HE3.out.up (Below.then HBC.out hb HBC.out.size)).cell 0, (HRM.out.up hb).cell 0, (HRM.out.up hb).cell 1⟩
        have hwcz := HBV.out.size
        have hb7c : b7 < wc.heap.size := by omega
        have hubc : ub < wc.heap.size := by omega
        go_upto_region 14 with (fail)
        refine wp_region_held_drew (S := (fun w' => w'.cell? ⟨b7, 0, none⟩ = some (.map (some bM)) ∧ w'.cell? ⟨ub, uo + i * 3 + 1, none⟩ = some (.string nm) ∧ w'.cell? ⟨V1.heap.size, 0, none⟩ = some (.slice KA ks.length KC) ∧ w'.cell? ⟨b12, 0, none⟩ = some (.int .i64 (ks.length : Nat)) ∧ w'.cell? ⟨b12, 1, none⟩ = some (.slice AR rows.length CR))) (by kernel_rfl) (HKF.out wc (Below.refl _ _)) (fun hHeld => ?_)
        refine takeOp (i := 0) (v := ?_) (some 58) rfl rfl (by kernel_rfl) (by kernel_rfl) (by kernel_rfl) (fun _ _ _ h => h) (Or.inl ⟨by rfl, ?_⟩) (by assumption) ?_
        rotate_left 1
        · (intro w0 hSw; (try dsimp only at hSw); go_simp; try (with_reducible rfl))
        try simp only [Act.put]
        try simp only [List.setIfInBounds_toArray]
        try simp only [List.set_cons_succ]
        try simp only [List.set_cons_zero]
        refine takeOp (i := 1) (v := ?_) (some 59) rfl rfl (by kernel_rfl) (by kernel_rfl) (by kernel_rfl) (fun _ _ _ h => h) (Or.inl ⟨by rfl, ?_⟩) (by assumption) ?_
        rotate_left 1
        · (intro w0 hSw; (try dsimp only at hSw); go_simp; try (with_reducible rfl))
        try simp only [Act.put]
        try simp only [List.setIfInBounds_toArray]
        try simp only [List.set_cons_succ]
        try simp only [List.set_cons_zero]
        refine takeOp (i := 2) (v := ?_) (some 60) rfl rfl (by kernel_rfl) (by kernel_rfl) (by kernel_rfl) (fun _ _ _ h => h) (Or.inl ⟨by rfl, ?_⟩) (by assumption) ?_
        rotate_left 1
        · (intro w0 hSw; (try dsimp only at hSw); go_simp; try (with_reducible rfl))
        try simp only [Act.put]
        try simp only [List.setIfInBounds_toArray]
        try simp only [List.set_cons_succ]
        try simp only [List.set_cons_zero]
        refine takeOp (i := 3) (v := ?_) (some 61) rfl rfl (by kernel_rfl) (by kernel_rfl) (by kernel_rfl) (fun _ _ _ h => h) (Or.inl ⟨by rfl, ?_⟩) (by assumption) ?_
        rotate_left 1
        · (intro w0 hSw; (try dsimp only at hSw); go_simp; try (with_reducible rfl))
        try simp only [Act.put]
        try simp only [List.setIfInBounds_toArray]
        try simp only [List.set_cons_succ]
        try simp only [List.set_cons_zero]
        refine takeOp (i := 4) (v := ?_) (some 62) rfl rfl (by kernel_rfl) (by kernel_rfl) (by kernel_rfl) (fun _ _ _ h => h) (Or.inl ⟨by rfl, ?_⟩) (by assumption) ?_
        rotate_left 1
        · (intro w0 hSw; (try dsimp only at hSw); go_simp; try (with_reducible rfl))
        try simp only [Act.put]
        try simp only [List.setIfInBounds_toArray]
        try simp only [List.set_cons_succ]
        try simp only [List.set_cons_zero]
        refine takeOp (i := 5) (v := ?_) (some 63) rfl rfl (by kernel_rfl) (by kernel_rfl) (by kernel_rfl) (fun _ _ _ h => h) (Or.inl ⟨by rfl, ?_⟩) (by assumption) ?_
        rotate_left 1
        · (intro w0 hSw; (try dsimp only at hSw); go_simp; try (with_reducible rfl))
        try simp only [Act.put]
        try simp only [List.setIfInBounds_toArray]
        try simp only [List.set_cons_succ]
        try simp only [List.set_cons_zero]
        refine takeOp (i := 6) (v := ?_) (some 64) rfl rfl (by kernel_rfl) (by kernel_rfl) (by kernel_rfl) (fun _ _ _ h => h) (Or.inl ⟨by rfl, ?_⟩) (by assumption) ?_
        rotate_left 1
        · (intro w0 hSw; (try dsimp only at hSw); go_simp; try (with_reducible rfl))
        try simp only [Act.put]
        try simp only [List.setIfInBounds_toArray]
        try simp only [List.set_cons_succ]
        try simp only [List.set_cons_zero]
        refine takeOp (i := 7) (v := ?_) (some 65) rfl rfl (by kernel_rfl) (by kernel_rfl) (by kernel_rfl) (fun _ _ _ h => h) (Or.inl ⟨by rfl, ?_⟩) (by assumption) ?_
        rotate_left 1
        · (intro w0 hSw; (try dsimp only at hSw); go_simp; try (with_reducible rfl))
        try simp only [Act.put]
        try simp only [List.setIfInBounds_toArray]
        try simp only [List.set_cons_succ]
        try simp only [List.set_cons_zero]
        refine takeOp (i := 8) (v := ?_) (some 66) rfl rfl (by kernel_rfl) (by kernel_rfl) (by kernel_rfl) (fun _ _ _ h => h) (Or.inl ⟨by rfl, ?_⟩) (by assumption) ?_
        rotate_left 1
        · (intro w0 hSw; (try dsimp only at hSw); go_simp; try (with_reducible rfl))
        try simp only [Act.put]
        try simp only [List.setIfInBounds_toArray]
        try simp only [List.set_cons_succ]
        try simp only [List.set_cons_zero]
        refine takeOp (i := 9) (v := ?_) (some 67) rfl rfl (by kernel_rfl) (by kernel_rfl) (by kernel_rfl) (fun _ _ _ h => h) (Or.inl ⟨by rfl, ?_⟩) (by assumption) ?_
        rotate_left 1
        · (intro w0 hSw; (try dsimp only at hSw); go_simp; try (with_reducible rfl))
        try simp only [Act.put]
        try simp only [List.setIfInBounds_toArray]
        try simp only [List.set_cons_succ]
        try simp only [List.set_cons_zero]
        refine takeOp (i := 10) (v := ?_) (some 68) rfl rfl (by kernel_rfl) (by kernel_rfl) (by kernel_rfl) (fun _ _ _ h => h) (Or.inl ⟨by rfl, ?_⟩) (by assumption) ?_
        rotate_left 1
        · (intro w0 hSw; (try dsimp only at hSw); go_simp; try (with_reducible rfl))
        try simp only [Act.put]
        try simp only [List.setIfInBounds_toArray]
        try simp only [List.set_cons_succ]
        try simp only [List.set_cons_zero]
        refine wpAnyH_ready (rs := [11]) (by kernel_rfl) (by simp) ?_
        refine AllReadyH.cons rfl (fun K hK => ?_) AllReadyH.nil
        refine stepUpd (w := wc.drew) rfl (.tmp 59) (.tmp 64) (.tmp 68) 27 rfl 9 73 keyedS Tryz.underlying27 bM (Maps.size D) D (by simp [Act.eval]) (map_up HO.out HBV.out.drew) (by rw [HEN.out.1]; have := HSL.out; simp only [maxLen]; omega) (.string nm) (.agg #[.slice KA ks.length KC, .int .i64 (ks.length : Nat), .slice AR rows.length CR]) (litS nm) (by simp [Act.eval]) (by simp [Act.eval]) (keyS HOK2.out.1) ?_
        intro V5 hown2 hg2
        have HG5 : Hid (wc.drew.grownBy V5 (some bM)) := hg2
        have HS5 : Hid (Stay (fun b => (P b ∧ b ≠ w.heap.size + 1) ∧ b ≠ bM) wc V5) := Stay.grown (w := wc.drew) hg2 (fun e => e.2 rfl)
        have HO5 := Lib.hid hown2
        have KEEP8 : V5.cell? ⟨b7, 0, none⟩ = some (.map (some bM)) ∧ V5.cell? ⟨ub, uo + i * 3 + 1, none⟩ = some (.string nm) ∧ V5.cell? ⟨V1.heap.size, 0, none⟩ = some (.slice KA ks.length KC) ∧ V5.cell? ⟨b12, 0, none⟩ = some (.int .i64 (ks.length : Nat)) ∧ V5.cell? ⟨b12, 1, none⟩ = some (.slice AR rows.length CR) := by
          have h1 := HKF.out wc (Below.refl _ _)
          have hV3z := HV3.out.size
          have c := fun (p : Addr) (hp : p.block < wc.heap.size) (hne : p.block ≠ bM) => World.cell?_of_block (HG5.out.block p.block hp (fun e => hne (by injection e)))
          have hubM : ub ≠ bM := by omega
          exact ⟨(c ⟨b7, 0, none⟩ hb7c (by show b7 ≠ bM; omega)).trans h1.1, (c ⟨ub, uo + i * 3 + 1, none⟩ hubc (by show ub ≠ bM; omega)).trans h1.2.1, (c ⟨V1.heap.size, 0, none⟩ hlt1 (by show V1.heap.size ≠ bM; omega)).trans h1.2.2.1, (c ⟨b12, 0, none⟩ hlt2 (by show b12 ≠ bM; omega)).trans h1.2.2.2.1, (c ⟨b12, 1, none⟩ hlt2 (by show b12 ≠ bM; omega)).trans h1.2.2.2.2⟩
        clear hown2 hg2
        refine hK.out _ _ KEEP8 (fun hHeld => ?_)
        clear hK K
        try simp only [Act.put]
        try simp only [List.setIfInBounds_toArray]
        try simp only [List.set_cons_succ]
        try simp only [List.set_cons_zero]
        refine wpAnyH_done (by kernel_rfl) ?_ _
        have HST5 : Hid (Stay (fun b => (P b ∧ b ≠ w.heap.size + 1) ∧ b ≠ bM) wo V5) := (Stay.of HBV.out).trans HS5.out
        have HEN5 : Hid (EntsM (fun b => (P b ∧ b ≠ w.heap.size + 1) ∧ b ≠ bM) S V5 (D.put (litS nm) (.held (.agg #[.slice KA ks.length KC, .int .i64 (ks.length : Nat), .slice AR rows.length CR]))) (updC F' nm rows)) :=
          EntsM.put HEN.out (HO.out.tidy keyedS) (List.mem_map.2 ⟨(nm, ks), HKS.out, rfl⟩) HST5.out fun ks' hk' => by
            obtain ⟨e1, e2⟩ := HKS2.out ks' hk'
            refine ⟨KA, KC, AR, CR, by rw [e1], by omega, e2.keep HST5.out, HA.out.1, HA.out.2.1, HA.out.2.2.stay HS5.out, by rw [e1]; exact HRR.out⟩
        have HRG5 : Hid (Row V5 (w.heap.size + 1) 29 [.map none]) := HRG2.out.drew.grown HG5.out (by intro e; injection e with e; omega)
        have HR75 : Hid (Row V5 b7 29 [.map (some bM)]) := (HR7.out.up HBV.out).drew.grown HG5.out (by intro e; injection e with e; omega)
        have HBW5 : Hid (Below w.heap.size w V5) := HBW.out.drew.grown HG5.out (by show w.heap.size ≤ wc.heap.size; omega) (fun k hk => by injection hk with hk; omega)
        go_wp2_with fail
        go_roundw
        case rel => exact ⟨i + 1, k + 1, _, updC F' nm rows, hil, by omega, by go_num, by go_num, HG2.out, map_tight HO5.out, HEN5.out, HRG5.out, HR75.out, HBW5.out⟩
        case measure => simp [intOf]; omega

end Go.Proofs.YtgaffbdcpkbdhaaGreat
end

section
/- Walk: snapshot.Commit. -/
namespace Go.Proofs.YtgaffbdcpkbdhaaGreat
open Go.RowKit Go.Sort Go.ChangeMaps Go.WideShapes

theorem run_len_map {w : World} {b n : Nat} {D : DataW Value} (h : w.ownsMap Tryz.prog 3 heldR b n D) (ty : TypeId) : (Builtin.len_ #[33] ty #[.map (some b)]).run Tryz.prog w = .ok (.int .i64 (Maps.size D)) w := h.len Tryz.underlying33 ty
def CmPost (P : Nat → Prop) (S : Sch) (V : List Ver) (m : Value) (l : Int) (r : Int × Cont × Nat) (w : World) (e : Ending) (w' : World) : Prop :=
  (r.1 = 0 → ∃ m', e = .returned (.tuple #[.agg #[m', .int .i64 (l + 1)], .int .i64 (l + 1), .int .i64 0]) ∧ StM P S w' m' (putV V ⟨l + 1, r.2.1, 0⟩)) ∧ (r.1 ≠ 0 → e = .returned (.tuple #[.agg #[m, .int .i64 l], .int .i64 0, .int .i64 r.1])) ∧ Below w.heap.size w w'

set_option maxHeartbeats 4000000 in
set_option maxRecDepth 100000 in
theorem snCommit_full {P : Nat → Prop} {S : Sch} {m : Value} {l : Int} {V : List Ver} {w : World} (h : StM P S w m V) (h64 : 64 ≤ V.length) (hV : V.length ≤ 1000) (A : Option Addr) (C n : Nat) :
    Calls Tryz.prog 9 #[.agg #[m, .int .i64 l], .slice A n C] w fun e w' => e = .returned (.tuple #[.agg #[m, .int .i64 l], .int .i64 0, .int .i64 11]) ∧ Ext w w' := by
  obtain ⟨b, D, rfl, -, hown, hsz, -, -, -⟩ := h
  have hl1 := fun ty => run_len_map (map_up hown (((Ext.refl w).alloc (.cells #[.map (some b), .int .i64 l] 35)).alloc (.cells #[.map none, .int .i64 0] 35)).below) ty
  rw [hsz] at hl1
  have n0 : ((V.length : Int) == 0) = false := by
    have : (V.length : Int) ≠ 0 := by omega
    simpa using this
  have n1 : decide ((64 : Int) ≤ (V.length : Int)) = true := decide_eq_true (by omega)
  clear hown hsz
  go_enter Tryz.func9, Tryz.ntmps9
  go_wp2
  exact bodyPost_ret (v := .tuple #[.agg #[.map (some b), .int .i64 l], .int .i64 0, .int .i64 11]) (by simp [results, Tryz.results9, go_sem]) rfl ⟨rfl, ((Ext.refl w).alloc _).alloc _⟩

set_option maxHeartbeats 4000000 in
set_option maxRecDepth 100000 in
theorem snCommit_nil (w : World) (A : Option Addr) (C n : Nat) :
    Calls Tryz.prog 9 #[.agg #[.map none, .int .i64 0], .slice A n C] w fun e w' => e = .returned (.tuple #[.agg #[.map none, .int .i64 0], .int .i64 0, .int .i64 31]) ∧ Ext w w' := by
  have hl1 := fun (u : World) ty => Maps.len_nil (w := u) Tryz.underlying33 ty
  go_enter Tryz.func9, Tryz.ntmps9
  go_wp2
  exact bodyPost_ret (v := .tuple #[.agg #[.map none, .int .i64 0], .int .i64 0, .int .i64 31]) (by simp [results, Tryz.results9, go_sem]) rfl ⟨rfl, ((Ext.refl w).alloc _).alloc _⟩

set_option maxHeartbeats 4000000 in
set_option maxRecDepth 100000 in
theorem snCommit_any {P : Nat → Prop} {S : Sch} {m : Value} {l : Int} {V : List Ver} {w : World} (h : StM P S w m V) (hPn : ∀ b, w.heap.size ≤ b → P b) {x : Ver} (hx : x ∈ V) (hxl : x.num = l) (h64 : V.length < 64) (hl : 0 ≤ l ∧ l ≤ 1000000000000000000) (hSl : S.length ≤ 1000000)
    (A : Option Addr) (C : Nat) (us : List Upd) (hU : UpdsM w.heap.size w A us) (hok : ∀ u ∈ us, UpdOk u) (hul : us.length ≤ 1000000) :
    Calls Tryz.prog 9 #[.agg #[m, .int .i64 l], .slice A us.length C] w (CmPost P S V m l (applyF S x.db 0 us) w) := by
  obtain ⟨b, d, rfl, hlk, hd⟩ := h.look hx
  obtain ⟨bd, rfl⟩ := hd.form
  obtain ⟨W0, hW0⟩ : ∃ W0, W0 = (w.alloc (.cells #[.map (some b), .int .i64 l] 35)).alloc (.cells #[.map none, .int .i64 0] 35) := ⟨_, rfl⟩
  have hr1 : Row W0 w.heap.size 35 [.map (some b), .int .i64 l] := by rw [hW0]; exact (Row.new w 35 _).alloc _
  have hr2 : Row W0 (w.heap.size + 1) 35 [.map none, .int .i64 0] := by
    have h := Row.new (w.alloc (.cells #[.map (some b), .int .i64 l] 35)) 35 [.map none, .int .i64 0]
    rw [World.size_alloc] at h
    rw [hW0]; exact h
  have hx0 : Ext w W0 := by rw [hW0]; exact ((Ext.refl w).alloc _).alloc _
  have hz0 : w.heap.size + 1 < W0.heap.size := hr2.lt
  have hlen : ∀ ty, (Builtin.len_ #[33] ty #[.map (some b)]).run Tryz.prog W0 = .ok (.int .i64 (V.length : Int)) W0 := fun ty => by
    obtain ⟨b', D, e, -, hown, hsz, -, -, -⟩ := h
    injection e with e
    injection e with e
    subst e
    rw [← hsz]
    exact run_len_map (map_up hown hx0.below) ty
  have hlk2 := (hlk W0 hx0.below).2
  rw [hxl] at hlk2
  have n0 : ((V.length : Int) == 0) = false := by
    have : V.length ≠ 0 := fun e => by rw [List.eq_nil_of_length_eq_zero e] at hx; cases hx
    have : (V.length : Int) ≠ 0 := by omega
    simpa using this
  have n1 : decide ((64 : Int) ≤ (V.length : Int)) = false := decide_eq_false (by omega)
  have hf0 := fun (d p : Value) (u : World) => fieldVer0 d p u
  have hw1 : IntKind.i64.wrap (l + 1) = l + 1 := IntWalk.i64_in _ (by omega)
  have HAP := Lib.hid (ctApply_any (fun b => P b ∧ b ≠ w.heap.size + 1) S (.map (some bd)) x.db A C us W0 ((hd.but (by omega)).up hx0.below) (fun b hb => ⟨hPn b (Nat.le_trans hx0.size hb), by omega⟩) (fun hn => by
    obtain ⟨ub, uo, e, hub, huc⟩ := hU hn
    refine ⟨ub, uo, e, Nat.lt_of_lt_of_le hub hx0.size, fun i hi => ?_⟩
    obtain ⟨RA, RC, u0, u1, u2, ur⟩ := huc i hi
    exact ⟨RA, RC, (hx0.below.cell (p := ⟨ub, uo + i * 3, none⟩) hub).trans u0, (hx0.below.cell (p := ⟨ub, uo + i * 3 + 1, none⟩) hub).trans u1, (hx0.below.cell (p := ⟨ub, uo + i * 3 + 2, none⟩) hub).trans u2, (ur.ext (Nat.le_refl _) hx0).more hx0.size⟩) hok hul hSl)
  have HST := Lib.hid ((h.but (g := w.heap.size + 1) (by omega)).up hx0.below)
  have HPN := Lib.hid hPn
  have HVL : Hid (V.length ≤ 1000) := by show _ ≤ _; omega
  have HWF : Hid ((Lit.int .i64 (l + 1)).wf = true) := by show _ = _; simp [Lit.wf, IntKind.min, IntKind.max, IntKind.signed, IntKind.bits]; omega
  have HR1 := Lib.hid hr1
  have HR2 := Lib.hid hr2
  have HX0 := Lib.hid hx0
  have f0 : W0.cell? ⟨w.heap.size, 0, none⟩ = some (.map (some b)) := hr1.cell 0
  have f1 : W0.cell? ⟨w.heap.size, 1, none⟩ = some (.int .i64 l) := hr1.cell 1
  have z1 := hr1.lt
  generalize applyF S x.db 0 us = r at *
  clear h hx hd hlk hU hok hPn hr1 hr2 hx0 hSl hxl
  go_enter Tryz.func9, Tryz.ntmps9
  go_upto_region 1 with (fail)
  rw [← hW0]
  clear hW0
  go_wp2_with fail
  refine HAP.out.mono ?_
  rintro e w1 ⟨hk, hbad, hb⟩
  have HB1 := Lib.hid hb
  have HR11 := Lib.hid (HR1.out.up hb)
  have HR21 := Lib.hid (HR2.out.up hb)
  by_cases hr0 : r.1 = 0
  rotate_left
  · obtain rfl := hbad hr0
    have hne : (r.1 != 0) = true := by simpa using hr0
    have HRR : Hid (r.1 ≠ 0) := hr0
    have q1 := (HR11.out.alloc (.cells #[.map none] 29))
    have q2 := (HR21.out.alloc (.cells #[.map none] 29))
    obtain ⟨W2, hW2⟩ : ∃ W2, W2 = w1.alloc (.cells #[.map none] 29) := ⟨_, rfl⟩
    rw [← hW2] at q1 q2
    have k0 : W2.cell? ⟨w.heap.size, 0, none⟩ = some (.map (some b)) := q1.cell 0
    have k1 : W2.cell? ⟨w.heap.size, 1, none⟩ = some (.int .i64 l) := q1.cell 1
    have k2 : W2.cell? ⟨w.heap.size + 1, 0, none⟩ = some (.map none) := q2.cell 0
    have k3 : W2.cell? ⟨w.heap.size + 1, 1, none⟩ = some (.int .i64 0) := q2.cell 1
    have k4 := q2.frozen 0
    have k5 := q2.frozen 1
    have k6 := q1.lt
    have k7 := q2.lt
    have HQ2 := Lib.hid q2
    have HBW : Hid (Below w.heap.size w W2) := by show Below _ _ _; rw [hW2]; exact Below.then (Below.then HX0.out.below hb HX0.out.size) ((Below.refl _ w1).alloc (Nat.le_refl _) _) (by have := HX0.out.size; have := hb.size; omega)
    have HW2 := Lib.hid hW2
    clear hr0 hk hbad hb q1 q2 hW2 f0 f1 hlen hlk2
    go_upto_region 6 with (fail)
    rw [← HW2.out]
    clear HW2
    obtain ⟨ce, hce⟩ : ∃ ce, ce = r.1 := ⟨_, rfl⟩
    rw [← hce] at hne HRR ⊢
    have HCE : Hid (r.1 = ce) := hce.symm
    clear hce
    go_wp2_with fail
    obtain ⟨W3, hW3⟩ : ∃ W3, W3 = (W2.setCell ⟨w.heap.size + 1, 0, none⟩ (.map (some b))).setCell ⟨w.heap.size + 1, 1, none⟩ (.int .i64 l) := ⟨_, rfl⟩
    rw [← hW3]
    have q := HQ2.out.set2 (.map (some b)) (.int .i64 l)
    rw [← hW3] at q
    have c0 := q.cell 0
    have c1 := q.cell 1
    have hb3 : Below w.heap.size w W3 := by
      rw [hW3]
      exact (HBW.out.setCell (by show w.heap.size ≤ w.heap.size + 1; omega) _).setCell (by show w.heap.size ≤ w.heap.size + 1; omega) _
    exact bodyPost_ret (v := .tuple #[.agg #[.map (some b), .int .i64 l], .int .i64 0, .int .i64 ce]) (by simp [results, Tryz.results9, go_sem, c0, c1]) rfl ⟨fun h => absurd (HCE.out.symm.trans h) HRR.out, fun _ => by rw [HCE.out], hb3⟩
  obtain ⟨m1, rfl, hdb⟩ := hk hr0
  obtain ⟨b1, rfl⟩ := hdb.form
  obtain ⟨W1, hW1⟩ : ∃ W1, W1 = w1.alloc (.cells #[.map (some b1)] 29) := ⟨_, rfl⟩
  have hx1 : Ext w1 W1 := by rw [hW1]; exact (Ext.refl w1).alloc _
  have hr7 : Row W1 w1.heap.size 29 [.map (some b1)] := by rw [hW1]; exact Row.new w1 29 _
  have q1 := HR11.out.up hx1.below
  have HR12 := Lib.hid q1
  have HR22 := Lib.hid (HR21.out.up hx1.below)
  have k0 : W1.cell? ⟨w.heap.size, 0, none⟩ = some (.map (some b)) := q1.cell 0
  have k1 : W1.cell? ⟨w.heap.size, 1, none⟩ = some (.int .i64 l) := q1.cell 1
  have k2 : W1.cell? ⟨w1.heap.size, 0, none⟩ = some (.map (some b1)) := hr7.cell 0
  have k3 := q1.lt
  have k4 := hr7.lt
  have hz1 : W0.heap.size ≤ W1.heap.size := Nat.le_trans hb.size hx1.size
  have HB01 := Lib.hid (Below.then hb hx1.below hb.size)
  have HWI := Lib.hid (snWith_any (fun b => P b ∧ b ≠ w.heap.size + 1) S (.map (some b)) (.map (some b1)) l (l + 1) 0 V r.2.1 W1 (HST.out.up (Below.then hb hx1.below hb.size)) (fun b hb => ⟨HPN.out b (by have := HX0.out.size; omega), by omega⟩) (hdb.up hx1.below) HWF.out HVL.out)
  have HW1 := Lib.hid hW1
  have HRR := Lib.hid hr0
  clear hk hbad hb hdb hx1 hr7 q1 hW1 f0 f1 hlen hlk2 HAP
  go_upto_region 6 with (fail)
  rw [← HW1.out]
  clear HW1
  go_wp2_with fail
  refine HWI.out.mono ?_
  rintro e w2 ⟨m2, rfl, hst2, hb2⟩
  obtain ⟨b2, rfl⟩ := hst2.form
  obtain ⟨W3, hW3⟩ : ∃ W3, W3 = w2.alloc (.cells #[.map (some b2), .int .i64 (l + 1)] 35) := ⟨_, rfl⟩
  have hx3 : Ext w2 W3 := by rw [hW3]; exact (Ext.refl w2).alloc _
  have hr10 : Row W3 w2.heap.size 35 [.map (some b2), .int .i64 (l + 1)] := by rw [hW3]; exact Row.new w2 35 _
  have q2 := HR12.out.up hb2
  have j0 : w2.cell? ⟨w.heap.size, 1, none⟩ = some (.int .i64 l) := q2.cell 1
  have j1 := q2.lt
  have HR10 := Lib.hid hr10
  have HR23 := Lib.hid ((HR22.out.up hb2).up hx3.below)
  have HST3 := Lib.hid (hst2.up hx3.below)
  have HB13 := Lib.hid (Below.then hb2 hx3.below hb2.size)
  have HW3 := Lib.hid hW3
  have hw12 : W1.heap.size ≤ w2.heap.size := hb2.size
  clear hst2 hb2 hx3 hr10 q2 hW3 k0 k1 k2 k3 k4 HWI
  go_upto_region 10 with (fail)
  rw [← HW3.out]
  clear HW3 j0 j1
  have HKP : Hid (∀ V, Below W3.heap.size W3 V → V.cell? ⟨w2.heap.size, 0, none⟩ = some (.map (some b2)) ∧ V.cell? ⟨w2.heap.size, 1, none⟩ = some (.int .i64 (l + 1))) := fun V hb => ⟨(HR10.out.up hb).cell 0, (HR10.out.up hb).cell 1⟩
  have hw2w : w2.heap.size < W3.heap.size := HR10.out.lt
  have hgw : w.heap.size + 1 < W3.heap.size := HR23.out.lt
  have hgne : w2.heap.size ≠ w.heap.size + 1 := by have := HR22.out.lt; omega
  refine wp_region_held_drew (S := (fun w' => w'.cell? ⟨w2.heap.size, 0, none⟩ = some (.map (some b2)) ∧ w'.cell? ⟨w2.heap.size, 1, none⟩ = some (.int .i64 (l + 1)))) (by kernel_rfl) (HKP.out W3.drew (Below.refl _ _).drew) (fun hHeld => ?_)
  refine takeOp (i := 0) (v := ?_) (some 50) rfl rfl (by kernel_rfl) (by kernel_rfl) (by kernel_rfl) (fun _ _ _ h => h) (Or.inl ⟨by rfl, ?_⟩) (by assumption) ?_
  rotate_left 1
  · (intro w0 hSw; (try dsimp only at hSw); go_simp; try (with_reducible rfl))
  try simp only [Act.put]
  try simp only [List.setIfInBounds_toArray]
  try simp only [List.set_cons_succ]
  try simp only [List.set_cons_zero]
  refine takeOp (i := 1) (v := ?_) (some 51) rfl rfl (by kernel_rfl) (by kernel_rfl) (by kernel_rfl) (fun _ _ _ h => h) (Or.inl ⟨by rfl, ?_⟩) (by assumption) ?_
  rotate_left 1
  · (intro w0 hSw; (try dsimp only at hSw); go_simp; try (with_reducible rfl))
  try simp only [Act.put]
  try simp only [List.setIfInBounds_toArray]
  try simp only [List.set_cons_succ]
  try simp only [List.set_cons_zero]
  refine takeOp (i := 2) (v := ?_) (some 52) rfl rfl (by kernel_rfl) (by kernel_rfl) (by kernel_rfl) (fun _ _ _ h => h) (Or.inl ⟨by rfl, ?_⟩) (by assumption) ?_
  rotate_left 1
  · (intro w0 hSw; (try dsimp only at hSw); go_simp; try (with_reducible rfl))
  try simp only [Act.put]
  try simp only [List.setIfInBounds_toArray]
  try simp only [List.set_cons_succ]
  try simp only [List.set_cons_zero]
  refine wpAnyH_ready (rs := [3]) (by kernel_rfl) (by simp) ?_
  refine AllReadyH.cons rfl (fun K hK => ?_) AllReadyH.nil
  have j0 : W3.cell? ⟨w.heap.size + 1, 0, none⟩ = some (.map none) := HR23.out.cell 0
  have j1 : W3.cell? ⟨w.heap.size + 1, 1, none⟩ = some (.int .i64 0) := HR23.out.cell 1
  have j2 := HR23.out.frozen 0
  have j3 := HR23.out.frozen 1
  have j4 : W3.drew.frozen? ⟨w.heap.size + 1, 0, none⟩ = false := j2
  have j5 : W3.drew.frozen? ⟨w.heap.size + 1, 1, none⟩ = false := j3
  go_simp
  obtain ⟨W4, hV⟩ : ∃ V', V' = ((W3.setCell ⟨w.heap.size + 1, 0, none⟩ (.map (some b2))).setCell ⟨w.heap.size + 1, 1, none⟩ (.int .i64 (l + 1))).drew := ⟨_, rfl⟩
  rw [← hV]
  have HQ4 : Hid (Row W4 (w.heap.size + 1) 35 [.map (some b2), .int .i64 (l + 1)]) := by show Row _ _ _ _; rw [hV]; exact (HR23.out.set2 _ _).drew
  have HR4 : Hid (Row W4 w2.heap.size 35 [.map (some b2), .int .i64 (l + 1)]) := by show Row _ _ _ _; rw [hV]; exact ((HR10.out.far hgne _).far hgne _).drew
  have HST4 : Hid (StM P S W4 (.map (some b2)) (putV V ⟨l + 1, r.2.1, 0⟩)) := by show StM _ _ _ _ _; rw [hV]; exact (StM.boxed HST3.out _ _).up (Below.refl _ _).drew
  have HB4 : Hid (Below w.heap.size w W4) := by
    show Below _ _ _
    rw [hV]
    exact (((Below.then HX0.out.below (Below.then HB01.out HB13.out HB01.out.size) HX0.out.size).setCell (by show w.heap.size ≤ w.heap.size + 1; omega) _).setCell (by show w.heap.size ≤ w.heap.size + 1; omega) _).drew
  have KEEP4 : W4.cell? ⟨w2.heap.size, 0, none⟩ = some (.map (some b2)) ∧ W4.cell? ⟨w2.heap.size, 1, none⟩ = some (.int .i64 (l + 1)) := ⟨HR4.out.cell 0, HR4.out.cell 1⟩
  clear hV j0 j1 j2 j3 j4 j5
  refine hK.out _ _ KEEP4 (fun hHeld => ?_)
  clear hK K
  try simp only [Act.put]
  try simp only [List.setIfInBounds_toArray]
  try simp only [List.set_cons_succ]
  try simp only [List.set_cons_zero]
  refine takeOp (i := 4) (v := ?_) (some 5) rfl rfl (by kernel_rfl) (by kernel_rfl) (by kernel_rfl) (fun _ _ _ h => h) (Or.inl ⟨by rfl, ?_⟩) (by assumption) ?_
  rotate_left 1
  · (intro w0 hSw; (try dsimp only at hSw); go_simp; try (with_reducible rfl))
  try simp only [Act.put]
  try simp only [List.setIfInBounds_toArray]
  try simp only [List.set_cons_succ]
  try simp only [List.set_cons_zero]
  refine takeOp (i := 5) (v := ?_) (some 6) rfl rfl (by kernel_rfl) (by kernel_rfl) (by kernel_rfl) (fun _ _ _ h => h) (Or.inl ⟨by rfl, ?_⟩) (by assumption) ?_
  rotate_left 1
  · (intro w0 hSw; (try dsimp only at hSw); go_simp; try (with_reducible rfl))
  try simp only [Act.put]
  try simp only [List.setIfInBounds_toArray]
  try simp only [List.set_cons_succ]
  try simp only [List.set_cons_zero]
  refine wpAnyH_done (by kernel_rfl) ?_ _
  have c0 := HQ4.out.cell 0
  have c1 := HQ4.out.cell 1
  go_wp2_with fail
  exact bodyPost_ret (v := .tuple #[.agg #[.map (some b2), .int .i64 (l + 1)], .int .i64 (l + 1), .int .i64 0]) (by simp [results, Tryz.results9, go_sem, c0, c1]) rfl ⟨fun _ => ⟨_, rfl, HST4.out⟩, fun h => absurd HRR.out h, HB4.out⟩

end Go.Proofs.YtgaffbdcpkbdhaaGreat
end

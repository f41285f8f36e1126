/- Walk: LeapfrogMeets. -/
import Derived.Test.YtiomelogggilgaaHY44
namespace Go.Proofs.Ytiomelogggilgaa
open Go.RowKit Go.Sort

set_option maxHeartbeats 8000000 in
set_option maxRecDepth 100000 in
theorem l35Meets_any (a b c : LA) (RAa RB RC : Option Addr) (CA CB CC : Nat) (w : World) (hA : SlA 4 w.heap.size w RAa a.R) (hB : SlA 4 w.heap.size w RB b.R) (hC : SlA 4 w.heap.size w RC c.R)
    (hv : a.v < 256) (yA : Bytes a.R) (yB : Bytes b.R) (yC : Bytes c.R) (hl : c.R.length ≤ 1048576) :
    Calls Try.prog 9 #[.agg #[.int .u8 (a.v : Nat), .slice RAa a.R.length CA, .int .u8 (a.b : Nat)], .agg #[.int .u8 (b.v : Nat), .slice RB b.R.length CB, .int .u8 (b.b : Nat)], .agg #[.int .u8 (c.v : Nat), .slice RC c.R.length CC, .int .u8 (c.b : Nat)]] w fun e w' => e = .returned (.bool true) ∧ Below w.heap.size w w' := by
  obtain ⟨W0, hW0⟩ : ∃ W0, W0 = ((w.alloc (.cells #[.int .u8 (a.v : Nat), .slice RAa a.R.length CA, .int .u8 (a.b : Nat)] 72)).alloc (.cells #[.int .u8 (b.v : Nat), .slice RB b.R.length CB, .int .u8 (b.b : Nat)] 72)).alloc (.cells #[.int .u8 (c.v : Nat), .slice RC c.R.length CC, .int .u8 (c.b : Nat)] 72) := ⟨_, rfl⟩
  have hrA : Row W0 w.heap.size 72 [.int .u8 (a.v : Nat), .slice RAa a.R.length CA, .int .u8 (a.b : Nat)] := by
    rw [hW0]; exact ((Row.new w 72 _).alloc _).alloc _
  have hrB : Row W0 (w.heap.size + 1) 72 [.int .u8 (b.v : Nat), .slice RB b.R.length CB, .int .u8 (b.b : Nat)] := by
    have h := (Row.new (w.alloc (.cells #[.int .u8 (a.v : Nat), .slice RAa a.R.length CA, .int .u8 (a.b : Nat)] 72)) 72 [.int .u8 (b.v : Nat), .slice RB b.R.length CB, .int .u8 (b.b : Nat)]).alloc (.cells #[.int .u8 (c.v : Nat), .slice RC c.R.length CC, .int .u8 (c.b : Nat)] 72)
    rw [World.size_alloc] at h
    rw [hW0]; exact h
  have hrC : Row W0 (w.heap.size + 1 + 1) 72 [.int .u8 (c.v : Nat), .slice RC c.R.length CC, .int .u8 (c.b : Nat)] := by
    have h := Row.new ((w.alloc (.cells #[.int .u8 (a.v : Nat), .slice RAa a.R.length CA, .int .u8 (a.b : Nat)] 72)).alloc (.cells #[.int .u8 (b.v : Nat), .slice RB b.R.length CB, .int .u8 (b.b : Nat)] 72)) 72 [.int .u8 (c.v : Nat), .slice RC c.R.length CC, .int .u8 (c.b : Nat)]
    rw [World.size_alloc, World.size_alloc] at h
    rw [hW0]; exact h
  have hx0 : Ext w W0 := by rw [hW0]; exact (((Ext.refl w).alloc _).alloc _).alloc _
  have hz0 : W0.heap.size = w.heap.size + 3 := by rw [hW0]; simp
  have hlA : w.heap.size < W0.heap.size := by omega
  have hlB : w.heap.size + 1 < W0.heap.size := by omega
  have hlC : w.heap.size + 1 + 1 < W0.heap.size := by omega
  have f0 : W0.cell? ⟨w.heap.size, 0, none⟩ = some (.int .u8 (a.v : Nat)) := hrA.cell 0
  have f1 : W0.cell? ⟨w.heap.size, 1, none⟩ = some (.slice RAa a.R.length CA) := hrA.cell 1
  have f2 : W0.cell? ⟨w.heap.size, 2, none⟩ = some (.int .u8 (a.b : Nat)) := hrA.cell 2
  have f3 : W0.cell? ⟨w.heap.size + 1, 0, none⟩ = some (.int .u8 (b.v : Nat)) := hrB.cell 0
  have f4 : W0.cell? ⟨w.heap.size + 1, 1, none⟩ = some (.slice RB b.R.length CB) := hrB.cell 1
  have f5 : W0.cell? ⟨w.heap.size + 1, 2, none⟩ = some (.int .u8 (b.b : Nat)) := hrB.cell 2
  have f6 : W0.cell? ⟨w.heap.size + 1 + 1, 0, none⟩ = some (.int .u8 (c.v : Nat)) := hrC.cell 0
  have f7 : W0.cell? ⟨w.heap.size + 1 + 1, 1, none⟩ = some (.slice RC c.R.length CC) := hrC.cell 1
  have f8 : W0.cell? ⟨w.heap.size + 1 + 1, 2, none⟩ = some (.int .u8 (c.b : Nat)) := hrC.cell 2
  have fz0 := hrA.frozen 0
  have fz1 := hrA.frozen 2
  have fz2 := hrB.frozen 0
  have fz3 := hrB.frozen 2
  have fz4 := hrC.frozen 0
  have fz5 := hrC.frozen 2
  have HRA := Lib.hid hrA
  have HRB := Lib.hid hrB
  have HRC := Lib.hid hrC
  have HX0 := Lib.hid hx0
  have HZ0 := Lib.hid hz0
  have HYA := Lib.hid yA
  have HYB := Lib.hid yB
  have HYC := Lib.hid yC
  have HV := Lib.hid hv
  have HL := Lib.hid hl
  have HSA := Lib.hid hA
  have HSB := Lib.hid hB
  have HSC := Lib.hid hC
  clear hrA hrB hrC hx0 hA hB hC hz0 yA yB yC hv hl
  go_enter Try.func9, Try.ntmps9
  go_upto_region 1 with (fail)
  rw [← hW0]
  clear hW0
  go_upto_region 5 with (fail)
  have hbit : bits BinOp.and IntKind.u8 (a.v : Int) 7 = ((a.v % 8 : Nat) : Int) := bits7 HV.out
  rw [hbit]
  clear hbit
  obtain ⟨v, hv⟩ : ∃ v, v = a.v % 8 := ⟨_, rfl⟩
  rw [← hv]
  have hv8 : v < 8 := by omega
  clear hv
  obtain ⟨W1, hW1⟩ : ∃ W1, W1 = (((((((W0.setCell ⟨w.heap.size + 1, 0, none⟩ (.int .u8 (a.v : Nat))).setCell ⟨w.heap.size, 2, none⟩ (.int .u8 0)).setCell ⟨w.heap.size + 1, 2, none⟩ (.int .u8 0)).setCell ⟨w.heap.size + 1 + 1, 2, none⟩ (.int .u8 0)).setCell ⟨w.heap.size, 0, none⟩ (.int .u8 (v : Nat))).setCell ⟨w.heap.size + 1, 0, none⟩ (.int .u8 (v : Nat))).setCell ⟨w.heap.size + 1 + 1, 0, none⟩ (.int .u8 0)) := ⟨_, rfl⟩
  have rA : Row W1 w.heap.size 72 [.int .u8 (v : Nat), .slice RAa a.R.length CA, .int .u8 0] := by
    rw [hW1]
    have n1 : w.heap.size ≠ w.heap.size + 1 := by omega
    have n2 : w.heap.size ≠ w.heap.size + 1 + 1 := by omega
    exact ((((((HRA.out.far n1 _).set 2 _).far n1 _).far n2 _).set 0 _).far n1 _).far n2 _
  have rB : Row W1 (w.heap.size + 1) 72 [.int .u8 (v : Nat), .slice RB b.R.length CB, .int .u8 0] := by
    rw [hW1]
    have n1 : w.heap.size + 1 ≠ w.heap.size := by omega
    have n2 : w.heap.size + 1 ≠ w.heap.size + 1 + 1 := by omega
    exact ((((((HRB.out.set 0 _).far n1 _).set 2 _).far n2 _).far n1 _).set 0 _).far n2 _
  have rC : Row W1 (w.heap.size + 1 + 1) 72 [.int .u8 0, .slice RC c.R.length CC, .int .u8 0] := by
    rw [hW1]
    have n1 : w.heap.size + 1 + 1 ≠ w.heap.size := by omega
    have n2 : w.heap.size + 1 + 1 ≠ w.heap.size + 1 := by omega
    exact ((((((HRC.out.far n2 _).far n1 _).far n2 _).set 2 _).far n1 _).far n2 _).set 0 _
  have hb1 : Below w.heap.size w W1 := by
    rw [hW1]
    exact (((((((HX0.out.below).setCell (by show w.heap.size ≤ w.heap.size + 1; omega) _).setCell (by show w.heap.size ≤ w.heap.size; omega) _).setCell (by show w.heap.size ≤ w.heap.size + 1; omega) _).setCell (by show w.heap.size ≤ w.heap.size + 1 + 1; omega) _).setCell (by show w.heap.size ≤ w.heap.size; omega) _).setCell (by show w.heap.size ≤ w.heap.size + 1; omega) _).setCell (by show w.heap.size ≤ w.heap.size + 1 + 1; omega) _
  rw [← hW1]
  have g0 : W1.cell? ⟨w.heap.size, 0, none⟩ = some (.int .u8 (v : Nat)) := rA.cell 0
  have g1 : W1.cell? ⟨w.heap.size, 1, none⟩ = some (.slice RAa a.R.length CA) := rA.cell 1
  have g2 : W1.cell? ⟨w.heap.size, 2, none⟩ = some (.int .u8 0) := rA.cell 2
  have g3 : W1.cell? ⟨w.heap.size + 1, 0, none⟩ = some (.int .u8 (v : Nat)) := rB.cell 0
  have g4 : W1.cell? ⟨w.heap.size + 1, 1, none⟩ = some (.slice RB b.R.length CB) := rB.cell 1
  have g5 : W1.cell? ⟨w.heap.size + 1, 2, none⟩ = some (.int .u8 0) := rB.cell 2
  have hlA1 := rA.lt
  have hlB1 := rB.lt
  have HR1A := Lib.hid rA
  have HR1C := Lib.hid rC
  have HB1 := Lib.hid hb1
  have HMK : Hid (Calls Try.prog 10 #[.slice (some ⟨W1.heap.size, 0, none⟩) 2 2] (W1.alloc (.cells #[.int .u8 (v : Nat), .slice RAa a.R.length CA, .int .u8 0, .int .u8 (v : Nat), .slice RB b.R.length CB, .int .u8 0] 72)) (Made2P (W1.alloc (.cells #[.int .u8 (v : Nat), .slice RAa a.R.length CA, .int .u8 0, .int .u8 (v : Nat), .slice RB b.R.length CB, .int .u8 0] 72)) v a b)) :=
    made2_any hv8 a b RAa RB CA CB W1 ((HSA.out.keep fun p hp => hb1.cell hp).more hb1.size) ((HSB.out.keep fun p hp => hb1.cell hp).more hb1.size) HYA.out HYB.out
  clear rA rB rC hb1 hW1 HRA HRB HRC HX0 HZ0 HSA HSB HYA HYB HV f0 f1 f2 f3 f4 f5 f6 f7 f8 fz0 fz1 fz2 fz3 fz4 fz5
  go_wp2_with fail
  refine HMK.out.mono ?_
  rintro e w1 ⟨hb2, hno, hyes⟩
  have HBW := Lib.hid (Below.then (HB1.out.alloc (by have := HB1.out.size; omega) _) hb2 (by have := HB1.out.size; simp; omega))
  have HR1C2 := Lib.hid ((HR1C.out.alloc _).up hb2)
  have hg0 := ((HR1A.out.alloc (.cells #[.int .u8 (v : Nat), .slice RAa a.R.length CA, .int .u8 0, .int .u8 (v : Nat), .slice RB b.R.length CB, .int .u8 0] 72)).up hb2).cell 0
  simp only [List.getElem?_cons_zero] at hg0
  have hzA := ((HR1A.out.alloc (.cells #[.int .u8 (v : Nat), .slice RAa a.R.length CA, .int .u8 0, .int .u8 (v : Nat), .slice RB b.R.length CB, .int .u8 0] 72)).up hb2).lt
  by_cases hok : a.R.length ≤ 12 ∧ b.R.length ≤ 12
  rotate_left
  · obtain rfl := hno hok
    clear hno hyes hok hb2 g0 g1 g2 g3 g4 g5 hg0 HMK
    go_wp2_with fail
    refine (l35awake_any _).mono ?_
    rintro e w2 ⟨rfl, hb2⟩
    have hbw := Below.then HBW.out hb2 HBW.out.size
    clear hb2
    go_wp2
    go_ret
    exact ⟨rfl, hbw⟩
  obtain ⟨A1, A2, A3, C1, C2, C3, rfl, ha, hsP, hsQ⟩ := hyes hok
  by_cases h7 : v = 7
  rotate_left
  · have hne : ((v : Int) != 7) = true := by
      have : (v : Int) ≠ 7 := by omega
      simpa using this
    clear hno hyes hok hb2 g0 g1 g2 g3 g4 g5 HMK ha hsP hsQ h7
    go_wp2_with fail
    refine (l35awake_any _).mono ?_
    rintro e w2 ⟨rfl, hb2⟩
    have hbw := Below.then HBW.out hb2 HBW.out.size
    clear hb2
    go_wp2
    go_ret
    exact ⟨rfl, hbw⟩
  subst h7
  rw [la7_ra, la7_ra] at ha
  rw [la7_ra] at hsP hsQ
  generalize (laV 7 a).rows = P at ha hsP
  generalize (laV 7 b).rows = Q at ha hsQ
  obtain ⟨ab, ao, rfl, hab, hac⟩ := ha (by simp)
  obtain ⟨VA, VC, PA, PC, -, c1, c2, -, -, p1, p2, -, sP⟩ := hac 0 (by simp)
  obtain ⟨VB, VD, QA, QC, -, c4, c5, -, -, q1, q2, -, sQ⟩ := hac 1 (by simp)
  have HA := Lib.hid ha
  have c1 : w1.cell? ⟨ab, ao + 1, none⟩ = some (.int .i64 3) := c1
  have c2 : w1.cell? ⟨ab, ao + 2, none⟩ = some (.slice PA P.length PC) := c2
  have c4 : w1.cell? ⟨ab, ao + 3 + 1, none⟩ = some (.int .i64 3) := c4
  have c5 : w1.cell? ⟨ab, ao + 3 + 2, none⟩ = some (.slice QA Q.length QC) := c5
  have HK := Lib.hid (And.intro c1 (And.intro c2 (And.intro c4 c5)))
  have HSP := Lib.hid hsP
  have HSQ := Lib.hid hsQ
  have hPl : P.length ≤ 60000 := hsP.many
  have hQl : Q.length ≤ 60000 := hsQ.many
  have HPO := Lib.hid hsP.rsOk
  have HQO := Lib.hid hsQ.rsOk
  have HCM : Hid (∀ (V : World) (hb : Below w1.heap.size w1 V) (O : Nat → Prop) (h1 : ∀ b, b < w1.heap.size → O b) (h2 : ∀ b, V.heap.size ≤ b → O b), Calls Try.prog 27 #[.agg #[.int .i64 3, .slice PA P.length PC], .agg #[.int .i64 3, .slice QA Q.length QC]] V fun e w' => ∃ A C, e = .returned (.tuple #[.agg #[.int .i64 3, .slice A (bothPQ P Q).length C], .int .i64 0]) ∧ (bothPQ P Q).length ≤ C ∧ C ≤ 9223372036854775807 ∧ SlRsP O w'.heap.size w' A (bothPQ P Q) ∧ Below V.heap.size V w') :=
    fun V hb O h1 h2 => rlMeet_any O 3 PA QA PC QC P Q V ((sP.toP.weak fun b hb _ => h1 b hb).upB hb) ((sQ.toP.weak fun b hb _ => h1 b hb).upB hb) h2 HPO.out HQO.out hPl hQl HSP.out.ss HSQ.out.ss q1 q2
  have KEEP : ∀ V, Below w1.heap.size w1 V → V.cell? ⟨ab, ao + 1, none⟩ = some (.int .i64 3) ∧ V.cell? ⟨ab, ao + 2, none⟩ = some (.slice PA P.length PC) ∧ V.cell? ⟨ab, ao + 3 + 1, none⟩ = some (.int .i64 3) ∧ V.cell? ⟨ab, ao + 3 + 2, none⟩ = some (.slice QA Q.length QC) := fun V hb =>
    ⟨(hb.cell (p := ⟨ab, ao + 1, none⟩) hab).trans HK.out.1, (hb.cell (p := ⟨ab, ao + 2, none⟩) hab).trans HK.out.2.1, (hb.cell (p := ⟨ab, ao + 3 + 1, none⟩) hab).trans HK.out.2.2.1, (hb.cell (p := ⟨ab, ao + 3 + 2, none⟩) hab).trans HK.out.2.2.2⟩
  have HKP := Lib.hid KEEP
  clear hno hyes hok hb2 g0 g1 g2 g3 g4 g5 HMK ha hac c1 c2 c4 c5 sP sQ hsP hsQ KEEP HB1 HR1A HR1C
  go_upto_region 8 with (fail)
  go_cut [11, 12] from 57 to 68 (fun m e wx => Below w1.heap.size w1 wx ∧ ∃ bm MA MC, m = .pointer (some ⟨bm, 0, none⟩) ∧ w1.heap.size ≤ bm ∧ Row wx bm 48 [.int .i64 3, .slice MA (bothPQ P Q).length MC] ∧ ((bothPQ P Q).length ≤ MC ∧ MC ≤ 9223372036854775807) ∧ SlRs wx.heap.size wx MA (bothPQ P Q) ∧ e = .int .i64 0)
  case first =>
    refine wp_region_held_drew (S := (fun w' => w'.cell? ⟨ab, ao + 1, none⟩ = some (.int .i64 3) ∧ w'.cell? ⟨ab, ao + 2, none⟩ = some (.slice PA P.length PC) ∧ w'.cell? ⟨ab, ao + 3 + 1, none⟩ = some (.int .i64 3) ∧ w'.cell? ⟨ab, ao + 3 + 2, none⟩ = some (.slice QA Q.length QC))) (by kernel_rfl) (HKP.out w1 (Below.refl _ _)) (fun hHeld => ?_)
    obtain ⟨V0, hV0⟩ : ∃ V, V = w1.drew := ⟨_, rfl⟩
    have HV : Hid (Below w1.heap.size w1 V0) := by show Below _ _ _; rw [hV0]; exact ((Ext.refl w1).drew).below
    rw [← hV0]
    clear hV0
    have hHeld0 := HKP.out V0 HV.out
    refine takeOp (i := 0) (v := ?_) (some 58) rfl rfl (by kernel_rfl) (by kernel_rfl) (by kernel_rfl) (fun _ _ _ h => h) (Or.inl ⟨by rfl, ?_⟩) (by assumption) ?_
    rotate_left 1
    · (intro w0 hSw; (try dsimp only at hSw); go_simp; try (with_reducible rfl))
    try simp only [Act.put]
    try simp only [List.setIfInBounds_toArray]
    try simp only [List.set_cons_succ]
    try simp only [List.set_cons_zero]
    refine takeOp (i := 1) (v := ?_) (some 59) rfl rfl (by kernel_rfl) (by kernel_rfl) (by kernel_rfl) (fun _ _ _ h => h) (Or.inl ⟨by rfl, ?_⟩) (by assumption) ?_
    rotate_left 1
    · (intro w0 hSw; (try dsimp only at hSw); go_simp; try (with_reducible rfl))
    try simp only [Act.put]
    try simp only [List.setIfInBounds_toArray]
    try simp only [List.set_cons_succ]
    try simp only [List.set_cons_zero]
    refine takeOp (i := 2) (v := ?_) (some 60) rfl rfl (by kernel_rfl) (by kernel_rfl) (by kernel_rfl) (fun _ _ _ h => h) (Or.inl ⟨by rfl, ?_⟩) (by assumption) ?_
    rotate_left 1
    · (intro w0 hSw; (try dsimp only at hSw); go_simp; try (with_reducible rfl))
    try simp only [Act.put]
    try simp only [List.setIfInBounds_toArray]
    try simp only [List.set_cons_succ]
    try simp only [List.set_cons_zero]
    refine takeOp (i := 3) (v := ?_) (some 61) rfl rfl (by kernel_rfl) (by kernel_rfl) (by kernel_rfl) (fun _ _ _ h => h) (Or.inl ⟨by rfl, ?_⟩) (by assumption) ?_
    rotate_left 1
    · (intro w0 hSw; (try dsimp only at hSw); go_simp; try (with_reducible rfl))
    try simp only [Act.put]
    try simp only [List.setIfInBounds_toArray]
    try simp only [List.set_cons_succ]
    try simp only [List.set_cons_zero]
    refine takeOp (i := 4) (v := ?_) (some 62) rfl rfl (by kernel_rfl) (by kernel_rfl) (by kernel_rfl) (fun _ _ _ h => h) (Or.inl ⟨by rfl, ?_⟩) (by assumption) ?_
    rotate_left 1
    · (intro w0 hSw; (try dsimp only at hSw); go_simp; try (with_reducible rfl))
    try simp only [Act.put]
    try simp only [List.setIfInBounds_toArray]
    try simp only [List.set_cons_succ]
    try simp only [List.set_cons_zero]
    refine takeOp (i := 5) (v := ?_) (some 63) rfl rfl (by kernel_rfl) (by kernel_rfl) (by kernel_rfl) (fun _ _ _ h => h) (Or.inl ⟨by rfl, ?_⟩) (by assumption) ?_
    rotate_left 1
    · (intro w0 hSw; (try dsimp only at hSw); go_simp; try (with_reducible rfl))
    try simp only [Act.put]
    try simp only [List.setIfInBounds_toArray]
    try simp only [List.set_cons_succ]
    try simp only [List.set_cons_zero]
    refine takeOp (i := 6) (v := ?_) (some 64) rfl rfl (by kernel_rfl) (by kernel_rfl) (by kernel_rfl) (fun _ _ _ h => h) (Or.inl ⟨by rfl, ?_⟩) (by assumption) ?_
    rotate_left 1
    · (intro w0 hSw; (try dsimp only at hSw); go_simp; try (with_reducible rfl))
    try simp only [Act.put]
    try simp only [List.setIfInBounds_toArray]
    try simp only [List.set_cons_succ]
    try simp only [List.set_cons_zero]
    refine takeOp (i := 7) (v := ?_) (some 65) rfl rfl (by kernel_rfl) (by kernel_rfl) (by kernel_rfl) (fun _ _ _ h => h) (Or.inl ⟨by rfl, ?_⟩) (by assumption) ?_
    rotate_left 1
    · (intro w0 hSw; (try dsimp only at hSw); go_simp; try (with_reducible rfl))
    try simp only [Act.put]
    try simp only [List.setIfInBounds_toArray]
    try simp only [List.set_cons_succ]
    try simp only [List.set_cons_zero]
    refine wpAnyH_ready (rs := [8, 12]) (by kernel_rfl) (by simp) ?_
    refine (AllReadyH.cons rfl (fun K hK => ?_) (AllReadyH.cons rfl (fun K hK => ?_) AllReadyH.nil))
    · go_simp
      refine (HCM.out V0 HV.out (fun _ => True) (fun _ _ => trivial) (fun _ _ => trivial)).mono ?_
      rintro e V1 ⟨MA, MC, rfl, hmc, hmm, hs, hb⟩
      have HS := Lib.hid hs
      have HMC := Lib.hid (And.intro hmc hmm)
      have HV := Lib.hid (Below.then HV.out hb HV.out.size)
      clear hs hb hmc hmm
      go_wp2_with fail
      refine hK.out _ _ (HKP.out _ HV.out) (fun hHeld => ?_)
      clear hK K
      try simp only [Act.put]
      try simp only [List.setIfInBounds_toArray]
      try simp only [List.set_cons_succ]
      try simp only [List.set_cons_zero]
      refine takeOp (i := 9) (v := ?_) (some 57) rfl rfl (by kernel_rfl) (by kernel_rfl) (by kernel_rfl) (fun _ _ _ h => h) (Or.inl ⟨by rfl, ?_⟩) (by assumption) ?_
      rotate_left 1
      · (intro w0 hSw; (try dsimp only at hSw); go_simp; try (with_reducible rfl))
      try simp only [Act.put]
      try simp only [List.setIfInBounds_toArray]
      try simp only [List.set_cons_succ]
      try simp only [List.set_cons_zero]
      refine takeOp (i := 10) (v := ?_) (some 67) rfl rfl (by kernel_rfl) (by kernel_rfl) (by kernel_rfl) (fun _ _ _ h => h) (Or.inl ⟨by rfl, ?_⟩) (by assumption) ?_
      rotate_left 1
      · (intro w0 hSw; (try dsimp only at hSw); go_simp; try (with_reducible rfl))
      try simp only [Act.put]
      try simp only [List.setIfInBounds_toArray]
      try simp only [List.set_cons_succ]
      try simp only [List.set_cons_zero]
      refine takeOp (i := 11) (v := ?_) (some 68) rfl rfl (by kernel_rfl) (by kernel_rfl) (by kernel_rfl) (fun _ _ _ h => h) (Or.inl ⟨by rfl, ?_⟩) (by assumption) ?_
      rotate_left 1
      · (intro w0 hSw; (try dsimp only at hSw); go_simp; try (with_reducible rfl))
      try simp only [Act.put]
      try simp only [List.setIfInBounds_toArray]
      try simp only [List.set_cons_succ]
      try simp only [List.set_cons_zero]
      refine wpAnyH_ready (rs := [12]) (by kernel_rfl) (by simp) ?_
      refine (AllReadyH.cons rfl (fun K hK => ?_) AllReadyH.nil)
      go_simp
      obtain ⟨V2, hV⟩ : ∃ V', V' = V1.alloc (.cells #[.int .i64 0, .slice none 0 0] 48) := ⟨_, rfl⟩
      rw [← hV]
      have hx : Ext V1 V2 := by rw [hV]; exact (Ext.refl V1).alloc _
      have HM : Hid (Row V2 V1.heap.size 48 [.int .i64 0, .slice none 0 0]) := by show Row _ _ _ _; rw [hV]; exact Row.new V1 48 _
      have HLO : Hid (w1.heap.size ≤ V1.heap.size) := HV.out.size
      have HS : Hid (SlRsP (fun x => x ≠ V1.heap.size) V2.heap.size V2 MA (bothPQ P Q)) := SlRsP.upB ((HS.out.sl.toP).weak (fun b hb _ => by show b ≠ V1.heap.size; have hb : b < V1.heap.size := hb; omega)) hx.below
      have HV := Lib.hid (Below.then HV.out hx.below HV.out.size)
      clear hx hV
      refine hK.out _ _ (HKP.out _ HV.out) (fun hHeld => ?_)
      clear hK K
      try simp only [Act.put]
      try simp only [List.setIfInBounds_toArray]
      try simp only [List.set_cons_succ]
      try simp only [List.set_cons_zero]
      refine wpAnyH_ready (rs := [13]) (by kernel_rfl) (by simp) ?_
      refine (AllReadyH.cons rfl (fun K hK => ?_) AllReadyH.nil)
      have m0 := HM.out.cell 0
      have m1 := HM.out.cell 1
      have m2 := HM.out.frozen 0
      have m3 := HM.out.frozen 1
      have m4 := HM.out.lt
      simp only [List.getElem?_cons_zero, List.getElem?_cons_succ] at m0 m1
      go_simp
      obtain ⟨V3, hV⟩ : ∃ V', V' = (V2.setCell ⟨V1.heap.size, 0, none⟩ (.int .i64 3)).setCell ⟨V1.heap.size, 1, none⟩ (.slice MA (bothPQ P Q).length MC) := ⟨_, rfl⟩
      rw [← hV]
      have HM : Hid (Row V3 V1.heap.size 48 [.int .i64 3, .slice MA (bothPQ P Q).length MC]) := by show Row _ _ _ _; rw [hV]; exact HM.out.set2 _ _
      have HS : Hid (SlRs V3.heap.size V3 MA (bothPQ P Q)) := by show SlRs _ _ _ _; rw [hV]; exact sl_set2 HS.out _ _
      have HV : Hid (Below w1.heap.size w1 V3) := by show Below _ _ _; rw [hV]; exact (HV.out.setCell (by show w1.heap.size ≤ V1.heap.size; exact HLO.out) _).setCell (by show w1.heap.size ≤ V1.heap.size; exact HLO.out) _
      clear hV m0 m1 m2 m3 m4
      refine hK.out _ _ (HKP.out _ HV.out) (fun hHeld => ?_)
      clear hK K
      try simp only [Act.put]
      try simp only [List.setIfInBounds_toArray]
      try simp only [List.set_cons_succ]
      try simp only [List.set_cons_zero]
      refine takeOp (i := 14) (v := ?_) (some 12) rfl rfl (by kernel_rfl) (by kernel_rfl) (by kernel_rfl) (fun _ _ _ h => h) (Or.inl ⟨by rfl, ?_⟩) (by assumption) ?_
      rotate_left 1
      · (intro w0 hSw; (try dsimp only at hSw); go_simp; try (with_reducible rfl))
      try simp only [Act.put]
      try simp only [List.setIfInBounds_toArray]
      try simp only [List.set_cons_succ]
      try simp only [List.set_cons_zero]
      refine wpAnyH_done (by kernel_rfl) ?_ _
      go_wp2_with fail
      go_meet
      case rel => exact ⟨HV.out, V1.heap.size, MA, MC, rfl, HLO.out, HM.out, HMC.out, HS.out, rfl⟩
    · go_simp
      obtain ⟨V1, hV⟩ : ∃ V', V' = V0.alloc (.cells #[.int .i64 0, .slice none 0 0] 48) := ⟨_, rfl⟩
      rw [← hV]
      have hx : Ext V0 V1 := by rw [hV]; exact (Ext.refl V0).alloc _
      have HM : Hid (Row V1 V0.heap.size 48 [.int .i64 0, .slice none 0 0]) := by show Row _ _ _ _; rw [hV]; exact Row.new V0 48 _
      have HLO : Hid (w1.heap.size ≤ V0.heap.size) := HV.out.size
      have HV := Lib.hid (Below.then HV.out hx.below HV.out.size)
      clear hx hV
      refine hK.out _ _ (HKP.out _ HV.out) (fun hHeld => ?_)
      clear hK K
      try simp only [Act.put]
      try simp only [List.setIfInBounds_toArray]
      try simp only [List.set_cons_succ]
      try simp only [List.set_cons_zero]
      refine wpAnyH_ready (rs := [8]) (by kernel_rfl) (by simp) ?_
      refine (AllReadyH.cons rfl (fun K hK => ?_) AllReadyH.nil)
      go_simp
      refine (HCM.out V1 HV.out (fun x => x ≠ V0.heap.size) (fun b hb => by show b ≠ V0.heap.size; have := HLO.out; omega) (fun b hb => by show b ≠ V0.heap.size; have := HM.out.lt; omega)).mono ?_
      rintro e V2 ⟨MA, MC, rfl, hmc, hmm, hs, hb⟩
      have HM := Lib.hid (HM.out.up hb)
      have HS := Lib.hid hs
      have HMC := Lib.hid (And.intro hmc hmm)
      have HV := Lib.hid (Below.then HV.out hb HV.out.size)
      clear hs hb hmc hmm
      go_wp2_with fail
      refine hK.out _ _ (HKP.out _ HV.out) (fun hHeld => ?_)
      clear hK K
      try simp only [Act.put]
      try simp only [List.setIfInBounds_toArray]
      try simp only [List.set_cons_succ]
      try simp only [List.set_cons_zero]
      refine takeOp (i := 9) (v := ?_) (some 57) rfl rfl (by kernel_rfl) (by kernel_rfl) (by kernel_rfl) (fun _ _ _ h => h) (Or.inl ⟨by rfl, ?_⟩) (by assumption) ?_
      rotate_left 1
      · (intro w0 hSw; (try dsimp only at hSw); go_simp; try (with_reducible rfl))
      try simp only [Act.put]
      try simp only [List.setIfInBounds_toArray]
      try simp only [List.set_cons_succ]
      try simp only [List.set_cons_zero]
      refine takeOp (i := 10) (v := ?_) (some 67) rfl rfl (by kernel_rfl) (by kernel_rfl) (by kernel_rfl) (fun _ _ _ h => h) (Or.inl ⟨by rfl, ?_⟩) (by assumption) ?_
      rotate_left 1
      · (intro w0 hSw; (try dsimp only at hSw); go_simp; try (with_reducible rfl))
      try simp only [Act.put]
      try simp only [List.setIfInBounds_toArray]
      try simp only [List.set_cons_succ]
      try simp only [List.set_cons_zero]
      refine takeOp (i := 11) (v := ?_) (some 68) rfl rfl (by kernel_rfl) (by kernel_rfl) (by kernel_rfl) (fun _ _ _ h => h) (Or.inl ⟨by rfl, ?_⟩) (by assumption) ?_
      rotate_left 1
      · (intro w0 hSw; (try dsimp only at hSw); go_simp; try (with_reducible rfl))
      try simp only [Act.put]
      try simp only [List.setIfInBounds_toArray]
      try simp only [List.set_cons_succ]
      try simp only [List.set_cons_zero]
      refine wpAnyH_ready (rs := [13]) (by kernel_rfl) (by simp) ?_
      refine (AllReadyH.cons rfl (fun K hK => ?_) AllReadyH.nil)
      have m0 := HM.out.cell 0
      have m1 := HM.out.cell 1
      have m2 := HM.out.frozen 0
      have m3 := HM.out.frozen 1
      have m4 := HM.out.lt
      simp only [List.getElem?_cons_zero, List.getElem?_cons_succ] at m0 m1
      go_simp
      obtain ⟨V3, hV⟩ : ∃ V', V' = (V2.setCell ⟨V0.heap.size, 0, none⟩ (.int .i64 3)).setCell ⟨V0.heap.size, 1, none⟩ (.slice MA (bothPQ P Q).length MC) := ⟨_, rfl⟩
      rw [← hV]
      have HM : Hid (Row V3 V0.heap.size 48 [.int .i64 3, .slice MA (bothPQ P Q).length MC]) := by show Row _ _ _ _; rw [hV]; exact HM.out.set2 _ _
      have HS : Hid (SlRs V3.heap.size V3 MA (bothPQ P Q)) := by show SlRs _ _ _ _; rw [hV]; exact sl_set2 HS.out _ _
      have HV : Hid (Below w1.heap.size w1 V3) := by show Below _ _ _; rw [hV]; exact (HV.out.setCell (by show w1.heap.size ≤ V0.heap.size; exact HLO.out) _).setCell (by show w1.heap.size ≤ V0.heap.size; exact HLO.out) _
      clear hV m0 m1 m2 m3 m4
      refine hK.out _ _ (HKP.out _ HV.out) (fun hHeld => ?_)
      clear hK K
      try simp only [Act.put]
      try simp only [List.setIfInBounds_toArray]
      try simp only [List.set_cons_succ]
      try simp only [List.set_cons_zero]
      refine takeOp (i := 14) (v := ?_) (some 12) rfl rfl (by kernel_rfl) (by kernel_rfl) (by kernel_rfl) (fun _ _ _ h => h) (Or.inl ⟨by rfl, ?_⟩) (by assumption) ?_
      rotate_left 1
      · (intro w0 hSw; (try dsimp only at hSw); go_simp; try (with_reducible rfl))
      try simp only [Act.put]
      try simp only [List.setIfInBounds_toArray]
      try simp only [List.set_cons_succ]
      try simp only [List.set_cons_zero]
      refine wpAnyH_done (by kernel_rfl) ?_ _
      go_wp2_with fail
      go_meet
      case rel => exact ⟨HV.out, V0.heap.size, MA, MC, rfl, HLO.out, HM.out, HMC.out, HS.out, rfl⟩
  case rest =>
    obtain ⟨hbc, bm, MA, MC, rfl, hlo, hrm, hmc, hsm, rfl⟩ := hcut
    have HBC := Lib.hid (Below.then HBW.out hbc HBW.out.size)
    have HAC := Lib.hid (HA.out.upB hbc)
    have HRM := Lib.hid hrm
    have HMC := Lib.hid hmc
    have HSM := Lib.hid hsm
    have HRC2 := Lib.hid (HR1C2.out.up hbc)
    have HKC := Lib.hid (HKP.out wc hbc)
    have HJ := Lib.hid (joinS_any 3 (some ⟨ab, ao, none⟩) C1 [at012 P, at012 Q] wc HAC.out (by simp) (fun x hx => by simp at hx; rcases hx with rfl | rfl <;> first | exact HSP.out | exact HSQ.out) (fun _ => by omega))
    have HSMM : Hid (Small (at012 (bothPQ P Q))) := small012 HSP.out (HSP.out.ss.filter _) (fun r hr => ((mem_bothPQ r).1 hr).1) (bothPQ_len P Q)
    have HEQ : Hid (joinF 3 ([at012 P, at012 Q].map RA.at) = joinF 3 ([at012 (bothPQ P Q)].map RA.at)) := by
      obtain ⟨m1, e1, g1⟩ := Good0.of (n := 3) (fun x hx => by simp at hx; rcases hx with rfl | rfl <;> first | exact HSP.out | exact HSQ.out) (good012 P Q)
      obtain ⟨m2, e2, g2⟩ := Good0.of (n := 3) (fun x hx => by simp at hx; subst hx; exact HSMM.out) (good1 (bothPQ P Q))
      obtain rfl : m1 = 3 := by omega
      obtain rfl : m2 = 3 := by omega
      exact join_meet g1 g2 fun r => mem_bothPQ r
    have HJO : Hid (RsOk (joinF 3 ([at012 P, at012 Q].map RA.at)) ∧ (joinF 3 ([at012 P, at012 Q].map RA.at)).length ≤ 65536) := by
      obtain ⟨m1, e1, g1⟩ := Good0.of (n := 3) (fun x hx => by simp at hx; rcases hx with rfl | rfl <;> first | exact HSP.out | exact HSQ.out) (good012 P Q)
      obtain rfl : m1 = 3 := by omega
      exact ⟨g1.rsOk, Nat.le_trans g1.len (by decide)⟩
    clear hbc hrm hmc hsm HKP HCM HA HK HR1C2 hab hzA
    go_wp2_with fail
    refine HJ.out.mono ?_
    rintro e w5 hp5
    obtain ⟨r5, s5, q5, rfl, hq5, hb5, hj5⟩ := hp5.shape
    rw [good012] at hq5
    subst hq5
    obtain ⟨XA, XC, rfl, -, -, hxs⟩ := hj5 (good012 P Q)
    have h3 : ((3 : Int)).toNat = 3 := rfl
    rw [h3] at hxs ⊢
    clear h3 hp5 hj5 HJ
    generalize hJ : joinF 3 ([at012 P, at012 Q].map RA.at) = J at *
    have HJE := Lib.hid hJ
    clear hJ
    have HXS := Lib.hid hxs
    have HB5 := Lib.hid (Below.then HBC.out hb5 HBC.out.size)
    have HAC5 := Lib.hid (HAC.out.upB hb5)
    have HRM5 := Lib.hid (HRM.out.up hb5)
    have HRC5 := Lib.hid (HRC2.out.up hb5)
    have hrm5 := HRM.out.up hb5
    have k0 : w5.cell? ⟨bm, 0, none⟩ = some (.int .i64 3) := hrm5.cell 0
    have k1 : w5.cell? ⟨bm, 1, none⟩ = some (.slice MA (bothPQ P Q).length MC) := hrm5.cell 1
    have hbm := hrm5.lt
    obtain ⟨W6, hW6⟩ : ∃ W6, W6 = (w5.alloc (.cells #[.int .i64 0, .int .i64 1, .int .i64 2] 3)).alloc (.cells #[.slice (some ⟨w5.heap.size, 0, none⟩) 3 3, .int .i64 3, .slice MA (bothPQ P Q).length MC] 52) := ⟨_, rfl⟩
    have hx6 : Ext w5 W6 := by rw [hW6]; exact ((Ext.refl w5).alloc _).alloc _
    have r1 : Row W6 w5.heap.size 3 ((ints [0, 1, 2]).map (Value.int .i64)) := by
      rw [hW6]; exact (Row.new w5 3 [.int .i64 0, .int .i64 1, .int .i64 2]).alloc _
    have r2 : Row W6 (w5.heap.size + 1) 52 [.slice (some ⟨w5.heap.size, 0, none⟩) 3 3, .int .i64 3, .slice MA (bothPQ P Q).length MC] := by
      have h := Row.new (w5.alloc (.cells #[.int .i64 0, .int .i64 1, .int .i64 2] 3)) 52 [.slice (some ⟨w5.heap.size, 0, none⟩) 3 3, .int .i64 3, .slice MA (bothPQ P Q).length MC]
      rw [World.size_alloc] at h
      rw [hW6]; exact h
    have HJ2 := Lib.hid (joinS_any 3 (some ⟨w5.heap.size + 1, 0, none⟩) 1 [at012 (bothPQ P Q)] W6 (ats_one (l := [0, 1, 2]) r1 r2 (by simp) HMC.out.1 HMC.out.2 ((HSM.out.upB hb5).upB hx6.below)) (by simp) (fun x hx => by simp at hx; subst hx; exact HSMM.out) (fun _ => by omega))
    have HX6 := Lib.hid hx6
    clear hb5 hrm5 hx6 r1 r2 hxs
    go_wp2_with fail
    rw [← hW6]
    clear hW6 k0 k1
    refine HJ2.out.mono ?_
    rintro e w7 hp7
    obtain ⟨r7, s7, q7, rfl, hq7, hb7, hj7⟩ := hp7.shape
    rw [good1] at hq7
    subst hq7
    obtain ⟨YA, YC, rfl, -, -, hys⟩ := hj7 (good1 _)
    have h3 : ((3 : Int)).toNat = 3 := rfl
    rw [h3, ← HEQ.out] at hys ⊢
    clear h3 hp7 hj7 HJ2
    have hb57 : Below w5.heap.size w5 w7 := Below.then HX6.out.below hb7 HX6.out.size
    have HB7 := Lib.hid (Below.then HB5.out hb57 HB5.out.size)
    have HAC7 := Lib.hid (HAC5.out.upB hb57)
    have HRC7 := Lib.hid (HRC5.out.up hb57)
    have HXS7 := Lib.hid (HXS.out.upB hb57)
    have HYS7 := Lib.hid hys
    have hJl := HJO.out.2
    have HRW := Lib.hid (l7Rows_any YA YC J w7 hys (by omega) HJO.out.1)
    clear hb7 hb57 hys HX6 HRM HRM5 HSM HMC HB5 HAC5 HRC5 HXS hbm HEQ
    go_wp2_with fail
    refine HRW.out.mono ?_
    rintro e w8 ⟨v8, rfl, hown8, hb8⟩
    obtain ⟨ZA, ZC, rfl, -, -, hz8⟩ := hown8.sl
    have HSAME := Lib.hid (same_refl XA ZA XC ZC J w8 (HXS7.out.upB hb8) hz8 (by omega) HJO.out.1)
    have HB8 := Lib.hid (Below.then HB7.out hb8 HB7.out.size)
    have HAC8 := Lib.hid (HAC7.out.upB hb8)
    have HRC8 := Lib.hid (HRC7.out.up hb8)
    clear hown8 hb8 hz8 HRW HXS7 HYS7 HAC7 HRC7 HB7
    go_wp2_with fail
    refine HSAME.out.mono ?_
    rintro e w9 ⟨rfl, hb9⟩
    have HB9 := Lib.hid (Below.then HB8.out hb9 HB8.out.size)
    have HAC9 := Lib.hid (HAC8.out.upB hb9)
    have HRC9 := Lib.hid (HRC8.out.up hb9)
    have hrc9 := HRC8.out.up hb9
    have k2 : w9.cell? ⟨w.heap.size + 1 + 1, 1, none⟩ = some (.slice RC c.R.length CC) := hrc9.cell 1
    have hz9 := hrc9.lt
    clear hrc9 hb9 HSAME HAC8 HRC8 HB8
    go_wp2_with fail
    go_loopw [19, 104] (fun v c1 wx => ∃ k : Nat, k ≤ c.R.length ∧ c1 = .int .i64 k ∧ OwnRs wx w9.heap.size 34 v ((c.R.take k).map (rowI 2)) ∧ Below w9.heap.size w9 wx) (fun _ c1 _ => c.R.length - (intOf c1).toNat)
    case atStart => exact ⟨0, Nat.zero_le _, rfl, OwnRs.nil _ _ _, Below.refl _ _⟩
    case round =>
      obtain ⟨k, hk, rfl, hrs, hbk⟩ := hrel
      have HRS := Lib.hid hrs
      have HBK := Lib.hid hbk
      have hzk := hbk.size
      have HL2 := HL.out
      clear hrs hbk k2
      by_cases hkl : k < c.R.length
      · obtain ⟨qb, qo, rfl, hqb, hqc⟩ := HSC.out (by intro h0; rw [h0] at hkl; simp at hkl)
        have HBWK := Lib.hid (Below.then HB9.out HBK.out HB9.out.size)
        have d0 := (HBWK.out.cell (p := ⟨qb, qo + k * 4 + 0, none⟩) hqb).trans (hqc k hkl 0 (by omega))
        have d1 := (HBWK.out.cell (p := ⟨qb, qo + k * 4 + 1, none⟩) hqb).trans (hqc k hkl 1 (by omega))
        have d2 := (HBWK.out.cell (p := ⟨qb, qo + k * 4 + 2, none⟩) hqb).trans (hqc k hkl 2 (by omega))
        have d3 := (HBWK.out.cell (p := ⟨qb, qo + k * 4 + 3, none⟩) hqb).trans (hqc k hkl 3 (by omega))
        rw [Nat.add_zero] at d0
        have hqb2 := Nat.lt_of_lt_of_le hqb HBWK.out.size
        have g3 : (0 : Int) ≤ (k : Int) := by omega
        have g4 : (k : Int) < (c.R.length : Int) := by omega
        have hwj : IntKind.i64.wrap ((k : Int) + 1) = ((k + 1 : Nat) : Int) := by rw [IntWalk.i64_in _ (by omega)]; omega
        have HTJ : Hid ((c.R.take (k + 1)).map (rowI 2) = (c.R.take k).map (rowI 2) ++ [rowI 2 c.R[k]]) := map_snoc2 2 _ hkl
        have HLK : Hid (((c.R.take k).map (rowI 2)).length ≤ 1048576) := by show _ ≤ _; rw [List.length_map, List.length_take]; omega
        clear hqc
        generalize c.R[k] = t at *
        have HR2 := Lib.hid (rowI2 t)
        obtain ⟨y0, hy0⟩ : ∃ y : Nat, y = t.getD 0 0 := ⟨_, rfl⟩
        obtain ⟨y1, hy1⟩ : ∃ y : Nat, y = t.getD 1 0 := ⟨_, rfl⟩
        obtain ⟨y2, hy2⟩ : ∃ y : Nat, y = t.getD 2 0 := ⟨_, rfl⟩
        obtain ⟨y3, hy3⟩ : ∃ y : Nat, y = t.getD 3 0 := ⟨_, rfl⟩
        rw [← hy0] at d0
        rw [← hy1] at d1
        rw [← hy2] at d2
        rw [← hy3] at d3
        have HY0 := Lib.hid hy0
        have HY1 := Lib.hid hy1
        clear hy0 hy1 hy2 hy3
        obtain ⟨z0, hz0⟩ : ∃ z0, z0 = ((y0 % 4 : Nat) : Int) := ⟨_, rfl⟩
        obtain ⟨z1, hz1⟩ : ∃ z1, z1 = ((y1 % 4 : Nat) : Int) := ⟨_, rfl⟩
        have HQ0 : Hid ((y0 : Int) % 4 = z0) := by show _ = _; omega
        have HQ1 : Hid ((y1 : Int) % 4 = z1) := by show _ = _; omega
        obtain ⟨W4, hW4⟩ : ∃ W4, W4 = ((wr.alloc (.cells #[.int .u8 (y0 : Nat), .int .u8 (y1 : Nat), .int .u8 (y2 : Nat), .int .u8 (y3 : Nat)] 74)).alloc (.cells #[.int .i64 1, .int .i64 z0, .string ⟨#[]⟩, .int .i64 1, .int .i64 z1, .string ⟨#[]⟩] 41)).alloc (.cells #[.slice (some ⟨wr.heap.size + 1, 0, none⟩) 2 2] 34) := ⟨_, rfl⟩
        have hx4 : Ext wr W4 := by rw [hW4]; exact (((Ext.refl wr).alloc _).alloc _).alloc _
        have rv : Row W4 (wr.heap.size + 1) 41 (rcells (rowI 2 t)) := by
          have h := (Row.new (wr.alloc (.cells #[.int .u8 (y0 : Nat), .int .u8 (y1 : Nat), .int .u8 (y2 : Nat), .int .u8 (y3 : Nat)] 74)) 41 [.int .i64 1, .int .i64 z0, .string ⟨#[]⟩, .int .i64 1, .int .i64 z1, .string ⟨#[]⟩]).alloc (.cells #[.slice (some ⟨wr.heap.size + 1, 0, none⟩) 2 2] 34)
          rw [World.size_alloc] at h
          rw [HR2.out, ← HY0.out, ← HY1.out, hW4]
          rw [hz0, hz1] at h ⊢
          exact h
        have rh : Row W4 (wr.heap.size + 1 + 1) 34 [.slice (some ⟨wr.heap.size + 1, 0, none⟩) 2 2] := by
          have h := Row.new ((wr.alloc (.cells #[.int .u8 (y0 : Nat), .int .u8 (y1 : Nat), .int .u8 (y2 : Nat), .int .u8 (y3 : Nat)] 74)).alloc (.cells #[.int .i64 1, .int .i64 z0, .string ⟨#[]⟩, .int .i64 1, .int .i64 z1, .string ⟨#[]⟩] 41)) 34 [.slice (some ⟨wr.heap.size + 1, 0, none⟩) 2 2]
          rw [World.size_alloc, World.size_alloc] at h
          rw [hW4]; exact h
        have HSR : Hid (SlR W4.heap.size W4 (some ⟨wr.heap.size + 1, 0, none⟩) (rowI 2 t)) := fun _ => ⟨wr.heap.size + 1, 0, rfl, rv.lt, fun j u hu => by rw [Nat.zero_add]; exact (rv.cell j).trans hu⟩
        have HRH := Lib.hid rh
        have HX4 := Lib.hid hx4
        have HRS4 := Lib.hid (HRS.out.keep hx4.below)
        have HLT := Lib.hid (fun g hg => (own_lt (HRS.out).choose_spec.1 g hg))
        have HW4 := Lib.hid hW4
        have HYL : Hid ((rowI 2 t).length = 2) := rowI_len 2 t
        have HB4 := Lib.hid (Below.then HBK.out hx4.below hzk)
        clear hW4 hz0 hz1 rv rh hx4 HY0 HY1
        go_wp2_with
          (at_builtin
           rw [HQ0.out, HQ1.out, ← HW4.out]
           refine app1Row rfl (.tmp 108) (.tmp 120) rfl w9.heap.size u19 ((c.R.take k).map (rowI 2)) rfl HRS4.out (wr.heap.size + 1 + 1) (some ⟨wr.heap.size + 1, 0, none⟩) 2 (rowI 2 t) rfl (HRH.out.cell 0) HSR.out (by rw [HYL.out]; exact Nat.le_refl _) (by omega) (fun _ ad e e2 => by injection e with e; subst e; have h := HLT.out _ e2; exact absurd h (by show ¬ (wr.heap.size + 1 < wr.heap.size); omega)) (by have := HLK.out; omega) (Nat.le_trans hzk HX4.out.size) ?_
           intro v' w7 hown7 hg7
           rw [← HTJ.out] at hown7
           have HO7 := Lib.hid hown7
           have HB7 := Lib.hid (HB4.out.grown hg7 (Nat.le_trans hzk HX4.out.size) HRS4.out.base)
           clear hown7 hg7)
        go_wp2
        go_roundw
        case rel => exact ⟨k + 1, hkl, by go_num, HO7.out, HB7.out⟩
        case measure => simp [intOf]; omega
      · obtain rfl : k = c.R.length := by omega
        have hrs := HRS.out
        rw [List.take_of_length_le (Nat.le_refl _)] at hrs
        obtain ⟨SA, SC, rfl, hsc, hsm, hss⟩ := hrs.sl
        have HBR := Lib.hid (Below.then HB9.out HBK.out HB9.out.size)
        have HAR := Lib.hid (HAC9.out.upB HBK.out)
        rw [List.length_map]
        by_cases h12 : c.R.length ≤ 12
        rotate_left
        · have hd : decide ((12 : Int) < (c.R.length : Int)) = true := decide_eq_true (by omega)
          clear hss hsc hsm hrs
          go_wp2_with fail
          refine (l35awake_any _).mono ?_
          rintro e w10 ⟨rfl, hb10⟩
          have hbw := Below.then HBR.out hb10 HBR.out.size
          clear hb10
          go_wp2
          exact bodyPost_ret (v := .bool true) (by simp [results, Try.results9, go_sem]) rfl ⟨rfl, hbw⟩
        have hd : decide ((12 : Int) < (c.R.length : Int)) = false := decide_eq_false (by omega)
        have hof := rlOf_any 2 SA SC (c.R.map (rowI 2)) wr (by omega) (by omega) hss (rowsI_ok (by omega) c.R) (by rw [List.length_map]; omega)
        rw [List.length_map] at hof
        have HOF := Lib.hid hof
        have HERR : Hid (errF 2 (c.R.map (rowI 2)) = 0) := rowsI_err 2 c.R
        have HSQ2 := Lib.hid (small34 c.R h12)
        obtain ⟨ab2, ao2, e1, hab, hac⟩ := HAR.out (by simp)
        injection e1 with e1
        obtain ⟨rfl, rfl⟩ : ab = ab2 ∧ ao = ao2 := by injection e1 with e1 e2; exact ⟨e1, e2⟩
        obtain ⟨VA, VC, PA, PC, c0, c1, c2, v1, v2, p1, p2, sV, sP⟩ := hac 0 (by simp)
        have c0 : wr.cell? ⟨ab, ao, none⟩ = some (.slice VA 3 VC) := c0
        have c1 : wr.cell? ⟨ab, ao + 1, none⟩ = some (.int .i64 3) := c1
        have c2 : wr.cell? ⟨ab, ao + 2, none⟩ = some (.slice PA P.length PC) := c2
        have HC3 := Lib.hid (And.intro c0 (And.intro c1 c2))
        have HVP := Lib.hid (And.intro v1 (And.intro v2 (And.intro p1 (And.intro p2 (And.intro sV sP)))))
        clear hof hss hsc hsm hrs hac e1 c0 c1 c2 v1 v2 p1 p2 sV sP hd
        go_wp2_with fail
        refine HOF.out.mono ?_
        rintro e w10 ⟨h1, -, hb10⟩
        obtain ⟨rv, rfl, OA, OC, rfl, hoc, hom, hfr⟩ := h1 HERR.out
        clear h1 HOF
        generalize RL.ofF (c.R.map (rowI 2)) = Q2 at *
        have HOC := Lib.hid (And.intro hoc hom)
        have hx11 : Ext w10 (w10.alloc (.cells #[.int .i64 2, .slice OA Q2.length OC] 48)) := (Ext.refl w10).alloc _
        have hro := Row.new w10 48 [.int .i64 2, .slice OA Q2.length OC]
        have HSO := Lib.hid (hfr.sl.upB hx11.below)
        have HRO := Lib.hid hro
        have hbrx : Below wr.heap.size wr (w10.alloc (.cells #[.int .i64 2, .slice OA Q2.length OC] 48)) := Below.then hb10 hx11.below hb10.size
        have HBX := Lib.hid hbrx
        obtain ⟨w11, hw11⟩ : ∃ w11, w11 = w10.alloc (.cells #[.int .i64 2, .slice OA Q2.length OC] 48) := ⟨_, rfl⟩
        rw [← hw11] at HSO HRO HBX
        have HW11 := Lib.hid hw11
        clear hb10 hfr hoc hom hx11 hro hbrx hw11
        go_upto_region 22 with (fail)
        rw [← HW11.out]
        obtain ⟨bo, hbo⟩ : ∃ bo, bo = w10.heap.size := ⟨_, rfl⟩
        rw [← hbo] at HRO ⊢
        clear hbo HW11
        have hbow := HRO.out.lt
        have hab11 : ab < w11.heap.size := Nat.lt_of_lt_of_le hab HBX.out.size
        have HKP : Hid (∀ V, Below w11.heap.size w11 V → V.cell? ⟨ab, ao, none⟩ = some (.slice VA 3 VC) ∧ V.cell? ⟨ab, ao + 1, none⟩ = some (.int .i64 3) ∧ V.cell? ⟨ab, ao + 2, none⟩ = some (.slice PA P.length PC) ∧ V.cell? ⟨bo, 0, none⟩ = some (.int .i64 2) ∧ V.cell? ⟨bo, 1, none⟩ = some (.slice OA Q2.length OC)) := fun V hb => by
          have hbv : Below wr.heap.size wr V := Below.then HBX.out hb HBX.out.size
          exact ⟨(hbv.cell (p := ⟨ab, ao, none⟩) hab).trans HC3.out.1, (hbv.cell (p := ⟨ab, ao + 1, none⟩) hab).trans HC3.out.2.1, (hbv.cell (p := ⟨ab, ao + 2, none⟩) hab).trans HC3.out.2.2, (HRO.out.up hb).cell 0, (HRO.out.up hb).cell 1⟩
        have HLN : Hid ((joinF (5 : Int).toNat ([at012 P, at34 Q2].map RA.at)).length = P.length * Q2.length) := by
          obtain ⟨m1, e1, g1⟩ := Good0.of (n := 5) (fun x hx => by simp at hx; rcases hx with rfl | rfl <;> first | exact HSP.out | exact HSQ2.out) (good5 P Q2)
          obtain rfl : m1 = 5 := by omega
          have h3 : ∀ p ∈ P, p.length = 3 := fun p hp => by have := HSP.out.len p hp; exact Int.ofNat.inj this
          have h2 : ∀ q ∈ Q2, q.length = 2 := fun q hq => by have := HSQ2.out.len q hq; exact Int.ofNat.inj this
          show (joinF 5 ([at012 P, at34 Q2].map RA.at)).length = _
          rw [join_prod g1 HSP.out.ss HSQ2.out.ss h3 h2, prodF_len]
        have hPl : P.length ≤ 60000 := HSP.out.many
        have hQl : Q2.length ≤ 60000 := HSQ2.out.many
        have hpql : P.length * Q2.length ≤ 3600000000 := mul_small hPl hQl
        obtain ⟨pq, hpq⟩ : ∃ pq, pq = P.length * Q2.length := ⟨_, rfl⟩
        rw [← hpq] at HLN hpql
        have HWM := Lib.hid (wraps_pq hpq hpql)
        clear hpq hPl hQl hpql
        refine wp_region_held_drew (S := (fun w' => w'.cell? ⟨ab, ao, none⟩ = some (.slice VA 3 VC) ∧ w'.cell? ⟨ab, ao + 1, none⟩ = some (.int .i64 3) ∧ w'.cell? ⟨ab, ao + 2, none⟩ = some (.slice PA P.length PC) ∧ w'.cell? ⟨bo, 0, none⟩ = some (.int .i64 2) ∧ w'.cell? ⟨bo, 1, none⟩ = some (.slice OA Q2.length OC))) (by kernel_rfl) (HKP.out w11 (Below.refl _ _)) (fun hHeld => ?_)
        refine takeOp (i := 0) (v := ?_) (some 133) rfl rfl (by kernel_rfl) (by kernel_rfl) (by kernel_rfl) (fun _ _ _ h => h) (Or.inl ⟨by rfl, ?_⟩) (by assumption) ?_
        rotate_left 1
        · (intro w0 hSw; (try dsimp only at hSw); go_simp; try (with_reducible rfl))
        try simp only [Act.put]
        try simp only [List.setIfInBounds_toArray]
        try simp only [List.set_cons_succ]
        try simp only [List.set_cons_zero]
        refine takeOp (i := 1) (v := ?_) (some 134) rfl rfl (by kernel_rfl) (by kernel_rfl) (by kernel_rfl) (fun _ _ _ h => h) (Or.inl ⟨by rfl, ?_⟩) (by assumption) ?_
        rotate_left 1
        · (intro w0 hSw; (try dsimp only at hSw); go_simp; try (with_reducible rfl))
        try simp only [Act.put]
        try simp only [List.setIfInBounds_toArray]
        try simp only [List.set_cons_succ]
        try simp only [List.set_cons_zero]
        refine takeOp (i := 2) (v := ?_) (some 135) rfl rfl (by kernel_rfl) (by kernel_rfl) (by kernel_rfl) (fun _ _ _ h => h) (Or.inl ⟨by rfl, ?_⟩) (by assumption) ?_
        rotate_left 1
        · (intro w0 hSw; (try dsimp only at hSw); go_simp; try (with_reducible rfl))
        try simp only [Act.put]
        try simp only [List.setIfInBounds_toArray]
        try simp only [List.set_cons_succ]
        try simp only [List.set_cons_zero]
        refine takeOp (i := 4) (v := ?_) (some 137) rfl rfl (by kernel_rfl) (by kernel_rfl) (by kernel_rfl) (fun _ _ _ h => h) (Or.inl ⟨by rfl, ?_⟩) (by assumption) ?_
        rotate_left 1
        · (intro w0 hSw; (try dsimp only at hSw); go_simp; try (with_reducible rfl))
        try simp only [Act.put]
        try simp only [List.setIfInBounds_toArray]
        try simp only [List.set_cons_succ]
        try simp only [List.set_cons_zero]
        refine wpAnyH_ready (rs := [3]) (by kernel_rfl) (by simp) ?_
        refine AllReadyH.cons rfl (fun K hK => ?_) AllReadyH.nil
        go_simp
        obtain ⟨V1, hV⟩ : ∃ V', V' = (w11.alloc (.cells #[.int .i64 3, .int .i64 4] 3)).drew := ⟨_, rfl⟩
        rw [← hV]
        have HV1 : Hid (Below w11.heap.size w11 V1) := by show Below _ _ _; rw [hV]; exact (((Ext.refl w11).alloc _).drew).below
        have HI1 : Hid (Row V1 w11.heap.size 3 ((ints [3, 4]).map (Value.int .i64))) := by show Row _ _ _ _; rw [hV]; exact (Row.new w11 3 [.int .i64 3, .int .i64 4]).drew
        clear hV
        refine hK.out _ _ (HKP.out V1 HV1.out) (fun hHeld => ?_)
        clear hK K
        try simp only [Act.put]
        try simp only [List.setIfInBounds_toArray]
        try simp only [List.set_cons_succ]
        try simp only [List.set_cons_zero]
        refine takeOp (i := 5) (v := ?_) (some 138) rfl rfl (by kernel_rfl) (by kernel_rfl) (by kernel_rfl) (fun _ _ _ h => h) (Or.inl ⟨by rfl, ?_⟩) (by assumption) ?_
        rotate_left 1
        · (intro w0 hSw; (try dsimp only at hSw); go_simp; try (with_reducible rfl))
        try simp only [Act.put]
        try simp only [List.setIfInBounds_toArray]
        try simp only [List.set_cons_succ]
        try simp only [List.set_cons_zero]
        refine wpAnyH_ready (rs := [6]) (by kernel_rfl) (by simp) ?_
        refine AllReadyH.cons rfl (fun K hK => ?_) AllReadyH.nil
        go_simp
        obtain ⟨V2, hV⟩ : ∃ V', V' = V1.alloc (.cells #[.slice VA 3 VC, .int .i64 3, .slice PA P.length PC, .slice (some ⟨w11.heap.size, 0, none⟩) 2 2, .int .i64 2, .slice OA Q2.length OC] 52) := ⟨_, rfl⟩
        rw [← hV]
        have hx2 : Ext V1 V2 := by rw [hV]; exact (Ext.refl V1).alloc _
        have HV2 := Lib.hid (Below.then HV1.out hx2.below HV1.out.size)
        have HI2 := Lib.hid (HI1.out.up hx2.below)
        have HT2 : Hid (Row V2 V1.heap.size 52 [.slice VA 3 VC, .int .i64 3, .slice PA P.length PC, .slice (some ⟨w11.heap.size, 0, none⟩) 2 2, .int .i64 2, .slice OA Q2.length OC]) := by show Row _ _ _ _; rw [hV]; exact Row.new V1 52 _
        have hbv2 : Below wr.heap.size wr V2 := Below.then HBX.out HV2.out HBX.out.size
        have HCN := Lib.hid (countS_any 5 (some ⟨V1.heap.size, 0, none⟩) 2 [at012 P, at34 Q2] V2 (ats_two (a := at012 P) (l := [3, 4]) HI2.out HT2.out HVP.out.1 HVP.out.2.1 HVP.out.2.2.1 HVP.out.2.2.2.1 ((Sl.below HVP.out.2.2.2.2.1 hbv2 (Nat.le_refl _)).more hbv2.size) (HVP.out.2.2.2.2.2.upB hbv2) (by simp) HOC.out.1 HOC.out.2 (HSO.out.upB HV2.out)) (by simp) (fun x hx => by simp at hx; rcases hx with rfl | rfl <;> first | exact HSP.out | exact HSQ2.out) (fun _ => by omega))
        clear hV hx2 hbv2
        refine hK.out _ _ (HKP.out V2 HV2.out) (fun hHeld => ?_)
        clear hK K
        try simp only [Act.put]
        try simp only [List.setIfInBounds_toArray]
        try simp only [List.set_cons_succ]
        try simp only [List.set_cons_zero]
        refine wpAnyH_ready (rs := [7]) (by kernel_rfl) (by simp) ?_
        refine AllReadyH.cons rfl (fun K hK => ?_) AllReadyH.nil
        go_simp
        refine HCN.out.mono ?_
        rintro e V3 ⟨-, hb3, h3⟩
        obtain ⟨NA, st, rfl, hn3, -⟩ := h3 (good5 P Q2)
        rw [HLN.out] at hn3 ⊢
        have HV3 := Lib.hid (Below.then HV2.out hb3 HV2.out.size)
        have HN3 := Lib.hid (NatM.of hn3)
        generalize trimN [pq, 0] = T3 at HN3 ⊢
        clear hb3 h3 hn3 HCN
        go_wp2_with fail
        refine hK.out _ _ (HKP.out V3 HV3.out) (fun hHeld => ?_)
        clear hK K
        try simp only [Act.put]
        try simp only [List.setIfInBounds_toArray]
        try simp only [List.set_cons_succ]
        try simp only [List.set_cons_zero]
        refine takeOp (i := 8) (v := ?_) (some 132) rfl rfl (by kernel_rfl) (by kernel_rfl) (by kernel_rfl) (fun _ _ _ h => h) (Or.inl ⟨by rfl, ?_⟩) (by assumption) ?_
        rotate_left 1
        · (intro w0 hSw; (try dsimp only at hSw); go_simp; try (with_reducible rfl))
        try simp only [Act.put]
        try simp only [List.setIfInBounds_toArray]
        try simp only [List.set_cons_succ]
        try simp only [List.set_cons_zero]
        refine takeOp (i := 9) (v := ?_) (some 141) rfl rfl (by kernel_rfl) (by kernel_rfl) (by kernel_rfl) (fun _ _ _ h => h) (Or.inl ⟨by rfl, ?_⟩) (by assumption) ?_
        rotate_left 1
        · (intro w0 hSw; (try dsimp only at hSw); go_simp; try (with_reducible rfl))
        try simp only [Act.put]
        try simp only [List.setIfInBounds_toArray]
        try simp only [List.set_cons_succ]
        try simp only [List.set_cons_zero]
        refine takeOp (i := 10) (v := ?_) (some 142) rfl rfl (by kernel_rfl) (by kernel_rfl) (by kernel_rfl) (fun _ _ _ h => h) (Or.inl ⟨by rfl, ?_⟩) (by assumption) ?_
        rotate_left 1
        · (intro w0 hSw; (try dsimp only at hSw); go_simp; try (with_reducible rfl))
        try simp only [Act.put]
        try simp only [List.setIfInBounds_toArray]
        try simp only [List.set_cons_succ]
        try simp only [List.set_cons_zero]
        refine takeOp (i := 11) (v := ?_) (some 143) rfl rfl (by kernel_rfl) (by kernel_rfl) (by kernel_rfl) (fun _ _ _ h => h) (Or.inl ⟨by rfl, ?_⟩) (by assumption) ?_
        rotate_left 1
        · (intro w0 hSw; (try dsimp only at hSw); go_simp; try (with_reducible rfl))
        try simp only [Act.put]
        try simp only [List.setIfInBounds_toArray]
        try simp only [List.set_cons_succ]
        try simp only [List.set_cons_zero]
        refine takeOp (i := 12) (v := ?_) (some 23) rfl rfl (by kernel_rfl) (by kernel_rfl) (by kernel_rfl) (fun _ _ _ h => h) (Or.inl ⟨by rfl, ?_⟩) (by assumption) ?_
        rotate_left 1
        · (intro w0 hSw; (try dsimp only at hSw); go_simp; try (with_reducible rfl))
        try simp only [Act.put]
        try simp only [List.setIfInBounds_toArray]
        try simp only [List.set_cons_succ]
        try simp only [List.set_cons_zero]
        refine takeOp (i := 13) (v := ?_) (some 24) rfl rfl (by kernel_rfl) (by kernel_rfl) (by kernel_rfl) (fun _ _ _ h => h) (Or.inl ⟨by rfl, ?_⟩) (by assumption) ?_
        rotate_left 1
        · (intro w0 hSw; (try dsimp only at hSw); go_simp; try (with_reducible rfl))
        try simp only [Act.put]
        try simp only [List.setIfInBounds_toArray]
        try simp only [List.set_cons_succ]
        try simp only [List.set_cons_zero]
        refine takeOp (i := 14) (v := ?_) (some 15) rfl rfl (by kernel_rfl) (by kernel_rfl) (by kernel_rfl) (fun _ _ _ h => h) (Or.inl ⟨by rfl, ?_⟩) (by assumption) ?_
        rotate_left 1
        · (intro w0 hSw; (try dsimp only at hSw); go_simp; try (with_reducible rfl))
        try simp only [Act.put]
        try simp only [List.setIfInBounds_toArray]
        try simp only [List.set_cons_succ]
        try simp only [List.set_cons_zero]
        refine wpAnyH_done (by kernel_rfl) ?_ _
        obtain ⟨hwm, hwm2, hwu, hpq32⟩ := HWM.out
        have HB3W := Lib.hid (Below.then HBR.out (Below.then HBX.out HV3.out HBX.out.size) HBR.out.size)
        have HK3 : Hid (∀ V, Below V3.heap.size V3 V → V.cell? ⟨ab, ao + 1, none⟩ = some (.int .i64 3) ∧ V.cell? ⟨ab, ao + 2, none⟩ = some (.slice PA P.length PC) ∧ V.cell? ⟨bo, 0, none⟩ = some (.int .i64 2) ∧ V.cell? ⟨bo, 1, none⟩ = some (.slice OA Q2.length OC)) := fun V hb => (HKP.out V (Below.then HV3.out hb HV3.out.size)).2
        have KEEP0 := HK3.out V3.drew (Below.refl _ _).drew
        have hab3 : ab < V3.heap.size := Nat.lt_of_lt_of_le hab11 HV3.out.size
        have hbo3 : bo < V3.heap.size := Nat.lt_of_lt_of_le hbow HV3.out.size
        clear hab hab11 hbow
        go_wp2_with fail
        go_region_held3 (fun w' => w'.cell? ⟨ab, ao + 1, none⟩ = some (.int .i64 3) ∧ w'.cell? ⟨ab, ao + 2, none⟩ = some (.slice PA P.length PC) ∧ w'.cell? ⟨bo, 0, none⟩ = some (.int .i64 2) ∧ w'.cell? ⟨bo, 1, none⟩ = some (.slice OA Q2.length OC)) (first | exact KEEP5 | exact KEEP4 | exact KEEP3 | exact KEEP2 | exact KEEP1 | exact KEEP0 | go_keep)
          (first
            | (go_at_call 11; refine (l35awake_any v4).mono ?_; rintro e v5 ⟨rfl, hb⟩
               have HB_5 := Lib.hid (Below.then HB_4.out hb HB_4.out.size)
               have KEEP5 := HK3.out v5 HB_5.out
               clear hb)
            | (go_at_call 25; refine (natCmp_any _ _ pq pq v3 (HN3.out.up HB_3.out) HN7.out).mono ?_; rintro e v4 ⟨z, rfl, hz, hx⟩
               obtain rfl := hz.2 rfl
               have HB_4 := Lib.hid (Below.then HB_3.out hx.below HB_3.out.size)
               have KEEP4 := HK3.out v4 HB_4.out
               clear hz hx)
            | (go_at_call 26; refine (natOf_any pq hpq32 v2).mono ?_; rintro e v3 ⟨B7, rfl, hn7, hx⟩
               have HN7 := Lib.hid (NatM.of hn7)
               have HB_3 := Lib.hid (Below.then HB_2.out hx.below HB_2.out.size)
               have KEEP3 := HK3.out v3 HB_3.out
               clear hn7 hx)
            | (go_at_call 28; refine (rlLen_any _ _ _ _ v1).mono ?_; rintro e v2 ⟨rfl, hx⟩
               have HB_2 := Lib.hid (Below.then HB_1.out hx.below HB_1.out.size)
               have KEEP2 := HK3.out v2 HB_2.out
               clear hx)
            | (go_at_call 28; refine (rlLen_any _ _ _ _ V3.drew).mono ?_; rintro e v1 ⟨rfl, hx⟩
               have HB_1 := Lib.hid (Below.undrew hx.below)
               have KEEP1 := HK3.out v1 HB_1.out
               clear hx)
            | fail)
        all_goals
          go_wp2
          exact bodyPost_ret (v := .bool true) (by simp [results, Try.results9, go_sem]) rfl ⟨rfl, Below.then HB3W.out HB_5.out HB3W.out.size⟩

end Go.Proofs.Ytiomelogggilgaa

/- Walk: the law RelationMakes. -/
import Derived.Test.YtiopkooigeaneaaV17
import Derived.Test.YtiopkooigeaneaaM1
namespace Go.Proofs.Ytiopkooigeaneaa
open Go.RowKit Go.Sort

theorem l7Is_nil (n : Int) (RA : Option Addr) (RC : Nat) (w : World) :
    Calls Try.prog 24 #[.agg #[.int .i64 n, .slice RA 0 RC], .int .i64 n, .slice none 0 0] w fun e w' => e = .returned (.bool true) ∧ Below w.heap.size w w' :=
  l7Is_ok n RA none RC 0 [] w SlRs.nil SlRs.nil (by simp [RsOk]) (by simp)

/-- What relation.Of answers, all cases. -/
def OfAll (n : Int) (X : List RL.R) (n1 : Int) (Y : List RL.R) (ec : Int) : Prop :=
  ((n < 0 ∨ 32 < n) ∧ n1 = 0 ∧ Y = [] ∧ ec = 3) ∨ (0 ≤ n ∧ n ≤ 32 ∧ errF n X ≠ 0 ∧ n1 = 0 ∧ Y = [] ∧ ec = errF n X) ∨ (0 ≤ n ∧ n ≤ 32 ∧ errF n X = 0 ∧ n1 = n ∧ Y = RL.ofF X ∧ ec = 0)
def NewAll (n n2 fc : Int) : Prop := ((n < 0 ∨ 32 < n) ∧ n2 = 0 ∧ fc = 3) ∨ (0 ≤ n ∧ n ≤ 32 ∧ n2 = n ∧ fc = 0)

theorem rlOf_all (n : Int) (A : Option Addr) (C : Nat) (X : List RL.R) (w : World) (hX : SlRs w.heap.size w A X) (hok : RsOk X) (hl : X.length ≤ 60000) :
    Calls Try.prog 21 #[.int .i64 n, .slice A X.length C] w fun e w' => ∃ n1 Y RA RC ec, e = .returned (.tuple #[.agg #[.int .i64 n1, .slice RA Y.length RC], .int .i64 ec]) ∧ OfAll n X n1 Y ec ∧ SlRs w'.heap.size w' RA Y ∧ Below w.heap.size w w' := by
  by_cases h : n < 0 ∨ 32 < n
  · refine (rlOf_range n A X.length C w h).mono ?_
    rintro e w' ⟨rfl, hb⟩
    exact ⟨0, [], none, 0, 3, rfl, .inl ⟨h, rfl, rfl, rfl⟩, SlRs.nil, hb⟩
  · refine (rlOf_any n A C X w (by omega) (by omega) hX hok hl).mono ?_
    rintro e w' ⟨h1, h2, hb⟩
    by_cases he : errF n X = 0
    · obtain ⟨v, rfl, RA, RC, rfl, -, -, hs⟩ := h1 he
      exact ⟨n, RL.ofF X, RA, RC, 0, rfl, .inr (.inr ⟨by omega, by omega, he, rfl, rfl, rfl⟩), hs.sl, hb⟩
    · rw [h2 he]
      exact ⟨0, [], none, 0, errF n X, rfl, .inr (.inl ⟨by omega, by omega, he, rfl, rfl, rfl⟩), SlRs.nil, hb⟩
theorem rlNew_all (n : Int) (w : World) : Calls Try.prog 22 #[.int .i64 n] w fun e w' => ∃ n2 fc, e = .returned (.tuple #[.agg #[.int .i64 n2, .slice none 0 0], .int .i64 fc]) ∧ NewAll n n2 fc ∧ Ext w w' := by
  by_cases h : n < 0 ∨ 32 < n
  · refine (rlNew_bad n w h).mono ?_
    rintro e w' ⟨rfl, hb⟩
    exact ⟨0, 3, rfl, .inl ⟨h, rfl, rfl⟩, hb⟩
  · refine (rlNew_ok n w (by omega) (by omega)).mono ?_
    rintro e w' ⟨rfl, hb⟩
    exact ⟨n, 0, rfl, .inr ⟨by omega, by omega, rfl, rfl⟩, hb⟩

theorem rlAt_all (n : Int) (RA : Option Addr) (RC : Nat) (X : List RL.R) (i : Int) (w : World) (hX : SlRs w.heap.size w RA X) (hXo : RsOk X) (hl : X.length ≤ 1000000) :
    Calls Try.prog 27 #[.agg #[.int .i64 n, .slice RA X.length RC], .int .i64 i] w fun e w' => ∃ v ok, e = .returned (.tuple #[v, .bool ok]) ∧ (ok = true ∧ 0 ≤ i ∧ i < X.length ∨ ok = false ∧ i < 0 ∨ ok = false ∧ 0 ≤ i ∧ (X.length : Int) ≤ i) ∧ Below w.heap.size w w' := by
  by_cases h : 0 ≤ i ∧ i < X.length
  · obtain ⟨k, rfl⟩ := Int.eq_ofNat_of_zero_le h.1
    refine (rlAt_ok n RA RC X k w hX hXo hl (by omega)).mono ?_
    rintro e w' ⟨v, rfl, -, hb⟩
    exact ⟨v, true, rfl, .inl ⟨rfl, h⟩, hb⟩
  · refine (rlAt_no n RA X.length RC i w hl (by omega)).mono ?_
    rintro e w' ⟨rfl, hx⟩
    refine ⟨_, false, rfl, ?_, hx.below⟩
    rcases (show i < 0 ∨ 0 ≤ i ∧ (X.length : Int) ≤ i by omega) with h | h
    · exact .inr (.inl ⟨rfl, h⟩)
    · exact .inr (.inr ⟨rfl, h⟩)

theorem errF_down (n : Int) (X : List RL.R) (k : Nat) (h : k < X.length) : errF n (X.drop k) = if wrongF n X[k] = 0 then errF n (X.drop (k + 1)) else wrongF n X[k] := by
  rw [List.drop_eq_getElem_cons h]; rfl

set_option maxHeartbeats 4000000 in
set_option maxRecDepth 100000 in
theorem makes_walk (n i : Int) (A : Option Addr) (C : Nat) (X : List RL.R) (w : World) (hX : SlRs w.heap.size w A X) (hbX : BigRs X) :
    Calls Try.prog 4 #[.int .i64 n, .slice A X.length C, .int .i64 i] w fun e w' => e = .returned (.bool true) ∧ Below w.heap.size w w' := by
  have HX := Lib.hid hX
  have HG := Lib.hid (l7Great_any A C X w hX (by have := hbX.1; omega) hbX.2)
  clear hX hbX
  go_enter Try.func4, Try.ntmps4
  go_wp2_with fail
  refine HG.out.mono ?_
  rintro e w1 ⟨rfl, hx1⟩
  have HB1 := Lib.hid hx1.below
  clear hx1 HG
  cases hgr : greatF X
  rotate_left
  · clear hgr
    go_wp2_with fail
    refine (l7awake_any _).mono ?_
    rintro e w5 ⟨rfl, hb5⟩
    have HB5 := Lib.hid (Below.then HB1.out hb5 HB1.out.size)
    clear hb5
    go_wp2
    go_ret
    exact ⟨rfl, HB5.out⟩
  obtain ⟨g1, g2, -⟩ := greatF_false hgr
  have HOK := Lib.hid g2
  clear g2 hgr
  go_wp2_with fail
  refine (rlOf_all n A C X w1 ((HX.out.below HB1.out (Nat.le_refl _)).more HB1.out.size) HOK.out (by omega)).mono ?_
  rintro e w2 ⟨n1, Y, RA, RC, ec, rfl, hall, hsY, hb2⟩
  have HALL := Lib.hid hall
  have HSY := Lib.hid (hsY.alloc1 (.cells #[.int .i64 n1, .slice RA Y.length RC] 29))
  have HR7 := Lib.hid (Row.new w2 29 [.int .i64 n1, .slice RA Y.length RC])
  have HB2 := Lib.hid ((Below.then HB1.out hb2 HB1.out.size).alloc (by have := hb2.size; have := HB1.out.size; omega) (.cells #[.int .i64 n1, .slice RA Y.length RC] 29))
  clear hall hsY hb2 HB1
  go_wp2_with fail
  have hz2 := HR7.out.lt
  generalize hrb : w2.heap.size = rb at *
  generalize w2.alloc (.cells #[.int .i64 n1, .slice RA Y.length RC] 29) = W2 at *
  clear hrb
  refine (rlNew_all n W2).mono ?_
  rintro e w3 ⟨n2, fc, rfl, hnew, hx3⟩
  have HNEW := Lib.hid hnew
  have HE3 := Lib.hid (hx3.alloc (.cells #[.int .i64 n2, .slice none 0 0] 29))
  have HR9 := Lib.hid (Row.new w3 29 [.int .i64 n2, .slice none 0 0])
  have hz3 : rb < w3.heap.size := by have := hx3.size; omega
  clear hnew hx3
  have hwl : IntKind.i64.wrap ((X.length : Int) - 1) = (X.length : Int) - 1 := IntWalk.i64_in _ (by omega)
  go_wp2_with fail
  have hz9 := HR9.out.lt
  generalize hzb : w3.heap.size = zb at *
  generalize hW3 : w3.alloc (.cells #[.int .i64 n2, .slice none 0 0] 29) = W3 at *
  clear hzb hW3 hwl
  have HB3 := Lib.hid (Below.then HB2.out HE3.out.below HB2.out.size)
  have HX3 := Lib.hid ((HX.out.below HB3.out (Nat.le_refl _)).more HB3.out.size)
  have HSY3 := Lib.hid (HSY.out.up HE3.out)
  have HR73 := Lib.hid (HR7.out.below HE3.out.below hz2)
  clear HX HSY HR7 HB2 HE3
  go_loopw [11, 12] (fun a m wr => ∃ k : Nat, k ≤ X.length ∧ m = .int .i64 ((k : Int) - 1) ∧ a = .int .i64 (errF n (X.drop k)) ∧ Below W3.heap.size W3 wr) (fun _ m _ => (intOf m + 1).toNat)
  case atStart => exact ⟨X.length, Nat.le_refl _, rfl, by simp [errF], Below.refl _ _⟩
  case round =>
    obtain ⟨k, hka, rfl, rfl, hbel⟩ := hrel
    have HB := Lib.hid hbel
    have hzz := hbel.size
    clear hbel
    rcases Nat.eq_zero_or_pos k with h1 | h1
    rotate_left
    · obtain ⟨k', rfl⟩ : ∃ k', k = k' + 1 := ⟨k - 1, by omega⟩
      rw [show (((k' + 1 : Nat) : Int) - 1) = (k' : Int) by omega]
      have hk' : k' < X.length := by omega
      obtain ⟨b, o, A1, C1, rfl, hb, c1, -, -, s1⟩ := slRs_at HX3.out hk'
      have d1 := (HB.out.cell (p := ⟨b, o + k', none⟩) hb).trans c1
      have HS1 := Lib.hid ((s1.below HB.out (Nat.le_refl _)).more hzz)
      have HK := Lib.hid (HOK.out.at_ hk')
      have HE := Lib.hid (errF_down n X k' hk')
      have hwk : IntKind.i64.wrap ((k' : Int) - 1) = (k' : Int) - 1 := IntWalk.i64_in _ (by omega)
      clear c1 s1
      generalize X[k'] = x at d1 HS1 HK HE
      generalize errF n (X.drop (k' + 1)) = q at *
      go_wp2_with fail
      refine (l7Row_any A1 C1 x wr HS1.out HK.out.1).mono ?_
      rintro e w5 ⟨v5, rfl, hown5, hb5⟩
      obtain ⟨-, A2, C2, rfl, -, -, hs2, -⟩ := SlR.of_own hown5
      have HW := Lib.hid (r7Wrong_any n A2 C2 x w5 hs2 HK.out)
      have HB5 := Lib.hid (Below.then HB.out hb5 hzz)
      clear hown5 hb5 hs2 d1
      go_wp2_with fail
      refine HW.out.mono ?_
      rintro e w6 ⟨rfl, hx6⟩
      have HB6 := Lib.hid (Below.then HB5.out hx6.below HB5.out.size)
      clear hx6 HW HB5
      by_cases hw : wrongF n x = 0
      · have hw2 : (wrongF n x != 0) = false := by simpa using hw
        have HE2 := Lib.hid (HE.out.trans (if_pos hw))
        clear hw HE
        generalize wrongF n x = q2 at *
        go_wp2
        go_roundw
        case rel => exact ⟨k', by omega, rfl, by rw [HE2.out], HB6.out⟩
        case measure => simp [intOf]
      · have hw2 : (wrongF n x != 0) = true := by simpa using hw
        have HE2 := Lib.hid (HE.out.trans (if_neg hw))
        clear hw HE
        generalize wrongF n x = q2 at *
        go_wp2
        go_roundw
        case rel => exact ⟨k', by omega, rfl, by rw [HE2.out], HB6.out⟩
        case measure => simp [intOf]
    · subst h1
      rw [show (((0 : Nat) : Int) - 1) = -1 by omega, List.drop_zero]
      have r7 := HR73.out.below HB.out (show rb < W3.heap.size by omega)
      have r9 := HR9.out.below HB.out hz9
      have HR7b := Lib.hid r7
      have HR9b := Lib.hid r9
      have c70 : wr.cell? ⟨rb, 0, none⟩ = some (.int .i64 n1) := r7.cell 0
      have c71 : wr.cell? ⟨rb, 1, none⟩ = some (.slice RA Y.length RC) := r7.cell 1
      have c90 : wr.cell? ⟨zb, 0, none⟩ = some (.int .i64 n2) := r9.cell 0
      have c91 : wr.cell? ⟨zb, 1, none⟩ = some (.slice none 0 0) := r9.cell 1
      clear r7 r9 HR73 HR9
      have HSYr := Lib.hid (HSY3.out.upB HB.out)
      have HXr := Lib.hid (HX3.out.upB HB.out)
      have HBr := Lib.hid (Below.then HB3.out HB.out HB3.out.size)
      clear HB HSY3 HX3 HB3
      rcases HALL.out with ⟨hout, rfl, rfl, rfl⟩ | ⟨h0, h32, herr, rfl, rfl, rfl⟩ | ⟨h0, h32, herr, e1, rfl, rfl⟩
      · rcases HNEW.out with ⟨-, rfl, rfl⟩ | ⟨h1, h2, -, -⟩
        rotate_left
        · exfalso; omega
        simp only [List.length_nil] at c71
        generalize errF n X = q
        rcases hout with h | h
        · have HEND := Lib.hid (fun (W : World) (hb : Below w.heap.size w W) => (l7awake_any W).mono (fun e W' h => (⟨h.1, Below.then hb h.2 hb.size⟩ : e = .returned (.bool true) ∧ Below w.heap.size w W')))
          go_wp2_with fail
          refine (l7Is_nil 0 RA RC wr).mono ?_
          rintro e w7 ⟨rfl, hb7⟩
          have d90 := (hb7.cell (p := ⟨zb, 0, none⟩) (show zb < wr.heap.size by omega)).trans c90
          have d91 := (hb7.cell (p := ⟨zb, 1, none⟩) (show zb < wr.heap.size by omega)).trans c91
          have HB7 := Lib.hid (Below.then HBr.out hb7 HBr.out.size)
          clear hb7 c70 c71 c90 c91
          go_wp2_with fail
          refine (l7Is_nil 0 none 0 w7).mono ?_
          rintro e w8 ⟨rfl, hb8⟩
          have HB8 := Lib.hid (Below.then HB7.out hb8 HB7.out.size)
          clear hb8 d90 d91
          go_wp2_with fail
          refine (HEND.out w8 HB8.out).mono ?_
          rintro e w9 ⟨rfl, hb9⟩
          go_wp2
          go_ret
          exact ⟨rfl, hb9⟩
        · have hn0 : ¬ n < 0 := by omega
          have HEND := Lib.hid (fun (W : World) (hb : Below w.heap.size w W) => (l7awake_any W).mono (fun e W' h => (⟨h.1, Below.then hb h.2 hb.size⟩ : e = .returned (.bool true) ∧ Below w.heap.size w W')))
          go_wp2_with fail
          refine (l7Is_nil 0 RA RC wr).mono ?_
          rintro e w7 ⟨rfl, hb7⟩
          have d90 := (hb7.cell (p := ⟨zb, 0, none⟩) (show zb < wr.heap.size by omega)).trans c90
          have d91 := (hb7.cell (p := ⟨zb, 1, none⟩) (show zb < wr.heap.size by omega)).trans c91
          have HB7 := Lib.hid (Below.then HBr.out hb7 HBr.out.size)
          clear hb7 c70 c71 c90 c91
          go_wp2_with fail
          refine (l7Is_nil 0 none 0 w7).mono ?_
          rintro e w8 ⟨rfl, hb8⟩
          have HB8 := Lib.hid (Below.then HB7.out hb8 HB7.out.size)
          clear hb8 d90 d91
          go_wp2_with fail
          refine (HEND.out w8 HB8.out).mono ?_
          rintro e w9 ⟨rfl, hb9⟩
          go_wp2
          go_ret
          exact ⟨rfl, hb9⟩
      · rcases HNEW.out with ⟨h1, -, -⟩ | ⟨-, -, e2, rfl⟩
        · exfalso; omega
        obtain rfl := e2.symm
        simp only [List.length_nil] at c71
        have hq : (errF n X != 0) = true := by simpa using herr
        have hn0 : ¬ n < 0 := by omega
        have hn1 : ¬ 32 < n := by omega
        clear herr HALL HNEW
        generalize errF n X = q at *
        have HEND := Lib.hid (fun (W : World) (hb : Below w.heap.size w W) => (l7awake_any W).mono (fun e W' h => (⟨h.1, Below.then hb h.2 hb.size⟩ : e = .returned (.bool true) ∧ Below w.heap.size w W')))
        go_wp2_with fail
        refine (l7Is_nil 0 RA RC wr).mono ?_
        rintro e w7 ⟨rfl, hb7⟩
        have d90 := (hb7.cell (p := ⟨zb, 0, none⟩) (show zb < wr.heap.size by omega)).trans c90
        have d91 := (hb7.cell (p := ⟨zb, 1, none⟩) (show zb < wr.heap.size by omega)).trans c91
        have HB7 := Lib.hid (Below.then HBr.out hb7 HBr.out.size)
        clear hb7 c70 c71 c90 c91
        go_wp2_with fail
        refine (l7Is_nil n none 0 w7).mono ?_
        rintro e w8 ⟨rfl, hb8⟩
        have HB8 := Lib.hid (Below.then HB7.out hb8 HB7.out.size)
        clear hb8 d90 d91
        go_wp2_with fail
        refine (HEND.out w8 HB8.out).mono ?_
        rintro e w9 ⟨rfl, hb9⟩
        go_wp2
        go_ret
        exact ⟨rfl, hb9⟩
      · rcases HNEW.out with ⟨h1, -, -⟩ | ⟨-, -, e2, rfl⟩
        · exfalso; omega
        obtain rfl := e1.symm
        obtain rfl := e2.symm
        rw [herr]
        have hn0 : ¬ n < 0 := by omega
        have hn1 : ¬ 32 < n := by omega
        clear herr HALL HNEW
        have hyl := RL.ofF_length_le X
        have HYO : Hid (RsOk (RL.ofF X)) := HOK.out.of_mem (fun y hy => (RL.mem_ofF _ _).1 hy)
        have HRW := Lib.hid (l7Rows_any A C X wr HXr.out (by omega) HOK.out)
        have HOF := Lib.hid (fun XA XC W (h : SlRs W.heap.size W XA X) => r7Of_any XA XC X W h (by omega) HOK.out)
        have HEND := Lib.hid (fun (W : World) (hb : Below w.heap.size w W) => (l7awake_any W).mono (fun e W' h => (⟨h.1, Below.then hb h.2 hb.size⟩ : e = .returned (.bool true) ∧ Below w.heap.size w W')))
        generalize RL.ofF X = Y at *
        go_wp2_with fail
        refine HRW.out.mono ?_
        rintro e w5 ⟨v5, rfl, hown5, hb5⟩
        obtain ⟨A5, C5, rfl, -, -, hs5⟩ := hown5.sl
        have HS5 := Lib.hid hs5
        have HB5 := Lib.hid hb5
        clear hown5 hs5 hb5 HRW
        go_wp2_with fail
        refine (HOF.out A5 C5 w5 HS5.out).mono ?_
        rintro e w6 ⟨v6, rfl, ⟨MA, MC, rfl, -, -, hs6⟩, hb6⟩
        have HS6 := Lib.hid hs6
        have hb6' := Below.then HB5.out hb6 HB5.out.size
        have HB6 := Lib.hid hb6'
        have hz6 := hb6'.size
        have r7 := HR7b.out.below hb6' (show rb < wr.heap.size by omega)
        have c60 : w6.cell? ⟨rb, 0, none⟩ = some (.int .i64 n) := r7.cell 0
        have c61 : w6.cell? ⟨rb, 1, none⟩ = some (.slice RA Y.length RC) := r7.cell 1
        clear hs6 hb6 hb6' HS5 HB5 HOF c70 c71 c90 c91 r7
        go_wp2_with fail
        refine (rlAt_all n RA RC Y i w6 (HSYr.out.upB HB6.out) HYO.out (by omega)).mono ?_
        rintro e w7 ⟨v7, ok, rfl, hio, hb7⟩
        have HIO := Lib.hid hio
        have HS7 := Lib.hid (HS6.out.upB hb7)
        have hb7' := Below.then HB6.out hb7 hz6
        have HB7 := Lib.hid hb7'
        have hz7 := hb7'.size
        have r7 := HR7b.out.below hb7' (show rb < wr.heap.size by omega)
        have c70 : w7.cell? ⟨rb, 0, none⟩ = some (.int .i64 n) := r7.cell 0
        have c71 : w7.cell? ⟨rb, 1, none⟩ = some (.slice RA Y.length RC) := r7.cell 1
        clear hb7 hb7' HS6 c60 c61 r7 hio
        go_wp2_with fail
        refine (l7Is_ok n RA MA RC MC Y w7 (HSYr.out.upB HB7.out) HS7.out HYO.out (by omega)).mono ?_
        rintro e w8 ⟨rfl, hb8⟩
        have hb8' := Below.then HB7.out hb8 hz7
        have HB8 := Lib.hid hb8'
        have hz8 := hb8'.size
        have r9 := HR9b.out.below hb8' (show zb < wr.heap.size by omega)
        have c80 : w8.cell? ⟨zb, 0, none⟩ = some (.int .i64 n) := r9.cell 0
        have c81 : w8.cell? ⟨zb, 1, none⟩ = some (.slice none 0 0) := r9.cell 1
        clear hb8 hb8' c70 c71 r9
        go_wp2_with fail
        refine (l7Is_nil n none 0 w8).mono ?_
        rintro e w9 ⟨rfl, hb9⟩
        have HB9 := Lib.hid (Below.then HBr.out (Below.then HB8.out hb9 hz8) HBr.out.size)
        clear hb9 c80 c81
        rcases HIO.out with ⟨rfl, i1, i2⟩ | ⟨rfl, i1⟩ | ⟨rfl, i1, i2⟩
        · go_wp2_with fail
          refine (HEND.out w9 HB9.out).mono ?_
          rintro e w10 ⟨rfl, hb10⟩
          go_wp2
          go_ret
          exact ⟨rfl, hb10⟩
        · have i0 : ¬ 0 ≤ i := by omega
          go_wp2_with fail
          refine (HEND.out w9 HB9.out).mono ?_
          rintro e w10 ⟨rfl, hb10⟩
          go_wp2
          go_ret
          exact ⟨rfl, hb10⟩
        · have i3 : decide (i < (Y.length : Int)) = false := by simp; omega
          clear i2
          go_wp2_with fail
          refine (HEND.out w9 HB9.out).mono ?_
          rintro e w10 ⟨rfl, hb10⟩
          go_wp2
          go_ret
          exact ⟨rfl, hb10⟩

end Go.Proofs.Ytiopkooigeaneaa

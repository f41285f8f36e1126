/- Parts of the proof, merged: V29, W2, Z29, RMem, Z43, C10, C11, C12, C13, C14. -/
import Derived.Test.YtdadchpiibipoaaGreatDoorQa2
import Derived.Test.YtdadchpiibipoaaGreatDoorRows
import Derived.Test.YtdadchpiibipoaaGreatDoorQa1
import Derived.Test.YtdadchpiibipoaaGreatDoorQa5
import Derived.Test.YtdadchpiibipoaaGreatDoorQa4
import Derived.Deep.RegionHeld3
import Derived.Shelf.Strconv.ParseIntPublic10

set_option maxRecDepth 100000
namespace Go.Proofs.YtdadchpiibipoaaGreatDoor
section
open Go.RowKit Go.Sort

theorem take_eq_snoc {X Y : List RL.R} {k : Nat} (hx : k < X.length) (hy : k < Y.length) (h : X.take k = Y.take k) (e : X[k] = Y[k]) : X.take (k + 1) = Y.take (k + 1) := by
  rw [List.take_succ_eq_append_getElem hx, List.take_succ_eq_append_getElem hy, h, e]

set_option maxHeartbeats 1000000 in
theorem equalFunc_any (XA YA : Option Addr) (XC YC : Nat) (X Y : List RL.R) (w : World) (hX : SlRs w.heap.size w XA X) (hY : SlRs w.heap.size w YA Y) (_hXl : X.length ≤ 1000000) (hYl : Y.length ≤ 1000000) (hXo : RsOk X) (hYo : RsOk Y) :
    Calls Tryz.prog 82 #[.slice XA X.length XC, .slice YA Y.length YC, .func (.func 83) #[] #[]] w fun e w' => e = .returned (.bool (decide (X = Y))) ∧ Ext w w' := by
  have HX := Lib.hid hX
  have HY := Lib.hid hY
  have HXO := Lib.hid hXo
  have HYO := Lib.hid hYo
  clear hX hY hXo hYo
  by_cases hl : X.length = Y.length
  rotate_left
  · have HD : Hid (decide (X = Y) = false) := by show _ = _; simp only [decide_eq_false_iff_not]; intro e; exact hl (by rw [e])
    have hl2 : ((X.length : Int) != (Y.length : Int)) = true := by simp; omega
    clear hl
    go_enter Tryz.func82, Tryz.ntmps82
    go_wp2
    go_ret
    exact ⟨by rw [HD.out]; rfl, Ext.refl _⟩
  have eg : ∀ args w, (callFunc 83 args).run Tryz.prog w = .ok (.enter 83 args) w := enters_of Tryz.func83 (by kernel_rfl) rfl
  have HL := Lib.hid hl
  rw [← hl]
  have hYX : X.length ≤ Y.length := by omega
  clear hl
  go_enter Tryz.func82, Tryz.ntmps82
  go_wp2
  go_loopw [17] (fun i wr => ∃ k : Nat, k ≤ X.length ∧ i = .int .i64 k ∧ X.take k = Y.take k ∧ Ext w wr) (fun i _ => X.length - (intOf i).toNat)
  case atStart => exact ⟨0, Nat.zero_le _, rfl, by simp, Ext.refl _⟩
  case round =>
    obtain ⟨k, hka, rfl, htk, hext⟩ := hrel
    have HT := Lib.hid htk
    have HE := Lib.hid hext
    have hzz := hext.size
    clear htk
    by_cases h1 : k < X.length
    · obtain ⟨b, o, A1, C1, rfl, hb, c1, -, -, s1⟩ := slRs_at HX.out h1
      obtain ⟨b2, o2, A2, C2, rfl, hb2, c2, -, -, s2⟩ := slRs_at HY.out (show k < Y.length by omega)
      have d1 := (hext.cell (o := o + k) hb).trans c1
      have d2 := (hext.cell (o := o2 + k) hb2).trans c2
      have HC := Lib.hid (rwEqual_any A1 A2 C1 C2 X[k] Y[k] wr (s1.up hext) (s2.up hext) (HXO.out.at_ h1).1 (HYO.out.at_ (show k < Y.length by omega)).1)
      have hkY : k < Y.length := by omega
      have HN := Lib.hid (fun (e : X[k] = Y[k]) => take_eq_snoc h1 hkY HT.out e)
      have HNE : Hid (X[k] ≠ Y[k] → decide (X = Y) = false) := fun hne => by
        simp only [decide_eq_false_iff_not]
        intro e
        subst e
        exact hne rfl
      clear c1 c2 s1 s2 hext
      generalize X[k] = x at *
      generalize Y[k] = y at *
      go_wp2_with fail
      refine HC.out.mono ?_
      rintro e w1 ⟨rfl, hx1⟩
      have HE1 := Lib.hid (HE.out.trans hx1)
      clear hx1 HC d1 d2
      by_cases hq : x = y
      · have HN2 := Lib.hid (HN.out hq)
        have hd : decide (x = y) = true := by simpa using hq
        rw [hd]
        clear hq hd HN HNE
        go_wp2
        go_roundw
        case rel => exact ⟨k + 1, by omega, by go_num, HN2.out, HE1.out⟩
        case measure => simp [intOf]; omega
      · have HN2 := Lib.hid (HNE.out hq)
        have hd : decide (x = y) = false := by simpa using hq
        rw [hd]
        clear hq hd HN HNE
        go_wp2
        go_ret
        exact ⟨by rw [HN2.out]; rfl, HE1.out⟩
    · have HD : Hid (decide (X = Y) = true) := by
        show _ = _
        have := HT.out
        rw [List.take_of_length_le (show X.length ≤ k by omega), List.take_of_length_le (show Y.length ≤ k by have := HL.out; omega)] at this
        simpa using this
      go_wp2
      go_ret
      exact ⟨by rw [HD.out]; rfl, HE.out⟩

set_option maxHeartbeats 1000000 in
theorem rlEqual_any (n m : Int) (XA YA : Option Addr) (XC YC : Nat) (X Y : List RL.R) (w : World) (hX : SlRs w.heap.size w XA X) (hY : SlRs w.heap.size w YA Y) (hXl : X.length ≤ 1000000) (hYl : Y.length ≤ 1000000) (hXo : RsOk X) (hYo : RsOk Y) :
    Calls Tryz.prog 54 #[.agg #[.int .i64 n, .slice XA X.length XC], .agg #[.int .i64 m, .slice YA Y.length YC]] w fun e w' => e = .returned (.bool (decide (n = m) && decide (X = Y))) ∧ Ext w w' := by
  have HC := Lib.hid (fun (W : World) (h : Ext w W) => equalFunc_any XA YA XC YC X Y W (hX.up h) (hY.up h) hXl hYl hXo hYo)
  clear hX hY hXo hYo
  by_cases hn : n = m
  · subst hn
    go_enter Tryz.func54, Tryz.ntmps54
    go_wp2_with fail
    refine (HC.out _ (((Ext.refl w).alloc _).alloc _)).mono ?_
    rintro e w1 ⟨rfl, hx1⟩
    have HE := Lib.hid ((((Ext.refl w).alloc _).alloc _).trans hx1)
    clear hx1
    obtain ⟨q, hq⟩ : ∃ q, q = decide (X = Y) := ⟨_, rfl⟩
    rw [← hq]
    have HQ := Lib.hid hq
    clear hq
    go_wp2
    go_ret
    exact ⟨by rw [← HQ.out]; simp, HE.out⟩
  · have h1 : (n == m) = false := by simpa using hn
    have HN : Hid (decide (n = m) = false) := by show _ = _; simpa using hn
    clear hn
    go_enter Tryz.func54, Tryz.ntmps54
    go_wp2
    go_ret
    exact ⟨by rw [HN.out]; rfl, ((Ext.refl w).alloc _).alloc _⟩
end
section
open Go.RowKit

theorem take_eq_of {xs ys : List Int} {k : Nat} (hl : xs.length = ys.length) (h : ∀ i (_h1 : i < k) (h2 : i < xs.length) (h3 : i < ys.length), xs[i] = ys[i]) (hk : xs.length ≤ k) : xs = ys := by
  apply List.ext_getElem hl
  intro i h2 h3
  exact h i (by omega) h2 h3

set_option maxHeartbeats 400000 in
theorem eqInt_any (XA YA : Option Addr) (XC YC : Nat) (xs ys : List Int) (w : World)
    (hx : SlI .i64 w.heap.size w XA xs) (hy : SlI .i64 w.heap.size w YA ys) (hxl : xs.length ≤ 1000000) (hyl : ys.length ≤ 1000000) :
    Calls Tryz.prog 53 #[.slice XA xs.length XC, .slice YA ys.length YC] w fun e w' => e = .returned (.bool (decide (xs = ys))) ∧ ∃ n, w' = w.drewN n := by
  by_cases hl : xs.length = ys.length
  rotate_left
  · have hd : decide (xs = ys) = false := by
      simp; intro h; subst h; exact hl rfl
    rw [hd]
    clear hx hy hd
    generalize xs.length = m at *
    generalize ys.length = n at *
    have hne : ((m : Int) != (n : Int)) = true := by simp; omega
    clear hl
    go_enter Tryz.func53, Tryz.ntmps53
    go_wp2
    go_ret
    exact ⟨rfl, 0, rfl⟩
  have hne : ((xs.length : Int) != (ys.length : Int)) = false := by simp; omega
  have HL := Lib.hid hl
  clear hl
  go_enter Tryz.func53, Tryz.ntmps53
  go_wp2
  go_loopw [13] (fun i wr => ∃ k : Nat, k ≤ xs.length ∧ i = .int .i64 k ∧ (∀ i (h1 : i < k) (h2 : i < xs.length) (h3 : i < ys.length), xs[i] = ys[i]) ∧ (∃ n, wr = w.drewN n)) (fun i _ => xs.length - (intOf i).toNat)
  case atStart => exact ⟨0, Nat.zero_le _, rfl, fun i h => absurd h (by omega), 0, rfl⟩
  case round =>
    obtain ⟨k, hk, rfl, hall, n, rfl⟩ := hrel
    have HA := Lib.hid hall
    clear hall
    by_cases hlt : k < xs.length
    · have hlt' : k < ys.length := by have := HL.out; omega
      obtain ⟨b, o, rfl, hbb, hc⟩ := slI_at hx hlt
      obtain ⟨b', o', rfl, hbb', hc'⟩ := slI_at hy hlt'
      generalize hxk : xs[k] = xk at *
      generalize hyk : ys[k] = yk at *
      have HX := Lib.hid hxk
      have HY := Lib.hid hyk
      clear hxk hyk hx hy
      by_cases heq : xk = yk
      · have hne2 : (xk != yk) = false := by simp [heq]
        have HE := Lib.hid heq
        clear heq
        go_wp2
        go_quiet (fail)
        go_wp2
        go_roundw
        case rel =>
          refine ⟨k + 1, by omega, by go_num, ?_, _, rfl⟩
          intro i h1 h2 h3
          by_cases hik : i < k
          · exact HA.out i hik h2 h3
          · obtain rfl : i = k := by omega
            rw [HX.out, HY.out, HE.out]
        case measure => simp [intOf]; omega
      · have hne2 : (xk != yk) = true := by simp [heq]
        have hd : decide (xs = ys) = false := by
          simp; intro h; subst h
          exact heq (HX.out.symm.trans HY.out)
        have HD := Lib.hid hd
        clear heq hd
        go_wp2
        go_quiet (fail)
        go_wp2
        go_ret
        exact ⟨ret_bool HD.out.symm, _, World.drewN_drewN _ _ _⟩
    · have hd : decide (xs = ys) = true := by
        simp; exact take_eq_of HL.out HA.out (by omega)
      have HD := Lib.hid hd
      clear hd hx hy
      go_wp2
      go_ret
      exact ⟨ret_bool HD.out.symm, _, rfl⟩
end
section
open Go.RowKit Go.Sort Go.ChangeMaps Go.WideShapes

set_option maxHeartbeats 4000000 in
theorem ctEqual1_any (KA KA' A A' : Option Addr) (KC KC' C C' n : Nat) (ks : List Int) (X Y : List RL.R) (w : World) (hn : ks.length = n) (hk : SlI .i64 w.heap.size w KA ks) (hk' : SlI .i64 w.heap.size w KA' ks) (hX : SlRs w.heap.size w A X) (hY : SlRs w.heap.size w A' Y)
    (hkl : n ≤ 1000000) (hXl : X.length ≤ 1000000) (hYl : Y.length ≤ 1000000) (hXo : RsOk X) (hYo : RsOk Y) :
    Calls Tryz.prog 52 #[.agg #[.slice KA n KC, .int .i64 (n : Nat), .slice A X.length C], .agg #[.slice KA' n KC', .int .i64 (n : Nat), .slice A' Y.length C']] w fun e w' => e = .returned (.bool (decide (X = Y))) ∧ Ext w w' := by
  obtain ⟨W0, hW0⟩ : ∃ W0, W0 = (w.alloc (.cells #[.slice KA n KC, .int .i64 (n : Nat), .slice A X.length C] 99)).alloc (.cells #[.slice KA' n KC', .int .i64 (n : Nat), .slice A' Y.length C'] 99) := ⟨_, rfl⟩
  have hx0 : Ext w W0 := by rw [hW0]; exact ((Ext.refl w).alloc _).alloc _
  have hr1 : Row W0 w.heap.size 99 [.slice KA n KC, .int .i64 (n : Nat), .slice A X.length C] := by rw [hW0]; exact (Row.new w 99 _).alloc _
  have hr2 : Row W0 (w.heap.size + 1) 99 [.slice KA' n KC', .int .i64 (n : Nat), .slice A' Y.length C'] := by
    have h := Row.new (w.alloc (.cells #[.slice KA n KC, .int .i64 (n : Nat), .slice A X.length C] 99)) 99 [.slice KA' n KC', .int .i64 (n : Nat), .slice A' Y.length C']
    rw [World.size_alloc] at h
    rw [hW0]; exact h
  have h1 := eqInt_any KA KA' KC KC' ks ks W0 ((hk.ext (Nat.le_refl _) hx0).more hx0.size) ((hk'.ext (Nat.le_refl _) hx0).more hx0.size) (by omega) (by omega)
  rw [hn, decide_eq_true (show ks = ks from rfl)] at h1
  have HE := Lib.hid h1
  have HQ : Hid (∀ k, Calls Tryz.prog 54 #[.agg #[.int .i64 (n : Nat), .slice A X.length C], .agg #[.int .i64 (n : Nat), .slice A' Y.length C']] (W0.drewN k) fun e w' => e = .returned (.bool (decide (X = Y))) ∧ Ext (W0.drewN k) w') := fun k => by
    have hx := hx0.drewN k
    have h := rlEqual_any (n : Nat) (n : Nat) A A' C C' X Y (W0.drewN k) (hX.up hx) (hY.up hx) hXl hYl hXo hYo
    rw [decide_eq_true (show ((n : Nat) : Int) = (n : Nat) from rfl), Bool.true_and] at h
    exact h
  have HX0 := Lib.hid hx0
  have HW0 := Lib.hid hW0
  have k0 : W0.cell? ⟨w.heap.size, 0, none⟩ = some (.slice KA n KC) := hr1.cell 0
  have k1 : W0.cell? ⟨w.heap.size, 1, none⟩ = some (.int .i64 (n : Nat)) := hr1.cell 1
  have k2 : W0.cell? ⟨w.heap.size, 2, none⟩ = some (.slice A X.length C) := hr1.cell 2
  have k3 := hr1.lt
  have k4 : W0.cell? ⟨w.heap.size + 1, 0, none⟩ = some (.slice KA' n KC') := hr2.cell 0
  have k5 : W0.cell? ⟨w.heap.size + 1, 1, none⟩ = some (.int .i64 (n : Nat)) := hr2.cell 1
  have k6 : W0.cell? ⟨w.heap.size + 1, 2, none⟩ = some (.slice A' Y.length C') := hr2.cell 2
  have k7 := hr2.lt
  clear hW0 hx0 hr1 hr2 h1 hk hk' hX hY hXo hYo hn
  obtain ⟨q, hq⟩ : ∃ q, q = decide (X = Y) := ⟨_, rfl⟩
  rw [← hq] at HQ ⊢
  clear hq
  go_enter Tryz.func52, Tryz.ntmps52
  go_upto_region 1 with (fail)
  rw [← HW0.out]
  clear HW0
  go_wp2_with fail
  refine HE.out.mono ?_
  rintro e w1 ⟨rfl, k, rfl⟩
  go_wp2_with fail
  refine (HQ.out k).mono ?_
  rintro e w2 ⟨rfl, hx2⟩
  have HX2 := Lib.hid ((HX0.out.drewN k).trans hx2)
  clear hx2 HQ HE HX0 k0 k1 k2 k3 k4 k5 k6 k7
  go_wp2_with fail
  go_ret
  exact ⟨rfl, HX2.out⟩

def sameC (S : Sch) (F G : Cont) : Bool := S.all fun p => decide (F p.1 = G p.1)

set_option maxHeartbeats 8000000 in
theorem ctEqualFunc_any {P P' : Nat → Prop} {S : Sch} {m m' : Value} {F G : Cont} (w : World) (hd : DbM P S w m F) (hd' : DbM P' S w m' G) (_hnd : (S.map Prod.fst).Nodup) :
    Calls Tryz.prog 51 #[m, m', .func (.func 52) #[] #[]] w fun e w' => e = .returned (.bool (sameC S F G)) ∧ Below w.heap.size w w' := by
  obtain ⟨b, D, rfl, -, hown, hent⟩ := hd.ents
  obtain ⟨b', D', rfl, -, hown', hent'⟩ := hd'.ents
  have hl1 := fun ty => hown.len Tryz.underlying26 ty
  have hl2 := fun ty => hown'.len Tryz.underlying26 ty
  rw [hent.1] at hl1
  rw [hent'.1] at hl2
  have HENT := Lib.hid hent
  have HENT' := Lib.hid hent'
  have HOW := Lib.hid hown
  have HOW' := Lib.hid hown'
  have HALL0 : Hid (∀ p ∈ S, Maps.has D (litS p.1) = false → F p.1 = G p.1) := fun p hp h => by
    obtain ⟨v, g, _⟩ := hent.2.2 p hp
    rw [Maps.has_true_of_atKey g] at h
    cases h
  clear hd hd' hown hown' hent hent'
  go_enter Tryz.func51, Tryz.ntmps51
  go_wp2_with (first
    | (at_range; refine wpList_range_own _ rfl _ 26 rfl 9 99 keyedS Tryz.underlying26 heldR b (Maps.size D) D rfl HOW.out ?_; intro w0 hrg0 hg0 hs0)
    | fail)
  go_frame
  have HRG0 := Lib.hid hrg0
  have HB0 : Hid (Below w.heap.size w w0) := (Below.refl _ _).grown hg0 (Nat.le_refl _) (fun j hj => by cases hj)
  obtain ⟨r, hr⟩ : ∃ r, r = w.heap.size := ⟨_, rfl⟩
  rw [← hr] at HRG0 ⊢
  clear hrg0 hg0 hs0 hl1 hl2
  have eg : ∀ args w, (callFunc 52 args).run Tryz.prog w = .ok (.enter 52 args) w := enters_of Tryz.func52 (by kernel_rfl) rfl
  have hrw : w.heap.size ≤ r := by omega
  clear hr
  go_loopw [6] (fun c wx => ∃ (left : Lit → Bool) (cnt : Nat), c = .bool false ∧ (∀ p ∈ S, left (litS p.1) = false → F p.1 = G p.1) ∧ wx.ranges Tryz.prog 9 heldR b r (Maps.size D) D left cnt ∧ Below w.heap.size w wx) (fun _ wx => wx.rangeLeft b r)
  case atStart => exact ⟨_, _, rfl, HALL0.out, HRG0.out, HB0.out⟩
  case round =>
    obtain ⟨left, cnt, rfl, hall, hrg, hb⟩ := hrel
    have HALL := Lib.hid hall
    have HRG := Lib.hid hrg
    have HB := Lib.hid hb
    clear hall hb
    go_wp2_with (first
      | (at_next; refine wpList_next_ranges _ rfl _ rfl 9 keyedS heldR Value.string (fun v : Value => v) (fun key kl h => by obtain ⟨x, e⟩ := Maps.keyOf_string_inv Tryz.underlying9 h; exact ⟨x, e⟩) (fun v y _ => ⟨v, rfl⟩) b r (Maps.size D) D left cnt rfl HRG.out ?_ ?_)
      | fail)
    · intro hc0 hl0
      have HF : Hid (sameC S F G = true) := List.all_eq_true.2 fun p hp => decide_eq_true (HALL.out p hp (hl0 _))
      clear hc0 hl0 hrg
      go_wp2_with fail
      exact bodyPost_ret (v := .bool true) (by simp [results, Tryz.results51, go_sem]) rfl ⟨by rw [HF.out], HB.out⟩
    · intro nm c kl y ps w1 cnt1 hkey hlk hv hat hrg1 hlt hg1 hs1 hen
      have hy : y = .held c := by
        unfold heldR at hv
        injection hv with hv
        injection hv with hv
        exact hv.symm
      have hat2 : ∀ z, D.atKey kl z = .held c := fun z => (hat z).trans hy
      obtain ⟨p, hp, rfl⟩ := HENT.out.2.1 kl (Maps.has_true_of_atKey hat2)
      obtain ⟨val, hv1, KA, KC, A, C, rfl, hk6, hki, hxc, hxm, hsl, hro⟩ := HENT.out.2.2 p hp
      have hcv : DataW.held c = .held (.agg #[.slice KA p.2.length KC, .int .i64 (p.2.length : Nat), .slice A (F p.1).length C]) := (hat2 .nil).symm.trans (hv1 .nil)
      injection hcv with hcv
      subst hcv
      obtain ⟨val', hv2, KA', KC', A', C', rfl, -, hki', -, -, hsl', hro'⟩ := HENT'.out.2.2 p hp
      have HB1 : Hid (Below w.heap.size w w1) := HB.out.grown hg1 HB.out.size (fun j hj => by injection hj with hj; omega)
      have HRG1 := Lib.hid hrg1
      have HLE := Lib.hid (HRG.out.left_eq)
      have hlt2 := hlt
      have HLK : Hid (∀ V, Below w.heap.size w V → (Instr.lookup 26 (.map (some b')) (.string nm) true).run Tryz.prog V = .ok (.tuple #[.agg #[.slice KA' p.2.length KC', .int .i64 (p.2.length : Nat), .slice A' (G p.1).length C'], .bool true]) V) := fun V hb => (look_yes keyedS Tryz.underlying26 zeroEnt (map_up HOW'.out hb) hkey hv2).1
      have HEQ : Hid (∀ V, Below w.heap.size w V → Calls Tryz.prog 52 #[.agg #[.slice KA p.2.length KC, .int .i64 (p.2.length : Nat), .slice A (F p.1).length C], .agg #[.slice KA' p.2.length KC', .int .i64 (p.2.length : Nat), .slice A' (G p.1).length C']] V fun e w' => e = .returned (.bool (decide (F p.1 = G p.1))) ∧ Ext V w') := fun V hb =>
        ctEqual1_any KA KA' A A' KC KC' C C' p.2.length p.2 (F p.1) (G p.1) V rfl (Sl.more (Sl.below (SlIP.sl hki) hb (Nat.le_refl _)) hb.size) (Sl.more (Sl.below (SlIP.sl hki') hb (Nat.le_refl _)) hb.size) ((hsl.below hb (Nat.le_refl _)).more hb.size).sl ((hsl'.below hb (Nat.le_refl _)).more hb.size).sl (by omega) (Nat.le_trans hro.many (by decide)) (Nat.le_trans hro'.many (by decide)) (hro.rs (by omega)) (hro'.rs (by omega))
      have HNO : Hid (F p.1 ≠ G p.1 → sameC S F G = false) := fun h => List.all_eq_false.2 ⟨p, hp, by rw [decide_eq_false h]; decide⟩
      have HYES : Hid (F p.1 = G p.1 → ∀ q ∈ S, (left (litS q.1) && !(litS q.1).sameKey (litS p.1)) = false → F q.1 = G q.1) := fun h q hq hl => by
        rcases Bool.and_eq_false_iff.1 hl with hl | hl
        · exact HALL.out q hq hl
        · by_cases e : q.1 = p.1
          · rw [e]; exact h
          · rw [strike_ne e] at hl
            cases hl
      clear hkey hlk hv hat hrg1 hg1 hs1 hy hat2 hp hv1 hrg hlt hki hki' hxc hxm hsl hsl' hro hro' hv2 hk6
      generalize p.2.length = kn at *
      obtain ⟨LF, hLF⟩ : ∃ LF, LF = (F p.1).length := ⟨_, rfl⟩
      obtain ⟨LG, hLG⟩ : ∃ LG, LG = (G p.1).length := ⟨_, rfl⟩
      rw [← hLF] at hen HEQ ⊢
      rw [← hLG] at HLK HEQ
      clear hLF hLG
      obtain ⟨W2, hW2⟩ : ∃ W2, W2 = w1.alloc (.cells #[.slice KA kn KC, .int .i64 (kn : Nat), .slice A LF C] 99) := ⟨_, rfl⟩
      have hx2 : Ext w1 W2 := by rw [hW2]; exact (Ext.refl w1).alloc _
      have hr2 : Row W2 w1.heap.size 99 [.slice KA kn KC, .int .i64 (kn : Nat), .slice A LF C] := by rw [hW2]; exact Row.new w1 99 _
      have HB2 := Lib.hid (Below.then HB1.out hx2.below HB1.out.size)
      have hlk2 := HLK.out W2 HB2.out
      obtain ⟨W3, hW3⟩ : ∃ W3, W3 = W2.alloc (.cells #[.slice KA' kn KC', .int .i64 (kn : Nat), .slice A' LG C'] 99) := ⟨_, rfl⟩
      have hx3 : Ext W2 W3 := by rw [hW3]; exact (Ext.refl W2).alloc _
      have hr3 : Row W3 W2.heap.size 99 [.slice KA' kn KC', .int .i64 (kn : Nat), .slice A' LG C'] := by rw [hW3]; exact Row.new W2 99 _
      have hr23 := hr2.up hx3.below
      have HB3 := Lib.hid (Below.then HB2.out hx3.below HB2.out.size)
      have HRG3 := Lib.hid (ranges_up (ranges_up HRG1.out hx2.below) hx3.below)
      have e0 : W3.cell? ⟨w1.heap.size, 0, none⟩ = some (.slice KA kn KC) := hr23.cell 0
      have e1 : W3.cell? ⟨w1.heap.size, 1, none⟩ = some (.int .i64 (kn : Nat)) := hr23.cell 1
      have e2 : W3.cell? ⟨w1.heap.size, 2, none⟩ = some (.slice A LF C) := hr23.cell 2
      have e3 := hr23.lt
      have e4 : W3.cell? ⟨W2.heap.size, 0, none⟩ = some (.slice KA' kn KC') := hr3.cell 0
      have e5 : W3.cell? ⟨W2.heap.size, 1, none⟩ = some (.int .i64 (kn : Nat)) := hr3.cell 1
      have e6 : W3.cell? ⟨W2.heap.size, 2, none⟩ = some (.slice A' LG C') := hr3.cell 2
      have e7 := hr3.lt
      have HC := Lib.hid (HEQ.out W3 HB3.out)
      have HW2 := Lib.hid hW2
      have HW3 := Lib.hid hW3
      clear hx2 hx3 hr2 hr3 hr23 hW2 hW3 HRG1 HLK HEQ
      go_upto_region 6 with (fail)
      rw [← HW2.out]
      clear hen HW2
      go_upto_region 7 with (fail)
      rw [← HW3.out]
      clear HW3 hlk2
      go_wp2_with fail
      refine HC.out.mono ?_
      rintro e w4 ⟨rfl, hx4⟩
      have HB4 := Lib.hid (Below.then HB3.out hx4.below HB3.out.size)
      have HRG4 := Lib.hid (ranges_up HRG3.out hx4.below)
      clear hx4 HC e0 e1 e2 e3 e4 e5 e6 e7
      by_cases hq : F p.1 = G p.1
      · have HQ := Lib.hid (HYES.out hq)
        have hd : decide (F p.1 = G p.1) = true := decide_eq_true hq
        rw [hd]
        clear hq hd HYES HNO
        go_wp2
        go_roundw
        case rel => exact ⟨_, cnt1, rfl, HQ.out, HRG4.out, HB4.out⟩
        case measure => rw [HRG4.out.left_eq, HLE.out]; exact hlt2
      · have HQ := Lib.hid (HNO.out hq)
        have hd : decide (F p.1 = G p.1) = false := decide_eq_false hq
        rw [hd]
        clear hq hd HYES HNO
        go_wp2
        exact bodyPost_ret (v := .bool false) (by simp [results, Tryz.results51, go_sem]) rfl ⟨by rw [HQ.out], HB4.out⟩

set_option maxHeartbeats 2000000 in
theorem ctEqual_any {P P' : Nat → Prop} {S : Sch} {m m' : Value} {F G : Cont} (w : World) (hd : DbM P S w m F) (hd' : DbM P' S w m' G) (hnd : (S.map Prod.fst).Nodup) :
    Calls Tryz.prog 20 #[.agg #[m], .agg #[m']] w fun e w' => e = .returned (.bool (sameC S F G)) ∧ Below w.heap.size w w' := by
  obtain ⟨b, rfl⟩ := hd.form
  obtain ⟨b', rfl⟩ := hd'.form
  have HC := Lib.hid (fun V (hb : Below w.heap.size w V) => ctEqualFunc_any V (hd.up hb) (hd'.up hb) hnd)
  have hx := (((Ext.refl w).alloc (.cells #[.map (some b)] 28)).alloc (.cells #[.map (some b')] 28)).below
  have HX := Lib.hid hx
  clear hd hd' hx hnd
  go_enter Tryz.func20, Tryz.ntmps20
  go_wp2_with fail
  refine (HC.out _ HX.out).mono ?_
  rintro e w1 ⟨rfl, hb⟩
  have HB := Lib.hid (Below.then HX.out hb HX.out.size)
  clear hb HC
  go_wp2_with fail
  go_ret
  exact ⟨rfl, HB.out⟩
end
end Go.Proofs.YtdadchpiibipoaaGreatDoor
section
namespace Go.Proofs.YtdadchpiibipoaaGreatDoor.RL

theorem ss_snoc {L : List R} (h : SS L) {y : R} (hy : ∀ r ∈ L, cmpR r y < 0) : SS (L ++ [y]) := by
  unfold SS
  rw [List.pairwise_append]
  exact ⟨h, List.pairwise_singleton _ _, fun a ha b hb => by rw [List.mem_singleton.1 hb]; exact hy a ha⟩
end Go.Proofs.YtdadchpiibipoaaGreatDoor.RL
end
namespace Go.Proofs.YtdadchpiibipoaaGreatDoor
section
open Go.RowKit Go.Sort Go.ChangeMaps Go.WideShapes

theorem MadeRs.get {w : World} {g B : Nat} {E : TypeId} {X : List RL.R} (h : MadeRs w g E X X.length B) {i : Nat} (hi : i < X.length) : ∃ A' C', w.cell? ⟨g, i, none⟩ = some (.slice A' X[i].length C') ∧ SlR w.heap.size w A' X[i] ∧ (X[i] ≠ [] → ∀ ad, A' = some ad → B ≤ ad.block) := by
  obtain ⟨hs, h1, h2, h3, h4⟩ := h
  obtain ⟨A', C', a, -, -, b, c⟩ := h4 i hi hi
  exact ⟨A', C', (h1.cell i).trans a, b, fun hx ad e => (c hx ad e).2.1⟩
theorem MadeRs.base {w : World} {g B : Nat} {E : TypeId} {X : List RL.R} {k : Nat} (h : MadeRs w g E X k B) : B ≤ g := by obtain ⟨_, _, _, h3, _⟩ := h; exact h3
end
section
open Go.RowKit Go.Sort Go.ChangeMaps Go.WideShapes

theorem Stay.less {Pr Pr' : Nat → Prop} {w w' : World} (h : Stay Pr w w') (hP : ∀ k, k < w.heap.size → Pr' k → Pr k) : Stay Pr' w w' := ⟨h.1, fun b hb hp => h.2 b hb (hP b hb hp)⟩
theorem Stay.cell {Pr : Nat → Prop} {w w' : World} (h : Stay Pr w w') {p : Addr} {v : Value} (hp : Pr p.block) (hc : w.cell? p = some v) : w'.cell? p = some v :=
  (World.cell?_of_block (h.2 p.block (Lib.lt_of_cell hc) hp)).trans hc
theorem kindsOf_mem {S : Sch} (hnd : (S.map Prod.fst).Nodup) {p : ByteArray × List Int} (hp : p ∈ S) : kindsOf S p.1 = p.2 := by
  unfold kindsOf
  cases hf : S.find? (fun q => decide (q.1 = p.1)) with
  | none => exact absurd (List.find?_eq_none.1 hf p hp) (by simp)
  | some q =>
    have h1 := List.mem_of_find?_eq_some hf
    have h2 : q.1 = p.1 := by have := List.find?_some hf; simpa using this
    have : q = p := by
      have hi := (List.pairwise_map.1 hnd)
      by_cases e : q = p
      · exact e
      · exact absurd h2 (by
          rcases List.pairwise_iff_getElem.1 hi with h
          obtain ⟨i, hi1, e1⟩ := List.mem_iff_getElem.1 h1
          obtain ⟨j, hj1, e2⟩ := List.mem_iff_getElem.1 hp
          rcases Nat.lt_trichotomy i j with hlt | heq | hgt
          · have := h i j hi1 hj1 hlt; rw [e1, e2] at this; exact this
          · subst heq; exact absurd (e1.symm.trans e2) e
          · have := h j i hj1 hi1 hgt; rw [e1, e2] at this; exact fun x => this x.symm)
    exact congrArg Prod.snd this

theorem textR_len {x : RL.R} (hv : ∀ v ∈ x, VFit v) : (textR x).length ≤ 100 * x.length + 2 := by
  have := commaV_len hv
  unfold textR
  simp only [List.length_cons, List.length_append, List.length_nil]
  omega
theorem rowsW_len {X : List RL.R} (hv : ∀ x ∈ X, x.length ≤ 6 ∧ ∀ v ∈ x, VFit v) : (rowsW X).length ≤ 603 * X.length := by
  induction X with
  | nil => simp [rowsW]
  | cons x t ih =>
    have h1 := ih fun y hy => hv y (List.mem_cons_of_mem _ hy)
    have h2 := textR_len (hv x List.mem_cons_self).2
    have h3 := (hv x List.mem_cons_self).1
    simp only [rowsW, List.flatMap_cons, List.length_append, List.length_cons, List.length_nil] at *
    omega
theorem kindsW_len (ks : List Int) : (ks.flatMap kindW).length = 4 * ks.length := by
  rw [List.length_flatMap]
  have h1 : (ks.map fun a => (kindW a).length) = ks.map fun _ => 4 := List.map_congr_left fun a _ => by unfold kindW; split <;> rfl
  rw [h1, List.map_const', List.sum_replicate_nat, Nat.mul_comm]
theorem rowsW_take {X : List RL.R} {i : Nat} (h : i < X.length) : rowsW (X.take (i + 1)) = rowsW (X.take i) ++ textR X[i] ++ [10] := by
  unfold rowsW
  rw [List.take_succ_eq_append_getElem h, List.flatMap_append, List.flatMap_singleton, List.append_assoc]
def RowsFit (S : Sch) (F : Cont) : Prop := ∀ p ∈ S, p.2.length ≤ 6 ∧ (F p.1).length ≤ 4096 ∧ ∀ x ∈ F p.1, x.length ≤ 6 ∧ ∀ v ∈ x, VFit v
theorem textD_len {S : Sch} {F : Cont} (hnd : (S.map Prod.fst).Nodup) (hsz : ∀ p ∈ S, p.1.size ≤ 16) (hF : RowsFit S F) : ∀ (ns : List ByteArray), (∀ s ∈ ns, s ∈ S.map Prod.fst) → (textD S F ns).length ≤ ns.length * 3000000
  | [], _ => by simp [textD]
  | nm :: t, h => by
    have ih := textD_len hnd hsz hF t fun s hs => h s (List.mem_cons_of_mem _ hs)
    obtain ⟨p, hp, rfl⟩ := List.mem_map.1 (h nm List.mem_cons_self)
    obtain ⟨h1, h2, h3⟩ := hF p hp
    have h4 := rowsW_len h3
    have h5 := hsz p hp
    have h6 := kindsW_len (kindsOf S p.1)
    rw [kindsOf_mem hnd hp] at h6
    have h7 : (textRel p.1 (kindsOf S p.1) (F p.1)).length = 9 + (p.1.size + (4 * p.2.length + ((rowsW (F p.1)).length + 1))) := by
      unfold textRel
      rw [kindsOf_mem hnd hp]
      simp only [List.length_append, List.length_cons, size_len, h6]
      rfl
    unfold textD at ih ⊢
    rw [List.flatMap_cons, List.length_append, List.length_cons, h7]
    omega

set_option maxHeartbeats 16000000 in
theorem ctText_any {P : Nat → Prop} {S : Sch} {m : Value} {F : Cont} (w : World) (hd : DbM P S w m F) (hnd : (S.map Prod.fst).Nodup) (hSl : S.length ≤ 16) (hsz : ∀ p ∈ S, p.1.size ≤ 16) (hF : ∀ p ∈ S, ∀ x ∈ F p.1, ∀ v ∈ x, VFit v) (hFit : RowsFit S F) (hT : Tabs w) :
    Calls Tryz.prog 17 #[.agg #[m]] w fun e w' => ∃ ns, NamesOf S ns ∧ e = .returned (.string (toB (textD S F ns))) ∧ Below w.heap.size w w' := by
  obtain ⟨mb, rfl⟩ := hd.form
  obtain ⟨W0, hW0⟩ : ∃ W0, W0 = w.alloc (.cells #[.map (some mb)] 28) := ⟨_, rfl⟩
  obtain ⟨W1, hW1⟩ : ∃ W1, W1 = W0.alloc (.cells #[.pointer none, .slice none 0 0] 89) := ⟨_, rfl⟩
  have hb0 : Below w.heap.size w W0 := by rw [hW0]; exact ((Ext.refl w).alloc _).below
  have hb1 : Below W0.heap.size W0 W1 := by rw [hW1]; exact ((Ext.refl W0).alloc _).below
  have hz0 : W0.heap.size = w.heap.size + 1 := by rw [hW0]; simp
  have hz1 : W1.heap.size = W0.heap.size + 1 := by rw [hW1]; simp
  have hB1 : BldP W1 W0.heap.size W0.heap.size (fun k => k < W0.heap.size) [] := by rw [hW1]; exact BldP.new W0
  have hbox : W0.cell? ⟨w.heap.size, 0, none⟩ = some (.map (some mb)) := by rw [hW0]; simp
  have hbox1 : W1.cell? ⟨w.heap.size, 0, none⟩ = some (.map (some mb)) := (hb1.cell (p := ⟨w.heap.size, 0, none⟩) (by show w.heap.size < _; omega)).trans hbox
  have hd1 : DbM P S W1 (.map (some mb)) F := (hd.up hb0).up hb1
  have hT1 : Tabs W1 := (hT.up hb0).up hb1
  have HN := Lib.hid (ctNames2_any (w := W1) hd1 hnd (by omega))
  have HB1 := Lib.hid hB1
  have HD1 := Lib.hid hd1
  have HT1 := Lib.hid hT1
  have HBE := Lib.hid (hb0.trans (hb1.mono (by omega)))
  have HD0 : Hid (∀ W, Below w.heap.size w W → DbM (fun k => k < w.heap.size) S W (.map (some mb)) F) := fun W hb => (hd.weak (P' := fun k => k < w.heap.size) fun b hb _ => hb).keep (Stay.of hb)
  have HT0 := Lib.hid (fun (W : World) (hb : Below w.heap.size w W) => hT.up hb)
  have HSZ := Lib.hid hsz
  have HFF := Lib.hid hF
  have HLD : Hid (∀ ns, NamesOf S ns → ∀ k, k ≤ ns.length → (textD S F (ns.take k)).length ≤ k * 3000000) := fun ns hns k hk => by
    have h := textD_len hnd hsz hFit (ns.take k) fun s hs => hns.1.mem_iff.1 (List.mem_of_mem_take hs)
    rw [List.length_take, Nat.min_eq_left hk] at h
    exact h
  clear hFit
  have HND := Lib.hid hnd
  clear hd hT hb0 hb1 hB1 hd1 hT1 hbox hsz hF hnd HD1 HT1
  go_enter Tryz.func17, Tryz.ntmps17
  go_upto_region 1 with (fail)
  rw [← hW0]
  clear hW0
  go_upto_region 2 with (fail)
  rw [← hW1]
  clear hW1
  go_upto_region 3 with (go_at_call 45; refine HN.out.mono ?_; rintro e w2 ⟨A, C, ns, rfl, hns, hsl, hab, hb2⟩)
  obtain ⟨Pr0, hPr0⟩ : ∃ Q : Nat → Prop, Q = fun k => k < w2.heap.size ∧ k ≠ w.heap.size + 1 := ⟨_, rfl⟩
  have hz2 := hb2.size
  have hlen : ns.length ≤ 16 := by rw [hns.1.length_eq, List.length_map]; exact hSl
  have HB2 : Hid (BldP w2 (w.heap.size + 1) (w.heap.size + 1) Pr0 []) := by
    have h := HB1.out.up hb2
    rw [hz0] at h
    refine h.weak fun k hk hp => ?_
    rw [hPr0] at hp
    have := hp.2
    omega
  have HP0 : Hid (∀ k, Pr0 k → k < w2.heap.size) := by rw [hPr0]; exact fun k h => h.1
  have HPL : Hid (∀ k, k < w.heap.size + 1 → Pr0 k) := by rw [hPr0]; exact fun k h => ⟨by omega, by omega⟩
  have HW2 : Hid (Below w.heap.size w w2) := HBE.out.trans (hb2.mono HBE.out.size)
  have HNM : Hid (∀ W, Stay Pr0 w2 W → ∀ i (h : i < ns.length), ∃ nb no, A = some ⟨nb, no, none⟩ ∧ nb < w2.heap.size ∧ W.cell? ⟨nb, no + i, none⟩ = some (.string ns[i])) := fun W hst i hi => by
    obtain ⟨nb, no, e, hnb, hc⟩ := hsl (by intro h; have := congrArg List.length h; simp at this; rw [this] at hi; simp at hi)
    have h3 : W1.heap.size ≤ nb := hab _ e
    refine ⟨nb, no, e, hnb, hst.cell (p := ⟨nb, no + i, none⟩) (by rw [hPr0]; exact ⟨hnb, by show nb ≠ _; omega⟩) (hc i _ (by simp [hi]))⟩
  have HBX : Hid (∀ W, Stay Pr0 w2 W → W.cell? ⟨w.heap.size, 0, none⟩ = some (.map (some mb))) := fun W hst =>
    hst.cell (p := ⟨w.heap.size, 0, none⟩) (HPL.out _ (by show w.heap.size < _; omega)) ((hb2.cell (p := ⟨w.heap.size, 0, none⟩) (by show w.heap.size < _; omega)).trans hbox1)
  have HNS := Lib.hid hns
  clear hsl hab hb2 hns hbox1 hPr0
  go_loopw [13] (fun c wx => ∃ (k : Nat), k ≤ ns.length ∧ c = .int .i64 k ∧ BldP wx (w.heap.size + 1) (w.heap.size + 1) Pr0 (textD S F (ns.take k)) ∧ Stay Pr0 w2 wx ∧ Below w.heap.size w wx) (fun c _ => ns.length - (intOf c).toNat)
  case atStart => exact ⟨0, Nat.zero_le _, rfl, HB2.out, ⟨Nat.le_refl _, fun _ _ _ => rfl⟩, HW2.out⟩
  case round =>
    obtain ⟨wo, hwo⟩ : ∃ wo, wo = wr := ⟨_, rfl⟩
    subst hwo
    obtain ⟨k, hk, rfl, hbp, hst, hbw⟩ := hrel
    have HBP := Lib.hid hbp
    have HST := Lib.hid hst
    have HBW := Lib.hid hbw
    clear hbp hst hbw
    by_cases hkl : k < ns.length
    · have g1 : (k : Int) < (ns.length : Int) := by omega
      have g0 : (0 : Int) ≤ (k : Int) := by omega
      have hw1 : IntKind.i64.wrap ((k : Int) + 1) = ((k + 1 : Nat) : Int) := by rw [IntWalk.i64_in _ (by omega)]; omega
      obtain ⟨nb, no, rfl, hnb, c1⟩ := HNM.out _ HST.out k hkl
      have c2 := HBX.out _ HST.out
      obtain ⟨⟨nm, ks⟩, hmem, hnm⟩ := List.mem_map.1 (HNS.out.1.mem_iff.1 (List.getElem_mem hkl))
      simp only at hnm
      rw [← hnm] at c1
      have HNK := Lib.hid hnm
      clear hnm
      obtain ⟨_, D, e, -, hown, hent⟩ := (HD0.out _ HBW.out).ents
      injection e with e
      injection e with e
      subst e
      obtain ⟨val, hv1, KA, KC, A2, C2, rfl, hk6, hki, hxc, hxm, hsl, hro⟩ := hent.2.2 (nm, ks) hmem
      have hlk := (look_yes keyedS Tryz.underlying26 zeroEnt hown (keyS (Nat.le_trans (HSZ.out _ hmem) (by decide))) hv1).2
      simp only at hlk
      have HNO := Lib.hid hnb
      clear hown hent hv1 hnb
      go_upto_region 6 with (fail)
      have hki : SlIP _ _ KA ks := hki
      have hsl : SlRsP _ _ _ A2 (F nm) := hsl
      have hro : RowsOk ks.length (F nm) := hro
      obtain ⟨W3, hW3⟩ : ∃ W3, W3 = wo.alloc (.cells #[.slice KA ks.length KC, .int .i64 (ks.length : Nat), .slice A2 (F nm).length C2] 99) := ⟨_, rfl⟩
      rw [← hW3]
      have hb3 : Below wo.heap.size wo W3 := by rw [hW3]; exact ((Ext.refl wo).alloc _).below
      have hr3 : Row W3 wo.heap.size 99 [.slice KA ks.length KC, .int .i64 (ks.length : Nat), .slice A2 (F nm).length C2] := by rw [hW3]; exact Row.new wo 99 _
      have hn0 : w.heap.size + 2 ≤ wo.heap.size := by have := HST.out.1; omega
      have hn3 : w.heap.size + 2 ≤ W3.heap.size := Nat.le_trans hn0 hb3.size
      obtain ⟨Pr1, hPr1⟩ : ∃ Q : Nat → Prop, Q = fun k => Pr0 k ∨ k = wo.heap.size := ⟨_, rfl⟩
      have HP1 : Hid (∀ k, Pr1 k → k < W3.heap.size) := by
        rw [hPr1]
        intro k hk
        rcases hk with h | h
        · exact Nat.lt_of_lt_of_le (HP0.out k h) (Nat.le_trans HST.out.1 hb3.size)
        · rw [h]; exact hr3.lt
      have HP10 : Hid (∀ k, Pr0 k → Pr1 k) := by rw [hPr1]; exact fun k h => Or.inl h
      have HP1n : Hid (Pr1 wo.heap.size) := by rw [hPr1]; exact Or.inr rfl
      have HB3 : Hid (BldP W3 (w.heap.size + 1) (w.heap.size + 1) Pr1 (textD S F (ns.take k))) := by
        refine (HBP.out.up hb3).weak fun k hk hp => ?_
        rw [hPr1] at hp
        rcases hp with h | h
        · exact Or.inl h
        · exact Or.inr (by rw [h]; exact Nat.le_refl _)
      have HS3 : Hid (Stay Pr0 w2 W3) := HST.out.trans (Stay.of hb3)
      have HW3 : Hid (Below w.heap.size w W3) := HBW.out.trans (hb3.mono HBW.out.size)
      have HEN : Hid (∀ W, Stay Pr1 W3 W → Row W wo.heap.size 99 [.slice KA ks.length KC, .int .i64 (ks.length : Nat), .slice A2 (F nm).length C2]) := fun W h => (h.2 _ hr3.lt HP1n.out).trans hr3
      have HKS : Hid (∀ W, Stay Pr1 W3 W → ∀ i (h : i < ks.length), ∃ kb ko, KA = some ⟨kb, ko, none⟩ ∧ W.cell? ⟨kb, ko + i, none⟩ = some (.int .i64 ks[i])) := fun W h i hi => by
        obtain ⟨kb, ko, e, q1, q2, q3⟩ := hki (by intro h0; rw [h0] at hi; exact absurd hi (Nat.not_lt_zero _))
        refine ⟨kb, ko, e, h.cell (p := ⟨kb, ko + i, none⟩) (HP10.out _ (HPL.out _ (Nat.lt_succ_of_lt q2))) ((hb3.cell (p := ⟨kb, ko + i, none⟩) q1).trans (q3 i _ (by simp [hi])))⟩
      have HRS : Hid (∀ W, Stay Pr1 W3 W → SlRs W.heap.size W A2 (F nm)) := fun W h => by
        have h1 : Stay (fun k => k < w.heap.size) wo W := (Stay.of hb3).trans (h.less fun k _ hk => HP10.out _ (HPL.out _ (Nat.lt_succ_of_lt hk)))
        have h2 := SlRsP.stay hsl h1
        exact h2.sl
      have HRO := Lib.hid hro
      have HNM2 := Lib.hid hmem
      clear hW3 hb3 hr3 hki hsl hro hmem hPr1 hlk c1 c2 hxc hxm
      obtain ⟨L, hL⟩ : ∃ L, L = textD S F (ns.take k) := ⟨_, rfl⟩
      rw [← hL] at HB3
      have HLN : Hid (L.length ≤ k * 3000000) := by show _ ≤ _; rw [hL]; exact HLD.out ns HNS.out k hk
      have hk16 : k * 3000000 ≤ 48000000 := by omega
      have HL := Lib.hid hL
      have HNZ := Lib.hid (HSZ.out _ HNM2.out)
      simp only at HNZ
      have hZ3 := HW3.out.size
      have HZ3 : Hid (w.heap.size + 1 ≤ W3.heap.size) := Nat.le_trans (Nat.le_succ _) hn3
      clear hL
      go_upto_region 8 with (first
        | (go_at_call 42; refine (bWriteStringP HB3.out ⟨#[114, 101, 108, 97, 116, 105, 111, 110, 32]⟩ (by have := HLN.out; omega) (by decide) HZ3.out HP1.out).mono ?_; rintro e w4 ⟨rfl, hb4, hz4, hs4⟩; have HB4 := Lib.hid hb4; have HZ4 := Lib.hid hz4; have HS4 := Lib.hid hs4; clear hb4 hz4 hs4 HB3)
        | (go_at_call 42; refine (bWriteStringP HB4.out nm (by have := HLN.out; simp; omega) (by have := HNZ.out; omega) (Nat.le_trans HZ3.out HZ4.out.size) (fun k hk => Nat.lt_of_lt_of_le (HP1.out k hk) HZ4.out.size)).mono ?_; rintro e w5 ⟨rfl, hb5, hz5, hs5⟩; have HB5 := Lib.hid hb5; have HZ5 := Lib.hid (HZ4.out.trans hz5); have HS5 := Lib.hid (HS4.out.trans hs5); clear hb5 hz5 hs5))
      have e0 : w5.cell? ⟨wo.heap.size, 0, none⟩ = some (.slice KA ks.length KC) := (HEN.out w5 HS5.out).cell 0
      obtain ⟨L2, hL2⟩ : ∃ L2, L2 = L ++ (⟨#[114, 101, 108, 97, 116, 105, 111, 110, 32]⟩ : ByteArray).data.toList ++ nm.data.toList := ⟨_, rfl⟩
      rw [← hL2] at HB5
      have HL2 := Lib.hid hL2
      have HLN2 : Hid (L2.length ≤ 48000025) := by
        show _ ≤ _
        have h1 := HLN.out
        have h2 := size_len nm
        have h3 := HNZ.out
        rw [hL2, List.length_append, List.length_append, h2]
        show L.length + 9 + nm.size ≤ _
        omega
      have HKL : Hid (∀ j, j ≤ ks.length → ((ks.take j).flatMap kindW).length = 4 * j) := fun j hj => by
        rw [List.length_flatMap]
        have h1 : ((ks.take j).map fun a => (kindW a).length) = (ks.take j).map fun _ => 4 := List.map_congr_left fun a _ => by unfold kindW; split <;> rfl
        rw [h1, List.map_const', List.sum_replicate_nat, List.length_take, Nat.min_eq_left hj, Nat.mul_comm]
      have hk6 : ks.length ≤ 6 := hk6
      clear hL2
      go_wp2_with fail
      go_loopw [27] (fun c wx => ∃ (j : Nat), j ≤ ks.length ∧ c = .int .i64 j ∧ BldP wx (w.heap.size + 1) (w.heap.size + 1) Pr1 (L2 ++ (ks.take j).flatMap kindW) ∧ Stay Pr1 W3 wx ∧ Below (w.heap.size + 1) W3 wx) (fun c _ => ks.length - (intOf c).toNat)
      case atStart => exact ⟨0, Nat.zero_le _, rfl, by rw [List.take_zero, List.flatMap_nil, List.append_nil]; exact HB5.out, HS5.out, HZ5.out⟩
      case round =>
        obtain ⟨w6, hw6⟩ : ∃ w6, w6 = wr := ⟨_, rfl⟩
        subst hw6
        obtain ⟨j, hj, rfl, hbp, hst, hbw⟩ := hrel
        have HBP6 := Lib.hid hbp
        have HST6 := Lib.hid hst
        have HBW6 := Lib.hid hbw
        have e1 : w6.cell? ⟨wo.heap.size, 0, none⟩ = some (.slice KA ks.length KC) := (HEN.out w6 hst).cell 0
        have HZ6 := Lib.hid (Nat.le_trans HZ3.out hbw.size)
        clear hbp hst hbw e0
        by_cases hjl : j < ks.length
        · have q1 : (j : Int) < (ks.length : Int) := by omega
          have q0 : (0 : Int) ≤ (j : Int) := by omega
          have hw2 : IntKind.i64.wrap ((j : Int) + 1) = ((j + 1 : Nat) : Int) := by rw [IntWalk.i64_in _ (by omega)]; omega
          obtain ⟨kb, ko, rfl, e2⟩ := HKS.out w6 HST6.out j hjl
          have HKW : Hid (L2 ++ (ks.take (j + 1)).flatMap kindW = L2 ++ (ks.take j).flatMap kindW ++ kindW ks[j]) := by
            show _ = _
            rw [List.take_succ_eq_append_getElem hjl, List.flatMap_append, List.flatMap_singleton, List.append_assoc]
          have HLJ : Hid ((L2 ++ (ks.take j).flatMap kindW).length ≤ 48000049) := by
            show _ ≤ _
            rw [List.length_append, HKL.out j hj]
            have := HLN2.out
            omega
          generalize L2 ++ (ks.take j).flatMap kindW = L3 at HBP6 HKW HLJ
          by_cases hk1 : ks[j] = 1
          · have q2 : (ks[j] == 1) = true := by rw [beq_iff_eq]; exact hk1
            have HKW2 : Hid (L2 ++ (ks.take (j + 1)).flatMap kindW = L3 ++ [32, 105, 110, 116]) := by show _ = _; rw [HKW.out]; unfold kindW; rw [if_pos hk1]
            clear hk1
            go_wp2_with (go_at_call 42; refine (bWriteStringP HBP6.out ⟨#[32, 105, 110, 116]⟩ (by have := HLJ.out; omega) (by decide) HZ6.out (fun k hk => Nat.lt_of_lt_of_le (HP1.out k hk) HST6.out.1)).mono ?_; rintro e w7 ⟨rfl, hb7, hz7, hs7⟩)
            go_roundw
            case rel => exact ⟨j + 1, hjl, by go_num, by rw [HKW2.out]; exact hb7, HST6.out.trans hs7, HBW6.out.trans hz7⟩
            case measure => simp [intOf]; omega
          · have q2 : (ks[j] == 1) = false := by rw [beq_eq_false_iff_ne]; exact hk1
            have HKW2 : Hid (L2 ++ (ks.take (j + 1)).flatMap kindW = L3 ++ [32, 115, 116, 114]) := by show _ = _; rw [HKW.out]; unfold kindW; rw [if_neg hk1]
            clear hk1
            go_wp2_with (go_at_call 42; refine (bWriteStringP HBP6.out ⟨#[32, 115, 116, 114]⟩ (by have := HLJ.out; omega) (by decide) HZ6.out (fun k hk => Nat.lt_of_lt_of_le (HP1.out k hk) HST6.out.1)).mono ?_; rintro e w7 ⟨rfl, hb7, hz7, hs7⟩)
            go_roundw
            case rel => exact ⟨j + 1, hjl, by go_num, by rw [HKW2.out]; exact hb7, HST6.out.trans hs7, HBW6.out.trans hz7⟩
            case measure => simp [intOf]; omega
        · obtain rfl : j = ks.length := by omega
          have q1 : ¬ (ks.length : Int) < (ks.length : Int) := by omega
          rw [List.take_length] at HBP6
          have HLJ : Hid ((L2 ++ ks.flatMap kindW).length ≤ 48000049) := by
            show _ ≤ _
            have h := HKL.out ks.length (Nat.le_refl _)
            rw [List.take_length] at h
            rw [List.length_append, h]
            have := HLN2.out
            omega
          obtain ⟨X, hX⟩ : ∃ X, X = F nm := ⟨_, rfl⟩
          rw [← hX] at HEN HRS HRO
          have HXF : Hid (X.length ≤ 4096 ∧ ∀ x ∈ X, x.length ≤ 6 ∧ ∀ v ∈ x, VFit v) := ⟨HRO.out.many, fun x hx => ⟨by rw [(wrong_ok (HRO.out.ok x hx)).1]; exact hk6, fun v hv => HFF.out _ HNM2.out x (by rw [← hX]; exact hx) v hv⟩⟩
          have HXE := Lib.hid hX
          clear hX e1 hj
          go_upto_region 16 with (go_at_call 41; refine (bWriteByteP HBP6.out 10 (by have := HLJ.out; omega) HZ6.out (fun k hk => Nat.lt_of_lt_of_le (HP1.out k hk) HST6.out.1)).mono ?_; rintro e w7 ⟨rfl, hb7, hz7, hs7⟩; have HB7 := Lib.hid hb7; have HS7 := Lib.hid (HST6.out.trans hs7); have HZ7 := Lib.hid (HBW6.out.trans hz7); clear hb7 hz7 hs7)
          have hrow := HEN.out w7 HS7.out
          have e1 : w7.cell? ⟨wo.heap.size, 1, none⟩ = some (.int .i64 (ks.length : Nat)) := hrow.cell 1
          have e2 : w7.cell? ⟨wo.heap.size, 2, none⟩ = some (.slice A2 X.length C2) := hrow.cell 2
          have HRW := Lib.hid (rlRows_any (ks.length : Nat) A2 C2 X w7 (HRS.out w7 HS7.out) (HRO.out.rs (by omega)) (by have := HXF.out.1; omega))
          clear hrow
          go_upto_region 17 with (go_at_call 46; refine HRW.out.mono ?_; rintro e w8 ⟨g, rfl, hmd, hb8⟩)
          obtain ⟨L4, hL4⟩ : ∃ L4, L4 = L2 ++ ks.flatMap kindW ++ [10] := ⟨_, rfl⟩
          rw [← hL4] at HB7
          have HLN4 : Hid (L4.length ≤ 48000050) := by show _ ≤ _; rw [hL4, List.length_append]; have := HLJ.out; simp only [List.length_cons, List.length_nil]; omega
          have HL4 := Lib.hid hL4
          obtain ⟨Pr2, hPr2⟩ : ∃ Q : Nat → Prop, Q = fun k => Pr1 k ∨ (w7.heap.size ≤ k ∧ k < w8.heap.size) := ⟨_, rfl⟩
          have HP12 : Hid (∀ k, Pr1 k → Pr2 k) := by rw [hPr2]; exact fun k h => Or.inl h
          have HP2 : Hid (∀ k, Pr2 k → k < w8.heap.size) := by
            rw [hPr2]
            intro k hk
            rcases hk with h | h
            · exact Nat.lt_of_lt_of_le (HP1.out k h) (Nat.le_trans HS7.out.1 hb8.size)
            · exact h.2
          have HB8 : Hid (BldP w8 (w.heap.size + 1) (w.heap.size + 1) Pr2 L4) := by
            refine (HB7.out.up hb8).weak fun k hk hp => ?_
            rw [hPr2] at hp
            rcases hp with h | h
            · exact Or.inl h
            · exact Or.inr h.1
          have HZ7' := Lib.hid (Nat.le_trans HZ3.out HZ7.out.size)
          have HZ8 := Lib.hid (HZ7.out.trans (hb8.mono HZ7'.out))
          have HS8 := Lib.hid (HS7.out.trans (Stay.of hb8))
          have HMD : Hid (∀ W, Stay Pr2 w8 W → ∀ i (h : i < X.length), ∃ A' C', W.cell? ⟨g, i, none⟩ = some (.slice A' X[i].length C') ∧ SlR W.heap.size W A' X[i]) := fun W hst i hi => by
            obtain ⟨A', C', q1, q2, q3⟩ := hmd.get hi
            have hg := hmd.lt
            have hgb := hmd.base
            refine ⟨A', C', hst.cell (p := ⟨g, i, none⟩) (by rw [hPr2]; exact Or.inr ⟨hgb, hg⟩) q1, fun hx => ?_⟩
            obtain ⟨b, o, e, hbl, hc⟩ := q2 hx
            refine ⟨b, o, e, Nat.lt_of_lt_of_le hbl hst.1, fun j u hu => hst.cell (p := ⟨b, o + j, none⟩) (by rw [hPr2]; exact Or.inr ⟨q3 (by intro h0; rw [h0] at hx; exact hx rfl) ⟨b, o, none⟩ e, hbl⟩) (hc j u hu)⟩
          have HW8 : Hid (Below w.heap.size w w8) := HW3.out.trans (HZ8.out.mono (Nat.le_succ _))
          have HZ8s := Lib.hid (Nat.le_trans HZ3.out HZ8.out.size)
          clear hmd hb8 hL4 hPr2 e1 e2 q1
          go_loopw [44] (fun c wx => ∃ (i : Nat), i ≤ X.length ∧ c = .int .i64 i ∧ BldP wx (w.heap.size + 1) (w.heap.size + 1) Pr2 (L4 ++ rowsW (X.take i)) ∧ Stay Pr2 w8 wx ∧ Below (w.heap.size + 1) w8 wx) (fun c _ => X.length - (intOf c).toNat)
          case atStart => exact ⟨0, Nat.zero_le _, rfl, by rw [List.take_zero]; show BldP _ _ _ _ (L4 ++ []); rw [List.append_nil]; exact HB8.out, ⟨Nat.le_refl _, fun _ _ _ => rfl⟩, Below.refl _ _⟩
          case round =>
            obtain ⟨w9, hw9⟩ : ∃ w9, w9 = wr := ⟨_, rfl⟩
            subst hw9
            obtain ⟨i, hi, rfl, hbp, hst, hbw⟩ := hrel
            have HBP9 := Lib.hid hbp
            have HST9 := Lib.hid hst
            have HBW9 := Lib.hid hbw
            have HZ9 := Lib.hid (Nat.le_trans HZ8s.out hbw.size)
            clear hbp hst hbw
            have HLI : Hid ((L4 ++ rowsW (X.take i)).length ≤ 52000000) := by
              show _ ≤ _
              have h1 := rowsW_len (X := X.take i) fun x hx => HXF.out.2 x (List.mem_of_mem_take hx)
              have h2 : (X.take i).length ≤ X.length := List.length_take_le' _ _
              have h3 := HXF.out.1
              have h4 := HLN4.out
              rw [List.length_append]
              omega
            by_cases hil : i < X.length
            · have r1 : (i : Int) < (X.length : Int) := by omega
              have r0 : (0 : Int) ≤ (i : Int) := by omega
              have hw3 : IntKind.i64.wrap ((i : Int) + 1) = ((i + 1 : Nat) : Int) := by rw [IntWalk.i64_in _ (by have := HXF.out.1; omega)]; omega
              obtain ⟨A', C', e3, hsr⟩ := HMD.out w9 HST9.out i hil
              have HXI := Lib.hid (HXF.out.2 _ (List.getElem_mem hil))
              have HW9 : Hid (Below w.heap.size w w9) := HW8.out.trans (HBW9.out.mono (Nat.le_succ _))
              have HTX := Lib.hid (rwText_any A' C' X[i] w9 hsr (by have := HXI.out.1; omega) HXI.out.2 (HT0.out w9 HW9.out))
              have HTS : Hid ((toB (textR X[i])).size ≤ 602) := by
                show (textR X[i]).length ≤ _
                have h1 := textR_len HXI.out.2
                have h2 := HXI.out.1
                omega
              have HRK : Hid (L4 ++ rowsW (X.take (i + 1)) = L4 ++ rowsW (X.take i) ++ textR X[i] ++ [10]) := by
                show _ = _
                rw [rowsW_take hil]
                simp [List.append_assoc]
              generalize L4 ++ rowsW (X.take i) = L5 at HBP9 HRK HLI
              generalize X[i] = xi at e3 HTX HTS HRK HXI
              clear hsr
              go_wp2_with (first
                | (go_at_call 16; refine HTX.out.mono ?_; rintro e w10 ⟨rfl, hb10⟩; have HB10 : Hid (BldP w10 (w.heap.size + 1) (w.heap.size + 1) Pr2 L5) := ((HBP9.out.up hb10).weak fun k _ h => Or.inl h); have HS10 := Lib.hid (HST9.out.trans (Stay.of hb10)); have HZ10 := Lib.hid (HBW9.out.trans (hb10.mono HZ9.out)); have HN10 := Lib.hid (Nat.le_trans HZ9.out hb10.size); clear hb10 HTX)
                | (go_at_call 42; refine (bWriteStringP HB10.out _ (by have := HLI.out; omega) (by have := HTS.out; omega) HN10.out (fun k hk => Nat.lt_of_lt_of_le (HP2.out k hk) HS10.out.1)).mono ?_; rintro e w11 ⟨rfl, hb11, hz11, hs11⟩; have HB11 : Hid (BldP w11 (w.heap.size + 1) (w.heap.size + 1) Pr2 (L5 ++ textR xi)) := hb11; have HS11 := Lib.hid (HS10.out.trans hs11); have HZ11 := Lib.hid (HZ10.out.trans hz11); have HN11 := Lib.hid (Nat.le_trans HN10.out hz11.size); clear hb11 hz11 hs11)
                | (go_at_call 41; refine (bWriteByteP HB11.out 10 (by have h1 := HLI.out; have h2 := HTS.out; rw [List.length_append]; have h3 : (textR xi).length ≤ 602 := h2; omega) HN11.out (fun k hk => Nat.lt_of_lt_of_le (HP2.out k hk) HS11.out.1)).mono ?_; rintro e w12 ⟨rfl, hb12, hz12, hs12⟩; have HB12 := Lib.hid hb12; have HS12 := Lib.hid (HS11.out.trans hs12); have HZ12 := Lib.hid (HZ11.out.trans hz12); clear hb12 hz12 hs12))
              go_roundw
              case rel => exact ⟨i + 1, hil, by go_num, by rw [HRK.out]; exact HB12.out, HS12.out, HZ12.out⟩
              case measure => simp [intOf]; omega
            · obtain rfl : i = X.length := by omega
              have r1 : ¬ (X.length : Int) < (X.length : Int) := by omega
              rw [List.take_length] at HBP9
              have HDK : Hid (textD S F (ns.take (k + 1)) = L4 ++ rowsW X) := by
                show _ = _
                unfold textD
                rw [List.take_succ_eq_append_getElem hkl, List.flatMap_append, List.flatMap_singleton]
                have e1 : L = List.flatMap (fun nm => textRel nm (kindsOf S nm) (F nm)) (ns.take k) := HL.out
                rw [← e1, HL4.out, HL2.out, ← HNK.out, HXE.out]
                unfold textRel
                rw [kindsOf_mem HND.out HNM2.out]
                simp only [List.append_assoc]
                rfl
              go_wp2_with fail
              go_roundw
              case rel => exact ⟨k + 1, hkl, by go_num, by rw [HDK.out]; exact HBP9.out.weak fun k _ h => HP12.out _ (HP10.out _ h), HS3.out.trans ((HS8.out.less fun k _ h => HP10.out _ h).trans (HST9.out.less fun k _ h => HP12.out _ (HP10.out _ h))), HW8.out.trans (HBW9.out.mono (Nat.le_succ _))⟩
              case measure => simp [intOf]; omega
    · obtain rfl : k = ns.length := by omega
      have g1 : ¬ (ns.length : Int) < (ns.length : Int) := by omega
      rw [List.take_length] at HBP
      have hn0 : w.heap.size + 1 ≤ wo.heap.size := by have := HST.out.1; omega
      go_wp2_with (go_at_call 44; refine (bString_any HBP.out.bld hn0).mono ?_; rintro e w4 ⟨rfl, hz4⟩)
      go_ret
      exact ⟨ns, HNS.out, rfl, HBW.out.trans (hz4.mono (Nat.le_succ _))⟩
end
section
open Go.RowKit Go.Sort

def VPost (r : Option RL.V) (w : World) (e : Ending) (w' : World) : Prop :=
  (∀ v, r = some v → e = .returned (.tuple #[vv v, .int .i64 0])) ∧ (r = none → ∃ k : Int, k ≠ 0 ∧ e = .returned (.tuple #[vv ⟨0, 0, ⟨#[]⟩⟩, .int .i64 k])) ∧ Below w.heap.size w w'
theorem VPost.ok {r : Option RL.V} {w w' : World} {e : Ending} (v : RL.V) (hr : r = some v) (he : e = .returned (.tuple #[vv v, .int .i64 0])) (hb : Below w.heap.size w w') : VPost r w e w' :=
  ⟨fun u hu => (by rw [hr] at hu; injection hu with hu; rw [← hu]; exact he), fun h => (by rw [hr] at h; cases h), hb⟩
theorem VPost.bad {r : Option RL.V} {w w' : World} {e : Ending} (k : Int) (hk : k ≠ 0) (hr : r = none) (he : e = .returned (.tuple #[vv ⟨0, 0, ⟨#[]⟩⟩, .int .i64 k])) (hb : Below w.heap.size w w') : VPost r w e w' :=
  ⟨fun u hu => (by rw [hr] at hu; cases hu), fun _ => ⟨k, hk, he⟩, hb⟩
theorem sClone_any (s : ByteArray) (hs : s.size ≤ 281474976710656) (w : World) : Calls Tryz.prog 57 #[.string s] w fun e w' => e = .returned (.string s) ∧ Below w.heap.size w w' := by
  have HC := Lib.hid (Any.stringslite_Clone YtdadchpiibipoaaGreatDoor.lClone s w hs)
  go_enter Tryz.func57, Tryz.ntmps57
  go_wp2_with (go_at_call 87; refine HC.out.mono ?_; rintro e w1 ⟨rfl, hb⟩)
  go_ret
  exact ⟨rfl, hb⟩

set_option maxHeartbeats 1000000 in
theorem vInt_any (n : Int) (w : World) : Calls Tryz.prog 164 #[.int .i64 n] w fun e w' => e = .returned (vv ⟨1, n, ⟨#[]⟩⟩) ∧ Below w.heap.size w w' := by
  go_enter Tryz.func164, Tryz.ntmps164
  go_wp2
  exact bodyPost_ret (v := vv ⟨1, n, ⟨#[]⟩⟩) (by simp [results, Tryz.results164, go_sem, vv]) rfl ⟨rfl, ((Ext.refl w).alloc _).below⟩

set_option maxHeartbeats 1000000 in
theorem vStr_any (s : ByteArray) (hs : s.size ≤ 281474976710656) (w : World) : Calls Tryz.prog 161 #[.string s] w (VPost (if s.size ≤ 24 then some ⟨2, 0, s⟩ else none) w) := by
  have HC := Lib.hid (fun (W : World) => sClone_any s hs W)
  by_cases h : s.size ≤ 24
  · rw [if_pos h]
    have hd : decide ((24 : Int) < (s.size : Int)) = false := decide_eq_false (by omega)
    go_enter Tryz.func161, Tryz.ntmps161
    have hr0 := Row.new w 82 [.int .i64 0, .int .i64 0, .string ⟨#[]⟩]
    have hl0 := hr0.lt
    go_wp2_with (go_at_call 57; refine (HC.out _).mono ?_; rintro e w1 ⟨rfl, hb⟩; have hr1 := hr0.below hb hl0; have c0 := hr1.cell 0; have c1 := hr1.cell 1; have c2 := hr1.cell 2; have f0 := hr1.frozen 0; have f1 := hr1.frozen 1; have f2 := hr1.frozen 2; have HB := Lib.hid hb; have HR := Lib.hid hr1; clear hb hr1 hr0 hl0)
    have hrF := ((HR.out.set 0 (.int .i64 2)).set 1 (.int .i64 0)).set 2 (.string s)
    have hbF : Below w.heap.size w (((w1.setCell ⟨w.heap.size, 0, none⟩ (.int .i64 2)).setCell ⟨w.heap.size, 1, none⟩ (.int .i64 0)).setCell ⟨w.heap.size, 2, none⟩ (.string s)) :=
      (((((Ext.refl w).alloc _).below.trans (HB.out.mono (by simp))).setCell (p := ⟨w.heap.size, 0, none⟩) (Nat.le_refl _) _).setCell (p := ⟨w.heap.size, 1, none⟩) (Nat.le_refl _) _).setCell (p := ⟨w.heap.size, 2, none⟩) (Nat.le_refl _) _
    generalize ((w1.setCell ⟨w.heap.size, 0, none⟩ (.int .i64 2)).setCell ⟨w.heap.size, 1, none⟩ (.int .i64 0)).setCell ⟨w.heap.size, 2, none⟩ (.string s) = wF at hrF hbF ⊢
    have d0 : wF.cell? ⟨w.heap.size, 0, none⟩ = some (.int .i64 2) := hrF.cell 0
    have d1 : wF.cell? ⟨w.heap.size, 1, none⟩ = some (.int .i64 0) := hrF.cell 1
    have d2 : wF.cell? ⟨w.heap.size, 2, none⟩ = some (.string s) := hrF.cell 2
    exact bodyPost_ret (v := .tuple #[vv ⟨2, 0, s⟩, .int .i64 0]) (by simp [results, Tryz.results161, go_sem, vv, d0, d1, d2]) rfl (VPost.ok ⟨2, 0, s⟩ rfl rfl hbF)
  · rw [if_neg h]
    have hd : decide ((24 : Int) < (s.size : Int)) = true := decide_eq_true (by omega)
    go_enter Tryz.func161, Tryz.ntmps161
    go_wp2_with fail
    exact bodyPost_ret (v := .tuple #[vv ⟨0, 0, ⟨#[]⟩⟩, .int .i64 13]) (by simp [results, Tryz.results161, go_sem, vv]) rfl (VPost.bad 13 (by decide) rfl rfl ((Ext.refl w).alloc _).below)
end
section
open Go.RowKit Go.Sort

theorem unhexL_lt (l : List UInt8) : (unhexL l).1 < 256 ∧ (unhexL l).2 ≤ l.length := by
  unfold unhexL
  split
  · exact ⟨by decide, by simp⟩
  · split
    · exact ⟨by decide, by simp⟩
    · have h2 := hexS_lt (l.getD 2 0)
      have h3 := hexS_lt (l.getD 3 0)
      simp only
      split
      · exact ⟨by decide, by simp⟩
      · simp only
        omega
theorem unquoteL_lt (l : List UInt8) : (unquoteL l).1 < 256 ∧ (unquoteL l).2 ≤ l.length := by
  unfold unquoteL
  split
  · exact ⟨by decide, by simp⟩
  · rename_i c t
    have hc : c.toNat < 256 := UInt8.toNat_lt _
    split
    · split
      · exact ⟨by decide, by simp⟩
      · exact ⟨hc, by simp⟩
    · split
      · exact ⟨by decide, by simp⟩
      · rename_i d u
        have hd : d.toNat < 256 := UInt8.toNat_lt _
        split
        · exact ⟨hd, by simp⟩
        · split
          · exact ⟨by decide, by simp⟩
          · split
            · exact ⟨by decide, by simp⟩
            · split
              · exact unhexL_lt _
              · exact ⟨by decide, by simp⟩
theorem vUnquote_at (s : ByteArray) (i : Nat) (hi : i < s.size) (hs : s.size ≤ 9223372036854775807) (w : World) : Calls Tryz.prog 160 #[.string (s.extract i s.size)] w fun e w' =>
    e = .returned (.tuple #[.int .u8 ((UInt8.ofNat (unquoteL (s.data.toList.drop i)).1).toNat : Nat), .int .i64 (unquoteL (s.data.toList.drop i)).2]) ∧ w' = w := by
  have hx : (s.extract i s.size).data.toList = s.data.toList.drop i := by
    rw [Lib.extract_data]
    exact List.take_of_length_le (by rw [List.length_drop, size_len]; exact Nat.le_refl _)
  have hsz : (s.extract i s.size).size = s.size - i := by rw [← size_len, hx, List.length_drop, size_len]
  have h := vUnquote_any (s.extract i s.size) (by omega) (by omega) w
  rw [hx] at h
  have hl := (unquoteL_lt (s.data.toList.drop i)).1
  have e : (UInt8.ofNat (unquoteL (s.data.toList.drop i)).1).toNat = (unquoteL (s.data.toList.drop i)).1 := by simp [Nat.mod_eq_of_lt hl]
  rw [e]
  exact h

theorem convBack {w : World} {base : Nat} {A : Option Addr} {C : Nat} {o : List UInt8} (h : OwnBs w base (.slice A o.length C) o) : (convert 87 9 (.slice A o.length C)).run Tryz.prog w = .ok (.string (toB o)) w := by
  rcases h.2 with ⟨hv, h0⟩ | ⟨g, cap, cur, hv, _⟩
  · have ho : o = [] := List.eq_nil_of_length_eq_zero h0
    subst ho
    injection hv with e1 e2 e3
    subst e1 e3
    show (convert 87 9 (.slice none 0 0)).run Tryz.prog w = _
    rw [run_convert_bytes_string w 87 9 5 none 0 0 Tryz.underlying87 Tryz.underlying5 Tryz.underlying9]
    rfl
  · injection hv with e1 e2 e3
    subst e1 e3
    exact run_convert_bytes_back (P := Tryz.prog) w 87 9 5 ⟨g, 0, none⟩ C o Tryz.underlying87 Tryz.underlying5 Tryz.underlying9 (fun j hj => World.ownsRow.cells (g := g) h rfl j _ (by unfold Lib.byteCells; rw [List.getElem?_map, List.getElem?_eq_getElem hj]; rfl))
theorem box_set {w : World} {g : Nat} {a b c : Value} (h : Row w g 82 [a, b, c]) (x y z : Value) :
    Row (((w.setCell ⟨g, 0, none⟩ x).setCell ⟨g, 1, none⟩ y).setCell ⟨g, 2, none⟩ z) g 82 [x, y, z] := ((h.set 0 x).set 1 y).set 2 z
theorem box_below {w0 w : World} {g : Nat} (h : Below g w0 w) (x y z : Value) : Below g w0 (((w.setCell ⟨g, 0, none⟩ x).setCell ⟨g, 1, none⟩ y).setCell ⟨g, 2, none⟩ z) :=
  ((h.setCell (p := ⟨g, 0, none⟩) (Nat.le_refl _) _).setCell (p := ⟨g, 1, none⟩) (Nat.le_refl _) _).setCell (p := ⟨g, 2, none⟩) (Nat.le_refl _) _

set_option maxHeartbeats 8000000 in
theorem vParseStr_any (s : ByteArray) (h1 : 1 ≤ s.size) (hs : s.size ≤ 1000000) (w : World) : Calls Tryz.prog 132 #[.string s] w (VPost ((strP s.data.toList).map fun o => ⟨2, 0, toB o⟩) w) := by
  obtain ⟨R, hR⟩ : ∃ R, R = strGo (s.data.toList.length + 1) (s.data.toList.drop 1) [] := ⟨_, rfl⟩
  have HP : Hid (strP s.data.toList = strEnd R) := by show _ = _; unfold strP; rw [hR]
  have hlen := size_len s
  have hr0 := Row.new w 82 [.int .i64 0, .int .i64 0, .string ⟨#[]⟩]
  have HR := Lib.hid hR
  have HLEN := Lib.hid hlen
  have HB0 : Hid (Below w.heap.size w (w.alloc (.cells #[.int .i64 0, .int .i64 0, .string ⟨#[]⟩] 82))) := ((Ext.refl w).alloc _).below
  have HR0 := Lib.hid hr0
  clear hR hlen hr0
  go_enter Tryz.func132, Tryz.ntmps132
  go_upto_region 3 with (fail)
  go_loopw [4, 5] (fun vo c wx => ∃ (i f : Nat) (o : List UInt8) (A : Option Addr) (C : Nat), 1 ≤ i ∧ i ≤ s.size ∧ s.size < f + i ∧ c = .int .i64 i ∧ strGo f (s.data.toList.drop i) o = R ∧ o.length ≤ i ∧ vo = .slice A o.length C ∧ OwnBs wx (w.heap.size + 1) vo o ∧ Row wx w.heap.size 82 [.int .i64 0, .int .i64 0, .string ⟨#[]⟩] ∧ Below w.heap.size w wx) (fun _ c _ => s.size - (intOf c).toNat)
  case atStart => exact ⟨1, s.size + 1, [], none, 0, Nat.le_refl _, h1, by omega, rfl, by rw [HR.out, HLEN.out], Nat.zero_le _, rfl, OwnBs.nil _ _, HR0.out, HB0.out⟩
  case round =>
    obtain ⟨i, f, o, A, C, hi1, hi, hf, rfl, hgo, hol, rfl, ho, hr, hb⟩ := hrel
    have HO := Lib.hid ho
    have HRR := Lib.hid hr
    have HB := Lib.hid hb
    have HGO := Lib.hid hgo
    clear ho hr hb hgo
    by_cases hil : i < s.size
    · have g0 : (0 : Int) ≤ (i : Int) := by omega
      have g1 : (i : Int) < (s.size : Int) := by omega
      have g2 : (i : Int) ≤ (s.size : Int) := by omega
      have hdrop : s.data.toList.drop i = s[i] :: s.data.toList.drop (i + 1) := by
        have h' : i < s.data.toList.length := by rw [size_len]; exact hil
        rw [List.drop_eq_getElem_cons h']
        rfl
      by_cases hq : s[i] = 34
      · have q1 : (((s[i]).toNat : Int) != 34) = false := by rw [hq]; rfl
        have hcons : R = if s.data.toList.drop (i + 1) = [] then some o else none := by
          obtain ⟨f', rfl⟩ : ∃ f', f = f' + 1 := ⟨f - 1, by omega⟩
          rw [← HGO.out, hdrop, strGo, if_pos hq]
        by_cases hend : i = s.size - 1
        · have HRS : Hid (R = some o) := by
            show _ = _
            rw [hcons, if_pos]
            exact List.drop_eq_nil_iff.2 (by rw [size_len]; omega)
          have hw1 : IntKind.i64.wrap ((s.size : Int) - 1) = ((s.size - 1 : Nat) : Int) := by rw [IntWalk.i64_in _ (by omega)]; omega
          have hw2 : wrap64 ((s.size : Int) - 1) = ((s.size - 1 : Nat) : Int) := by unfold wrap64; omega
          have q2 : ((i : Int) != ((s.size - 1 : Nat) : Int)) = false := by rw [bne_eq_false_iff_eq]; omega
          have hcv := convBack HO.out
          have HSO := Lib.hid (fun (W : World) => vStr_any (toB o) (by show o.length ≤ _; omega) W)
          clear hdrop hcons hq HGO hend
          by_cases h24 : o.length ≤ 24
          · have HS1 : Hid (∀ W, Calls Tryz.prog 161 #[.string (toB o)] W fun e w' => e = .returned (.tuple #[vv ⟨2, 0, toB o⟩, .int .i64 0]) ∧ Below W.heap.size W w') := fun W => (HSO.out W).mono fun e w' h => ⟨h.1 _ (if_pos h24), h.2.2⟩
            clear HSO
            have HRRW := Lib.hid HRR.out.lt
            go_upto_region 11 with (fail)
            go_wp2_with (go_at_call 161; refine (HS1.out _).mono ?_; rintro e w1 ⟨rfl, hb⟩; have hr1 := HRR.out.below hb HRRW.out; have c0 := hr1.cell 0; have c1 := hr1.cell 1; have c2 := hr1.cell 2; have f0 := hr1.frozen 0; have f1 := hr1.frozen 1; have f2 := hr1.frozen 2; have HB1 := Lib.hid (HB.out.trans (hb.mono HB.out.size)); have HR1 := Lib.hid hr1; clear hb hr1)
            have hrF := box_set HR1.out (.int .i64 2) (.int .i64 0) (.string (toB o))
            have hbF := box_below HB1.out (.int .i64 2) (.int .i64 0) (.string (toB o))
            generalize ((w1.setCell ⟨w.heap.size, 0, none⟩ (.int .i64 2)).setCell ⟨w.heap.size, 1, none⟩ (.int .i64 0)).setCell ⟨w.heap.size, 2, none⟩ (.string (toB o)) = wF at hrF hbF ⊢
            have d0 : wF.cell? ⟨w.heap.size, 0, none⟩ = some (.int .i64 2) := hrF.cell 0
            have d1 : wF.cell? ⟨w.heap.size, 1, none⟩ = some (.int .i64 0) := hrF.cell 1
            have d2 : wF.cell? ⟨w.heap.size, 2, none⟩ = some (.string (toB o)) := hrF.cell 2
            exact bodyPost_ret (v := .tuple #[vv ⟨2, 0, toB o⟩, .int .i64 0]) (by simp [results, Tryz.results132, go_sem, vv, d0, d1, d2]) rfl (VPost.ok ⟨2, 0, toB o⟩ (by rw [HP.out, HRS.out, show strEnd (some o) = if o.length ≤ 24 then some o else none from rfl, if_pos h24]; rfl) rfl hbF)
          · have HS1 : Hid (∀ W, Calls Tryz.prog 161 #[.string (toB o)] W fun e w' => (∃ k : Int, k ≠ 0 ∧ e = .returned (.tuple #[vv ⟨0, 0, ⟨#[]⟩⟩, .int .i64 k])) ∧ Below W.heap.size W w') := fun W => (HSO.out W).mono fun e w' h => ⟨h.2.1 (if_neg h24), h.2.2⟩
            clear HSO
            have HRRW := Lib.hid HRR.out.lt
            go_upto_region 11 with (fail)
            go_wp2_with (go_at_call 161; refine (HS1.out _).mono ?_; rintro e w1 ⟨⟨kk, hkk, rfl⟩, hb⟩; have hr1 := HRR.out.below hb HRRW.out; have c0 := hr1.cell 0; have c1 := hr1.cell 1; have c2 := hr1.cell 2; have f0 := hr1.frozen 0; have f1 := hr1.frozen 1; have f2 := hr1.frozen 2; have HB1 := Lib.hid (HB.out.trans (hb.mono HB.out.size)); have HR1 := Lib.hid hr1; have HKK := Lib.hid hkk; clear hb hr1 hkk)
            have hrF := box_set HR1.out (.int .i64 0) (.int .i64 0) (.string ⟨#[]⟩)
            have hbF := box_below HB1.out (.int .i64 0) (.int .i64 0) (.string ⟨#[]⟩)
            generalize ((w1.setCell ⟨w.heap.size, 0, none⟩ (.int .i64 0)).setCell ⟨w.heap.size, 1, none⟩ (.int .i64 0)).setCell ⟨w.heap.size, 2, none⟩ (.string ⟨#[]⟩) = wF at hrF hbF ⊢
            have d0 : wF.cell? ⟨w.heap.size, 0, none⟩ = some (.int .i64 0) := hrF.cell 0
            have d1 : wF.cell? ⟨w.heap.size, 1, none⟩ = some (.int .i64 0) := hrF.cell 1
            have d2 : wF.cell? ⟨w.heap.size, 2, none⟩ = some (.string ⟨#[]⟩) := hrF.cell 2
            exact bodyPost_ret (v := .tuple #[vv ⟨0, 0, ⟨#[]⟩⟩, .int .i64 kk]) (by simp [results, Tryz.results132, go_sem, vv, d0, d1, d2]) rfl (VPost.bad kk HKK.out (by rw [HP.out, HRS.out, show strEnd (some o) = if o.length ≤ 24 then some o else none from rfl, if_neg h24]; rfl) rfl hbF)
        · have HRN : Hid (R = none) := by
            show _ = _
            rw [hcons, if_neg]
            intro h
            have := List.drop_eq_nil_iff.1 h
            rw [size_len] at this
            omega
          have hw1 : IntKind.i64.wrap ((s.size : Int) - 1) = ((s.size - 1 : Nat) : Int) := by rw [IntWalk.i64_in _ (by omega)]; omega
          have hw2 : wrap64 ((s.size : Int) - 1) = ((s.size - 1 : Nat) : Int) := by unfold wrap64; omega
          have q2 : ((i : Int) != ((s.size - 1 : Nat) : Int)) = true := by rw [bne_iff_ne]; omega
          clear hdrop hcons hq HGO
          have c0 : wr.cell? ⟨w.heap.size, 0, none⟩ = some (.int .i64 0) := HRR.out.cell 0
          have c1 : wr.cell? ⟨w.heap.size, 1, none⟩ = some (.int .i64 0) := HRR.out.cell 1
          have c2 : wr.cell? ⟨w.heap.size, 2, none⟩ = some (.string ⟨#[]⟩) := HRR.out.cell 2
          have f0 := HRR.out.frozen 0
          have f1 := HRR.out.frozen 1
          have f2 := HRR.out.frozen 2
          go_wp2_with fail
          have hrF := box_set HRR.out (.int .i64 0) (.int .i64 0) (.string ⟨#[]⟩)
          have hbF := box_below HB.out (.int .i64 0) (.int .i64 0) (.string ⟨#[]⟩)
          generalize ((wr.setCell ⟨w.heap.size, 0, none⟩ (.int .i64 0)).setCell ⟨w.heap.size, 1, none⟩ (.int .i64 0)).setCell ⟨w.heap.size, 2, none⟩ (.string ⟨#[]⟩) = wF at hrF hbF ⊢
          have d0 : wF.cell? ⟨w.heap.size, 0, none⟩ = some (.int .i64 0) := hrF.cell 0
          have d1 : wF.cell? ⟨w.heap.size, 1, none⟩ = some (.int .i64 0) := hrF.cell 1
          have d2 : wF.cell? ⟨w.heap.size, 2, none⟩ = some (.string ⟨#[]⟩) := hrF.cell 2
          exact bodyPost_ret (v := .tuple #[vv ⟨0, 0, ⟨#[]⟩⟩, .int .i64 15]) (by simp [results, Tryz.results132, go_sem, vv, d0, d1, d2]) rfl (VPost.bad 15 (by decide) (by rw [HP.out, HRN.out]; rfl) rfl hbF)
      · have q1 : (((s[i]).toNat : Int) != 34) = true := by
          rw [bne_iff_ne]
          intro e
          exact hq (UInt8.toNat_inj.1 (by have : (s[i]).toNat = 34 := by omega
                                          rw [this]; rfl))
        have HU := Lib.hid (vUnquote_at s i hil (by omega) wr)
        have hul := unquoteL_lt (s.data.toList.drop i)
        have hdl : (s.data.toList.drop i).length = s.size - i := by rw [List.length_drop, size_len]
        rw [hdl] at hul
        obtain ⟨f', rfl⟩ : ∃ f', f = f' + 1 := ⟨f - 1, by omega⟩
        have HST : Hid (R = if (unquoteL (s.data.toList.drop i)).2 = 0 then none else strGo f' ((s.data.toList.drop i).drop (unquoteL (s.data.toList.drop i)).2) (o ++ [UInt8.ofNat (unquoteL (s.data.toList.drop i)).1])) := by
          show _ = _
          rw [← HGO.out, hdrop, strGo, if_neg hq]
        clear hdl hdrop HGO
        obtain ⟨n, hn⟩ : ∃ n, n = (unquoteL (s.data.toList.drop i)).2 := ⟨_, rfl⟩
        obtain ⟨cb, hcb⟩ : ∃ cb, cb = UInt8.ofNat (unquoteL (s.data.toList.drop i)).1 := ⟨_, rfl⟩
        rw [← hn, ← hcb] at HU
        rw [← hn, ← hcb] at HST
        rw [← hn] at hul
        have hnle := hul.2
        clear hn hcb hul hq
        by_cases hn0 : n = 0
        · subst hn0
          have HRN : Hid (R = none) := by show _ = _; rw [HST.out, if_pos rfl]
          clear HST
          go_upto_region 5 with (go_at_call 160; refine HU.out.mono ?_; rintro e w1 ⟨rfl, hw⟩; obtain rfl := hw.symm)
          have c0 : wr.cell? ⟨w.heap.size, 0, none⟩ = some (.int .i64 0) := HRR.out.cell 0
          have c1 : wr.cell? ⟨w.heap.size, 1, none⟩ = some (.int .i64 0) := HRR.out.cell 1
          have c2 : wr.cell? ⟨w.heap.size, 2, none⟩ = some (.string ⟨#[]⟩) := HRR.out.cell 2
          have f0 := HRR.out.frozen 0
          have f1 := HRR.out.frozen 1
          have f2 := HRR.out.frozen 2
          go_wp2_with fail
          have hrF := box_set HRR.out (.int .i64 0) (.int .i64 0) (.string ⟨#[]⟩)
          have hbF := box_below HB.out (.int .i64 0) (.int .i64 0) (.string ⟨#[]⟩)
          generalize ((wr.setCell ⟨w.heap.size, 0, none⟩ (.int .i64 0)).setCell ⟨w.heap.size, 1, none⟩ (.int .i64 0)).setCell ⟨w.heap.size, 2, none⟩ (.string ⟨#[]⟩) = wF at hrF hbF ⊢
          have d0 : wF.cell? ⟨w.heap.size, 0, none⟩ = some (.int .i64 0) := hrF.cell 0
          have d1 : wF.cell? ⟨w.heap.size, 1, none⟩ = some (.int .i64 0) := hrF.cell 1
          have d2 : wF.cell? ⟨w.heap.size, 2, none⟩ = some (.string ⟨#[]⟩) := hrF.cell 2
          exact bodyPost_ret (v := .tuple #[vv ⟨0, 0, ⟨#[]⟩⟩, .int .i64 15]) (by simp [results, Tryz.results132, go_sem, vv, d0, d1, d2]) rfl (VPost.bad 15 (by decide) (by rw [HP.out, HRN.out]; rfl) rfl hbF)
        · have q2 : ((n : Int) == 0) = false := by rw [beq_eq_false_iff_ne]; omega
          go_upto_region 7 with (go_at_call 160; refine HU.out.mono ?_; rintro e w1 ⟨rfl, hw⟩; obtain rfl := hw.symm)
          have hw1 : IntKind.i64.wrap ((i : Int) + (n : Int)) = ((i + n : Nat) : Int) := by rw [IntWalk.i64_in _ (by omega)]; omega
          have hw2 : wrap64 ((i : Int) + (n : Int)) = ((i + n : Nat) : Int) := by unfold wrap64; omega
          have HRD : Hid (strGo f' (s.data.toList.drop (i + n)) (o ++ [cb]) = R) := by
            show _ = _
            rw [HST.out, if_neg hn0, List.drop_drop]
          have HZ := Lib.hid (Nat.lt_of_lt_of_le (Nat.lt_succ_self _) (Nat.succ_le_of_lt HRR.out.lt))
          go_wp2_with (at_builtin; refine appBs rfl (.tmp 28) (.tmp 30) rfl (w.heap.size + 1) _ o rfl (HO.out.alloc _) wr.heap.size 1 [cb] rfl rfl (by decide) (Row.new wr 5 (Lib.byteCells [cb])) (by simp; omega) (by have := HRR.out.lt; simp; omega) ?_; intro gn cn wn hown3 hg3 hat3; have HOn := Lib.hid hown3; have HRn : Hid (Row wn w.heap.size 82 [.int .i64 0, .int .i64 0, .string ⟨#[]⟩]) := ((HRR.out.alloc _).grown hg3 (fun e => by have := own_base HO.out e.symm; omega)); have HBn : Hid (Below w.heap.size w wn) := ((HB.out.alloc HB.out.size _).grown hg3 (by have := HRR.out.lt; simp; omega) (fun j hj => by have := own_base HO.out hj; omega)); clear hown3 hg3 hat3)
          go_roundw
          case rel => exact ⟨i + n, f', o ++ [cb], some ⟨gn, 0, none⟩, cn, by omega, by omega, by omega, by go_num, HRD.out, by simp; omega, by simp, by have h := HOn.out; simp only [List.length_append, List.length_cons, List.length_nil, Nat.zero_add] at h; exact h, HRn.out, HBn.out⟩
          case measure => simp [intOf]; omega
    · obtain rfl : i = s.size := by omega
      have g1 : ¬ (s.size : Int) < (s.size : Int) := by omega
      have HRN : Hid (R = none) := by
        show _ = _
        obtain ⟨f', rfl⟩ : ∃ f', f = f' + 1 := ⟨f - 1, by omega⟩
        rw [← HGO.out, show s.data.toList.drop s.size = [] from List.drop_eq_nil_iff.2 (by rw [size_len]; exact Nat.le_refl _), strGo]
      have hw1 : IntKind.i64.wrap ((s.size : Int) - 1) = ((s.size - 1 : Nat) : Int) := by rw [IntWalk.i64_in _ (by omega)]; omega
      have hw2 : wrap64 ((s.size : Int) - 1) = ((s.size - 1 : Nat) : Int) := by unfold wrap64; omega
      have q2 : ((s.size : Int) != ((s.size - 1 : Nat) : Int)) = true := by rw [bne_iff_ne]; omega
      clear HGO
      have c0 : wr.cell? ⟨w.heap.size, 0, none⟩ = some (.int .i64 0) := HRR.out.cell 0
      have c1 : wr.cell? ⟨w.heap.size, 1, none⟩ = some (.int .i64 0) := HRR.out.cell 1
      have c2 : wr.cell? ⟨w.heap.size, 2, none⟩ = some (.string ⟨#[]⟩) := HRR.out.cell 2
      have f0 := HRR.out.frozen 0
      have f1 := HRR.out.frozen 1
      have f2 := HRR.out.frozen 2
      go_wp2_with fail
      have hrF := box_set HRR.out (.int .i64 0) (.int .i64 0) (.string ⟨#[]⟩)
      have hbF := box_below HB.out (.int .i64 0) (.int .i64 0) (.string ⟨#[]⟩)
      generalize ((wr.setCell ⟨w.heap.size, 0, none⟩ (.int .i64 0)).setCell ⟨w.heap.size, 1, none⟩ (.int .i64 0)).setCell ⟨w.heap.size, 2, none⟩ (.string ⟨#[]⟩) = wF at hrF hbF ⊢
      have d0 : wF.cell? ⟨w.heap.size, 0, none⟩ = some (.int .i64 0) := hrF.cell 0
      have d1 : wF.cell? ⟨w.heap.size, 1, none⟩ = some (.int .i64 0) := hrF.cell 1
      have d2 : wF.cell? ⟨w.heap.size, 2, none⟩ = some (.string ⟨#[]⟩) := hrF.cell 2
      exact bodyPost_ret (v := .tuple #[vv ⟨0, 0, ⟨#[]⟩⟩, .int .i64 15]) (by simp [results, Tryz.results132, go_sem, vv, d0, d1, d2]) rfl (VPost.bad 15 (by decide) (by rw [HP.out, HRN.out]; rfl) rfl hbF)
end
section
open Go.RowKit Go.Sort

theorem sTrimPrefix_any (s p : ByteArray) (w : World) : Calls Tryz.prog 162 #[.string s, .string p] w fun e w' => e = .returned (.string (toB (Lib.trimPrefix s.data.toList p.data.toList))) ∧ w' = w :=
  Any.strings_TrimPrefix YtdadchpiibipoaaGreatDoor.lTrimPrefix s p w
theorem parseUintM_dig (M : Nat) : ∀ (l : List UInt8) (acc : Nat), l.all isDig = true → Lib.parseUintM M acc l ≠ Lib.NumEnd.syntax
  | [], acc, _ => by unfold Lib.parseUintM; intro h; cases h
  | c :: t, acc, h => by
    rw [List.all_cons, Bool.and_eq_true] at h
    unfold isDig at h
    simp only [Bool.and_eq_true, decide_eq_true_eq] at h
    unfold Lib.parseUintM
    rw [if_pos h.1]
    split
    · intro h; cases h
    · split
      · intro h; cases h
      · exact parseUintM_dig M t _ h.2
theorem parseIntB_dig {l : List UInt8} (h1 : Lib.trimPrefix l [45] ≠ []) (h2 : (Lib.trimPrefix l [45]).all isDig = true) : Lib.parseIntB 64 l ≠ Lib.NumEnd.syntax := by
  match l with
  | [] => exact absurd rfl h1
  | c :: r =>
    have hcase : (c = 45 ∧ Lib.trimPrefix (c :: r) [45] = r) ∨ (c ≠ 45 ∧ Lib.trimPrefix (c :: r) [45] = c :: r) := by
      unfold Lib.trimPrefix Lib.hasPrefix
      by_cases hc : c = 45
      · left
        refine ⟨hc, ?_⟩
        subst hc
        simp
      · right
        refine ⟨hc, ?_⟩
        have : ([45].isPrefixOf (c :: r)) = false := by simp [List.isPrefixOf]; exact fun h => absurd h.symm hc
        rw [this]
        simp
    unfold Lib.parseIntB
    simp only
    rcases hcase with ⟨hc, e⟩ | ⟨hc, e⟩
    · rw [e] at h1 h2
      subst hc
      rw [if_pos (by decide)]
      have hu : Lib.parseUintB 64 r ≠ Lib.NumEnd.syntax := by
        unfold Lib.parseUintB
        rw [if_neg h1]
        exact parseUintM_dig _ _ _ h2
      split
      · rename_i h; exact absurd h hu
      · intro h; cases h
      · split
        · intro h; cases h
        · split <;> (intro h; cases h)
    · rw [e] at h1 h2
      have hd : isDig c = true := by rw [List.all_cons, Bool.and_eq_true] at h2; exact h2.1
      unfold isDig at hd
      simp only [Bool.and_eq_true, decide_eq_true_eq] at hd
      rw [if_neg (by omega)]
      have hu : Lib.parseUintB 64 (c :: r) ≠ Lib.NumEnd.syntax := by
        unfold Lib.parseUintB
        rw [if_neg h1]
        exact parseUintM_dig _ _ _ h2
      split
      · rename_i h; exact absurd h hu
      · intro h; cases h
      · split
        · intro h; cases h
        · split <;> (intro h; cases h)

set_option maxHeartbeats 8000000 in
theorem vParseInt_any (s : ByteArray) (h1 : 1 ≤ s.size) (hs : s.size ≤ 1000000) (w : World) (hT : Tabs w) : Calls Tryz.prog 133 #[.string s] w (VPost ((intP s.data.toList).map fun n => ⟨1, n, ⟨#[]⟩⟩) w) := by
  have HTP := Lib.hid (fun (W : World) => sTrimPrefix_any s ⟨#[45]⟩ W)
  obtain ⟨d, hd⟩ : ∃ d, d = Lib.trimPrefix s.data.toList [45] := ⟨_, rfl⟩
  change Hid (∀ W, Calls Tryz.prog 162 #[.string s, .string ⟨#[45]⟩] W fun e w' => e = .returned (.string (toB (Lib.trimPrefix s.data.toList [45]))) ∧ w' = W) at HTP
  rw [← hd] at HTP
  have hdl : d.length ≤ 1000000 := by
    have := Lib.trimPrefix_le s.data.toList [45]
    rw [size_len] at this
    rw [hd]; omega
  have HIP : Hid (intP s.data.toList = if d = [] ∨ (d.getD 0 0 = 48 ∧ s.data.toList ≠ [48]) then none else if d.all isDig = false then none else okInt (Lib.parseIntB 64 s.data.toList)) := by
    show _ = _
    unfold intP
    rw [← hd]
  have HSY : Hid (d ≠ [] → d.all isDig = true → Lib.parseIntB 64 s.data.toList ≠ Lib.NumEnd.syntax) := by rw [hd]; exact parseIntB_dig
  clear hd
  obtain ⟨W1, hW1⟩ : ∃ W1, W1 = w.alloc (.cells #[.int .i64 0, .int .i64 0, .string ⟨#[]⟩] 82) := ⟨_, rfl⟩
  have HB : Hid (Below w.heap.size w W1) := by rw [hW1]; exact ((Ext.refl w).alloc _).below
  have HRR : Hid (Row W1 w.heap.size 82 [.int .i64 0, .int .i64 0, .string ⟨#[]⟩]) := by rw [hW1]; exact Row.new w 82 [.int .i64 0, .int .i64 0, .string ⟨#[]⟩]
  have HT1 := Lib.hid (hT.up HB.out)
  have hDs : (toB d).size = d.length := rfl
  have hDl : (toB d).toList = d := by rw [ByteArray.toList_eq]; rfl
  have hsl : s.toList = s.data.toList := ByteArray.toList_eq s
  have HDS := Lib.hid hDs
  clear hT
  by_cases h0 : d = []
  · have k0 : (toB d).toList.isEmpty = true := by rw [hDl, h0]; rfl
    have HNO : Hid (intP s.data.toList = none) := by show _ = _; rw [HIP.out, if_pos (Or.inl h0)]
    clear HIP HSY h0 hDl hsl
    go_enter Tryz.func133, Tryz.ntmps133
    go_upto_region 1 with (fail)
    rw [← hW1]
    clear hW1
    go_upto_region 3 with (go_at_call 162; refine (HTP.out _).mono ?_; rintro e w' ⟨rfl, hw⟩; obtain rfl := hw.symm)
    have c0 : W1.cell? ⟨w.heap.size, 0, none⟩ = some (.int .i64 0) := HRR.out.cell 0
    have c1 : W1.cell? ⟨w.heap.size, 1, none⟩ = some (.int .i64 0) := HRR.out.cell 1
    have c2 : W1.cell? ⟨w.heap.size, 2, none⟩ = some (.string ⟨#[]⟩) := HRR.out.cell 2
    have f0 := HRR.out.frozen 0
    have f1 := HRR.out.frozen 1
    have f2 := HRR.out.frozen 2
    go_wp2_with fail
    have hrF := box_set HRR.out (.int .i64 0) (.int .i64 0) (.string ⟨#[]⟩)
    have hbF := box_below HB.out (.int .i64 0) (.int .i64 0) (.string ⟨#[]⟩)
    generalize ((W1.setCell ⟨w.heap.size, 0, none⟩ (.int .i64 0)).setCell ⟨w.heap.size, 1, none⟩ (.int .i64 0)).setCell ⟨w.heap.size, 2, none⟩ (.string ⟨#[]⟩) = wF at hrF hbF ⊢
    have d0 : wF.cell? ⟨w.heap.size, 0, none⟩ = some (.int .i64 0) := hrF.cell 0
    have d1 : wF.cell? ⟨w.heap.size, 1, none⟩ = some (.int .i64 0) := hrF.cell 1
    have d2 : wF.cell? ⟨w.heap.size, 2, none⟩ = some (.string ⟨#[]⟩) := hrF.cell 2
    exact bodyPost_ret (v := .tuple #[vv ⟨0, 0, ⟨#[]⟩⟩, .int .i64 15]) (by simp [results, Tryz.results133, go_sem, vv, d0, d1, d2]) rfl (VPost.bad 15 (by decide) (by rw [HNO.out]; rfl) rfl hbF)
  have k0 : (toB d).toList.isEmpty = false := by rw [hDl]; cases d with | nil => exact absurd rfl h0 | cons a t => rfl
  have hpos : 0 < d.length := List.length_pos_iff.2 h0
  have g0 : (0 : Int) < ((toB d).size : Int) := by rw [hDs]; omega
  have hd0 : (toB d)[0]'(by rw [hDs]; exact hpos) = d.getD 0 0 := by
    have := byteD_at (s := toB d) (k := 0) (by rw [hDs]; exact hpos)
    exact this.symm
  have hb0 : ∀ (b : Bool), decide (d.getD 0 0 = 48) = b → ((((toB d)[0]'(by rw [hDs]; exact hpos)).toNat : Int) == 48) = b := fun b hb => by
    rw [hd0, ← hb]
    by_cases h : d.getD 0 0 = 48
    · rw [decide_eq_true h, h]; rfl
    · rw [decide_eq_false h, beq_eq_false_iff_ne]
      intro e
      exact h (UInt8.toNat_inj.1 (by have e2 : (d.getD 0 0).toNat = 48 := by omega
                                     rw [e2]; rfl))
  by_cases hz : d.getD 0 0 = 48 ∧ s.data.toList ≠ [48]
  · have k1 := hb0 true (decide_eq_true hz.1)
    have k2 : (s.toList == [48]) = false := by rw [hsl, beq_eq_false_iff_ne]; exact hz.2
    have HNO : Hid (intP s.data.toList = none) := by show _ = _; rw [HIP.out, if_pos (Or.inr hz)]
    clear HIP HSY h0 hDl hsl hd0 hb0 hz
    go_enter Tryz.func133, Tryz.ntmps133
    go_upto_region 1 with (fail)
    rw [← hW1]
    clear hW1
    go_upto_region 3 with (go_at_call 162; refine (HTP.out _).mono ?_; rintro e w' ⟨rfl, hw⟩; obtain rfl := hw.symm)
    have c0 : W1.cell? ⟨w.heap.size, 0, none⟩ = some (.int .i64 0) := HRR.out.cell 0
    have c1 : W1.cell? ⟨w.heap.size, 1, none⟩ = some (.int .i64 0) := HRR.out.cell 1
    have c2 : W1.cell? ⟨w.heap.size, 2, none⟩ = some (.string ⟨#[]⟩) := HRR.out.cell 2
    have f0 := HRR.out.frozen 0
    have f1 := HRR.out.frozen 1
    have f2 := HRR.out.frozen 2
    go_wp2_with fail
    have hrF := box_set HRR.out (.int .i64 0) (.int .i64 0) (.string ⟨#[]⟩)
    have hbF := box_below HB.out (.int .i64 0) (.int .i64 0) (.string ⟨#[]⟩)
    generalize ((W1.setCell ⟨w.heap.size, 0, none⟩ (.int .i64 0)).setCell ⟨w.heap.size, 1, none⟩ (.int .i64 0)).setCell ⟨w.heap.size, 2, none⟩ (.string ⟨#[]⟩) = wF at hrF hbF ⊢
    have d0 : wF.cell? ⟨w.heap.size, 0, none⟩ = some (.int .i64 0) := hrF.cell 0
    have d1 : wF.cell? ⟨w.heap.size, 1, none⟩ = some (.int .i64 0) := hrF.cell 1
    have d2 : wF.cell? ⟨w.heap.size, 2, none⟩ = some (.string ⟨#[]⟩) := hrF.cell 2
    exact bodyPost_ret (v := .tuple #[vv ⟨0, 0, ⟨#[]⟩⟩, .int .i64 15]) (by simp [results, Tryz.results133, go_sem, vv, d0, d1, d2]) rfl (VPost.bad 15 (by decide) (by rw [HNO.out]; rfl) rfl hbF)
  have hC : (((((toB d)[0]'(by rw [hDs]; exact hpos)).toNat : Int) == 48) = false ∧ True) ∨ (((((toB d)[0]'(by rw [hDs]; exact hpos)).toNat : Int) == 48) = true ∧ (s.toList == [48]) = true) := by
    by_cases h : d.getD 0 0 = 48
    · exact Or.inr ⟨hb0 true (decide_eq_true h), by rw [hsl]; exact beq_iff_eq.2 (Classical.byContradiction fun hn => hz ⟨h, hn⟩)⟩
    · exact Or.inl ⟨hb0 false (decide_eq_false h), trivial⟩
  have HIP2 : Hid (intP s.data.toList = if d.all isDig = false then none else okInt (Lib.parseIntB 64 s.data.toList)) := by
    show _ = _
    rw [HIP.out, if_neg (not_or.2 ⟨h0, hz⟩)]
  have HSY2 := Lib.hid (HSY.out h0)
  clear HIP HSY h0 hDl hsl hd0 hb0 hz
  go_enter Tryz.func133, Tryz.ntmps133
  go_upto_region 1 with (fail)
  rw [← hW1]
  clear hW1
  rcases hC with ⟨k1, k2⟩ | ⟨k1, k2⟩ <;> (
    go_upto_region 5 with (go_at_call 162; refine (HTP.out _).mono ?_; rintro e w' ⟨rfl, hw⟩; obtain rfl := hw.symm)
    clear k0 k1 k2 g0
    go_loopw [24] (fun c wx => ∃ k : Nat, k ≤ d.length ∧ c = .int .i64 k ∧ (d.take k).all isDig = true ∧ wx = W1) (fun c _ => d.length - (intOf c).toNat)
    case atStart => exact ⟨0, Nat.zero_le _, rfl, rfl, rfl⟩
    case round =>
      obtain ⟨k, hk, rfl, hall, rfl⟩ := hrel
      have HALL := Lib.hid hall
      clear hall
      by_cases hkl : k < d.length
      · have g1 : (0 : Int) ≤ (k : Int) := by omega
        have g2 : (k : Int) < ((toB d).size : Int) := by rw [HDS.out]; omega
        have hw1 : IntKind.i64.wrap ((k : Int) + 1) = ((k + 1 : Nat) : Int) := by rw [IntWalk.i64_in _ (by omega)]; omega
        have hks : k < (toB d).size := by rw [HDS.out]; exact hkl
        have HTK : Hid (∀ b, isDig ((toB d)[k]'hks) = b → (d.take (k + 1)).all isDig = b) := fun b hb => by
          rw [List.take_succ_eq_append_getElem hkl, List.all_append, HALL.out, Bool.true_and, List.all_cons, List.all_nil, Bool.and_true]
          exact hb
        by_cases hlo : ((toB d)[k]'hks).toNat < 48
        · have m1 : decide ((((toB d)[k]'hks).toNat : Int) < 48) = true := decide_eq_true (by omega)
          have HNO : Hid (intP s.data.toList = none) := by
            show _ = _
            have h1 := HTK.out false (by unfold isDig; rw [decide_eq_false (by omega)]; rfl)
            have h2 : d.all isDig = false := by
              cases hd : d.all isDig
              · rfl
              · rw [List.all_eq_true] at hd
                rw [List.all_eq_false] at h1
                obtain ⟨x, hx, hx2⟩ := h1
                exact absurd (hd x (List.mem_of_mem_take hx)) hx2
            rw [HIP2.out, if_pos h2]
          clear hlo HTK
          have c0 : wr.cell? ⟨w.heap.size, 0, none⟩ = some (.int .i64 0) := HRR.out.cell 0
          have c1 : wr.cell? ⟨w.heap.size, 1, none⟩ = some (.int .i64 0) := HRR.out.cell 1
          have c2 : wr.cell? ⟨w.heap.size, 2, none⟩ = some (.string ⟨#[]⟩) := HRR.out.cell 2
          have f0 := HRR.out.frozen 0
          have f1 := HRR.out.frozen 1
          have f2 := HRR.out.frozen 2
          go_wp2_with fail
          have hrF := box_set HRR.out (.int .i64 0) (.int .i64 0) (.string ⟨#[]⟩)
          have hbF := box_below HB.out (.int .i64 0) (.int .i64 0) (.string ⟨#[]⟩)
          generalize ((wr.setCell ⟨w.heap.size, 0, none⟩ (.int .i64 0)).setCell ⟨w.heap.size, 1, none⟩ (.int .i64 0)).setCell ⟨w.heap.size, 2, none⟩ (.string ⟨#[]⟩) = wF at hrF hbF ⊢
          have d0 : wF.cell? ⟨w.heap.size, 0, none⟩ = some (.int .i64 0) := hrF.cell 0
          have d1 : wF.cell? ⟨w.heap.size, 1, none⟩ = some (.int .i64 0) := hrF.cell 1
          have d2 : wF.cell? ⟨w.heap.size, 2, none⟩ = some (.string ⟨#[]⟩) := hrF.cell 2
          exact bodyPost_ret (v := .tuple #[vv ⟨0, 0, ⟨#[]⟩⟩, .int .i64 15]) (by simp [results, Tryz.results133, go_sem, vv, d0, d1, d2]) rfl (VPost.bad 15 (by decide) (by rw [HNO.out]; rfl) rfl hbF)
        by_cases hhi : 57 < ((toB d)[k]'hks).toNat
        · have m1 : decide ((((toB d)[k]'hks).toNat : Int) < 48) = false := decide_eq_false (by omega)
          have m2 : decide ((57 : Int) < (((toB d)[k]'hks).toNat : Int)) = true := decide_eq_true (by omega)
          have HNO : Hid (intP s.data.toList = none) := by
            show _ = _
            have h1 := HTK.out false (by unfold isDig; rw [decide_eq_false (p := _ ≤ 57) (by omega), Bool.and_false])
            have h2 : d.all isDig = false := by
              cases hd : d.all isDig
              · rfl
              · rw [List.all_eq_true] at hd
                rw [List.all_eq_false] at h1
                obtain ⟨x, hx, hx2⟩ := h1
                exact absurd (hd x (List.mem_of_mem_take hx)) hx2
            rw [HIP2.out, if_pos h2]
          clear hlo hhi HTK
          have c0 : wr.cell? ⟨w.heap.size, 0, none⟩ = some (.int .i64 0) := HRR.out.cell 0
          have c1 : wr.cell? ⟨w.heap.size, 1, none⟩ = some (.int .i64 0) := HRR.out.cell 1
          have c2 : wr.cell? ⟨w.heap.size, 2, none⟩ = some (.string ⟨#[]⟩) := HRR.out.cell 2
          have f0 := HRR.out.frozen 0
          have f1 := HRR.out.frozen 1
          have f2 := HRR.out.frozen 2
          go_wp2_with fail
          have hrF := box_set HRR.out (.int .i64 0) (.int .i64 0) (.string ⟨#[]⟩)
          have hbF := box_below HB.out (.int .i64 0) (.int .i64 0) (.string ⟨#[]⟩)
          generalize ((wr.setCell ⟨w.heap.size, 0, none⟩ (.int .i64 0)).setCell ⟨w.heap.size, 1, none⟩ (.int .i64 0)).setCell ⟨w.heap.size, 2, none⟩ (.string ⟨#[]⟩) = wF at hrF hbF ⊢
          have d0 : wF.cell? ⟨w.heap.size, 0, none⟩ = some (.int .i64 0) := hrF.cell 0
          have d1 : wF.cell? ⟨w.heap.size, 1, none⟩ = some (.int .i64 0) := hrF.cell 1
          have d2 : wF.cell? ⟨w.heap.size, 2, none⟩ = some (.string ⟨#[]⟩) := hrF.cell 2
          exact bodyPost_ret (v := .tuple #[vv ⟨0, 0, ⟨#[]⟩⟩, .int .i64 15]) (by simp [results, Tryz.results133, go_sem, vv, d0, d1, d2]) rfl (VPost.bad 15 (by decide) (by rw [HNO.out]; rfl) rfl hbF)
        have m1 : decide ((((toB d)[k]'hks).toNat : Int) < 48) = false := decide_eq_false (by omega)
        have m2 : decide ((57 : Int) < (((toB d)[k]'hks).toNat : Int)) = false := decide_eq_false (by omega)
        have HAL2 := Lib.hid (HTK.out true (by unfold isDig; rw [decide_eq_true (by omega), decide_eq_true (by omega)]; rfl))
        clear hlo hhi HTK
        go_wp2_with fail
        go_roundw
        case rel => exact ⟨k + 1, hkl, by go_num, HAL2.out, by first | rfl | trivial⟩
        case measure => simp [intOf]; omega
      · obtain rfl : k = d.length := by omega
        have g2 : ¬ (d.length : Int) < ((toB d).size : Int) := by rw [HDS.out]; omega
        have hall := HALL.out
        rw [List.take_length] at hall
        have HIP3 : Hid (intP s.data.toList = okInt (Lib.parseIntB 64 s.data.toList)) := by show _ = _; rw [HIP2.out, if_neg (by rw [hall]; simp)]
        have hsy := HSY2.out hall
        clear hall HALL HIP2 HSY2
        rcases hpi : Lib.parseIntB 64 s.data.toList with v | _ | _
        · have HOK : Hid (intP s.data.toList = some v) := by show _ = _; rw [HIP3.out, hpi]; rfl
          have HPI : Hid (Calls Tryz.prog 163 #[.string s, .int .i64 10, .int .i64 64] wr fun e w' => e = .returned (.tuple #[.int .i64 v, .nilIface]) ∧ Below wr.heap.size wr w') := by
            refine Calls.mono (Any.strconv_ParseInt_10_at64_ok YtdadchpiibipoaaGreatDoor.lParseInt s (by omega) v hpi wr) fun e w' h => ⟨h.1, ?_⟩
            rcases h.2 with h | ⟨t, h⟩
            · rw [h]; exact Below.refl _ _
            · rw [h]; exact Lib.bytesWorld_below _ _ _
          clear hsy hpi HIP3
          have HRW := Lib.hid HRR.out.lt
          go_wp2_with (first
            | (go_at_call 163; refine HPI.out.mono ?_; rintro e w2 ⟨rfl, hb2⟩; have HB2 := Lib.hid (HB.out.trans (hb2.mono HB.out.size)); have HR2 := Lib.hid (HRR.out.below hb2 HRW.out); have HW2 := Lib.hid HR2.out.lt; clear hb2)
            | (go_at_call 164; refine (vInt_any v _).mono ?_; rintro e w3 ⟨rfl, hb3⟩; have hr3 := HR2.out.below hb3 HW2.out; have c0 := hr3.cell 0; have c1 := hr3.cell 1; have c2 := hr3.cell 2; have f0 := hr3.frozen 0; have f1 := hr3.frozen 1; have f2 := hr3.frozen 2; have HB3 := Lib.hid (HB2.out.trans (hb3.mono HB2.out.size)); have HR3 := Lib.hid hr3; clear hb3 hr3))
          have hrF := box_set HR3.out (.int .i64 1) (.int .i64 v) (.string ⟨#[]⟩)
          have hbF := box_below HB3.out (.int .i64 1) (.int .i64 v) (.string ⟨#[]⟩)
          generalize ((w3.setCell ⟨w.heap.size, 0, none⟩ (.int .i64 1)).setCell ⟨w.heap.size, 1, none⟩ (.int .i64 v)).setCell ⟨w.heap.size, 2, none⟩ (.string ⟨#[]⟩) = wF at hrF hbF ⊢
          have d0 : wF.cell? ⟨w.heap.size, 0, none⟩ = some (.int .i64 1) := hrF.cell 0
          have d1 : wF.cell? ⟨w.heap.size, 1, none⟩ = some (.int .i64 v) := hrF.cell 1
          have d2 : wF.cell? ⟨w.heap.size, 2, none⟩ = some (.string ⟨#[]⟩) := hrF.cell 2
          exact bodyPost_ret (v := .tuple #[vv ⟨1, v, ⟨#[]⟩⟩, .int .i64 0]) (by simp [results, Tryz.results133, go_sem, vv, d0, d1, d2]) rfl (VPost.ok ⟨1, v, ⟨#[]⟩⟩ (by rw [HOK.out]; rfl) rfl hbF)
        · exact absurd hpi hsy
        · have HNO : Hid (intP s.data.toList = none) := by show _ = _; rw [HIP3.out, hpi]; rfl
          obtain ⟨ev, hev1, hev2⟩ := HT1.out.rng
          have HPI := Lib.hid (Any.strconv_ParseInt_10_at64_range YtdadchpiibipoaaGreatDoor.lParseInt s (by omega) hpi ev wr hev1 hev2)
          change Hid (Calls Tryz.prog 163 _ _ _) at HPI
          clear hsy hpi HIP3 hev1 hev2
          have HRW := Lib.hid HRR.out.lt
          go_wp2_with (go_at_call 163; refine HPI.out.mono ?_; rintro e w2 ⟨gN, rfl, -, -, hb2⟩; have HB2 := Lib.hid (HB.out.trans (hb2.mono HB.out.size)); have hr2 := HRR.out.below hb2 HRW.out; have c0 := hr2.cell 0; have c1 := hr2.cell 1; have c2 := hr2.cell 2; have f0 := hr2.frozen 0; have f1 := hr2.frozen 1; have f2 := hr2.frozen 2; have HR2 := Lib.hid hr2; clear hb2 hr2)
          have hrF := box_set HR2.out (.int .i64 0) (.int .i64 0) (.string ⟨#[]⟩)
          have hbF := box_below HB2.out (.int .i64 0) (.int .i64 0) (.string ⟨#[]⟩)
          generalize ((w2.setCell ⟨w.heap.size, 0, none⟩ (.int .i64 0)).setCell ⟨w.heap.size, 1, none⟩ (.int .i64 0)).setCell ⟨w.heap.size, 2, none⟩ (.string ⟨#[]⟩) = wF at hrF hbF ⊢
          have d0 : wF.cell? ⟨w.heap.size, 0, none⟩ = some (.int .i64 0) := hrF.cell 0
          have d1 : wF.cell? ⟨w.heap.size, 1, none⟩ = some (.int .i64 0) := hrF.cell 1
          have d2 : wF.cell? ⟨w.heap.size, 2, none⟩ = some (.string ⟨#[]⟩) := hrF.cell 2
          exact bodyPost_ret (v := .tuple #[vv ⟨0, 0, ⟨#[]⟩⟩, .int .i64 3]) (by simp [results, Tryz.results133, go_sem, vv, d0, d1, d2]) rfl (VPost.bad 3 (by decide) (by rw [HNO.out]; rfl) rfl hbF))
end
section
open Go.RowKit Go.Sort

theorem parseV_str {l : List UInt8} (h0 : l ≠ []) (h : l.getD 0 0 = 34) : parseV l = (strP l).map fun o => ⟨2, 0, toB o⟩ := by
  unfold parseV
  rw [if_neg h0, if_pos h]
  rfl
theorem parseV_int {l : List UInt8} (h0 : l ≠ []) (h : l.getD 0 0 ≠ 34) : parseV l = (intP l).map fun n => ⟨1, n, ⟨#[]⟩⟩ := by
  unfold parseV
  rw [if_neg h0, if_neg h]

set_option maxHeartbeats 4000000 in
theorem vParse_any (s : ByteArray) (hs : s.size ≤ 1000000) (w : World) (hT : Tabs w) : Calls Tryz.prog 109 #[.string s] w (VPost (parseV s.data.toList) w) := by
  have hsl : s.toList = s.data.toList := ByteArray.toList_eq s
  obtain ⟨W1, hW1⟩ : ∃ W1, W1 = w.alloc (.cells #[.int .i64 0, .int .i64 0, .string ⟨#[]⟩] 82) := ⟨_, rfl⟩
  have HB : Hid (Below w.heap.size w W1) := by rw [hW1]; exact ((Ext.refl w).alloc _).below
  have HRR : Hid (Row W1 w.heap.size 82 [.int .i64 0, .int .i64 0, .string ⟨#[]⟩]) := by rw [hW1]; exact Row.new w 82 [.int .i64 0, .int .i64 0, .string ⟨#[]⟩]
  have HT1 := Lib.hid (hT.up HB.out)
  have HRW := Lib.hid HRR.out.lt
  clear hT
  by_cases h0 : s.size = 0
  · have k0 : s.toList.isEmpty = true := by rw [isEmpty_size, h0]; rfl
    have HNO : Hid (parseV s.data.toList = none) := by
      show _ = _
      have : s.data.toList = [] := List.eq_nil_of_length_eq_zero (by rw [size_len]; exact h0)
      rw [this]
      rfl
    clear h0 hsl
    go_enter Tryz.func109, Tryz.ntmps109
    go_upto_region 1 with (fail)
    rw [← hW1]
    clear hW1
    have c0 : W1.cell? ⟨w.heap.size, 0, none⟩ = some (.int .i64 0) := HRR.out.cell 0
    have c1 : W1.cell? ⟨w.heap.size, 1, none⟩ = some (.int .i64 0) := HRR.out.cell 1
    have c2 : W1.cell? ⟨w.heap.size, 2, none⟩ = some (.string ⟨#[]⟩) := HRR.out.cell 2
    have f0 := HRR.out.frozen 0
    have f1 := HRR.out.frozen 1
    have f2 := HRR.out.frozen 2
    go_wp2_with fail
    have hrF := box_set HRR.out (.int .i64 0) (.int .i64 0) (.string ⟨#[]⟩)
    have hbF := box_below HB.out (.int .i64 0) (.int .i64 0) (.string ⟨#[]⟩)
    generalize ((W1.setCell ⟨w.heap.size, 0, none⟩ (.int .i64 0)).setCell ⟨w.heap.size, 1, none⟩ (.int .i64 0)).setCell ⟨w.heap.size, 2, none⟩ (.string ⟨#[]⟩) = wF at hrF hbF ⊢
    have d0 : wF.cell? ⟨w.heap.size, 0, none⟩ = some (.int .i64 0) := hrF.cell 0
    have d1 : wF.cell? ⟨w.heap.size, 1, none⟩ = some (.int .i64 0) := hrF.cell 1
    have d2 : wF.cell? ⟨w.heap.size, 2, none⟩ = some (.string ⟨#[]⟩) := hrF.cell 2
    exact bodyPost_ret (v := .tuple #[vv ⟨0, 0, ⟨#[]⟩⟩, .int .i64 10]) (by simp [results, Tryz.results109, go_sem, vv, d0, d1, d2]) rfl (VPost.bad 10 (by decide) HNO.out rfl hbF)
  have k0 : s.toList.isEmpty = false := by rw [isEmpty_size, decide_eq_false h0]
  have hpos : 0 < s.size := by omega
  have g0 : (0 : Int) < (s.size : Int) := by omega
  have hne : s.data.toList ≠ [] := fun h => h0 (by rw [← size_len, h]; rfl)
  have hd0 : s.data.toList.getD 0 0 = s[0]'hpos := byteD_at hpos
  have HQ1 : Hid ((((s[0]'hpos).toNat : Int) == 34) = true → parseV s.data.toList = (strP s.data.toList).map fun o => ⟨2, 0, toB o⟩) := fun h =>
    parseV_str hne (by rw [hd0]; exact UInt8.toNat_inj.1 (by have := beq_iff_eq.1 h; have e2 : (s[0]'hpos).toNat = 34 := by omega
                                                             rw [e2]; rfl))
  have HQ2 : Hid ((((s[0]'hpos).toNat : Int) == 34) = false → parseV s.data.toList = (intP s.data.toList).map fun n => ⟨1, n, ⟨#[]⟩⟩) := fun h =>
    parseV_int hne (by rw [hd0]; intro e1; rw [e1] at h; exact absurd h (by decide))
  have HPS := Lib.hid (vParseStr_any s hpos hs W1)
  have HPI := Lib.hid (vParseInt_any s hpos hs W1 HT1.out)
  clear hsl hd0 hne h0
  cases hq : (((s[0]'hpos).toNat : Int) == 34)
  · have HR := Lib.hid (HQ2.out hq)
    have HP := HPI
    clear HPS HPI HQ1 HQ2
    generalize (Option.map (fun n => (⟨1, n, ⟨#[]⟩⟩ : RL.V)) (intP s.data.toList)) = r at HR HP
    rcases r with _ | ⟨vk, vi, vt⟩
    · have HP1 : Hid (Calls Tryz.prog 133 #[.string s] W1 fun e w' => (∃ k : Int, k ≠ 0 ∧ e = .returned (.tuple #[vv ⟨0, 0, ⟨#[]⟩⟩, .int .i64 k])) ∧ Below W1.heap.size W1 w') := HP.out.mono fun e w' h => ⟨h.2.1 rfl, h.2.2⟩
      clear HP
      go_enter Tryz.func109, Tryz.ntmps109
      go_upto_region 1 with (fail)
      rw [← hW1]
      clear hW1
      go_wp2_with (go_at_call 133; refine HP1.out.mono ?_; rintro e w2 ⟨⟨kk, hkk, rfl⟩, hb⟩; have hr2 := HRR.out.below hb HRW.out; have c0 := hr2.cell 0; have c1 := hr2.cell 1; have c2 := hr2.cell 2; have f0 := hr2.frozen 0; have f1 := hr2.frozen 1; have f2 := hr2.frozen 2; have HB2 := Lib.hid (HB.out.trans (hb.mono HB.out.size)); have HR2 := Lib.hid hr2; have HKK := Lib.hid hkk; clear hkk; clear hb hr2)
      have hrF := box_set HR2.out (.int .i64 0) (.int .i64 0) (.string ⟨#[]⟩)
      have hbF := box_below HB2.out (.int .i64 0) (.int .i64 0) (.string ⟨#[]⟩)
      generalize ((w2.setCell ⟨w.heap.size, 0, none⟩ (.int .i64 0)).setCell ⟨w.heap.size, 1, none⟩ (.int .i64 0)).setCell ⟨w.heap.size, 2, none⟩ (.string ⟨#[]⟩) = wF at hrF hbF ⊢
      have d0 : wF.cell? ⟨w.heap.size, 0, none⟩ = some (.int .i64 0) := hrF.cell 0
      have d1 : wF.cell? ⟨w.heap.size, 1, none⟩ = some (.int .i64 0) := hrF.cell 1
      have d2 : wF.cell? ⟨w.heap.size, 2, none⟩ = some (.string ⟨#[]⟩) := hrF.cell 2
      exact bodyPost_ret (v := .tuple #[vv ⟨0, 0, ⟨#[]⟩⟩, .int .i64 kk]) (by simp [results, Tryz.results109, go_sem, vv, d0, d1, d2]) rfl (VPost.bad kk HKK.out HR.out rfl hbF)
    · have HP1 : Hid (Calls Tryz.prog 133 #[.string s] W1 fun e w' => e = .returned (.tuple #[vv ⟨vk, vi, vt⟩, .int .i64 0]) ∧ Below W1.heap.size W1 w') := HP.out.mono fun e w' h => ⟨h.1 _ rfl, h.2.2⟩
      clear HP
      go_enter Tryz.func109, Tryz.ntmps109
      go_upto_region 1 with (fail)
      rw [← hW1]
      clear hW1
      go_wp2_with (go_at_call 133; refine HP1.out.mono ?_; rintro e w2 ⟨rfl, hb⟩; have hr2 := HRR.out.below hb HRW.out; have c0 := hr2.cell 0; have c1 := hr2.cell 1; have c2 := hr2.cell 2; have f0 := hr2.frozen 0; have f1 := hr2.frozen 1; have f2 := hr2.frozen 2; have HB2 := Lib.hid (HB.out.trans (hb.mono HB.out.size)); have HR2 := Lib.hid hr2; clear hb hr2)
      have hrF := box_set HR2.out (.int .i64 vk) (.int .i64 vi) (.string vt)
      have hbF := box_below HB2.out (.int .i64 vk) (.int .i64 vi) (.string vt)
      generalize ((w2.setCell ⟨w.heap.size, 0, none⟩ (.int .i64 vk)).setCell ⟨w.heap.size, 1, none⟩ (.int .i64 vi)).setCell ⟨w.heap.size, 2, none⟩ (.string vt) = wF at hrF hbF ⊢
      have d0 : wF.cell? ⟨w.heap.size, 0, none⟩ = some (.int .i64 vk) := hrF.cell 0
      have d1 : wF.cell? ⟨w.heap.size, 1, none⟩ = some (.int .i64 vi) := hrF.cell 1
      have d2 : wF.cell? ⟨w.heap.size, 2, none⟩ = some (.string vt) := hrF.cell 2
      exact bodyPost_ret (v := .tuple #[vv ⟨vk, vi, vt⟩, .int .i64 0]) (by simp [results, Tryz.results109, go_sem, vv, d0, d1, d2]) rfl (VPost.ok ⟨vk, vi, vt⟩ HR.out rfl hbF)
  · have HR := Lib.hid (HQ1.out hq)
    have HP := HPS
    clear HPS HPI HQ1 HQ2
    generalize (Option.map (fun o => (⟨2, 0, toB o⟩ : RL.V)) (strP s.data.toList)) = r at HR HP
    rcases r with _ | ⟨vk, vi, vt⟩
    · have HP1 : Hid (Calls Tryz.prog 132 #[.string s] W1 fun e w' => (∃ k : Int, k ≠ 0 ∧ e = .returned (.tuple #[vv ⟨0, 0, ⟨#[]⟩⟩, .int .i64 k])) ∧ Below W1.heap.size W1 w') := HP.out.mono fun e w' h => ⟨h.2.1 rfl, h.2.2⟩
      clear HP
      go_enter Tryz.func109, Tryz.ntmps109
      go_upto_region 1 with (fail)
      rw [← hW1]
      clear hW1
      go_wp2_with (go_at_call 132; refine HP1.out.mono ?_; rintro e w2 ⟨⟨kk, hkk, rfl⟩, hb⟩; have hr2 := HRR.out.below hb HRW.out; have c0 := hr2.cell 0; have c1 := hr2.cell 1; have c2 := hr2.cell 2; have f0 := hr2.frozen 0; have f1 := hr2.frozen 1; have f2 := hr2.frozen 2; have HB2 := Lib.hid (HB.out.trans (hb.mono HB.out.size)); have HR2 := Lib.hid hr2; have HKK := Lib.hid hkk; clear hkk; clear hb hr2)
      have hrF := box_set HR2.out (.int .i64 0) (.int .i64 0) (.string ⟨#[]⟩)
      have hbF := box_below HB2.out (.int .i64 0) (.int .i64 0) (.string ⟨#[]⟩)
      generalize ((w2.setCell ⟨w.heap.size, 0, none⟩ (.int .i64 0)).setCell ⟨w.heap.size, 1, none⟩ (.int .i64 0)).setCell ⟨w.heap.size, 2, none⟩ (.string ⟨#[]⟩) = wF at hrF hbF ⊢
      have d0 : wF.cell? ⟨w.heap.size, 0, none⟩ = some (.int .i64 0) := hrF.cell 0
      have d1 : wF.cell? ⟨w.heap.size, 1, none⟩ = some (.int .i64 0) := hrF.cell 1
      have d2 : wF.cell? ⟨w.heap.size, 2, none⟩ = some (.string ⟨#[]⟩) := hrF.cell 2
      exact bodyPost_ret (v := .tuple #[vv ⟨0, 0, ⟨#[]⟩⟩, .int .i64 kk]) (by simp [results, Tryz.results109, go_sem, vv, d0, d1, d2]) rfl (VPost.bad kk HKK.out HR.out rfl hbF)
    · have HP1 : Hid (Calls Tryz.prog 132 #[.string s] W1 fun e w' => e = .returned (.tuple #[vv ⟨vk, vi, vt⟩, .int .i64 0]) ∧ Below W1.heap.size W1 w') := HP.out.mono fun e w' h => ⟨h.1 _ rfl, h.2.2⟩
      clear HP
      go_enter Tryz.func109, Tryz.ntmps109
      go_upto_region 1 with (fail)
      rw [← hW1]
      clear hW1
      go_wp2_with (go_at_call 132; refine HP1.out.mono ?_; rintro e w2 ⟨rfl, hb⟩; have hr2 := HRR.out.below hb HRW.out; have c0 := hr2.cell 0; have c1 := hr2.cell 1; have c2 := hr2.cell 2; have f0 := hr2.frozen 0; have f1 := hr2.frozen 1; have f2 := hr2.frozen 2; have HB2 := Lib.hid (HB.out.trans (hb.mono HB.out.size)); have HR2 := Lib.hid hr2; clear hb hr2)
      have hrF := box_set HR2.out (.int .i64 vk) (.int .i64 vi) (.string vt)
      have hbF := box_below HB2.out (.int .i64 vk) (.int .i64 vi) (.string vt)
      generalize ((w2.setCell ⟨w.heap.size, 0, none⟩ (.int .i64 vk)).setCell ⟨w.heap.size, 1, none⟩ (.int .i64 vi)).setCell ⟨w.heap.size, 2, none⟩ (.string vt) = wF at hrF hbF ⊢
      have d0 : wF.cell? ⟨w.heap.size, 0, none⟩ = some (.int .i64 vk) := hrF.cell 0
      have d1 : wF.cell? ⟨w.heap.size, 1, none⟩ = some (.int .i64 vi) := hrF.cell 1
      have d2 : wF.cell? ⟨w.heap.size, 2, none⟩ = some (.string vt) := hrF.cell 2
      exact bodyPost_ret (v := .tuple #[vv ⟨vk, vi, vt⟩, .int .i64 0]) (by simp [results, Tryz.results109, go_sem, vv, d0, d1, d2]) rfl (VPost.ok ⟨vk, vi, vt⟩ HR.out rfl hbF)
end
end Go.Proofs.YtdadchpiibipoaaGreatDoor

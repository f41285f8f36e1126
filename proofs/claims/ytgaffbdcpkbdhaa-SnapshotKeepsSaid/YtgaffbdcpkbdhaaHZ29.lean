/- Walk: catalog.Equal of databases of the same schemas. -/
import Derived.Test.YtgaffbdcpkbdhaaQ5
import Derived.Test.YtgaffbdcpkbdhaaHV29
import Derived.Test.YtgaffbdcpkbdhaaHW2
namespace Go.Proofs.Ytgaffbdcpkbdhaa
open Go.RowKit Go.Sort Go.ChangeMaps Go.WideShapes

set_option maxHeartbeats 4000000 in
set_option maxRecDepth 100000 in
theorem ctEqual1_any (KA KA' A A' : Option Addr) (KC KC' C C' n : Nat) (ks : List Int) (X Y : List RL.R) (w : World) (hn : ks.length = n) (hk : SlI .i64 w.heap.size w KA ks) (hk' : SlI .i64 w.heap.size w KA' ks) (hX : SlRs w.heap.size w A X) (hY : SlRs w.heap.size w A' Y)
    (hkl : n ≤ 1000000) (hXl : X.length ≤ 1000000) (hYl : Y.length ≤ 1000000) (hXo : RsOk X) (hYo : RsOk Y) :
    Calls Try.prog 37 #[.agg #[.slice KA n KC, .int .i64 (n : Nat), .slice A X.length C], .agg #[.slice KA' n KC', .int .i64 (n : Nat), .slice A' Y.length C']] w fun e w' => e = .returned (.bool (decide (X = Y))) ∧ Ext w w' := by
  obtain ⟨W0, hW0⟩ : ∃ W0, W0 = (w.alloc (.cells #[.slice KA n KC, .int .i64 (n : Nat), .slice A X.length C] 80)).alloc (.cells #[.slice KA' n KC', .int .i64 (n : Nat), .slice A' Y.length C'] 80) := ⟨_, rfl⟩
  have hx0 : Ext w W0 := by rw [hW0]; exact ((Ext.refl w).alloc _).alloc _
  have hr1 : Row W0 w.heap.size 80 [.slice KA n KC, .int .i64 (n : Nat), .slice A X.length C] := by rw [hW0]; exact (Row.new w 80 _).alloc _
  have hr2 : Row W0 (w.heap.size + 1) 80 [.slice KA' n KC', .int .i64 (n : Nat), .slice A' Y.length C'] := by
    have h := Row.new (w.alloc (.cells #[.slice KA n KC, .int .i64 (n : Nat), .slice A X.length C] 80)) 80 [.slice KA' n KC', .int .i64 (n : Nat), .slice A' Y.length C']
    rw [World.size_alloc] at h
    rw [hW0]; exact h
  have h1 := eqInt_any KA KA' KC KC' ks ks W0 ((hk.ext (Nat.le_refl _) hx0).more hx0.size) ((hk'.ext (Nat.le_refl _) hx0).more hx0.size) (by omega) (by omega)
  rw [hn, decide_eq_true (show ks = ks from rfl)] at h1
  have HE := Lib.hid h1
  have HQ : Hid (∀ k, Calls Try.prog 39 #[.agg #[.int .i64 (n : Nat), .slice A X.length C], .agg #[.int .i64 (n : Nat), .slice A' Y.length C']] (W0.drewN k) fun e w' => e = .returned (.bool (decide (X = Y))) ∧ Ext (W0.drewN k) w') := fun k => by
    have hx := hx0.drewN k
    have h := rlEqual_any (n : Nat) (n : Nat) A A' C C' X Y (W0.drewN k) (hX.up hx) (hY.up hx) hXl hYl hXo hYo
    rw [decide_eq_true (show ((n : Nat) : Int) = (n : Nat) from rfl), Bool.true_and] at h
    exact h
  have HX0 := Lib.hid hx0
  have HW0 := Lib.hid hW0
  have k0 : W0.cell? ⟨w.heap.size, 0, none⟩ = some (.slice KA n KC) := hr1.cell 0
  have k1 : W0.cell? ⟨w.heap.size, 1, none⟩ = some (.int .i64 (n : Nat)) := hr1.cell 1
  have k2 : W0.cell? ⟨w.heap.size, 2, none⟩ = some (.slice A X.length C) := hr1.cell 2
  have k3 := hr1.lt
  have k4 : W0.cell? ⟨w.heap.size + 1, 0, none⟩ = some (.slice KA' n KC') := hr2.cell 0
  have k5 : W0.cell? ⟨w.heap.size + 1, 1, none⟩ = some (.int .i64 (n : Nat)) := hr2.cell 1
  have k6 : W0.cell? ⟨w.heap.size + 1, 2, none⟩ = some (.slice A' Y.length C') := hr2.cell 2
  have k7 := hr2.lt
  clear hW0 hx0 hr1 hr2 h1 hk hk' hX hY hXo hYo hn
  obtain ⟨q, hq⟩ : ∃ q, q = decide (X = Y) := ⟨_, rfl⟩
  rw [← hq] at HQ ⊢
  clear hq
  go_enter Try.func37, Try.ntmps37
  go_upto_region 1 with (fail)
  rw [← HW0.out]
  clear HW0
  go_wp2_with fail
  refine HE.out.mono ?_
  rintro e w1 ⟨rfl, k, rfl⟩
  go_wp2_with fail
  refine (HQ.out k).mono ?_
  rintro e w2 ⟨rfl, hx2⟩
  have HX2 := Lib.hid ((HX0.out.drewN k).trans hx2)
  clear hx2 HQ HE HX0 k0 k1 k2 k3 k4 k5 k6 k7
  go_wp2_with fail
  go_ret
  exact ⟨rfl, HX2.out⟩

/-- All relations have the same rows. -/
def sameC (S : Sch) (F G : Cont) : Bool := S.all fun p => decide (F p.1 = G p.1)

set_option maxHeartbeats 8000000 in
set_option maxRecDepth 100000 in
theorem ctEqualFunc_any {P P' : Nat → Prop} {S : Sch} {m m' : Value} {F G : Cont} (w : World) (hd : DbM P S w m F) (hd' : DbM P' S w m' G) (_hnd : (S.map Prod.fst).Nodup) :
    Calls Try.prog 36 #[m, m', .func (.func 37) #[] #[]] w fun e w' => e = .returned (.bool (sameC S F G)) ∧ Below w.heap.size w w' := by
  obtain ⟨b, D, rfl, -, hown, hent⟩ := hd.ents
  obtain ⟨b', D', rfl, -, hown', hent'⟩ := hd'.ents
  have hl1 := fun ty => hown.len Try.underlying23 ty
  have hl2 := fun ty => hown'.len Try.underlying23 ty
  rw [hent.1] at hl1
  rw [hent'.1] at hl2
  have HENT := Lib.hid hent
  have HENT' := Lib.hid hent'
  have HOW := Lib.hid hown
  have HOW' := Lib.hid hown'
  have HALL0 : Hid (∀ p ∈ S, Maps.has D (litS p.1) = false → F p.1 = G p.1) := fun p hp h => by
    obtain ⟨v, g, _⟩ := hent.2.2 p hp
    rw [Maps.has_true_of_atKey g] at h
    cases h
  clear hd hd' hown hown' hent hent'
  go_enter Try.func36, Try.ntmps36
  go_wp2_with (first
    | (at_range; refine wpList_range_own _ rfl _ 23 rfl 9 80 keyedS Try.underlying23 heldR b (Maps.size D) D rfl HOW.out ?_; intro w0 hrg0 hg0 hs0)
    | fail)
  go_frame
  have HRG0 := Lib.hid hrg0
  have HB0 : Hid (Below w.heap.size w w0) := (Below.refl _ _).grown hg0 (Nat.le_refl _) (fun j hj => by cases hj)
  obtain ⟨r, hr⟩ : ∃ r, r = w.heap.size := ⟨_, rfl⟩
  rw [← hr] at HRG0 ⊢
  clear hrg0 hg0 hs0 hl1 hl2
  have eg : ∀ args w, (callFunc 37 args).run Try.prog w = .ok (.enter 37 args) w := enters_of Try.func37 (by kernel_rfl) rfl
  have hrw : w.heap.size ≤ r := by omega
  clear hr
  go_loopw [6] (fun c wx => ∃ (left : Lit → Bool) (cnt : Nat), c = .bool false ∧ (∀ p ∈ S, left (litS p.1) = false → F p.1 = G p.1) ∧ wx.ranges Try.prog 9 heldR b r (Maps.size D) D left cnt ∧ Below w.heap.size w wx) (fun _ wx => wx.rangeLeft b r)
  case atStart => exact ⟨_, _, rfl, HALL0.out, HRG0.out, HB0.out⟩
  case round =>
    obtain ⟨left, cnt, rfl, hall, hrg, hb⟩ := hrel
    have HALL := Lib.hid hall
    have HRG := Lib.hid hrg
    have HB := Lib.hid hb
    clear hall hb
    go_wp2_with (first
      | (at_next; refine wpList_next_ranges _ rfl _ rfl 9 keyedS heldR Value.string (fun v : Value => v) (fun key kl h => by obtain ⟨x, e⟩ := Maps.keyOf_string_inv Try.underlying9 h; exact ⟨x, e⟩) (fun v y _ => ⟨v, rfl⟩) b r (Maps.size D) D left cnt rfl HRG.out ?_ ?_)
      | fail)
    · intro hc0 hl0
      have HF : Hid (sameC S F G = true) := List.all_eq_true.2 fun p hp => decide_eq_true (HALL.out p hp (hl0 _))
      clear hc0 hl0 hrg
      go_wp2_with fail
      exact bodyPost_ret (v := .bool true) (by simp [results, Try.results36, go_sem]) rfl ⟨by rw [HF.out], HB.out⟩
    · intro nm c kl y ps w1 cnt1 hkey hlk hv hat hrg1 hlt hg1 hs1 hen
      have hy : y = .held c := by
        unfold heldR at hv
        injection hv with hv
        injection hv with hv
        exact hv.symm
      have hat2 : ∀ z, D.atKey kl z = .held c := fun z => (hat z).trans hy
      obtain ⟨p, hp, rfl⟩ := HENT.out.2.1 kl (Maps.has_true_of_atKey hat2)
      obtain ⟨val, hv1, KA, KC, A, C, rfl, hk6, hki, hxc, hxm, hsl, hro⟩ := HENT.out.2.2 p hp
      have hcv : DataW.held c = .held (.agg #[.slice KA p.2.length KC, .int .i64 (p.2.length : Nat), .slice A (F p.1).length C]) := (hat2 .nil).symm.trans (hv1 .nil)
      injection hcv with hcv
      subst hcv
      obtain ⟨val', hv2, KA', KC', A', C', rfl, -, hki', -, -, hsl', hro'⟩ := HENT'.out.2.2 p hp
      have HB1 : Hid (Below w.heap.size w w1) := HB.out.grown hg1 HB.out.size (fun j hj => by injection hj with hj; omega)
      have HRG1 := Lib.hid hrg1
      have HLE := Lib.hid (HRG.out.left_eq)
      have hlt2 := hlt
      have HLK : Hid (∀ V, Below w.heap.size w V → (Instr.lookup 23 (.map (some b')) (.string nm) true).run Try.prog V = .ok (.tuple #[.agg #[.slice KA' p.2.length KC', .int .i64 (p.2.length : Nat), .slice A' (G p.1).length C'], .bool true]) V) := fun V hb => (look_yes keyedS Try.underlying23 zeroEnt (map_up HOW'.out hb) hkey hv2).1
      have HEQ : Hid (∀ V, Below w.heap.size w V → Calls Try.prog 37 #[.agg #[.slice KA p.2.length KC, .int .i64 (p.2.length : Nat), .slice A (F p.1).length C], .agg #[.slice KA' p.2.length KC', .int .i64 (p.2.length : Nat), .slice A' (G p.1).length C']] V fun e w' => e = .returned (.bool (decide (F p.1 = G p.1))) ∧ Ext V w') := fun V hb =>
        ctEqual1_any KA KA' A A' KC KC' C C' p.2.length p.2 (F p.1) (G p.1) V rfl (Sl.more (Sl.below (SlIP.sl hki) hb (Nat.le_refl _)) hb.size) (Sl.more (Sl.below (SlIP.sl hki') hb (Nat.le_refl _)) hb.size) ((hsl.below hb (Nat.le_refl _)).more hb.size).sl ((hsl'.below hb (Nat.le_refl _)).more hb.size).sl (by omega) (Nat.le_trans hro.many (by decide)) (Nat.le_trans hro'.many (by decide)) (hro.rs (by omega)) (hro'.rs (by omega))
      have HNO : Hid (F p.1 ≠ G p.1 → sameC S F G = false) := fun h => List.all_eq_false.2 ⟨p, hp, by rw [decide_eq_false h]; decide⟩
      have HYES : Hid (F p.1 = G p.1 → ∀ q ∈ S, (left (litS q.1) && !(litS q.1).sameKey (litS p.1)) = false → F q.1 = G q.1) := fun h q hq hl => by
        rcases Bool.and_eq_false_iff.1 hl with hl | hl
        · exact HALL.out q hq hl
        · by_cases e : q.1 = p.1
          · rw [e]; exact h
          · rw [strike_ne e] at hl
            cases hl
      clear hkey hlk hv hat hrg1 hg1 hs1 hy hat2 hp hv1 hrg hlt hki hki' hxc hxm hsl hsl' hro hro' hv2 hk6
      generalize p.2.length = kn at *
      obtain ⟨LF, hLF⟩ : ∃ LF, LF = (F p.1).length := ⟨_, rfl⟩
      obtain ⟨LG, hLG⟩ : ∃ LG, LG = (G p.1).length := ⟨_, rfl⟩
      rw [← hLF] at hen HEQ ⊢
      rw [← hLG] at HLK HEQ
      clear hLF hLG
      obtain ⟨W2, hW2⟩ : ∃ W2, W2 = w1.alloc (.cells #[.slice KA kn KC, .int .i64 (kn : Nat), .slice A LF C] 80) := ⟨_, rfl⟩
      have hx2 : Ext w1 W2 := by rw [hW2]; exact (Ext.refl w1).alloc _
      have hr2 : Row W2 w1.heap.size 80 [.slice KA kn KC, .int .i64 (kn : Nat), .slice A LF C] := by rw [hW2]; exact Row.new w1 80 _
      have HB2 := Lib.hid (Below.then HB1.out hx2.below HB1.out.size)
      have hlk2 := HLK.out W2 HB2.out
      obtain ⟨W3, hW3⟩ : ∃ W3, W3 = W2.alloc (.cells #[.slice KA' kn KC', .int .i64 (kn : Nat), .slice A' LG C'] 80) := ⟨_, rfl⟩
      have hx3 : Ext W2 W3 := by rw [hW3]; exact (Ext.refl W2).alloc _
      have hr3 : Row W3 W2.heap.size 80 [.slice KA' kn KC', .int .i64 (kn : Nat), .slice A' LG C'] := by rw [hW3]; exact Row.new W2 80 _
      have hr23 := hr2.up hx3.below
      have HB3 := Lib.hid (Below.then HB2.out hx3.below HB2.out.size)
      have HRG3 := Lib.hid (ranges_up (ranges_up HRG1.out hx2.below) hx3.below)
      have e0 : W3.cell? ⟨w1.heap.size, 0, none⟩ = some (.slice KA kn KC) := hr23.cell 0
      have e1 : W3.cell? ⟨w1.heap.size, 1, none⟩ = some (.int .i64 (kn : Nat)) := hr23.cell 1
      have e2 : W3.cell? ⟨w1.heap.size, 2, none⟩ = some (.slice A LF C) := hr23.cell 2
      have e3 := hr23.lt
      have e4 : W3.cell? ⟨W2.heap.size, 0, none⟩ = some (.slice KA' kn KC') := hr3.cell 0
      have e5 : W3.cell? ⟨W2.heap.size, 1, none⟩ = some (.int .i64 (kn : Nat)) := hr3.cell 1
      have e6 : W3.cell? ⟨W2.heap.size, 2, none⟩ = some (.slice A' LG C') := hr3.cell 2
      have e7 := hr3.lt
      have HC := Lib.hid (HEQ.out W3 HB3.out)
      have HW2 := Lib.hid hW2
      have HW3 := Lib.hid hW3
      clear hx2 hx3 hr2 hr3 hr23 hW2 hW3 HRG1 HLK HEQ
      go_upto_region 6 with (fail)
      rw [← HW2.out]
      clear hen HW2
      go_upto_region 7 with (fail)
      rw [← HW3.out]
      clear HW3 hlk2
      go_wp2_with fail
      refine HC.out.mono ?_
      rintro e w4 ⟨rfl, hx4⟩
      have HB4 := Lib.hid (Below.then HB3.out hx4.below HB3.out.size)
      have HRG4 := Lib.hid (ranges_up HRG3.out hx4.below)
      clear hx4 HC e0 e1 e2 e3 e4 e5 e6 e7
      by_cases hq : F p.1 = G p.1
      · have HQ := Lib.hid (HYES.out hq)
        have hd : decide (F p.1 = G p.1) = true := decide_eq_true hq
        rw [hd]
        clear hq hd HYES HNO
        go_wp2
        go_roundw
        case rel => exact ⟨_, cnt1, rfl, HQ.out, HRG4.out, HB4.out⟩
        case measure => rw [HRG4.out.left_eq, HLE.out]; exact hlt2
      · have HQ := Lib.hid (HNO.out hq)
        have hd : decide (F p.1 = G p.1) = false := decide_eq_false hq
        rw [hd]
        clear hq hd HYES HNO
        go_wp2
        exact bodyPost_ret (v := .bool false) (by simp [results, Try.results36, go_sem]) rfl ⟨by rw [HQ.out], HB4.out⟩

set_option maxHeartbeats 2000000 in
set_option maxRecDepth 100000 in
theorem ctEqual_any {P P' : Nat → Prop} {S : Sch} {m m' : Value} {F G : Cont} (w : World) (hd : DbM P S w m F) (hd' : DbM P' S w m' G) (hnd : (S.map Prod.fst).Nodup) :
    Calls Try.prog 21 #[.agg #[m], .agg #[m']] w fun e w' => e = .returned (.bool (sameC S F G)) ∧ Below w.heap.size w w' := by
  obtain ⟨b, rfl⟩ := hd.form
  obtain ⟨b', rfl⟩ := hd'.form
  have HC := Lib.hid (fun V (hb : Below w.heap.size w V) => ctEqualFunc_any V (hd.up hb) (hd'.up hb) hnd)
  have hx := (((Ext.refl w).alloc (.cells #[.map (some b)] 25)).alloc (.cells #[.map (some b')] 25)).below
  have HX := Lib.hid hx
  clear hd hd' hx hnd
  go_enter Try.func21, Try.ntmps21
  go_wp2_with fail
  refine (HC.out _ HX.out).mono ?_
  rintro e w1 ⟨rfl, hb⟩
  have HB := Lib.hid (Below.then HX.out hb HX.out.size)
  clear hb HC
  go_wp2_with fail
  go_ret
  exact ⟨rfl, HB.out⟩

end Go.Proofs.Ytgaffbdcpkbdhaa

/- Parts of the proof, merged: C24, C25, C26, C27. -/
import Derived.Test.YtdadchpiibipoaaGreatDoorQa8
import Derived.Defers
import Derived.Recover
import Derived.Laws.Pointers

set_option maxRecDepth 100000
namespace Go.Proofs.YtdadchpiibipoaaGreatDoor
section
open Go.RowKit Go.Sort Go.ChangeMaps Go.WideShapes

theorem strEq_data (s : ByteArray) (l : List UInt8) : (s.toList == l) = decide (s = toB l) := by
  have : s.toList = s.data.toList := ByteArray.toList_eq s
  rw [this]
  by_cases h : s = toB l
  · rw [decide_eq_true h, h]; simp [toB]
  · rw [decide_eq_false h, beq_eq_false_iff_ne]
    intro e
    exact h (by rw [← e]; exact (toB_mk s).symm)

theorem kindsP_cons (w : ByteArray) (t : List ByteArray) : kindsP (w :: t) = match kindP w with
    | none => none
    | some k => (kindsP t).map (k :: ·) := rfl

theorem SchCs.schs {P : Nat → Prop} {w : World} {B n C : Nat} {e : TypeId} {A : Option Addr} {S : Sch} {cs : List Value} (k : SchCs P w S cs) (h : w.ownsRow B e 2 (.slice A n C) n cs) : SchsM w.heap.size w A S := fun hn => by
  have hl := k.len
  have hp := List.length_pos_iff.2 hn
  have h1 := h.1
  obtain ⟨g, cap, e1, hb, hg⟩ := h.form (by omega)
  injection e1 with e1 _ _
  subst e1
  refine ⟨g, 0, rfl, hg, fun i hi => ?_⟩
  obtain ⟨KA, KC, a, b, c⟩ := k.at_ i hi
  have a := h.cells rfl _ _ a
  have b := h.cells rfl _ _ b
  rw [Addr.add_lit] at a b
  refine ⟨KA, KC, a, b, fun hne => ?_⟩
  obtain ⟨b', o', e', hb', -, hc'⟩ := c (by intro h0; rw [h0] at hne; exact hne rfl)
  exact ⟨b', o', e', hb', hc'⟩
theorem bytesLess_cmp (a b : ByteArray) : Op.bytesLess a.toList b.toList = decide (RL.cmpS a b < 0) := by
  rw [show a.toList = a.data.toList from ByteArray.toList_eq a, show b.toList = b.data.toList from ByteArray.toList_eq b, bytesLess_eq]
  unfold RL.cmpS
  rw [RL.compareBytes_eq]
  exact decide_eq_decide.2 (cmpL_lt _ _).symm
theorem DbM.congr {P : Nat → Prop} {S : Sch} {w : World} {m : Value} {F G : Cont} (h : DbM P S w m F) (hg : ∀ p ∈ S, F p.1 = G p.1) : DbM P S w m G := by
  obtain ⟨b, D, h1, h0, h2, h3, h4, h5⟩ := h
  exact ⟨b, D, h1, h0, h2, h3, h4, fun p hp => by rw [← hg p hp]; exact h5 p hp⟩
theorem ctCopy_any {P : Nat → Prop} {S S' : Sch} {F : Cont} {m : Value} {z md : Nat} (V : World) (hP : ∀ c, z ≤ c → P c) (_hz : z ≤ V.heap.size) (hd : DbM (fun c => z ≤ c) S' V (.map (some md)) (fun _ => [])) (hm : MapR (fun c => P c ∧ c < z) S V m F)
    (hsub : ∀ p ∈ S, p ∈ S') (hnd : (S'.map Prod.fst).Nodup) (hSl : S'.length ≤ 1000) (hsz : ∀ p ∈ S, p.1.size ≤ maxLen) :
    Calls Tryz.prog 91 #[.map (some md), m] V fun e w' => e = .returned (.tuple #[]) ∧ DbM P S' w' (.map (some md)) (fun s => if memB s (S.map Prod.fst) then F s else []) ∧ V.grownBy w' (some md) := by
  rcases hm with ⟨rfl, rfl⟩ | ⟨-, hm⟩
  · refine (ctCopy_nil V md).mono ?_
    rintro e w' ⟨h1, hb⟩
    exact ⟨h1, ((hd.weak fun b _ h => hP b h).up hb).congr fun p _ => rfl, grown_of_below hb _⟩
  · obtain ⟨ms, rfl⟩ := hm.form
    obtain ⟨b, D, e, hzb, hown, hent⟩ := hd.ents
    injection e with e
    injection e with e
    subst e
    refine ctCopy_some V hown (hP _ hzb) ((hent.weak fun c hc h => ⟨hP c h, hc⟩).off hown) (hm.weak fun c hc h => ⟨⟨h.1, hc⟩, by have := h.2; omega⟩) hsub hnd hSl hsz
theorem RdM_sch {rb b5 n M : Nat} {w2 wr V1 V2 V3 : World} {S : Sch} {F : Cont} {X : List RL.R} {nm : ByteArray} {ks : List Int} {vs v' vr m : Value} {sc hs : List Value} {KA : Option Addr} {KC : Nat}
    (_hn : S.length = n) (hb5 : b5 = w2.heap.size) (hrl : rb < w2.heap.size) (hos : w2.ownsRow (rb + 1) 62 2 vs n sc) (hsc : SchCs (RdP rb vs vr) w2 S sc) (hor : w2.ownsRow (rb + 1) 42 1 vr X.length hs) (hhd : Hdrs (RdP rb vs vr) w2.heap.size w2 hs X) (hm : MapR (RdP rb vs vr) S w2 m F)
    (hbw : Below b5 w2 wr) (hkv : wr.ownsRow (b5 + 1) 3 1 (.slice KA M KC) M (ks.map (Value.int .i64))) (hkl : ks.length = M) (hV1 : Below wr.heap.size wr V1)
    (k1 : V2.ownsRow (rb + 1) 62 2 v' (n + 1) (sc ++ [.string nm, .slice KA M KC])) (k2 : V1.grownBy V2 vs.ownBlock) (k3 : ∀ b, v'.ownBlock = some b → vs.ownBlock = some b ∨ b = V1.heap.size) (hV3 : V3 = V2.setCell ⟨rb, 1, none⟩ v') :
    V3.ownsRow (rb + 1) 62 2 v' (n + 1) (sc ++ [.string nm, .slice KA M KC]) ∧ SchCs (RdP rb v' vr) V3 (S ++ [(nm, ks)]) (sc ++ [.string nm, .slice KA M KC]) ∧ V3.ownsRow (rb + 1) 42 1 vr X.length hs ∧ Hdrs (RdP rb v' vr) V3.heap.size V3 hs X ∧ MapR (RdP rb v' vr) S V3 m F := by
  have hol := hos.lt
  have horl := hor.lt
  have hz1 := hbw.size
  have hz2 := hV1.size
  have hst0 : Stay (fun c => vs.ownBlock ≠ some c ∧ c ≠ rb ∧ c < b5) w2 V3 := by
    rw [hV3]
    have h1 : Stay (fun c => vs.ownBlock ≠ some c ∧ c ≠ rb ∧ c < b5) w2 wr := ⟨hbw.size, fun b _ hp => hbw.block b hp.2.2⟩
    exact ((h1.trans (Stay.of hV1)).trans (Stay.grownP k2 fun k hk h => h.1 hk)).trans (Stay.set (fun h => h.2.1 rfl) 1 _)
  have hst1 : Stay (fun c => vs.ownBlock ≠ some c ∧ c ≠ rb) wr V3 := by
    rw [hV3]
    exact ((Stay.of hV1).trans (Stay.grownP k2 fun k hk h => h.1 hk)).trans (Stay.set (fun h => h.2 rfl) 1 _)
  have hin : ∀ c, c < w2.heap.size → RdP rb vs vr c → RdP rb vs vr c ∧ c < b5 := fun c hc h => ⟨h, by omega⟩
  have hst2 : Stay (fun c => RdP rb vs vr c ∧ c < b5) w2 V3 := hst0.less fun k _ h => ⟨h.1.2.1, by have := h.1.1; omega, h.2⟩
  have hnew : ∀ c, c < V1.heap.size → vs.ownBlock ≠ some c → v'.ownBlock ≠ some c := fun c hc h e => by
    rcases k3 c e with k3 | k3
    · exact h k3
    · omega
  have hwk : ∀ c, c < V3.heap.size → (RdP rb vs vr c ∧ c < b5) → RdP rb v' vr c := fun c _ h => ⟨h.1.1, hnew c (by omega) h.1.2.1, h.1.2.2⟩
  refine ⟨?_, ?_, ?_, ((hhd.weak hin).stay hst2).weak hwk, ((hm.weak hin).keep hst2).weak hwk⟩
  · rw [hV3]
    exact own_stay k1 (P := fun c => c ≠ rb) (Stay.set (fun h => h rfl) 1 _) fun g hg => by have := (k1.lt g hg).1; omega
  · have h1 := ((hsc.weak hin).keep hst2).weak hwk
    have hk0 : SlIP (fun c => b5 < c ∧ c < wr.heap.size) wr KA ks := by
      have h2 := own_slip (P := fun c => b5 < c) hkv hkl fun b hb => hb
      exact h2.weak fun b hb hp => ⟨hp, hb⟩
    have hk2 : SlIP (RdP rb v' vr) V3 KA ks := ((hk0.keep (hst1.less fun k _ h => ⟨fun e => by have := (hol k e).2; omega, by omega⟩))).weak fun b _ h => ⟨by omega, hnew b (by omega) fun e => by have := (hol b e).2; omega, fun e => by have := (horl b e).2; omega⟩
    have h3 := h1.snoc (nm := nm) (ks := ks) (KC := KC) hk2
    rw [hkl] at h3
    exact h3
  · exact own_stay hor hst0 fun g hg => ⟨fun e => own_parts hos hor (by decide) g e hg, by have := (horl g hg).1; omega, by have := (horl g hg).2; omega⟩

set_option maxHeartbeats 4000000 in
theorem rdRelation_any {rb : Nat} {w : World} {r : Rd} (h : RdM rb w r) (ok : RdOk r) (text : List UInt8) (hs : text.length ≤ 1000000) (hT : ∀ w', Below rb w w' → Tabs w') :
    Calls Tryz.prog 61 #[.pointer (some ⟨rb, 0, none⟩), .string (toB text)] w (LinePost rb (relRd r text) w) := by
  have hrl := h.lt
  have HCL := Lib.hid (rdClose_any h ok)
  have HT := Lib.hid hT
  have HS := Lib.hid hs
  have HOK := Lib.hid ok
  clear h ok hT hs
  obtain ⟨ws, hws⟩ : ∃ ws, ws = wordsP text := ⟨_, rfl⟩
  have HWS := Lib.hid hws
  obtain ⟨nm, wt, hwt⟩ : ∃ nm wt, ws = nm :: wt := by
    cases hw : ws with
    | nil =>
      obtain ⟨a, b, e1, -⟩ := words_conv (Lib.count text [32]) text
      have h2 := wordsP_data text
      rw [← hws, hw, e1] at h2
      cases h2
    | cons a b => exact ⟨a, b, rfl⟩
  have HWT := Lib.hid hwt
  obtain ⟨N, hN⟩ : ∃ N, N = ws.length := ⟨_, rfl⟩
  have hN1 : N = wt.length + 1 := by rw [hN, hwt]; rfl
  have HN1 := Lib.hid hN1
  have HWL : Hid (wt.length ≤ 1000000) := by
    have h1 : (wordsP text).length = Lib.countB (toB text) ⟨#[32]⟩ + 1 := Lib.splitB_all ⟨#[32]⟩ (by decide) 0 _ (toB text) rfl
    have h2 := Lib.countB_le ⟨#[32]⟩ (by decide) (toB text).size (toB text) (Nat.le_refl _)
    rw [toB_size] at h2
    show _ ≤ _
    rw [← hws] at h1
    have h3 := HS.out
    omega
  have HNL := Lib.hid hN
  have g0 : (0 : Int) < (N : Int) := by omega
  have g1 : (1 : Int) ≤ (N : Int) := by omega
  clear hws hwt hN hN1
  go_enter Tryz.func61, Tryz.ntmps61
  go_wp2_with fail
  refine HCL.out.mono ?_
  rintro e w1 ⟨rfl, hr1, hb1⟩
  have HR1 := Lib.hid hr1
  have HB1 := Lib.hid hb1
  have HSP := Lib.hid (sSplit_any text HS.out w1 (HT.out w1 hb1))
  clear hr1 hb1 HCL
  go_wp2_with fail
  refine HSP.out.mono ?_
  rintro e w2 ⟨rfl, hw2⟩
  rw [← HWS.out] at hw2 ⊢
  rw [← HNL.out]
  obtain ⟨wb, hwb⟩ : ∃ wb, wb = w1.heap.size := ⟨_, rfl⟩
  rw [← hwb]
  have hrw : Row w2 wb 9 (ws.map Value.string) := by rw [hw2, hwb]; exact Row.new w1 _ _
  have hb2 : Below w1.heap.size w1 w2 := by rw [hw2]; exact ((Ext.refl w1).alloc _).below
  have hz2 : w2.heap.size = wb + 1 := by rw [hw2, hwb]; simp
  have HRW := Lib.hid hrw
  have HR2 := Lib.hid (HR1.out.up hb2)
  have HB2 := Lib.hid (HB1.out.trans (hb2.mono (by have := HR1.out.lt; omega)))
  have HZ2 := Lib.hid hz2
  have c0 : w2.cell? ⟨wb, 0, none⟩ = some (.string nm) := by rw [hrw.cell, HWT.out]; rfl
  have hwl := hrw.lt
  clear hw2 hwb hrw hb2 hz2 HSP
  go_upto_region 3 with (fail)
  obtain ⟨b5, hb5⟩ : ∃ b, b = w2.heap.size := ⟨_, rfl⟩
  obtain ⟨W3, hW3⟩ : ∃ W, W = w2.alloc (.cells #[.string nm, .slice none 0 0] 62) := ⟨_, rfl⟩
  have HBX : Hid (Row W3 b5 62 [.string nm, .slice none 0 0]) := by show Row _ _ _ _; rw [hW3, hb5]; exact Row.new w2 _ _
  have hb3 : Below w2.heap.size w2 W3 := by rw [hW3]; exact ((Ext.refl w2).alloc _).below
  rw [← hW3, ← hb5]
  have HB3 : Hid (Below b5 w2 W3) := by show Below _ _ _; rw [hb5]; exact hb3
  have HB5 := Lib.hid hb5
  clear hW3 hb5 hb3 c0 hwl g0
  go_cut [20, 21, 22] from 19 to 22 (fun a b c wx => ∃ TA : Option Addr, a = .slice TA (N - 1) (N - 1) ∧ b = .int .i64 ((N - 1 : Nat) : Int) ∧ c = .int .i64 0 ∧ wx = W3 ∧ (1 < N → TA = some ⟨wb, 1, none⟩))
  case first =>
    by_cases h1 : N = 1
    · go_wp2_with fail
      go_meet
      case rel => exact ⟨_, (by rw [h1]), (by rw [h1]; rfl), rfl, rfl, fun h => by omega⟩
    · go_wp2_with fail
      go_meet
      case rel => exact ⟨_, rfl, rfl, rfl, rfl, fun h => rfl⟩
  case rest =>
  obtain ⟨TA, rfl, rfl, rfl, hwc, hTA⟩ := hcut
  subst hwc
  go_upto_region 4 with (fail)
  have HTA := Lib.hid hTA
  obtain ⟨M, hM⟩ : ∃ M, M = N - 1 := ⟨_, rfl⟩
  rw [← hM]
  have HM := Lib.hid hM
  obtain ⟨r1, hr1⟩ : ∃ r1, r1 = closeRd r := ⟨_, rfl⟩
  rw [← hr1] at HR2
  have HRR := Lib.hid hr1
  have HREL : Hid (∀ o, kindsP wt = o → relRd r text = match o with
    | none => (15, r1)
    | some ks => if errS (r1.S ++ [(nm, ks)]) ≠ 0 then (errS (r1.S ++ [(nm, ks)]), r1) else if (match r1.S.getLast? with | none => false | some p => decide (0 ≤ RL.cmpS p.1 nm)) then (16, r1) else (0, { r1 with S := r1.S ++ [(nm, ks)] })) := fun o ho => by
    unfold relRd
    rw [← HWS.out, HWT.out, ← hr1]
    show (match kindsP wt with | none => _ | some ks => _) = _
    rw [ho]
    cases o <;> rfl
  have HRX : Hid (RdM rb w2 r1) := HR2.out
  have HKV : Hid (wc.ownsRow (b5 + 1) 3 1 (.slice none 0 0) 0 ([] : List Value)) := own_nil _ _ _ _
  clear hTA hM hr1 g1
  go_loopw [22] (fun c wx => ∃ (k : Nat) (ks : List Int) (kv : Value), k ≤ M ∧ c = .int .i64 k ∧ ks.length = k ∧ (∀ o, kindsP (wt.drop k) = o → kindsP wt = o.map (ks ++ ·)) ∧ Row wx b5 62 [.string nm, kv] ∧ wx.ownsRow (b5 + 1) 3 1 kv k (ks.map (Value.int .i64)) ∧ Below b5 w2 wx) (fun c _ => M - (intOf c).toNat)
  case atStart => exact ⟨0, [], .slice none 0 0, Nat.zero_le _, rfl, rfl, fun o ho => by rw [List.drop_zero] at ho; rw [ho]; cases o <;> simp, HBX.out, HKV.out, HB3.out⟩
  case round =>
    obtain ⟨k, ks, kv, hk, rfl, hksl, hkp, hrow, hown, hbw⟩ := hrel
    have HKP := Lib.hid hkp
    have HROW := Lib.hid hrow
    have HOWN := Lib.hid hown
    have HB := Lib.hid hbw
    have HKL := Lib.hid hksl
    clear hkp hown hbw hksl
    by_cases hkm : k < M
    · have hMN := HM.out
      have hN1 := HN1.out
      obtain rfl := HTA.out (by omega)
      have hkw : k < wt.length := by omega
      have hrb5 := HB5.out
      have hbz := HB.out.size
      have hwbb : wb < b5 := by have := HZ2.out; omega
      have hrbb : rb < b5 := by have := HRX.out.lt; omega
      have HKW : Hid (k + 1 ≤ 1000000) := by show _ ≤ _; have := HWL.out; omega
      have hc1 : wr.cell? ⟨wb, 1 + k, none⟩ = some (.string wt[k]) := by
        have h1 : w2.cell? ⟨wb, 1 + k, none⟩ = some (.string wt[k]) := by rw [HRW.out.cell, HWT.out]; simp [Nat.add_comm 1 k, hkw]
        exact (HB.out.cell (p := ⟨wb, 1 + k, none⟩) (by show wb < b5; omega)).trans h1
      have hwbr : wb < wr.heap.size := by omega
      clear hrb5
      have g2 : (0 : Int) ≤ (k : Int) := by omega
      have g3 : (k : Int) < ((N - 1 : Nat) : Int) := by omega
      have g4 : (k : Int) < (M : Int) := by omega
      have hw1 : IntKind.i64.wrap ((k : Int) + 1) = ((k + 1 : Nat) : Int) := by rw [IntWalk.i64_in _ (by have := HWL.out; omega)]; omega
      obtain ⟨KA, KC, rfl, -⟩ := own_cut HOWN.out (by decide)
      have HSTEP : Hid (∀ o, kindsP (wt.drop k) = o → kindsP wt = o.map (ks ++ ·)) := HKP.out
      have hdk : wt.drop k = wt[k] :: wt.drop (k + 1) := List.drop_eq_getElem_cons hkw
      rw [hdk] at HSTEP
      obtain ⟨u, hu⟩ : ∃ u, u = wt[k] := ⟨_, rfl⟩
      rw [← hu] at HSTEP hc1
      have hKU : ∀ (q : Int), kindP u = some q → ∀ o, kindsP (wt.drop (k + 1)) = o → kindsP wt = o.map ((ks ++ [q]) ++ ·) := fun q hq o ho => by
        have h1 := HSTEP.out _ rfl
        rw [kindsP_cons, hq, ho] at h1
        rw [h1]
        cases o <;> simp
      have HKU := Lib.hid hKU
      have HKN : Hid (kindP u = none → kindsP wt = none) := fun hq => by
        have h1 := HSTEP.out _ rfl
        rw [kindsP_cons, hq] at h1
        rw [h1]; rfl
      have c1 : wr.cell? ⟨b5, 1, none⟩ = some (.slice KA k KC) := HROW.out.cell 1
      have f1 := HROW.out.frozen 1
      have f2 := HROW.out.lt
      have HBW : Hid (b5 < wr.heap.size) := f2
      have HROA := Lib.hid (fun (o : Obj) => HROW.out.alloc o)
      have HOWA := Lib.hid (fun (o : Obj) => HOWN.out.alloc o)
      have HNB : Hid (some b5 ≠ (Value.slice KA k KC).ownBlock) := fun e => by have := (HOWN.out.lt b5 e.symm).1; omega
      clear HSTEP hKU hdk hu hrow hMN hN1 hkw hbz
      by_cases hi : u = toB [105, 110, 116]
      · have e1 : (u.toList == [105, 110, 116]) = true := by rw [strEq_data, decide_eq_true hi]
        have HQ := Lib.hid (HKU.out 1 (by rw [hi]; rfl))
        clear hi HKU HKN
        go_wp2_with (at_builtin; refine appXIntC rfl (.tmp 32) (.tmp 33) rfl (b5 + 1) (.slice KA k KC) k (ks.map (Value.int .i64)) rfl (HOWA.out _) (some ⟨wr.heap.size, 0, none⟩) 1 1 [.int .i64 1] rfl rfl (Row.sl (Row.new wr 3 [.int .i64 1])) (by intro z hz; rw [List.mem_singleton.1 hz]; rfl) HKW.out (by simp; omega) ?_; intro v' w5 k1 k2 k3; obtain ⟨A9, C9, rfl, k4, k5, -⟩ := own_cut k1 (by decide); have HRO5 := Lib.hid ((HROA.out _).grown k2 HNB.out); have m1 := HRO5.out.frozen 1; have m2 := HRO5.out.lt; have m3 := HRO5.out.cell 1; simp only [List.getElem?_cons_zero, List.getElem?_cons_succ] at m3; have HK1 := Lib.hid k1; have HK2 := Lib.hid k2; clear k1 k2 k3 k4 k5 c1 f1 f2)
        have HROX : Hid (Row (w5.setCell ⟨b5, 1, none⟩ (.slice A9 (k + 1) C9)) b5 62 [.string nm, .slice A9 (k + 1) C9]) := HRO5.out.set 1 _
        have HOX : Hid ((w5.setCell ⟨b5, 1, none⟩ (.slice A9 (k + 1) C9)).ownsRow (b5 + 1) 3 1 (.slice A9 (k + 1) C9) (k + 1) ((ks ++ [1]).map (Value.int .i64))) := by
          rw [List.map_append]
          exact own_stay HK1.out (P := fun c => c ≠ b5) (Stay.set (fun h => h rfl) 1 _) fun g hg => by have := (HK1.out.lt g hg).1; omega
        have HBX5 : Hid (Below b5 w2 (w5.setCell ⟨b5, 1, none⟩ (.slice A9 (k + 1) C9))) := by
          have h5 : Below b5 w2 w5 := (HB.out.alloc (Nat.le_of_lt HBW.out) _).grown HK2.out (by rw [World.size_alloc]; have := HBW.out; omega) (fun g hg => by have := (HOWN.out.lt g hg).1; omega)
          exact h5.setCell (p := ⟨b5, 1, none⟩) (Nat.le_refl _) _
        go_roundw
        case rel => exact ⟨k + 1, ks ++ [1], .slice A9 (k + 1) C9, by omega, by go_num, by rw [List.length_append, HKL.out]; rfl, HQ.out, HROX.out, HOX.out, HBX5.out⟩
        case measure => simp [intOf]; omega
      have e1 : (u.toList == [105, 110, 116]) = false := by rw [strEq_data, decide_eq_false hi]
      by_cases hj : u = toB [115, 116, 114]
      · have e2 : (u.toList == [115, 116, 114]) = true := by rw [strEq_data, decide_eq_true hj]
        have HQ := Lib.hid (HKU.out 2 (by rw [hj]; rfl))
        clear hj
        clear hi HKU HKN
        go_wp2_with (at_builtin; refine appXIntC rfl (.tmp 39) (.tmp 40) rfl (b5 + 1) (.slice KA k KC) k (ks.map (Value.int .i64)) rfl (HOWA.out _) (some ⟨wr.heap.size, 0, none⟩) 1 1 [.int .i64 2] rfl rfl (Row.sl (Row.new wr 3 [.int .i64 2])) (by intro z hz; rw [List.mem_singleton.1 hz]; rfl) HKW.out (by simp; omega) ?_; intro v' w5 k1 k2 k3; obtain ⟨A9, C9, rfl, k4, k5, -⟩ := own_cut k1 (by decide); have HRO5 := Lib.hid ((HROA.out _).grown k2 HNB.out); have m1 := HRO5.out.frozen 1; have m2 := HRO5.out.lt; have m3 := HRO5.out.cell 1; simp only [List.getElem?_cons_zero, List.getElem?_cons_succ] at m3; have HK1 := Lib.hid k1; have HK2 := Lib.hid k2; clear k1 k2 k3 k4 k5 c1 f1 f2)
        have HROX : Hid (Row (w5.setCell ⟨b5, 1, none⟩ (.slice A9 (k + 1) C9)) b5 62 [.string nm, .slice A9 (k + 1) C9]) := HRO5.out.set 1 _
        have HOX : Hid ((w5.setCell ⟨b5, 1, none⟩ (.slice A9 (k + 1) C9)).ownsRow (b5 + 1) 3 1 (.slice A9 (k + 1) C9) (k + 1) ((ks ++ [2]).map (Value.int .i64))) := by
          rw [List.map_append]
          exact own_stay HK1.out (P := fun c => c ≠ b5) (Stay.set (fun h => h rfl) 1 _) fun g hg => by have := (HK1.out.lt g hg).1; omega
        have HBX5 : Hid (Below b5 w2 (w5.setCell ⟨b5, 1, none⟩ (.slice A9 (k + 1) C9))) := by
          have h5 : Below b5 w2 w5 := (HB.out.alloc (Nat.le_of_lt HBW.out) _).grown HK2.out (by rw [World.size_alloc]; have := HBW.out; omega) (fun g hg => by have := (HOWN.out.lt g hg).1; omega)
          exact h5.setCell (p := ⟨b5, 1, none⟩) (Nat.le_refl _) _
        go_roundw
        case rel => exact ⟨k + 1, ks ++ [2], .slice A9 (k + 1) C9, by omega, by go_num, by rw [List.length_append, HKL.out]; rfl, HQ.out, HROX.out, HOX.out, HBX5.out⟩
        case measure => simp [intOf]; omega
      have e2 : (u.toList == [115, 116, 114]) = false := by rw [strEq_data, decide_eq_false hj]
      have HRES : Hid (relRd r text = (15, r1)) := HREL.out none (HKN.out (by unfold kindP; exact (if_neg hi).trans (if_neg hj)))
      have HRX2 := Lib.hid (HRX.out.up (show Below w2.heap.size w2 wr by rw [← HB5.out]; exact HB.out))
      have HLN : Hid (r1.line = r.line) := by show _ = _; rw [HRR.out]; exact closeRd_line r
      obtain ⟨vs, vr, m, sc, hs0, hrowr, -⟩ := HRX2.out
      have HRDR := Lib.hid hrowr
      clear hi hj HKU HKN hrowr
      go_wp2_with fail
      refine (rdFail_any HRDR.out).mono ?_
      rintro e w4 ⟨rfl, rfl⟩
      go_wp2_with fail
      exact ⟨rfl, LinePost.bad (by rw [HRES.out]) (by decide) (HB2.out.trans (HB.out.mono (by omega))) (by rw [HRES.out])⟩
    · obtain rfl : k = M := by omega
      have hksome : kindsP wt = some ks := by
        have h1 := HKP.out (some []) (by rw [List.drop_eq_nil_iff.2 (by have := HM.out; have := HN1.out; omega)]; rfl)
        rw [h1]; simp
      have HRS : Hid (relRd r text = if errS (r1.S ++ [(nm, ks)]) ≠ 0 then (errS (r1.S ++ [(nm, ks)]), r1) else if (match r1.S.getLast? with | none => false | some p => decide (0 ≤ RL.cmpS p.1 nm)) then (16, r1) else (0, { r1 with S := r1.S ++ [(nm, ks)] })) := HREL.out (some ks) hksome
      have g4 : ¬ (k : Int) < (k : Int) := by omega
      obtain ⟨KA, KC, rfl, hKC1, hKC2, -⟩ := own_cut HOWN.out (by decide)
      obtain ⟨vs, vr, m, sc, hs0, hrd, hos, hsc, hor, hhd, hm⟩ := HRX.out
      obtain ⟨VA, VC, rfl, hVC1, hVC2, -⟩ := own_cut hos (by decide)
      obtain ⟨n1, hn1⟩ : ∃ n1, n1 = r1.S.length := ⟨_, rfl⟩
      rw [← hn1] at hrd hos hsc hhd hm hVC1
      have HOS := Lib.hid hos
      have HSC := Lib.hid hsc
      have HOR := Lib.hid hor
      have HHD := Lib.hid hhd
      have HMR := Lib.hid hm
      have HRD := Lib.hid hrd
      have HN1S := Lib.hid hn1
      have hrdr := hrd.up (show Below w2.heap.size w2 wr by rw [← HB5.out]; exact HB.out)
      have c1 : wr.cell? ⟨rb, 1, none⟩ = some (.slice VA n1 VC) := hrdr.cell 1
      have HRDR := Lib.hid hrdr
      have c5 : wr.cell? ⟨b5, 0, none⟩ = some (.string nm) := HROW.out.cell 0
      have c6 : wr.cell? ⟨b5, 1, none⟩ = some (.slice KA k KC) := HROW.out.cell 1
      have hb5r := HROW.out.lt
      have hrr := hrdr.lt
      have HKEEP : Hid (∀ V, Below wr.heap.size wr V → V.cell? ⟨rb, 1, none⟩ = some (.slice VA n1 VC) ∧ V.cell? ⟨b5, 0, none⟩ = some (.string nm) ∧ V.cell? ⟨b5, 1, none⟩ = some (.slice KA k KC)) := fun V hb => ⟨cell_below hb c1, cell_below hb c5, cell_below hb c6⟩
      have HVL : Hid (∀ g, (Value.slice VA n1 VC).ownBlock = some g → rb < g ∧ g < b5) := fun g hg => by have h1 := hos.lt g hg; have := HB5.out; omega
      have HOSR := Lib.hid (fun (V : World) (hb : Below wr.heap.size wr V) => own_stay (own_stay hos (P := fun c => c < b5) ⟨HB.out.size, fun b _ hp => HB.out.block b hp⟩ fun g hg => (HVL.out g hg).2) (Stay.of (P := fun _ => True) hb) fun _ _ => trivial)
      have HN1L : Hid (n1 ≤ 16) := by
        show _ ≤ _
        rw [hn1, HRR.out, closeRd_S]
        exact (errS_mem HOK.out.err).1
      clear hksome hKC1 hKC2 hrd hos hsc hor hhd hm hVC1 hVC2 hn1 hrdr c1 c5 c6 hrow HREL HKP
      go_upto_region 13 with (fail)
      refine regionZ (S := (fun w' => w'.cell? ⟨rb, 1, none⟩ = some (.slice VA n1 VC) ∧ w'.cell? ⟨b5, 0, none⟩ = some (.string nm) ∧ w'.cell? ⟨b5, 1, none⟩ = some (.slice KA k KC))) 10 (by kernel_rfl) (HKEEP.out wr.drew (Below.refl _ _).drew) (fun hHeld => ?_)
      refine takeZ (i := 0) (v := ?_) (some 44) rfl rfl (by kernel_rfl) (by decide) (by kernel_rfl) (by kernel_rfl) (by kernel_rfl) (by kernel_rfl) (fun _ _ _ h => h) (Or.inl ⟨by rfl, ?_⟩) (by assumption) ?_
      rotate_left 1
      · (intro w0 hSw; (try dsimp only at hSw); go_simp; try (with_reducible rfl))
      try simp only [Act.put, List.setIfInBounds_toArray, List.set_cons_succ, List.set_cons_zero]
      refine takeZ (i := 1) (v := ?_) (some 45) rfl rfl (by kernel_rfl) (by decide) (by kernel_rfl) (by kernel_rfl) (by kernel_rfl) (by kernel_rfl) (fun _ _ _ h => h) (Or.inl ⟨by rfl, ?_⟩) (by assumption) ?_
      rotate_left 1
      · (intro w0 hSw; (try dsimp only at hSw); go_simp; try (with_reducible rfl))
      try simp only [Act.put, List.setIfInBounds_toArray, List.set_cons_succ, List.set_cons_zero]
      refine takeZ (i := 2) (v := ?_) (some 46) rfl rfl (by kernel_rfl) (by decide) (by kernel_rfl) (by kernel_rfl) (by kernel_rfl) (by kernel_rfl) (fun _ _ _ h => h) (Or.inl ⟨by rfl, ?_⟩) (by assumption) ?_
      rotate_left 1
      · (intro w0 hSw; (try dsimp only at hSw); go_simp; try (with_reducible rfl))
      try simp only [Act.put, List.setIfInBounds_toArray, List.set_cons_succ, List.set_cons_zero]
      refine takeZ (i := 3) (v := ?_) (some 47) rfl rfl (by kernel_rfl) (by decide) (by kernel_rfl) (by kernel_rfl) (by kernel_rfl) (by kernel_rfl) (fun _ _ _ h => h) (Or.inl ⟨by rfl, ?_⟩) (by assumption) ?_
      rotate_left 1
      · (intro w0 hSw; (try dsimp only at hSw); go_simp; try (with_reducible rfl))
      try simp only [Act.put, List.setIfInBounds_toArray, List.set_cons_succ, List.set_cons_zero]
      refine takeZ (i := 4) (v := ?_) (some 48) rfl rfl (by kernel_rfl) (by decide) (by kernel_rfl) (by kernel_rfl) (by kernel_rfl) (by kernel_rfl) (fun _ _ _ h => h) (Or.inl ⟨by rfl, ?_⟩) (by assumption) ?_
      rotate_left 1
      · (intro w0 hSw; (try dsimp only at hSw); go_simp; try (with_reducible rfl))
      try simp only [Act.put, List.setIfInBounds_toArray, List.set_cons_succ, List.set_cons_zero]
      refine takeZ (i := 5) (v := ?_) (some 49) rfl rfl (by kernel_rfl) (by decide) (by kernel_rfl) (by kernel_rfl) (by kernel_rfl) (by kernel_rfl) (fun _ _ _ h => h) (Or.inl ⟨by rfl, ?_⟩) (by assumption) ?_
      rotate_left 1
      · (intro w0 hSw; (try dsimp only at hSw); go_simp; try (with_reducible rfl))
      try simp only [Act.put, List.setIfInBounds_toArray, List.set_cons_succ, List.set_cons_zero]
      refine oneZ (i := 6) (by kernel_rfl) rfl (by decide) (fun K hK => ?_)
      go_simp
      obtain ⟨V1, hV⟩ : ∃ V', V' = (wr.alloc (.cells #[.string nm, .slice KA k KC] 62)).drew := ⟨_, rfl⟩
      rw [← hV]
      have HV1 : Hid (Below wr.heap.size wr V1) := by show Below _ _ _; rw [hV]; exact ((Ext.refl wr).alloc _).below.drew
      have HE1 : Hid (Row V1 wr.heap.size 62 [.string nm, .slice KA k KC]) := by show Row _ _ _ _; rw [hV]; exact (Row.new wr 62 [.string nm, .slice KA k KC]).drew
      clear hV
      refine hK.out _ _ (HKEEP.out V1 HV1.out) (fun hHeld => ?_)
      clear hK K
      try simp only [Act.put, List.setIfInBounds_toArray, List.set_cons_succ, List.set_cons_zero]
      refine oneZ (i := 7) (by kernel_rfl) rfl (by decide) (fun K hK => ?_)
      refine stepXSch rfl (.tmp 48) (.tmp 50) rfl (rb + 1) (.slice VA n1 VC) n1 sc (by simp [Act.eval]) (HOSR.out V1 HV1.out) (some ⟨wr.heap.size, 0, none⟩) 1 1 [.string nm, .slice KA k KC] (by simp [Act.eval]) rfl HE1.out.sl (by intro z hz; simp at hz; rcases hz with rfl | rfl <;> rfl) (by have := HN1L.out; omega) (by have := HV1.out.size; omega) ?_
      intro v' V2 k1 k2 k3
      obtain ⟨n9, hn9⟩ : ∃ n9, n9 = n1 + 1 := ⟨_, rfl⟩
      have k1b := k1
      rw [← hn9] at k1b
      obtain ⟨A9, C9, hv9, -, -, -⟩ := own_cut k1b (by decide)
      subst hv9
      have HN9 := Lib.hid hn9
      have HK1 := Lib.hid k1
      have HK2 := Lib.hid k2
      have HK3 := Lib.hid k3
      have HRO2 : Hid (Row V2 rb 119 [.int .i64 r1.line, .slice VA n1 VC, m, vr]) := (HRDR.out.up HV1.out).grown k2 (fun e => by have := (HVL.out rb e.symm).1; omega)
      have HBX2 : Hid (Row V2 b5 62 [.string nm, .slice KA k KC]) := (HROW.out.up HV1.out).grown k2 (fun e => by have := (HVL.out b5 e.symm).2; omega)
      have KEEP7 : V2.cell? ⟨rb, 1, none⟩ = some (.slice VA n1 VC) ∧ V2.cell? ⟨b5, 0, none⟩ = some (.string nm) ∧ V2.cell? ⟨b5, 1, none⟩ = some (.slice KA k KC) := ⟨HRO2.out.cell 1, HBX2.out.cell 0, HBX2.out.cell 1⟩
      clear k1 k2 k3 k1b hn9
      refine hK.out _ _ KEEP7 (fun hHeld => ?_)
      clear hK K
      try simp only [Act.put]
      try simp only [List.setIfInBounds_toArray]
      try simp only [List.set_cons_succ]
      try simp only [List.set_cons_zero]
      refine takeZ (i := 8) (v := ?_) (some 52) rfl rfl (by kernel_rfl) (by decide) (by kernel_rfl) (by kernel_rfl) (by kernel_rfl) (by kernel_rfl) (fun _ _ _ h => h) (Or.inl ⟨by rfl, ?_⟩) (by assumption) ?_
      rotate_left 1
      · (intro w0 hSw; (try dsimp only at hSw); go_simp; try (with_reducible rfl))
      try simp only [Act.put]
      try simp only [List.setIfInBounds_toArray]
      try simp only [List.set_cons_succ]
      try simp only [List.set_cons_zero]
      refine takeZ (i := 9) (v := ?_) (some 53) rfl rfl (by kernel_rfl) (by decide) (by kernel_rfl) (by kernel_rfl) (by kernel_rfl) (by kernel_rfl) (fun _ _ _ h => h) (Or.inl ⟨by rfl, ?_⟩) (by assumption) ?_
      rotate_left 1
      · (intro w0 hSw; (try dsimp only at hSw); go_simp; try (with_reducible rfl))
      try simp only [Act.put]
      try simp only [List.setIfInBounds_toArray]
      try simp only [List.set_cons_succ]
      try simp only [List.set_cons_zero]
      refine lastZ (by kernel_rfl) rfl (by kernel_rfl) (fun K hK => ?_)
      go_simp
      have m0 := HRO2.out.frozen 1
      have m1 := HRO2.out.lt
      have m2 : V2.cell? ⟨rb, 1, none⟩ = some (.slice VA n1 VC) := HRO2.out.cell 1
      go_simp
      go_wp2_with fail
      refine hK.out _ _ ?_
      clear hK K
      try simp only [Act.put, List.setIfInBounds_toArray, List.set_cons_succ, List.set_cons_zero]
      obtain ⟨V3, hV3⟩ : ∃ V, V = V2.setCell ⟨rb, 1, none⟩ (.slice A9 n9 C9) := ⟨_, rfl⟩
      rw [← hV3]
      obtain ⟨S', hS'⟩ : ∃ S', S' = r1.S ++ [(nm, ks)] := ⟨_, rfl⟩
      have hS3 := RdM_sch HN1S.out.symm HB5.out (by have := HRX.out.lt; omega) HOS.out HSC.out HOR.out HHD.out HMR.out HB.out HOWN.out HKL.out HV1.out HK1.out HK2.out HK3.out hV3
      rw [← hS'] at hS3
      have HS3 := Lib.hid hS3
      have HRO3 : Hid (Row V3 rb 119 [.int .i64 r1.line, .slice A9 n9 C9, m, vr]) := by show Row _ _ _ _; rw [hV3]; exact HRO2.out.set 1 _
      have HBX3 : Hid (Row V3 b5 62 [.string nm, .slice KA k KC]) := by show Row _ _ _ _; rw [hV3]; exact HBX2.out.far (by show b5 ≠ rb; have := HRX.out.lt; have := HB5.out; omega) _
      have HBV3 : Hid (Below rb w V3) := by
        show Below _ _ _
        have hz1 := HRX.out.lt
        have hz2 := HB5.out
        have h1 : Below rb w V2 := ((HB2.out.trans ((HB.out.mono (by omega)))).trans (HV1.out.mono (by omega))).grown HK2.out (by have := HV1.out.size; have := HB.out.size; omega) (fun g hg => Nat.le_of_lt (HVL.out g hg).1)
        rw [hV3]
        exact h1.setCell (p := ⟨rb, 1, none⟩) (Nat.le_refl _) _
      have hlen : S'.length = n9 := by rw [hS', List.length_append, HN9.out, HN1S.out]; rfl
      have hos9 : V3.ownsRow (rb + 1) 62 2 (.slice A9 n9 C9) n9 (sc ++ [.string nm, .slice KA k KC]) := by have := hS3.1; rw [← HN9.out] at this; exact this
      have HSOK : Hid (SchsOk S') := fun p hp => by
        rw [hS'] at hp
        rcases List.mem_append.1 hp with hp | hp
        · rw [HRR.out, closeRd_S] at hp
          obtain ⟨h1, h2, -⟩ := (errS_mem HOK.out.err).2.2 p hp
          unfold nameF at h1
          simp only [Bool.and_eq_true, decide_eq_true_eq] at h1
          exact ⟨by omega, by omega⟩
        · rw [List.mem_singleton.1 hp]
          obtain ⟨a, b, e1, e2⟩ := words_conv (Lib.count text [32]) text
          have h2 := wordsP_data text
          rw [← HWS.out, HWT.out, e1] at h2
          injection h2 with h2 _
          have h2 : nm.data.toList = a := h2
          have h3 : nm.size ≤ 1000000 := by
            rw [Lib.size_eq, h2]
            have h4 := congrArg List.length e2
            rw [List.length_append] at h4
            have := HS.out
            omega
          exact ⟨by show nm.size ≤ _; omega, by show ks.length ≤ _; have := HKL.out; have := HWL.out; have := HM.out; have := HN1.out; omega⟩
      have hnew := ctNew_any (fun c => V3.heap.size ≤ c) A9 C9 S' V3 (fun b hb => hb) (hS3.2.1.schs hos9) HSOK.out (by have := HN1L.out; have := HN9.out; omega)
      rw [hlen] at hnew
      have HNEW := Lib.hid hnew
      have HSS := Lib.hid hS'
      have HLEN := Lib.hid hlen
      have m3 : V3.cell? ⟨rb, 1, none⟩ = some (.slice A9 n9 C9) := HRO3.out.cell 1
      have m4 := HRO3.out.lt
      clear hos9 hnew hS3 hV3 hS' hlen m0 m1 m2 KEEP7 HBX2 HRO2 HOSR HKEEP
      go_wp2_with fail
      refine HNEW.out.mono ?_
      intro e V4 hpost
      obtain ⟨q1, q2, hb4⟩ := hpost
      have HB4 := Lib.hid hb4
      have HRO4 := Lib.hid (HRO3.out.up hb4)
      have HBX4 := Lib.hid (HBX3.out.up hb4)
      by_cases he : errS S' = 0
      rotate_left
      · obtain rfl := q2 he
        have HRES : Hid (relRd r text = (errS S', r1)) := by show _ = _; rw [HRS.out, ← HSS.out, if_pos he]
        have HNE : Hid (errS S' ≠ 0) := he
        have hne : (errS S' != 0) = true := by simpa using he
        have HLNE : Hid (r1.line = r.line) := by show _ = _; rw [HRR.out]; exact closeRd_line r
        have HROF : Hid (∀ o, Row (V4.alloc o) rb 119 [.int .i64 r1.line, .slice A9 n9 C9, m, vr]) := fun o => HRO4.out.alloc o
        have HBF : Hid (∀ o, Below rb w (V4.alloc o)) := fun o => (HBV3.out.trans (HB4.out.mono (by omega))).alloc (by have := HRO4.out.lt; omega) o
        clear q1 q2 hb4 he HNEW HRS
        generalize errS S' = ce at *
        go_wp2_with fail
        refine (rdFail_any (HROF.out _)).mono ?_
        rintro e w4 ⟨rfl, rfl⟩
        go_wp2_with fail
        exact ⟨rfl, LinePost.bad (by rw [HRES.out]) HNE.out (HBF.out _) (by rw [HRES.out])⟩
      obtain ⟨m2, rfl, hdb⟩ := q1 he
      obtain ⟨md, rfl⟩ := hdb.form
      have HDB := Lib.hid hdb
      have HRS2 : Hid (relRd r text = if (match r1.S.getLast? with | none => false | some p => decide (0 ≤ RL.cmpS p.1 nm)) then (16, r1) else (0, { r1 with S := r1.S ++ [(nm, ks)] })) := by show _ = _; rw [HRS.out, ← HSS.out, if_neg (by simpa using he)]
      have HER := Lib.hid he
      have m5 : (V4.alloc (.cells #[.map (some md)] 28)).cell? ⟨rb, 1, none⟩ = some (.slice A9 n9 C9) := (HRO4.out.alloc _).cell 1
      have m6 : rb < V4.heap.size := HRO4.out.lt
      clear q1 q2 hb4 hdb he HNEW HRS m3
      go_upto_region 18 with (fail)
      obtain ⟨b8, hb8⟩ : ∃ b, b = V4.heap.size := ⟨_, rfl⟩
      obtain ⟨V5, hV5⟩ : ∃ W, W = V4.alloc (.cells #[.map (some md)] 28) := ⟨_, rfl⟩
      have HRO5 : Hid (Row V5 rb 119 [.int .i64 r1.line, .slice A9 n9 C9, m, vr]) := by show Row _ _ _ _; rw [hV5]; exact HRO4.out.alloc _
      have HBX5 : Hid (Row V5 b5 62 [.string nm, .slice KA k KC]) := by show Row _ _ _ _; rw [hV5]; exact HBX4.out.alloc _
      have HB8 : Hid (Row V5 b8 28 [.map (some md)]) := by show Row _ _ _ _; rw [hV5, hb8]; exact Row.new V4 _ _
      have HB35 : Hid (Below V3.heap.size V3 V5) := by show Below _ _ _; rw [hV5]; exact HB4.out.alloc HB4.out.size _
      have HB45 : Hid (Below V4.heap.size V4 V5) := by show Below _ _ _; rw [hV5]; exact ((Ext.refl V4).alloc _).below
      rw [← hV5, ← hb8]
      have HB8E := Lib.hid hb8
      clear hV5 hb8 m5 m6
      obtain ⟨cb, hcb⟩ : ∃ cb, cb = (match r1.S.getLast? with | none => false | some p => decide (0 ≤ RL.cmpS p.1 nm)) := ⟨_, rfl⟩
      rw [← hcb, ← HSS.out] at HRS2
      have HCBE := Lib.hid hcb
      clear hcb
      have c1 : V5.cell? ⟨rb, 1, none⟩ = some (.slice A9 n9 C9) := HRO5.out.cell 1
      have c2 : V5.cell? ⟨b5, 0, none⟩ = some (.string nm) := HBX5.out.cell 0
      have c3 := HRO5.out.lt
      have c4 := HBX5.out.lt
      go_cut [87] from 72 to 87 (fun b wx => b = .bool cb ∧ Below V5.heap.size V5 wx)
      case first =>
        by_cases hn0 : n1 = 0
        · have hn9 := HN9.out
          have hd0 : decide ((1 : Int) < (n9 : Int)) = false := decide_eq_false (by omega)
          have HST : Hid (V5.drew.cell? ⟨b5, 0, none⟩ = some (.string nm)) := c2
          have HCB : Hid (cb = false) := by
            show _ = _
            have h1 := HCBE.out
            have h2 : r1.S = [] := List.eq_nil_of_length_eq_zero (by rw [← HN1S.out]; exact hn0)
            rw [h2] at h1
            exact h1
          clear hn9 hn0
          refine wp_region_held_drew (S := (fun w' => w'.cell? ⟨b5, 0, none⟩ = some (.string nm))) (by kernel_rfl) HST.out (fun hHeld => ?_)
          refine takeOp (i := 0) (v := ?_) (some 72) rfl rfl (by kernel_rfl) (by kernel_rfl) (by kernel_rfl) (fun _ _ _ h => h) (Or.inl ⟨by rfl, ?_⟩) (by assumption) ?_
          rotate_left 1
          · (intro w0 hSw; (try dsimp only at hSw); go_simp; try (with_reducible rfl))
          try simp only [Act.put, List.setIfInBounds_toArray, List.set_cons_succ, List.set_cons_zero]
          refine takeOp (i := 1) (v := ?_) (some 73) rfl rfl (by kernel_rfl) (by kernel_rfl) (by kernel_rfl) (fun _ _ _ h => h) (Or.inl ⟨by rfl, ?_⟩) (by assumption) ?_
          rotate_left 1
          · (intro w0 hSw; (try dsimp only at hSw); go_simp; try (with_reducible rfl))
          try simp only [Act.put, List.setIfInBounds_toArray, List.set_cons_succ, List.set_cons_zero]
          refine takeOp (i := 2) (v := ?_) (some 74) rfl rfl (by kernel_rfl) (by kernel_rfl) (by kernel_rfl) (fun _ _ _ h => h) (Or.inl ⟨by rfl, ?_⟩) (by assumption) ?_
          rotate_left 1
          · (intro w0 hSw; (try dsimp only at hSw); go_simp; try (with_reducible rfl))
          try simp only [Act.put, List.setIfInBounds_toArray, List.set_cons_succ, List.set_cons_zero]
          refine takeOp (i := 3) (v := undef) (some 75) rfl rfl (by kernel_rfl) (by kernel_rfl) (by kernel_rfl) (fun _ _ _ h => h) (Or.inr ⟨by rfl, rfl⟩) (by assumption) ?_
          try simp only [Act.put, List.setIfInBounds_toArray, List.set_cons_succ, List.set_cons_zero]
          refine takeOp (i := 4) (v := undef) (some 76) rfl rfl (by kernel_rfl) (by kernel_rfl) (by kernel_rfl) (fun _ _ _ h => h) (Or.inr ⟨by rfl, rfl⟩) (by assumption) ?_
          try simp only [Act.put, List.setIfInBounds_toArray, List.set_cons_succ, List.set_cons_zero]
          refine takeOp (i := 5) (v := undef) (some 77) rfl rfl (by kernel_rfl) (by kernel_rfl) (by kernel_rfl) (fun _ _ _ h => h) (Or.inr ⟨by rfl, rfl⟩) (by assumption) ?_
          try simp only [Act.put, List.setIfInBounds_toArray, List.set_cons_succ, List.set_cons_zero]
          refine takeOp (i := 6) (v := undef) (some 78) rfl rfl (by kernel_rfl) (by kernel_rfl) (by kernel_rfl) (fun _ _ _ h => h) (Or.inr ⟨by rfl, rfl⟩) (by assumption) ?_
          try simp only [Act.put, List.setIfInBounds_toArray, List.set_cons_succ, List.set_cons_zero]
          refine takeOp (i := 7) (v := undef) (some 79) rfl rfl (by kernel_rfl) (by kernel_rfl) (by kernel_rfl) (fun _ _ _ h => h) (Or.inr ⟨by rfl, rfl⟩) (by assumption) ?_
          try simp only [Act.put, List.setIfInBounds_toArray, List.set_cons_succ, List.set_cons_zero]
          refine takeOp (i := 8) (v := undef) (some 80) rfl rfl (by kernel_rfl) (by kernel_rfl) (by kernel_rfl) (fun _ _ _ h => h) (Or.inr ⟨by rfl, rfl⟩) (by assumption) ?_
          try simp only [Act.put, List.setIfInBounds_toArray, List.set_cons_succ, List.set_cons_zero]
          refine takeOp (i := 9) (v := undef) (some 81) rfl rfl (by kernel_rfl) (by kernel_rfl) (by kernel_rfl) (fun _ _ _ h => h) (Or.inr ⟨by rfl, rfl⟩) (by assumption) ?_
          try simp only [Act.put, List.setIfInBounds_toArray, List.set_cons_succ, List.set_cons_zero]
          refine takeOp (i := 10) (v := undef) (some 82) rfl rfl (by kernel_rfl) (by kernel_rfl) (by kernel_rfl) (fun _ _ _ h => h) (Or.inr ⟨by rfl, rfl⟩) (by assumption) ?_
          try simp only [Act.put, List.setIfInBounds_toArray, List.set_cons_succ, List.set_cons_zero]
          refine takeOp (i := 11) (v := undef) (some 83) rfl rfl (by kernel_rfl) (by kernel_rfl) (by kernel_rfl) (fun _ _ _ h => h) (Or.inr ⟨by rfl, rfl⟩) (by assumption) ?_
          try simp only [Act.put, List.setIfInBounds_toArray, List.set_cons_succ, List.set_cons_zero]
          refine takeOp (i := 12) (v := undef) (some 84) rfl rfl (by kernel_rfl) (by kernel_rfl) (by kernel_rfl) (fun _ _ _ h => h) (Or.inr ⟨by rfl, rfl⟩) (by assumption) ?_
          try simp only [Act.put, List.setIfInBounds_toArray, List.set_cons_succ, List.set_cons_zero]
          refine takeOp (i := 13) (v := undef) (some 85) rfl rfl (by kernel_rfl) (by kernel_rfl) (by kernel_rfl) (fun _ _ _ h => h) (Or.inr ⟨by rfl, rfl⟩) (by assumption) ?_
          try simp only [Act.put, List.setIfInBounds_toArray, List.set_cons_succ, List.set_cons_zero]
          refine takeOp (i := 14) (v := undef) (some 86) rfl rfl (by kernel_rfl) (by kernel_rfl) (by kernel_rfl) (fun _ _ _ h => h) (Or.inr ⟨by rfl, rfl⟩) (by assumption) ?_
          try simp only [Act.put, List.setIfInBounds_toArray, List.set_cons_succ, List.set_cons_zero]
          refine takeOp (i := 15) (v := ?_) (some 87) rfl rfl (by kernel_rfl) (by kernel_rfl) (by kernel_rfl) (fun _ _ _ h => h) (Or.inl ⟨by rfl, ?_⟩) (by assumption) ?_
          rotate_left 1
          · (intro w0 hSw; (try dsimp only at hSw); go_simp; try (with_reducible rfl))
          try simp only [Act.put, List.setIfInBounds_toArray, List.set_cons_succ, List.set_cons_zero]
          refine wpAnyH_done (by kernel_rfl) ?_ _
          go_wp2_with fail
          go_meet
          case rel => exact ⟨by rw [HCB.out], (Below.refl _ _).drew⟩
        · obtain ⟨q, hq⟩ : ∃ q, n1 = q + 1 := ⟨n1 - 1, by omega⟩
          have hn9 := HN9.out
          have hw1 : IntKind.i64.wrap ((n9 : Int) - 2) = (q : Int) := by rw [IntWalk.i64_in _ (by have := HN1L.out; omega)]; omega
          have hd0 : decide ((1 : Int) < (n9 : Int)) = true := decide_eq_true (by omega)
          have g5 : (0 : Int) ≤ (q : Int) := by omega
          have g6 : (q : Int) < (n9 : Int) := by omega
          obtain ⟨s9, cap9, he9, hs91, hs92⟩ := HS3.out.1.form (by omega)
          injection he9 with he9 he92 he93
          clear he92 he93
          subst he9
          obtain ⟨S0, p, hSp⟩ : ∃ S0 p, r1.S = S0 ++ [p] := by
            rcases List.eq_nil_or_concat r1.S with h | ⟨S0, p, h⟩
            · exact absurd (by rw [HN1S.out, h]; rfl) hn0
            · exact ⟨S0, p, by simpa using h⟩
          have hS0l : S0.length = q := by have := HN1S.out; rw [hSp] at this; simp at this; omega
          obtain ⟨KB, KD, p1, -, -⟩ := HS3.out.2.1.at_ q (by rw [HLEN.out]; omega)
          have hat : S'[q]'(by rw [HLEN.out]; omega) = p := by
            have : S' = S0 ++ [p] ++ [(nm, ks)] := by rw [HSS.out, hSp]
            simp [this, ← hS0l]
          rw [hat] at p1
          have p1 := HS3.out.1.cells rfl _ _ p1
          rw [Addr.add_lit, Nat.zero_add] at p1
          have p1 := cell_below HB35.out p1
          have hs95 : s9 < V5.heap.size := by have := HB35.out.size; omega
          obtain ⟨pn, pk⟩ := p
          have p1 : V5.cell? ⟨s9, q * 2, none⟩ = some (.string pn) := p1
          have HST : Hid (V5.drew.cell? ⟨rb, 1, none⟩ = some (.slice (some ⟨s9, 0, none⟩) n9 C9) ∧ V5.drew.cell? ⟨s9, q * 2, none⟩ = some (.string pn) ∧ V5.drew.cell? ⟨b5, 0, none⟩ = some (.string nm)) := ⟨c1, p1, c2⟩
          have HCB : Hid (cb = !Op.bytesLess pn.toList nm.toList) := by
            show _ = _
            have h1 := HCBE.out
            rw [hSp] at h1
            simp only [List.getLast?_append, List.getLast?_singleton, Option.some_or] at h1
            rw [h1, bytesLess_cmp, ← decide_not]
            exact decide_eq_decide.2 (by omega)
          clear hq hn9 hn0 hs91 hs92 hSp hS0l hat p1 c1 c2
          refine wp_region_held_drew (S := (fun w' => w'.cell? ⟨rb, 1, none⟩ = some (.slice (some ⟨s9, 0, none⟩) n9 C9) ∧ w'.cell? ⟨s9, q * 2, none⟩ = some (.string pn) ∧ w'.cell? ⟨b5, 0, none⟩ = some (.string nm))) (by kernel_rfl) HST.out (fun hHeld => ?_)
          refine takeOp (i := 0) (v := ?_) (some 72) rfl rfl (by kernel_rfl) (by kernel_rfl) (by kernel_rfl) (fun _ _ _ h => h) (Or.inl ⟨by rfl, ?_⟩) (by assumption) ?_
          rotate_left 1
          · (intro w0 hSw; (try dsimp only at hSw); go_simp; try (with_reducible rfl))
          try simp only [Act.put, List.setIfInBounds_toArray, List.set_cons_succ, List.set_cons_zero]
          refine takeOp (i := 1) (v := ?_) (some 73) rfl rfl (by kernel_rfl) (by kernel_rfl) (by kernel_rfl) (fun _ _ _ h => h) (Or.inl ⟨by rfl, ?_⟩) (by assumption) ?_
          rotate_left 1
          · (intro w0 hSw; (try dsimp only at hSw); go_simp; try (with_reducible rfl))
          try simp only [Act.put, List.setIfInBounds_toArray, List.set_cons_succ, List.set_cons_zero]
          refine takeOp (i := 2) (v := ?_) (some 74) rfl rfl (by kernel_rfl) (by kernel_rfl) (by kernel_rfl) (fun _ _ _ h => h) (Or.inl ⟨by rfl, ?_⟩) (by assumption) ?_
          rotate_left 1
          · (intro w0 hSw; (try dsimp only at hSw); go_simp; try (with_reducible rfl))
          try simp only [Act.put, List.setIfInBounds_toArray, List.set_cons_succ, List.set_cons_zero]
          refine takeOp (i := 3) (v := ?_) (some 75) rfl rfl (by kernel_rfl) (by kernel_rfl) (by kernel_rfl) (fun _ _ _ h => h) (Or.inl ⟨by rfl, ?_⟩) (by assumption) ?_
          rotate_left 1
          · (intro w0 hSw; (try dsimp only at hSw); go_simp; try (with_reducible rfl))
          try simp only [Act.put, List.setIfInBounds_toArray, List.set_cons_succ, List.set_cons_zero]
          refine takeOp (i := 4) (v := ?_) (some 76) rfl rfl (by kernel_rfl) (by kernel_rfl) (by kernel_rfl) (fun _ _ _ h => h) (Or.inl ⟨by rfl, ?_⟩) (by assumption) ?_
          rotate_left 1
          · (intro w0 hSw; (try dsimp only at hSw); go_simp; try (with_reducible rfl))
          try simp only [Act.put, List.setIfInBounds_toArray, List.set_cons_succ, List.set_cons_zero]
          refine takeOp (i := 5) (v := ?_) (some 77) rfl rfl (by kernel_rfl) (by kernel_rfl) (by kernel_rfl) (fun _ _ _ h => h) (Or.inl ⟨by rfl, ?_⟩) (by assumption) ?_
          rotate_left 1
          · (intro w0 hSw; (try dsimp only at hSw); go_simp; try (with_reducible rfl))
          try simp only [Act.put, List.setIfInBounds_toArray, List.set_cons_succ, List.set_cons_zero]
          refine takeOp (i := 6) (v := ?_) (some 78) rfl rfl (by kernel_rfl) (by kernel_rfl) (by kernel_rfl) (fun _ _ _ h => h) (Or.inl ⟨by rfl, ?_⟩) (by assumption) ?_
          rotate_left 1
          · (intro w0 hSw; (try dsimp only at hSw); go_simp; try (with_reducible rfl))
          try simp only [Act.put, List.setIfInBounds_toArray, List.set_cons_succ, List.set_cons_zero]
          refine takeOp (i := 7) (v := ?_) (some 79) rfl rfl (by kernel_rfl) (by kernel_rfl) (by kernel_rfl) (fun _ _ _ h => h) (Or.inl ⟨by rfl, ?_⟩) (by assumption) ?_
          rotate_left 1
          · (intro w0 hSw; (try dsimp only at hSw); go_simp; try (with_reducible rfl))
          try simp only [Act.put, List.setIfInBounds_toArray, List.set_cons_succ, List.set_cons_zero]
          refine takeOp (i := 8) (v := ?_) (some 80) rfl rfl (by kernel_rfl) (by kernel_rfl) (by kernel_rfl) (fun _ _ _ h => h) (Or.inl ⟨by rfl, ?_⟩) (by assumption) ?_
          rotate_left 1
          · (intro w0 hSw; (try dsimp only at hSw); go_simp; try (with_reducible rfl))
          try simp only [Act.put, List.setIfInBounds_toArray, List.set_cons_succ, List.set_cons_zero]
          refine takeOp (i := 9) (v := ?_) (some 81) rfl rfl (by kernel_rfl) (by kernel_rfl) (by kernel_rfl) (fun _ _ _ h => h) (Or.inl ⟨by rfl, ?_⟩) (by assumption) ?_
          rotate_left 1
          · (intro w0 hSw; (try dsimp only at hSw); go_simp; try (with_reducible rfl))
          try simp only [Act.put, List.setIfInBounds_toArray, List.set_cons_succ, List.set_cons_zero]
          refine takeOp (i := 10) (v := ?_) (some 82) rfl rfl (by kernel_rfl) (by kernel_rfl) (by kernel_rfl) (fun _ _ _ h => h) (Or.inl ⟨by rfl, ?_⟩) (by assumption) ?_
          rotate_left 1
          · (intro w0 hSw; (try dsimp only at hSw); go_simp; try (with_reducible rfl))
          try simp only [Act.put, List.setIfInBounds_toArray, List.set_cons_succ, List.set_cons_zero]
          refine takeOp (i := 11) (v := ?_) (some 83) rfl rfl (by kernel_rfl) (by kernel_rfl) (by kernel_rfl) (fun _ _ _ h => h) (Or.inl ⟨by rfl, ?_⟩) (by assumption) ?_
          rotate_left 1
          · (intro w0 hSw; (try dsimp only at hSw); go_simp; try (with_reducible rfl))
          try simp only [Act.put, List.setIfInBounds_toArray, List.set_cons_succ, List.set_cons_zero]
          refine takeOp (i := 12) (v := ?_) (some 84) rfl rfl (by kernel_rfl) (by kernel_rfl) (by kernel_rfl) (fun _ _ _ h => h) (Or.inl ⟨by rfl, ?_⟩) (by assumption) ?_
          rotate_left 1
          · (intro w0 hSw; (try dsimp only at hSw); go_simp; try (with_reducible rfl))
          try simp only [Act.put, List.setIfInBounds_toArray, List.set_cons_succ, List.set_cons_zero]
          refine takeOp (i := 13) (v := ?_) (some 85) rfl rfl (by kernel_rfl) (by kernel_rfl) (by kernel_rfl) (fun _ _ _ h => h) (Or.inl ⟨by rfl, ?_⟩) (by assumption) ?_
          rotate_left 1
          · (intro w0 hSw; (try dsimp only at hSw); go_simp; try (with_reducible rfl))
          try simp only [Act.put, List.setIfInBounds_toArray, List.set_cons_succ, List.set_cons_zero]
          refine takeOp (i := 14) (v := ?_) (some 86) rfl rfl (by kernel_rfl) (by kernel_rfl) (by kernel_rfl) (fun _ _ _ h => h) (Or.inl ⟨by rfl, ?_⟩) (by assumption) ?_
          rotate_left 1
          · (intro w0 hSw; (try dsimp only at hSw); go_simp; try (with_reducible rfl))
          try simp only [Act.put, List.setIfInBounds_toArray, List.set_cons_succ, List.set_cons_zero]
          refine takeOp (i := 15) (v := ?_) (some 87) rfl rfl (by kernel_rfl) (by kernel_rfl) (by kernel_rfl) (fun _ _ _ h => h) (Or.inl ⟨by rfl, ?_⟩) (by assumption) ?_
          rotate_left 1
          · (intro w0 hSw; (try dsimp only at hSw); go_simp; try (with_reducible rfl))
          try simp only [Act.put, List.setIfInBounds_toArray, List.set_cons_succ, List.set_cons_zero]
          refine wpAnyH_done (by kernel_rfl) ?_ _
          go_wp2_with fail
          go_meet
          case rel => exact ⟨by rw [HCB.out], (Below.refl _ _).drew⟩
      case rest =>
      obtain ⟨rfl, hb6⟩ := hcut
      generalize wc = V6 at *
      have HB36 := Lib.hid (HB35.out.trans (hb6.mono HB35.out.size))
      have HRO6 := Lib.hid (HRO5.out.up hb6)
      have HB86 := Lib.hid (HB8.out.up hb6)
      have HB46 := Lib.hid (HB45.out.trans (hb6.mono HB45.out.size))
      clear hb6 c1 c2 c3 c4
      cases hcb : cb with
      | true =>
        have HRES : Hid (relRd r text = (16, r1)) := by show _ = _; rw [HRS2.out, hcb]; rfl
        have HLNE : Hid (r1.line = r.line) := by show _ = _; rw [HRR.out]; exact closeRd_line r
        clear hcb
        go_wp2_with fail
        refine (rdFail_any HRO6.out).mono ?_
        rintro e w4 ⟨rfl, rfl⟩
        go_wp2_with fail
        exact ⟨rfl, LinePost.bad (by rw [HRES.out]) (by decide) (HBV3.out.trans (HB36.out.mono (by have := HRO3.out.lt; omega))) (by rw [HRES.out])⟩
      | false =>
        have HRES : Hid (relRd r text = (0, { r1 with S := S' })) := by show _ = _; rw [HRS2.out, hcb]; rfl
        have hrb3 := HRO3.out.lt
        have hz36 := HB36.out.size
        have hz45 := HB46.out.size
        have hz34 := HB4.out.size
        obtain ⟨hl16, hnd', -⟩ := errS_mem HER.out
        have HND := Lib.hid hnd'
        have HCP : Hid (∀ V, Below V6.heap.size V6 V → Calls Tryz.prog 91 #[.map (some md), m] V fun e w' => e = .returned (.tuple #[]) ∧ DbM (RdP rb (.slice A9 n9 C9) vr) S' w' (.map (some md)) (fun s => if memB s (r1.S.map Prod.fst) then r1.F s else []) ∧ V.grownBy w' (some md)) := fun V hb => by
          have hb3 := HB36.out.trans (hb.mono hz36)
          have h1 := HS3.out.1.lt
          have h2 := HS3.out.2.2.1.lt
          refine ctCopy_any (z := V3.heap.size) V (fun c hc => ⟨by omega, fun e => by have := (h1 c e).2; omega, fun e => by have := (h2 c e).2; omega⟩) hb3.size (HDB.out.up (HB46.out.trans (hb.mono hz45))) ?_ (fun p hp => by rw [HSS.out]; exact List.mem_append.2 (.inl hp)) hnd' (by omega) (fun p hp => ?_)
          · exact (HS3.out.2.2.2.2.weak fun c hc h => ⟨h, hc⟩).keep (Stay.of hb3)
          · have h5 := HSOK.out p (by rw [HSS.out]; exact List.mem_append.2 (.inl hp))
            have h6 := h5.1
            rw [HRR.out, closeRd_S] at hp
            obtain ⟨h7, -, -⟩ := (errS_mem HOK.out.err).2.2 p hp
            unfold nameF at h7
            simp only [Bool.and_eq_true, decide_eq_true_eq] at h7
            simp only [maxLen]; omega
        have hmd : V3.heap.size ≤ md ∧ md < V4.heap.size := by
          obtain ⟨b, D, e, hzb, hown, -⟩ := HDB.out.ents
          injection e with e
          injection e with e
          subst e
          exact ⟨hzb, hown.lt⟩
        have HMD := Lib.hid hmd
        have HST : Hid (V6.drew.cell? ⟨b8, 0, none⟩ = some (.map (some md)) ∧ V6.drew.cell? ⟨rb, 2, none⟩ = some m) := ⟨HB86.out.cell 0, HRO6.out.cell 2⟩
        have hb86 := HB86.out.lt
        have hr86 := HRO6.out.lt
        have HZZ : Hid (rb < V3.heap.size ∧ V3.heap.size ≤ V4.heap.size ∧ V4.heap.size ≤ V6.heap.size) := ⟨hrb3, hz34, hz45⟩
        clear hrb3 hz36 hz45 hz34 hnd' hmd hl16
        go_upto_region 20 with (fail)
        refine wp_region_held_drew (S := (fun w' => w'.cell? ⟨b8, 0, none⟩ = some (.map (some md)) ∧ w'.cell? ⟨rb, 2, none⟩ = some m)) (by kernel_rfl) HST.out (fun hHeld => ?_)
        refine takeOp (i := 0) (v := ?_) (some 90) rfl rfl (by kernel_rfl) (by kernel_rfl) (by kernel_rfl) (fun _ _ _ h => h) (Or.inl ⟨by rfl, ?_⟩) (by assumption) ?_
        rotate_left 1
        · (intro w0 hSw; (try dsimp only at hSw); go_simp; try (with_reducible rfl))
        try simp only [Act.put, List.setIfInBounds_toArray, List.set_cons_succ, List.set_cons_zero]
        refine takeOp (i := 1) (v := ?_) (some 91) rfl rfl (by kernel_rfl) (by kernel_rfl) (by kernel_rfl) (fun _ _ _ h => h) (Or.inl ⟨by rfl, ?_⟩) (by assumption) ?_
        rotate_left 1
        · (intro w0 hSw; (try dsimp only at hSw); go_simp; try (with_reducible rfl))
        try simp only [Act.put, List.setIfInBounds_toArray, List.set_cons_succ, List.set_cons_zero]
        refine takeOp (i := 2) (v := ?_) (some 92) rfl rfl (by kernel_rfl) (by kernel_rfl) (by kernel_rfl) (fun _ _ _ h => h) (Or.inl ⟨by rfl, ?_⟩) (by assumption) ?_
        rotate_left 1
        · (intro w0 hSw; (try dsimp only at hSw); go_simp; try (with_reducible rfl))
        try simp only [Act.put, List.setIfInBounds_toArray, List.set_cons_succ, List.set_cons_zero]
        refine takeOp (i := 3) (v := ?_) (some 93) rfl rfl (by kernel_rfl) (by kernel_rfl) (by kernel_rfl) (fun _ _ _ h => h) (Or.inl ⟨by rfl, ?_⟩) (by assumption) ?_
        rotate_left 1
        · (intro w0 hSw; (try dsimp only at hSw); go_simp; try (with_reducible rfl))
        try simp only [Act.put, List.setIfInBounds_toArray, List.set_cons_succ, List.set_cons_zero]
        refine takeOp (i := 4) (v := ?_) (some 94) rfl rfl (by kernel_rfl) (by kernel_rfl) (by kernel_rfl) (fun _ _ _ h => h) (Or.inl ⟨by rfl, ?_⟩) (by assumption) ?_
        rotate_left 1
        · (intro w0 hSw; (try dsimp only at hSw); go_simp; try (with_reducible rfl))
        try simp only [Act.put, List.setIfInBounds_toArray, List.set_cons_succ, List.set_cons_zero]
        refine takeOp (i := 5) (v := ?_) (some 95) rfl rfl (by kernel_rfl) (by kernel_rfl) (by kernel_rfl) (fun _ _ _ h => h) (Or.inl ⟨by rfl, ?_⟩) (by assumption) ?_
        rotate_left 1
        · (intro w0 hSw; (try dsimp only at hSw); go_simp; try (with_reducible rfl))
        try simp only [Act.put, List.setIfInBounds_toArray, List.set_cons_succ, List.set_cons_zero]
        refine takeOp (i := 6) (v := ?_) (some 96) rfl rfl (by kernel_rfl) (by kernel_rfl) (by kernel_rfl) (fun _ _ _ h => h) (Or.inl ⟨by rfl, ?_⟩) (by assumption) ?_
        rotate_left 1
        · (intro w0 hSw; (try dsimp only at hSw); go_simp; try (with_reducible rfl))
        try simp only [Act.put, List.setIfInBounds_toArray, List.set_cons_succ, List.set_cons_zero]
        refine wpAnyH_ready (rs := [7]) (by kernel_rfl) (by simp) ?_
        refine AllReadyH.cons rfl (fun K hK => ?_) AllReadyH.nil
        go_simp
        refine (HCP.out V6.drew (Below.refl _ _).drew).mono ?_
        rintro e W7 ⟨rfl, hdb7, hg7⟩
        have HDB7 := Lib.hid hdb7
        have HG7 := Lib.hid hg7
        have HRO7 : Hid (Row W7 rb 119 [.int .i64 r1.line, .slice A9 n9 C9, m, vr]) := HRO6.out.drew.grown hg7 (fun e => by injection e with e; have := HMD.out; have := HZZ.out; omega)
        have HB87 : Hid (Row W7 b8 28 [.map (some md)]) := HB86.out.drew.grown hg7 (fun e => by injection e with e; have := HMD.out; have := HB8E.out; omega)
        clear hdb7 hg7
        go_wp2_with fail
        refine hK.out _ _ ⟨HB87.out.cell 0, HRO7.out.cell 2⟩ (fun hHeld => ?_)
        clear hK K
        try simp only [Act.put, List.setIfInBounds_toArray, List.set_cons_succ, List.set_cons_zero]
        refine wpAnyH_done (by kernel_rfl) ?_ _
        have m0 := HRO7.out.frozen 2
        have m1 := HRO7.out.lt
        have m2 : W7.cell? ⟨rb, 2, none⟩ = some m := HRO7.out.cell 2
        have m3 : W7.cell? ⟨b8, 0, none⟩ = some (.map (some md)) := HB87.out.cell 0
        have m4 := HB87.out.lt
        clear hb86 hr86
        go_wp2_with fail
        obtain ⟨W9, hW9⟩ : ∃ W, W = W7.setCell ⟨rb, 2, none⟩ (.map (some md)) := ⟨_, rfl⟩
        rw [← hW9]
        have hmd := HMD.out
        have hzz := HZZ.out
        have hst : Stay (fun c => c ≠ md ∧ c ≠ rb ∧ c < V3.heap.size) V3 W9 := by
          rw [hW9]
          exact (((Stay.of HB36.out.drew).less (Pr' := fun c => c ≠ md ∧ c ≠ rb ∧ c < V3.heap.size) (fun _ _ _ => trivial)).trans (Stay.grownP HG7.out fun g hg h => by injection hg with hg; exact h.1 hg.symm)).trans (Stay.set (fun h => h.2.1 rfl) 2 _)
        have h1 := HS3.out.1.lt
        have h2 := HS3.out.2.2.1.lt
        have hst2 : Stay (fun c => RdP rb (.slice A9 n9 C9) vr c ∧ c < V3.heap.size) V3 W9 := hst.less fun c _ h => ⟨by have := h.2; omega, by have := h.1.1; omega, h.2⟩
        have hlow : ∀ c, c < V3.heap.size → RdP rb (.slice A9 n9 C9) vr c → RdP rb (.slice A9 n9 C9) vr c ∧ c < V3.heap.size := fun c hc h => ⟨h, hc⟩
        refine bodyPost_end (results_none rfl _ _ _) rfl ⟨fun _ => ⟨rfl, ?_⟩, fun h => absurd (by rw [HRES.out]) h, ?_⟩
        · rw [HRES.out]
          refine ⟨.slice A9 n9 C9, vr, .map (some md), _, hs0, by rw [hW9]; exact HRO7.out.set 2 _, ?_, ((HS3.out.2.1.weak hlow).keep hst2).weak (fun _ _ h => h.1), own_stay HS3.out.2.2.1 hst fun g hg => ⟨by have := (h2 g hg).2; omega, by have := (h2 g hg).1; omega, (h2 g hg).2⟩, ((HS3.out.2.2.2.1.weak hlow).stay hst2).weak (fun _ _ h => h.1), .inr ⟨?_, ?_⟩⟩
          · show W9.ownsRow _ _ _ _ S'.length _
            rw [HLEN.out, HN9.out]
            have := own_stay HS3.out.1 hst fun g hg => ⟨by have := (h1 g hg).2; omega, by have := (h1 g hg).1; omega, (h1 g hg).2⟩
            rw [HN9.out] at this
            exact this
          · show S' ≠ []
            rw [HSS.out]; simp
          · rw [hW9]
            refine (HDB7.out.keep (Stay.set (fun h => by have := h.1; omega) 2 _)).congr fun p hp => ?_
            show (if memB p.1 (r1.S.map Prod.fst) = true then r1.F p.1 else []) = r1.F p.1
            rw [HSS.out] at hp
            rcases List.mem_append.1 hp with hp | hp
            · rw [if_pos (memB_iff.2 (List.mem_map.2 ⟨p, hp, rfl⟩))]
            · rw [List.mem_singleton.1 hp]
              have hno : nm ∉ r1.S.map Prod.fst := by
                have h5 := HND.out
                rw [HSS.out, List.map_append, List.nodup_append] at h5
                exact fun e => h5.2.2 nm e nm (by simp) rfl
              rw [if_neg (fun e => hno (memB_iff.1 e))]
              have h6 : nm ∉ r.S.map Prod.fst := by rw [HRR.out, closeRd_S] at hno; exact hno
              have h7 := HOK.out.out nm h6
              rw [HRR.out]
              unfold closeRd
              split
              · exact h7.symm
              · rename_i q hq
                show [] = updC r.F q.1 r.X nm
                unfold updC
                rw [if_neg, h7]
                intro e
                exact h6 (List.mem_map.2 ⟨q, List.mem_of_getLast? hq, e.symm⟩)
        · have h5 : Below rb w W7 := (HBV3.out.trans ((HB36.out.drew).mono (by omega))).grown HG7.out (by show rb ≤ V6.heap.size; omega) (fun g hg => by injection hg with hg; omega)
          rw [hW9]
          exact h5.setCell (p := ⟨rb, 2, none⟩) (Nat.le_refl _) _
end
section
open Go.RowKit Go.Sort Go.ChangeMaps Go.WideShapes

theorem assert_nil (w : World) : (Instr.typeAssert .nilIface 20 116 true).run Tryz.prog w = .ok (.tuple #[.agg #[.int .i64 0, .int .i64 0], .bool false]) w := by
  simp [Instr.typeAssert, go_sem]
theorem assert_fail (l k : Int) (w : World) : (Instr.typeAssert (failV l k) 20 116 true).run Tryz.prog w = .ok (.tuple #[.agg #[.int .i64 l, .int .i64 k], .bool true]) w := by
  simp [Instr.typeAssert, failV, go_sem]

set_option maxHeartbeats 400000 in
theorem ctParse1_idle (p0 p1 p2 : Addr) (w : World) :
    CallsD Tryz.prog 58 #[.pointer (some p0), .pointer (some p1), .pointer (some p2)] .returning w fun e u' w' => e = .returned (.tuple #[]) ∧ u' = .returning ∧ Below w.heap.size w w' := by
  refine callsD_of_wpS Tryz.func58 rfl fun c₀ cs hu => ?_
  apply wpS_seq
  apply wpS_region
  simp [wpOpsS, go_sem, recoverD, hu, Tryz.ntmps58, Exit.thenS, assert_nil]
  refine wpS_of_wp ?_
  have HB : Hid (Below w.heap.size w (w.alloc (.cells #[.int .i64 0, .int .i64 0] 116))) := (Below.refl _ w).alloc (Nat.le_refl _) _
  obtain ⟨W, hW⟩ : ∃ W, W = w.alloc (.cells #[.int .i64 0, .int .i64 0] 116) := ⟨_, rfl⟩
  rw [← hW] at HB ⊢
  clear hW
  change Code.wp _ _ _ { tmps := #[.pointer (some p0), .pointer (some p1), .pointer (some p2), .pointer (some ⟨w.heap.size, 0, none⟩), .bool false, .tuple #[.agg #[.int .i64 0, .int .i64 0], .bool false], .nilIface, .tuple #[.agg #[.int .i64 0, .int .i64 0], .bool false], .agg #[.int .i64 0, .int .i64 0], .bool false, undef, undef, undef, undef, undef, undef], defers := [] } _
  go_wp2_with fail
  simp [bodyPostS, results, Tryz.results58]
  refine ⟨.returning, ?_, rfl, HB.out⟩
  cases c₀
  cases hu
  rfl
set_option maxHeartbeats 400000 in
theorem ctParse1_panic {b0 b1 b2 : Nat} {v0 v1 v2 : Value} (l k : Int) (older : List PanicEntry) (w : World) (h0 : Row w b0 28 [v0]) (h1 : Row w b1 3 [v1]) (h2 : Row w b2 44 [v2]) (h01 : b0 < b1) (h12 : b1 < b2) :
    CallsD Tryz.prog 58 #[.pointer (some ⟨b0, 0, none⟩), .pointer (some ⟨b1, 0, none⟩), .pointer (some ⟨b2, 0, none⟩)] (.panicking ({ v := failV l k, recovered := false } :: older)) w fun e u' w' => e = .returned (.tuple #[]) ∧ u' = .panicking ({ v := failV l k, recovered := true } :: older) ∧ Row w' b0 28 [.map none] ∧ Row w' b1 3 [.int .i64 l] ∧ Row w' b2 44 [.int .i64 k] ∧ Below b0 w w' := by
  obtain ⟨Q, hQ⟩ : ∃ Q : Ending → FrameMode → World → Prop, Q = fun e u' w' => e = .returned (.tuple #[]) ∧ u' = .panicking ({ v := failV l k, recovered := true } :: older) ∧ Row w' b0 28 [.map none] ∧ Row w' b1 3 [.int .i64 l] ∧ Row w' b2 44 [.int .i64 k] ∧ Below b0 w w' := ⟨_, rfl⟩
  rw [← hQ]
  have HQ := Lib.hid hQ
  have H0 := Lib.hid h0
  have H1 := Lib.hid h1
  have H2 := Lib.hid h2
  clear hQ h0 h1 h2
  refine callsD_of_wpS Tryz.func58 rfl fun c₀ cs hu => ?_
  apply wpS_seq
  apply wpS_region
  simp [wpOpsS, go_sem, recoverD, hu, Tryz.ntmps58, Exit.thenS, assert_fail]
  refine wpS_of_wp ?_
  obtain ⟨W, hW⟩ : ∃ W, W = w.alloc (.cells #[.int .i64 l, .int .i64 k] 116) := ⟨_, rfl⟩
  have HR3 : Hid (Row W w.heap.size 116 [.int .i64 l, .int .i64 k]) := by show Row _ _ _ _; rw [hW]; exact Row.new w _ _
  have hb : Below w.heap.size w W := by rw [hW]; exact ((Ext.refl w).alloc _).below
  have HB : Hid (Below b0 w W) := hb.mono (by have := H0.out.lt; omega)
  have HR0 := Lib.hid (H0.out.up hb)
  have HR1 := Lib.hid (H1.out.up hb)
  have HR2 := Lib.hid (H2.out.up hb)
  have HZ : Hid (b2 < w.heap.size) := H2.out.lt
  rw [← hW]
  obtain ⟨b3, hb3⟩ : ∃ b, b = w.heap.size := ⟨_, rfl⟩
  rw [← hb3] at HR3 HZ ⊢
  have f1 := HR3.out.lt
  clear hW hb H0 H1 H2 hb3
  have HA : (#[Value.pointer (some ⟨b0, 0, none⟩), Value.pointer (some ⟨b1, 0, none⟩), Value.pointer (some ⟨b2, 0, none⟩)] ++
          (((((((Array.replicate 13 undef).setIfInBounds 3 (failV l k)).setIfInBounds 4
                                (Value.tuple
                                  #[Value.agg #[Value.int IntKind.i64 l, Value.int IntKind.i64 k],
                                    Value.bool true])).setIfInBounds
                            2
                            (Value.tuple
                              #[Value.agg #[Value.int IntKind.i64 l, Value.int IntKind.i64 k],
                                Value.bool true])).setIfInBounds
                        5 (Value.agg #[Value.int IntKind.i64 l, Value.int IntKind.i64 k])).setIfInBounds
                    6 (Value.bool true)).setIfInBounds
                0 (Value.pointer (some ⟨b3, 0, none⟩))).setIfInBounds
            1 (Value.bool true) : Array Value) = #[.pointer (some ⟨b0, 0, none⟩), .pointer (some ⟨b1, 0, none⟩), .pointer (some ⟨b2, 0, none⟩), .pointer (some ⟨b3, 0, none⟩), .bool true, .tuple #[.agg #[.int .i64 l, .int .i64 k], .bool true], failV l k, .tuple #[.agg #[.int .i64 l, .int .i64 k], .bool true], .agg #[.int .i64 l, .int .i64 k], .bool true, undef, undef, undef, undef, undef, undef] := by
    kernel_rfl
  rw [HA]
  clear HA
  go_upto_region 2 with (fail)
  have HS : Hid (∀ V, Row V b3 116 [.int .i64 l, .int .i64 k] → V.cell? ⟨b3, 0, none⟩ = some (.int .i64 l) ∧ V.cell? ⟨b3, 1, none⟩ = some (.int .i64 k)) := fun V h => ⟨h.cell 0, h.cell 1⟩
  refine wp_region_held_drew (S := (fun w' => w'.cell? ⟨b3, 0, none⟩ = some (.int .i64 l) ∧ w'.cell? ⟨b3, 1, none⟩ = some (.int .i64 k))) (by kernel_rfl) (HS.out W.drew HR3.out.drew) (fun hHeld => ?_)
  refine takeOp (i := 0) (v := ?_) (some 11) rfl rfl (by kernel_rfl) (by kernel_rfl) (by kernel_rfl) (fun _ _ _ h => h) (Or.inl ⟨by rfl, ?_⟩) (by assumption) ?_
  rotate_left 1
  · (intro w0 hSw; (try dsimp only at hSw); go_simp; try (with_reducible rfl))
  try simp only [Act.put, List.setIfInBounds_toArray, List.set_cons_succ, List.set_cons_zero]
  refine takeOp (i := 1) (v := ?_) (some 12) rfl rfl (by kernel_rfl) (by kernel_rfl) (by kernel_rfl) (fun _ _ _ h => h) (Or.inl ⟨by rfl, ?_⟩) (by assumption) ?_
  rotate_left 1
  · (intro w0 hSw; (try dsimp only at hSw); go_simp; try (with_reducible rfl))
  try simp only [Act.put, List.setIfInBounds_toArray, List.set_cons_succ, List.set_cons_zero]
  refine takeOp (i := 2) (v := ?_) (some 13) rfl rfl (by kernel_rfl) (by kernel_rfl) (by kernel_rfl) (fun _ _ _ h => h) (Or.inl ⟨by rfl, ?_⟩) (by assumption) ?_
  rotate_left 1
  · (intro w0 hSw; (try dsimp only at hSw); go_simp; try (with_reducible rfl))
  try simp only [Act.put, List.setIfInBounds_toArray, List.set_cons_succ, List.set_cons_zero]
  refine takeOp (i := 3) (v := ?_) (some 14) rfl rfl (by kernel_rfl) (by kernel_rfl) (by kernel_rfl) (fun _ _ _ h => h) (Or.inl ⟨by rfl, ?_⟩) (by assumption) ?_
  rotate_left 1
  · (intro w0 hSw; (try dsimp only at hSw); go_simp; try (with_reducible rfl))
  try simp only [Act.put, List.setIfInBounds_toArray, List.set_cons_succ, List.set_cons_zero]
  refine takeOp (i := 4) (v := ?_) (some 15) rfl rfl (by kernel_rfl) (by kernel_rfl) (by kernel_rfl) (fun _ _ _ h => h) (Or.inl ⟨by rfl, ?_⟩) (by assumption) ?_
  rotate_left 1
  · (intro w0 hSw; (try dsimp only at hSw); go_simp; try (with_reducible rfl))
  try simp only [Act.put, List.setIfInBounds_toArray, List.set_cons_succ, List.set_cons_zero]
  refine wpAnyH_ready (rs := [5]) (by kernel_rfl) (by simp) ?_
  refine AllReadyH.cons rfl (fun K hK => ?_) AllReadyH.nil
  have m0 : W.drew.cell? ⟨b0, 0, none⟩ = some v0 := HR0.out.cell 0
  have m1 : W.drew.frozen? ⟨b0, 0, none⟩ = false := HR0.out.frozen 0
  have m2 : b0 < W.drew.heap.size := HR0.out.lt
  go_simp
  obtain ⟨V1, hV⟩ : ∃ V, V = (W.setCell ⟨b0, 0, none⟩ (.map none)).drew := ⟨_, rfl⟩
  rw [← hV]
  have HX1 : Hid (Row V1 b0 28 [.map none] ∧ Row V1 b1 3 [v1] ∧ Row V1 b2 44 [v2] ∧ Row V1 b3 116 [.int .i64 l, .int .i64 k] ∧ Below b0 w V1) := by
    show _ ∧ _
    rw [hV]
    exact ⟨HR0.out.set 0 _, HR1.out.far (by show b1 ≠ b0; omega) _, HR2.out.far (by show b2 ≠ b0; omega) _, HR3.out.far (by show b3 ≠ b0; have := HZ.out; omega) _, (HB.out.setCell (p := ⟨b0, 0, none⟩) (Nat.le_refl _) _).drew⟩
  clear hV m0 m1 m2
  refine hK.out _ _ (HS.out V1 HX1.out.2.2.2.1) (fun hHeld => ?_)
  clear hK K
  try simp only [Act.put, List.setIfInBounds_toArray, List.set_cons_succ, List.set_cons_zero]
  refine wpAnyH_ready (rs := [6]) (by kernel_rfl) (by simp) ?_
  refine AllReadyH.cons rfl (fun K hK => ?_) AllReadyH.nil
  have m0 : V1.cell? ⟨b1, 0, none⟩ = some v1 := HX1.out.2.1.cell 0
  have m1 := HX1.out.2.1.frozen 0
  have m2 := HX1.out.2.1.lt
  go_simp
  obtain ⟨V2, hV⟩ : ∃ V, V = V1.setCell ⟨b1, 0, none⟩ (.int .i64 l) := ⟨_, rfl⟩
  rw [← hV]
  have HX2 : Hid (Row V2 b0 28 [.map none] ∧ Row V2 b1 3 [.int .i64 l] ∧ Row V2 b2 44 [v2] ∧ Row V2 b3 116 [.int .i64 l, .int .i64 k] ∧ Below b0 w V2) := by
    show _ ∧ _
    rw [hV]
    obtain ⟨a1, a2, a3, a4, a5⟩ := HX1.out
    exact ⟨a1.far (by show b0 ≠ b1; omega) _, a2.set 0 _, a3.far (by show b2 ≠ b1; omega) _, a4.far (by show b3 ≠ b1; have := HZ.out; omega) _, a5.setCell (p := ⟨b1, 0, none⟩) (Nat.le_of_lt h01) _⟩
  clear hV m0 m1 m2
  refine hK.out _ _ (HS.out V2 HX2.out.2.2.2.1) (fun hHeld => ?_)
  clear hK K
  try simp only [Act.put, List.setIfInBounds_toArray, List.set_cons_succ, List.set_cons_zero]
  refine wpAnyH_ready (rs := [7]) (by kernel_rfl) (by simp) ?_
  refine AllReadyH.cons rfl (fun K hK => ?_) AllReadyH.nil
  have m0 : V2.cell? ⟨b2, 0, none⟩ = some v2 := HX2.out.2.2.1.cell 0
  have m1 := HX2.out.2.2.1.frozen 0
  have m2 := HX2.out.2.2.1.lt
  go_simp
  obtain ⟨V3, hV⟩ : ∃ V, V = V2.setCell ⟨b2, 0, none⟩ (.int .i64 k) := ⟨_, rfl⟩
  rw [← hV]
  have HX3 : Hid (Row V3 b0 28 [.map none] ∧ Row V3 b1 3 [.int .i64 l] ∧ Row V3 b2 44 [.int .i64 k] ∧ Row V3 b3 116 [.int .i64 l, .int .i64 k] ∧ Below b0 w V3) := by
    show _ ∧ _
    rw [hV]
    obtain ⟨a1, a2, a3, a4, a5⟩ := HX2.out
    exact ⟨a1.far (by show b0 ≠ b2; omega) _, a2.far (by show b1 ≠ b2; omega) _, a3.set 0 _, a4.far (by show b3 ≠ b2; have := HZ.out; omega) _, a5.setCell (p := ⟨b2, 0, none⟩) (by show b0 ≤ b2; omega) _⟩
  clear hV m0 m1 m2
  refine hK.out _ _ (HS.out V3 HX3.out.2.2.2.1) (fun hHeld => ?_)
  clear hK K
  try simp only [Act.put, List.setIfInBounds_toArray, List.set_cons_succ, List.set_cons_zero]
  refine wpAnyH_done (by kernel_rfl) ?_ _
  go_wp2_with fail
  simp [bodyPostS, results, Tryz.results58]
  have hq := HQ.out
  rw [hq]
  obtain ⟨a1, a2, a3, -, a5⟩ := HX3.out
  exact ⟨rfl, rfl, a1, a2, a3, a5⟩
end
section
theorem RdOk.inc {r : Rd} (ok : RdOk r) (n : Nat) : RdOk { r with line := n } := ⟨ok.err, ok.asc, ok.none, ok.last, ok.out⟩
theorem RdOk.close {r : Rd} (ok : RdOk r) : RdOk (closeRd r) := by
  cases hl : r.S.getLast? with
  | none => rw [closeRd_none (List.getLast?_eq_none_iff.1 hl)]; exact ok
  | some p =>
    rw [closeRd_some hl]
    refine ⟨ok.err, ok.asc, fun _ => rfl, fun q _ => RowsOk.nil _, fun s hs => ?_⟩
    show updC r.F p.1 r.X s = []
    unfold updC
    rw [if_neg, ok.out s hs]
    intro e
    exact hs (List.mem_map.2 ⟨p, List.mem_of_getLast? hl, e.symm⟩)
theorem rowRd_ok {r : Rd} {text : List UInt8} (ok : RdOk r) (hS : r.S ≠ []) (h : (rowRd r text).1 = 0) : ∃ x S0 p, parseR text = some x ∧ r.S = S0 ++ [p] ∧ checkE p.2 x = 0 ∧ r.X.length < 4096 ∧ (∀ y, r.X.getLast? = some y → RL.cmpR y x < 0) ∧ rowRd r text = (0, { r with X := r.X ++ [x] }) := by
  obtain ⟨S0, p, hSp⟩ : ∃ S0 p, r.S = S0 ++ [p] := by
    rcases List.eq_nil_or_concat r.S with h | ⟨S0, p, h⟩
    · exact absurd h hS
    · exact ⟨S0, p, by simpa using h⟩
  have hlast : (r.S.getLastD (⟨#[]⟩, [])) = p := by rw [hSp]; simp
  have hnd := (errS_mem ok.err).2.1
  cases hp : parseR text with
  | none => unfold rowRd at h; rw [hp] at h; cases h
  | some x =>
    have hr : rowRd r text = if checkF r.S p.1 x ≠ 0 then (checkF r.S p.1 x, r) else if 4096 ≤ r.X.length then (11, r) else if (match r.X.getLast? with | none => false | some y => decide (0 ≤ RL.cmpR y x)) then (16, r) else (0, { r with X := r.X ++ [x] }) := by
      unfold rowRd
      rw [hp, hlast]
      rfl
    obtain ⟨cb, hcb⟩ : ∃ cb, cb = (match r.X.getLast? with | none => false | some y => decide (0 ≤ RL.cmpR y x)) := ⟨_, rfl⟩
    rw [← hcb] at hr
    have hcf : checkF r.S p.1 x = checkE p.2 x := checkF_at hnd (by rw [hSp]; simp) x
    rw [hr] at h
    rw [hcf] at hr h
    split at h
    · rename_i h1; exact absurd h h1
    · rename_i h1
      rw [if_neg h1] at hr
      split at h
      · cases h
      · rename_i h2
        rw [if_neg h2] at hr
        split at h
        · cases h
        · rename_i h3
          rw [if_neg h3] at hr
          refine ⟨x, S0, p, rfl, hSp, by simpa using h1, by omega, fun y hy => ?_, hr⟩
          rw [hcb, hy] at h3
          simp only [decide_eq_true_eq] at h3
          omega
theorem checkE_wrong {ks : List Int} {x : RL.R} (h : checkE ks x = 0) : wrongF (ks.length : Nat) x = 0 := by
  unfold checkE at h
  split at h
  · cases h
  · rename_i h1
    split at h
    · cases h
    · rename_i h2
      unfold wrongF
      rw [if_neg (by have h1 : x.length = ks.length := by simpa using h1
                     omega), if_pos (by simpa using h2)]
theorem ss_snoc {X : List RL.R} {x : RL.R} (h : RL.SS X) (hl : ∀ y, X.getLast? = some y → RL.cmpR y x < 0) : RL.SS (X ++ [x]) := by
  show List.Pairwise _ _
  rw [List.pairwise_append]
  refine ⟨h, List.pairwise_singleton _ _, fun a ha b hb => ?_⟩
  rw [List.mem_singleton.1 hb]
  have hn : X ≠ [] := fun e => by rw [e] at ha; cases ha
  have hq := hl _ (List.getLast?_eq_some_getLast hn)
  obtain ⟨q, y, e⟩ : ∃ q y, X = q ++ [y] := ⟨X.dropLast, X.getLast hn, (List.dropLast_concat_getLast hn).symm⟩
  subst e
  simp at hq
  rcases List.mem_append.1 ha with ha | ha
  · exact RL.tot_cmpR.tr _ _ _ ((List.pairwise_append.1 h).2.2 a ha y (by simp)) hq
  · rw [List.mem_singleton.1 ha]; exact hq
theorem RdOk.row {r : Rd} {text : List UInt8} (ok : RdOk r) (hS : r.S ≠ []) (h : (rowRd r text).1 = 0) : RdOk (rowRd r text).2 := by
  obtain ⟨x, S0, p, h1, h2, h3, h4, h5, h6⟩ := rowRd_ok ok hS h
  rw [h6]
  refine ⟨ok.err, ok.asc, fun e => absurd e hS, fun q hq => ?_, ok.out⟩
  have hq2 : q = p := by
    have hq : r.S.getLast? = some q := hq
    rw [h2] at hq
    simpa using hq.symm
  subst hq2
  have hX := ok.last q hq
  refine ⟨ss_snoc hX.ss h5, fun y hy => ?_, by show (r.X ++ [x]).length ≤ 4096; rw [List.length_append]; simp; omega⟩
  rcases List.mem_append.1 hy with hy | hy
  · exact hX.ok y hy
  · rw [List.mem_singleton.1 hy]; exact checkE_wrong h3
theorem relRd_eq (r : Rd) (text : List UInt8) : relRd r text = match kindsP ((wordsP text).drop 1) with
    | none => (15, closeRd r)
    | some ks => if errS ((closeRd r).S ++ [((wordsP text).headD ⟨#[]⟩, ks)]) ≠ 0 then (errS ((closeRd r).S ++ [((wordsP text).headD ⟨#[]⟩, ks)]), closeRd r) else if (match (closeRd r).S.getLast? with | none => false | some p => decide (0 ≤ RL.cmpS p.1 ((wordsP text).headD ⟨#[]⟩))) then (16, closeRd r) else (0, { closeRd r with S := (closeRd r).S ++ [((wordsP text).headD ⟨#[]⟩, ks)] }) := rfl
theorem relRd_ok {r : Rd} {text : List UInt8} (h : (relRd r text).1 = 0) : ∃ nm ks, text = hdrL nm ks ∧ (∀ k ∈ ks, k = 1 ∨ k = 2) ∧ errS (r.S ++ [(nm, ks)]) = 0 ∧ (∀ q, r.S.getLast? = some q → RL.cmpS q.1 nm < 0) ∧ relRd r text = (0, { closeRd r with S := r.S ++ [(nm, ks)] }) := by
  cases hk : kindsP ((wordsP text).drop 1) with
  | none => rw [relRd_eq, hk] at h; cases h
  | some ks =>
    obtain ⟨w1, w2⟩ := words_back hk
    have hr : relRd r text = if errS ((closeRd r).S ++ [((wordsP text).headD ⟨#[]⟩, ks)]) ≠ 0 then (errS ((closeRd r).S ++ [((wordsP text).headD ⟨#[]⟩, ks)]), closeRd r) else if (match (closeRd r).S.getLast? with | none => false | some p => decide (0 ≤ RL.cmpS p.1 ((wordsP text).headD ⟨#[]⟩))) then (16, closeRd r) else (0, { closeRd r with S := (closeRd r).S ++ [((wordsP text).headD ⟨#[]⟩, ks)] }) := by
      rw [relRd_eq, hk]
    rw [closeRd_S] at hr
    obtain ⟨cb, hcb⟩ : ∃ cb, cb = (match r.S.getLast? with | none => false | some p => decide (0 ≤ RL.cmpS p.1 ((wordsP text).headD ⟨#[]⟩))) := ⟨_, rfl⟩
    rw [← hcb] at hr
    generalize (wordsP text).headD ⟨#[]⟩ = nm at *
    rw [hr] at h
    split at h
    · rename_i h1; exact absurd h h1
    · rename_i h1
      rw [if_neg h1] at hr
      split at h
      · cases h
      · rename_i h2
        rw [if_neg h2] at hr
        refine ⟨nm, ks, w1, w2, by simpa using h1, fun q hq => ?_, hr⟩
        rw [hcb, hq] at h2
        simp only [decide_eq_true_eq] at h2
        omega
theorem RdOk.rel {r : Rd} {text : List UInt8} (ok : RdOk r) (h : (relRd r text).1 = 0) : RdOk (relRd r text).2 := by
  obtain ⟨nm, ks, h1, h2, h3, h4, h5⟩ := relRd_ok h
  have hc := ok.close
  have hX : (closeRd r).X = [] := by
    cases hl : r.S.getLast? with
    | none => have := List.getLast?_eq_none_iff.1 hl; rw [closeRd_none this]; exact ok.none this
    | some p => rw [closeRd_some hl]
  rw [h5]
  refine ⟨h3, ?_, fun e => by simp at e, fun q _ => ?_, fun s hs => ?_⟩
  · show ((r.S ++ [(nm, ks)]).map Prod.fst).Pairwise _
    rw [List.map_append]
    cases hl : r.S.getLast? with
    | none => rw [List.getLast?_eq_none_iff.1 hl]; exact List.pairwise_singleton _ _
    | some q => exact asc_snoc ok.asc (p := q.1) (by rw [List.getLast?_map, hl]; rfl) (h4 q hl)
  · show RowsOk _ (closeRd r).X
    rw [hX]; exact RowsOk.nil _
  · show (closeRd r).F s = []
    refine hc.out s fun e => hs ?_
    rw [closeRd_S] at e
    show s ∈ (r.S ++ [(nm, ks)]).map Prod.fst
    rw [List.map_append]
    exact List.mem_append.2 (.inl e)
theorem RdOk.line {r : Rd} {text : List UInt8} {b : Bool} (ok : RdOk r) (h : (lineRd r text b).1 = 0) : RdOk (lineRd r text b).2 := by
  unfold lineRd at h ⊢
  split
  · rename_i h1
    rw [if_pos h1] at h
    exact (ok.inc _).rel h
  · rename_i h1
    rw [if_neg h1] at h
    split
    · rename_i h2
      rw [if_pos h2] at h
      simp only [Bool.and_eq_true, Bool.not_eq_true'] at h2
      exact (ok.inc _).row (by show r.S ≠ []; intro e; rw [e] at h2; simp at h2) h
    · rename_i h2
      rw [if_neg h2] at h
      cases h
theorem rowRd_line (r : Rd) (text : List UInt8) : (rowRd r text).2.line = r.line := by
  unfold rowRd
  cases parseR text with
  | none => rfl
  | some x =>
    simp only []
    repeat' split
    all_goals rfl
theorem relRd_line (r : Rd) (text : List UInt8) : (relRd r text).2.line = r.line := by
  rw [relRd_eq]
  cases kindsP ((wordsP text).drop 1) with
  | none => exact closeRd_line r
  | some ks =>
    simp only []
    repeat' split
    all_goals exact closeRd_line r
theorem lineRd_line (r : Rd) (text : List UInt8) (b : Bool) : (lineRd r text b).2.line = r.line + 1 := by
  unfold lineRd
  split
  · exact relRd_line _ _
  · split
    · exact rowRd_line _ _
    · rfl
end
section
open Go.RowKit Go.Sort Go.ChangeMaps Go.WideShapes

def ParsePost (q : Int × Rd) (w : World) (e : Ending) (w' : World) : Prop :=
  (q.1 = 0 → ∃ m, e = .returned (.tuple #[.agg #[m], .int .i64 0, .int .i64 0]) ∧ MapR (fun c => w.heap.size ≤ c) q.2.S w' m q.2.F) ∧
  (q.1 ≠ 0 → e = .returned (.tuple #[.agg #[.map none], .int .i64 q.2.line, .int .i64 q.1])) ∧ Below w.heap.size w w'
theorem RdM.inc {rb : Nat} {w : World} {r : Rd} (h : RdM rb w r) : RdM rb (w.setCell ⟨rb, 0, none⟩ (.int .i64 ((r.line + 1 : Nat) : Int))) { r with line := r.line + 1 } := by
  obtain ⟨vs, vr, m, sc, hs, h1, h2, h3, h4, h5, h6⟩ := h
  have hst : Stay (fun c => c ≠ rb) w (w.setCell ⟨rb, 0, none⟩ (.int .i64 ((r.line + 1 : Nat) : Int))) := Stay.set (fun h => h rfl) 0 _
  have hst2 : Stay (RdP rb vs vr) w (w.setCell ⟨rb, 0, none⟩ (.int .i64 ((r.line + 1 : Nat) : Int))) := hst.less fun k _ h => by have := h.1; omega
  exact ⟨vs, vr, m, sc, hs, h1.set 0 _, own_stay h2 hst fun g hg => by have := (h2.lt g hg).1; omega, h3.keep hst2, own_stay h4 hst fun g hg => by have := (h4.lt g hg).1; omega, h5.stay hst2, h6.keep hst2⟩

theorem ParsePost.bad {q : Int × Rd} {w w' : World} {l : Int} {k : Int} (h1 : q.1 = k) (hk : k ≠ 0) (hl : (q.2.line : Int) = l) (hb : Below w.heap.size w w') : ParsePost q w (.returned (.tuple #[.agg #[.map none], .int .i64 l, .int .i64 k])) w' :=
  ⟨fun h => absurd (h1.symm.trans h) hk, fun _ => by rw [hl, h1], hb⟩

set_option maxHeartbeats 4000000 in
theorem ctParse_any (s : ByteArray) (hs : s.size ≤ 1000000) (w : World) (hT : Tabs w) : Calls Tryz.prog 29 #[.string s] w (ParsePost (parseD s.data.toList) w) := by
  have hmf : ∀ (fn : Fn) (first cap : Array Value) (w : World), (Instr.makeFunc fn first cap).run Tryz.prog w = .ok (.func fn first cap) w := fun _ _ _ _ => rfl
  by_cases hlong : 65536 < s.size
  · have hd : decide ((65536 : Int) < (s.size : Int)) = true := decide_eq_true (by omega)
    have HRES : Hid (parseD s.data.toList = (13, Rd.zero)) := by show _ = _; unfold parseD; rw [if_pos (by rw [← Lib.size_eq]; exact hlong)]
    clear hlong hT
    go_enter_defers Tryz.func29, Tryz.ntmps29
    go_wp2_with fail
    obtain ⟨W, hW⟩ : ∃ W, W = (((w.alloc (.cells #[.map none] 28)).alloc (.cells #[.int .i64 0] 3)).alloc (.cells #[.int .i64 13] 44)) := ⟨_, rfl⟩
    rw [← hW]
    have k0 : W.cell? ⟨w.heap.size, 0, none⟩ = some (.map none) := by rw [hW]; exact (((Row.new w 28 [.map none]).alloc _).alloc _).cell 0
    have k1 : W.cell? ⟨w.heap.size + 1, 0, none⟩ = some (.int .i64 0) := by
      have h := (Row.new (w.alloc (.cells #[.map none] 28)) 3 [.int .i64 0]).alloc (.cells #[.int .i64 13] 44)
      rw [World.size_alloc] at h
      rw [hW]; exact h.cell 0
    have k2 : W.cell? ⟨w.heap.size + 1 + 1, 0, none⟩ = some (.int .i64 13) := by
      have h := Row.new ((w.alloc (.cells #[.map none] 28)).alloc (.cells #[.int .i64 0] 3)) 44 [.int .i64 13]
      rw [World.size_alloc, World.size_alloc] at h
      rw [hW]; exact h.cell 0
    have hb : Below w.heap.size w W := by rw [hW]; exact ((((Ext.refl w).alloc _).alloc _).alloc _).below
    clear hW
    simp [bodyPostD, Leaves, results, Tryz.results29, go_sem, k0, k1, k2]
    rw [HRES.out]
    exact ⟨fun h => absurd h (by decide), fun _ => rfl, hb⟩
  have hd : decide ((65536 : Int) < (s.size : Int)) = false := decide_eq_false (by omega)
  obtain ⟨R, hR⟩ : ∃ R, R = parseD s.data.toList := ⟨_, rfl⟩
  have HR : Hid (parseGo (s.size + 1) Rd.zero s.data.toList = R) := by
    show _ = _
    rw [hR]
    unfold parseD
    rw [if_neg (by rw [← Lib.size_eq]; exact hlong), ← Lib.size_eq]
  rw [← hR]
  have HT := Lib.hid (fun (w' : World) (hb : Below w.heap.size w w') => hT.up hb)
  have HS : Hid (s.size ≤ 65536) := by show _ ≤ _; omega
  clear hR hlong hT hs
  go_enter_defers Tryz.func29, Tryz.ntmps29
  go_upto_region 5 with (fail)
  obtain ⟨W1, hW1⟩ : ∃ W, W = ((((w.alloc (.cells #[.map none] 28)).alloc (.cells #[.int .i64 0] 3)).alloc (.cells #[.int .i64 0] 44)).alloc (.cells #[.int .i64 0, .slice none 0 0, .map none, .slice none 0 0] 119)) := ⟨_, rfl⟩
  rw [← hW1]
  obtain ⟨b0, hb0⟩ : ∃ b, b = w.heap.size := ⟨_, rfl⟩
  obtain ⟨b1, hb1⟩ : ∃ b, b = w.heap.size + 1 := ⟨_, rfl⟩
  obtain ⟨b2, hb2⟩ : ∃ b, b = w.heap.size + 1 + 1 := ⟨_, rfl⟩
  obtain ⟨rb, hrb⟩ : ∃ b, b = w.heap.size + 1 + 1 + 1 := ⟨_, rfl⟩
  have HROWS : Hid (Row W1 b0 28 [.map none] ∧ Row W1 b1 3 [.int .i64 0] ∧ Row W1 b2 44 [.int .i64 0]) := by
    have h1 := (((Row.new w 28 [.map none]).alloc (.cells #[.int .i64 0] 3)).alloc (.cells #[.int .i64 0] 44)).alloc (.cells #[.int .i64 0, .slice none 0 0, .map none, .slice none 0 0] 119)
    have h2 := ((Row.new (w.alloc (.cells #[.map none] 28)) 3 [.int .i64 0]).alloc (.cells #[.int .i64 0] 44)).alloc (.cells #[.int .i64 0, .slice none 0 0, .map none, .slice none 0 0] 119)
    have h3 := (Row.new ((w.alloc (.cells #[.map none] 28)).alloc (.cells #[.int .i64 0] 3)) 44 [.int .i64 0]).alloc (.cells #[.int .i64 0, .slice none 0 0, .map none, .slice none 0 0] 119)
    rw [World.size_alloc] at h2
    rw [World.size_alloc, World.size_alloc] at h3
    show _ ∧ _
    rw [hW1, hb0, hb1, hb2]
    exact ⟨h1, h2, h3⟩
  have HRD : Hid (RdM rb W1 Rd.zero) := by
    have h := RdM.new (((w.alloc (.cells #[.map none] 28)).alloc (.cells #[.int .i64 0] 3)).alloc (.cells #[.int .i64 0] 44))
    rw [World.size_alloc, World.size_alloc, World.size_alloc] at h
    show RdM _ _ _
    rw [hW1, hrb]
    exact h
  have HB1 : Hid (Below w.heap.size w W1) := by show Below _ _ _; rw [hW1]; exact (((((Ext.refl w).alloc _).alloc _).alloc _).alloc _).below
  have HZ : Hid (w.heap.size ≤ b0 ∧ b0 < b1 ∧ b1 < b2 ∧ b2 < rb) := ⟨by omega, by omega, by omega, by omega⟩
  rw [← hrb, ← hb2, ← hb1, ← hb0]
  clear hW1 hb0 hb1 hb2 hrb hd
  go_loopw [0] (fun c wx => ∃ (f : Nat) (r : Rd) (l : List UInt8), c = .string (toB l) ∧ l.length < f ∧ parseGo f r l = R ∧ r.line + l.length ≤ s.size ∧ RdM rb wx r ∧ RdOk r ∧ (Row wx b0 28 [.map none] ∧ Row wx b1 3 [.int .i64 0] ∧ Row wx b2 44 [.int .i64 0]) ∧ Below w.heap.size w wx) (fun c _ => strLen c)
  case atStart => exact ⟨s.size + 1, Rd.zero, s.data.toList, by rw [toB_mk], by rw [Lib.size_eq]; omega, HR.out, by rw [Lib.size_eq]; show 0 + _ ≤ _; omega, HRD.out, RdOk.zero, HROWS.out, HB1.out⟩
  case round =>
    obtain ⟨f, r, l, rfl, hf, hgo, hlen, hrd, hok, hrows, hb⟩ := hrel
    have HGO := Lib.hid hgo
    have HF := Lib.hid hf
    have HLEN := Lib.hid hlen
    have HRX := Lib.hid hrd
    have HOK := Lib.hid hok
    have HRWX := Lib.hid hrows
    have HB := Lib.hid hb
    clear hgo hf hlen hrd hok hrows hb HROWS HRD HB1
    have hRl : (toB l).toList = l := ByteArray.toList_eq (toB l)
    by_cases hl : l = []
    · have k0 : (toB l).toList.isEmpty = true := by rw [hRl, hl]; rfl
      have HRES : Hid (R = (0, closeRd r)) := by
        show _ = _
        obtain ⟨f, rfl⟩ : ∃ g, f = g + 1 := ⟨f - 1, by have := HF.out; omega⟩
        rw [← HGO.out, hl]
        rfl
      have HCL := Lib.hid (rdClose_any HRX.out HOK.out)
      clear hl hRl HGO HOK HRX HT
      go_wp2_with fail
      refine HCL.out.mono ?_
      rintro e w5 ⟨rfl, hrd5, hb5⟩
      obtain ⟨vs, vr, m, sc, hs0, hrow, -, -, -, -, hm⟩ := hrd5
      obtain ⟨mx, rfl⟩ : ∃ x, m = .map x := by
        rcases hm with ⟨-, h⟩ | ⟨-, h⟩
        · exact ⟨_, h⟩
        · obtain ⟨b, h⟩ := h.form; exact ⟨_, h⟩
      have hz := HZ.out
      have HMR := Lib.hid hm
      have HR0 := Lib.hid (HRWX.out.1.below hb5 (by omega))
      have HR1 := Lib.hid (HRWX.out.2.1.below hb5 (by omega))
      have HR2 := Lib.hid (HRWX.out.2.2.below hb5 (by omega))
      have HB5 : Hid (Below w.heap.size w w5) := HB.out.trans (hb5.mono (by omega))
      have c0 : w5.cell? ⟨rb, 2, none⟩ = some (.map mx) := hrow.cell 2
      have c1 := hrow.lt
      have d0 : w5.cell? ⟨b0, 0, none⟩ = some (.map none) := HR0.out.cell 0
      have d1 : w5.cell? ⟨b1, 0, none⟩ = some (.int .i64 0) := HR1.out.cell 0
      have d2 : w5.cell? ⟨b2, 0, none⟩ = some (.int .i64 0) := HR2.out.cell 0
      have e0 := HR0.out.frozen 0
      have e1 := HR1.out.frozen 0
      have e2 := HR2.out.frozen 0
      have g0 := HR0.out.lt
      have g1 := HR1.out.lt
      have g2 := HR2.out.lt
      have n01 : b0 < b1 := hz.2.1
      have n12 : b1 < b2 := hz.2.2.1
      have n02 : b0 < b2 := by omega
      have n2r : b2 < rb := hz.2.2.2
      have n1r : b1 < rb := by omega
      have n0r : b0 < rb := by omega
      clear hrow hm hb5 HCL HB HRWX hz
      go_wp2_with fail
      obtain ⟨W6, hW6⟩ : ∃ W, W = ((w5.setCell ⟨b0, 0, none⟩ (.map mx)).setCell ⟨b1, 0, none⟩ (.int .i64 0)).setCell ⟨b2, 0, none⟩ (.int .i64 0) := ⟨_, rfl⟩
      rw [← hW6]
      have r0 : Row W6 b0 28 [.map mx] := by rw [hW6]; exact ((HR0.out.set 0 _).far (by show b0 ≠ b1; omega) _).far (by show b0 ≠ b2; omega) _
      have r1 : Row W6 b1 3 [.int .i64 0] := by rw [hW6]; exact (((HR1.out.far (by show b1 ≠ b0; omega) _).set 0 _)).far (by show b1 ≠ b2; omega) _
      have r2 : Row W6 b2 44 [.int .i64 0] := by rw [hW6]; exact (((HR2.out.far (by show b2 ≠ b0; omega) _).far (by show b2 ≠ b1; omega) _)).set 0 _
      have hmr : MapR (RdP rb vs vr) (closeRd r).S W6 (.map mx) (closeRd r).F := by
        rw [hW6]
        exact ((HMR.out.keep (Stay.set (fun h => by have := h.1; omega) 0 _)).keep (Stay.set (fun h => by have := h.1; omega) 0 _)).keep (Stay.set (fun h => by have := h.1; omega) 0 _)
      have hz := HZ.out
      have hb6 : Below w.heap.size w W6 := by
        rw [hW6]
        exact ((HB5.out.setCell (p := ⟨b0, 0, none⟩) (by show _ ≤ b0; omega) _).setCell (p := ⟨b1, 0, none⟩) (by show _ ≤ b1; omega) _).setCell (p := ⟨b2, 0, none⟩) (by show _ ≤ b2; omega) _
      refine leaves_cons (f := 58) (args := #[.pointer (some ⟨b0, 0, none⟩), .pointer (some ⟨b1, 0, none⟩), .pointer (some ⟨b2, 0, none⟩)]) (by simp) (by simp [go_sem]) ?_
      refine (ctParse1_idle _ _ _ _).mono ?_
      rintro e u' w9 ⟨rfl, rfl, hb9⟩
      have k0 := (r0.up hb9).cell 0
      have k1 := (r1.up hb9).cell 0
      have k2 := (r2.up hb9).cell 0
      simp only [List.getElem?_cons_zero] at k0 k1 k2
      simp [Leaves, settle, results, Tryz.results29, go_sem, k0, k1, k2]
      rw [HRES.out]
      exact ⟨fun _ => ⟨_, rfl, (hmr.keep (Stay.of hb9)).weak fun b _ h => by have := h.1; omega⟩, fun h => absurd rfl h, hb6.trans (hb9.mono hb6.size)⟩
    · have k0 : (toB l).toList.isEmpty = false := by rw [hRl]; cases l with
        | nil => exact absurd rfl hl
        | cons a t => rfl
      obtain ⟨f, rfl⟩ : ∃ g, f = g + 1 := ⟨f - 1, by have := HF.out; omega⟩
      obtain ⟨r2, hr2⟩ : ∃ r2 : Rd, r2 = { r with line := r.line + 1 } := ⟨_, rfl⟩
      have HL2 : Hid (r2.line = r.line + 1) := by show _ = _; rw [hr2]
      have HRX2 : Hid (RdM rb (wr.setCell ⟨rb, 0, none⟩ (.int .i64 ((r.line + 1 : Nat) : Int))) r2) := by show RdM _ _ _; rw [hr2]; exact HRX.out.inc
      have HOK2 : Hid (RdOk r2) := by show RdOk _; rw [hr2]; exact HOK.out.inc _
      obtain ⟨vs, vr, m, sc, hs0, hrow, -⟩ := HRX.out
      have c0 : wr.cell? ⟨rb, 0, none⟩ = some (.int .i64 (r.line : Nat)) := hrow.cell 0
      have c1 := hrow.frozen 0
      have c2 := hrow.lt
      have hw1 : IntKind.i64.wrap ((r.line : Int) + 1) = ((r.line + 1 : Nat) : Int) := by rw [IntWalk.i64_in _ (by have := HLEN.out; have := HS.out; omega)]; omega
      have hRl2 : (toB l).data.toList = l := rfl
      have HNIL : Hid (l ≠ []) := hl
      clear hrow hRl hl
      go_upto_region 7 with (fail)
      obtain ⟨W2, hW2⟩ : ∃ W, W = wr.setCell ⟨rb, 0, none⟩ (.int .i64 ((r.line : Int) + 1)) := ⟨_, rfl⟩
      have hW2' : W2 = wr.setCell ⟨rb, 0, none⟩ (.int .i64 ((r.line + 1 : Nat) : Int)) := by rw [hW2]; rfl
      rw [← hW2'] at HRX2
      rw [← hW2]
      have HRW2 : Hid (Row W2 b0 28 [.map none] ∧ Row W2 b1 3 [.int .i64 0] ∧ Row W2 b2 44 [.int .i64 0]) := by
        show _ ∧ _
        have hz := HZ.out
        rw [hW2]
        exact ⟨HRWX.out.1.far (by show b0 ≠ rb; omega) _, HRWX.out.2.1.far (by show b1 ≠ rb; omega) _, HRWX.out.2.2.far (by show b2 ≠ rb; omega) _⟩
      have HB2 : Hid (Below w.heap.size w W2) := by show Below _ _ _; rw [hW2]; exact HB.out.setCell (p := ⟨rb, 0, none⟩) (by show w.heap.size ≤ rb; have := HZ.out; omega) _
      have HCUT := Lib.hid (sCut_any (toB l) (by rw [toB_size]; have := HLEN.out; have := HS.out; omega) W2 (HT.out W2 HB2.out))
      rw [hRl2] at HCUT
      clear hW2 hW2' c0 c1 c2 hw1 hRl2 HRX HOK HRWX k0 HB
      rcases cut_conv (s := l) with ⟨a, t, hla, hno, hcut⟩ | ⟨hno, hcut⟩
      rotate_left
      · rw [hcut] at HCUT
        have HRES : Hid (R = (15, r2)) := by
          show _ = _
          have h := HGO.out
          have hne : l ≠ [] := HNIL.out
          rw [parseGo, if_neg hne, hcut] at h
          have hl2 : lineRd r l false = (15, r2) := by unfold lineRd; rw [hr2]; simp
          rw [← h]
          show (if (lineRd r l false).1 = 0 then _ else lineRd r l false) = _
          rw [hl2, if_neg (show ¬ (15 : Int) = 0 by decide)]
        clear hcut hno hr2
        go_wp2_with fail
        refine HCUT.out.mono ?_
        rintro e W3 ⟨rfl, nn, hW3⟩
        have hb3 : Below W2.heap.size W2 W3 := by rw [hW3]; exact ((Ext.refl W2).drewN nn).below
        have HRX3 := Lib.hid (HRX2.out.up hb3)
        have HRW3 : Hid (Row W3 b0 28 [.map none] ∧ Row W3 b1 3 [.int .i64 0] ∧ Row W3 b2 44 [.int .i64 0]) := ⟨HRW2.out.1.up hb3, HRW2.out.2.1.up hb3, HRW2.out.2.2.up hb3⟩
        have HB3 := Lib.hid (Below.then HB2.out hb3 HB2.out.size)
        obtain ⟨vs, vr, m, sc, hs0, hrow3, -⟩ := HRX3.out
        have HROW3 := Lib.hid hrow3
        clear hW3 hb3 hrow3 HCUT
        clear HGO
        go_wp2_with (fail)
        refine (rdFail_any HROW3.out).mono ?_
        rintro e w7 ⟨rfl, rfl⟩
        go_wp2_with fail
        refine leaves_cons (f := 58) (args := #[.pointer (some ⟨b0, 0, none⟩), .pointer (some ⟨b1, 0, none⟩), .pointer (some ⟨b2, 0, none⟩)]) (by simp) (by simp [go_sem]) ?_
        refine (ctParse1_panic (r2.line : Nat) 15 [] _ HRW3.out.1 HRW3.out.2.1 HRW3.out.2.2 HZ.out.2.1 HZ.out.2.2.1).mono ?_
        rintro e u' w9 ⟨rfl, rfl, q0, q1, q2, q5⟩
        have k0 := q0.cell 0
        have k1 := q1.cell 0
        have k2 := q2.cell 0
        simp only [List.getElem?_cons_zero] at k0 k1 k2
        simp [Leaves, settle, results, Tryz.results29, go_sem, k0, k1, k2]
        exact ParsePost.bad (by rw [HRES.out]) (by decide) (by rw [HRES.out]) (HB3.out.trans (q5.mono HZ.out.1))
      have HLA : Hid (a.length + 1 + t.length = l.length) := by show _ = _; rw [hla]; simp; omega
      rw [hcut] at HCUT
      have HLIN : Hid ((if (lineRd r a true).1 = 0 then parseGo f (lineRd r a true).2 t else lineRd r a true) = R) := by
        show _ = _
        have h := HGO.out
        rw [hla, go_line f r a t hno] at h
        exact h
      have HL15 : Hid (Lib.hasPrefix a relW = false → (Lib.hasPrefix a [40] && !r.S.isEmpty) = false → lineRd r a true = (15, r2)) := fun h1 h2 => by
        unfold lineRd
        rw [h1, hr2]
        simp only [Bool.and_false, Bool.true_and, if_false, Bool.false_eq_true]
        rw [if_neg (by rw [h2]; decide)]
      have HLR : Hid (Lib.hasPrefix a relW = true → lineRd r a true = relRd r2 (a.drop 9)) := fun h1 => by
        unfold lineRd
        rw [h1, hr2]; rfl
      have HLW : Hid (Lib.hasPrefix a relW = false → (Lib.hasPrefix a [40] && !r.S.isEmpty) = true → lineRd r a true = rowRd r2 a) := fun h1 h2 => by
        unfold lineRd
        rw [h1, hr2]
        simp only [Bool.and_false, Bool.true_and, if_false, Bool.false_eq_true]
        rw [if_pos h2]
      have HS2 : Hid (r2.S = r.S) := by show _ = _; rw [hr2]
      clear hcut hno hr2 hla HGO
      go_wp2_with fail
      refine HCUT.out.mono ?_
      rintro e W3 ⟨rfl, nn, hW3⟩
      have hb3 : Below W2.heap.size W2 W3 := by rw [hW3]; exact ((Ext.refl W2).drewN nn).below
      have HRX3 := Lib.hid (HRX2.out.up hb3)
      have HRW3 : Hid (Row W3 b0 28 [.map none] ∧ Row W3 b1 3 [.int .i64 0] ∧ Row W3 b2 44 [.int .i64 0]) := ⟨HRW2.out.1.up hb3, HRW2.out.2.1.up hb3, HRW2.out.2.2.up hb3⟩
      have HB3 := Lib.hid (Below.then HB2.out hb3 HB2.out.size)
      have HP1 : Hid (Calls Tryz.prog 60 #[.string (toB a), .string ⟨#[114, 101, 108, 97, 116, 105, 111, 110, 32]⟩] W3 fun e w' => e = .returned (.bool (Lib.hasPrefix a relW)) ∧ w' = W3) := Any.strings_HasPrefix YtdadchpiibipoaaGreatDoor.lHasPrefix (toB a) ⟨#[114, 101, 108, 97, 116, 105, 111, 110, 32]⟩ W3
      have HP2 : Hid (Calls Tryz.prog 60 #[.string (toB a), .string ⟨#[40]⟩] W3 fun e w' => e = .returned (.bool (Lib.hasPrefix a [40])) ∧ w' = W3) := Any.strings_HasPrefix YtdadchpiibipoaaGreatDoor.lHasPrefix (toB a) ⟨#[40]⟩ W3
      clear hW3 hb3 HCUT HRX2 HRW2 HB2
      have HGO := HLIN
      have HAL : Hid (a.length ≤ 1000000) := by show _ ≤ _; have := HLA.out; have := HLEN.out; have := HS.out; omega
      cases hp1 : Lib.hasPrefix a relW with
      | true =>
        rw [hp1] at HP1
        have HLN := Lib.hid (HLR.out hp1)
        have hx : (toB a).extract 9 (toB a).size = toB (a.drop 9) := toB_drop a 9
        have hx2 : (toB a).extract 9 a.length = toB (a.drop 9) := toB_drop a 9
        have hm1 : (9 : Int) ≤ ((toB a).size : Int) := by
          rw [toB_size]
          have h1 := hp_rel_conv hp1
          have h2 := congrArg List.length h1
          rw [List.length_append] at h2
          have h3 : relW.length = 9 := rfl
          omega
        clear hp1 HLR HLW HL15 HLIN
        obtain ⟨q, hq⟩ : ∃ q, q = relRd r2 (a.drop 9) := ⟨_, rfl⟩
        rw [← hq] at HLN
        have HQL : Hid (q.2.line = r2.line) := by show _ = _; rw [hq]; exact relRd_line _ _
        have HQO : Hid (q.1 = 0 → RdOk q.2) := by show _ → _; rw [hq]; exact HOK2.out.rel
        have HCALL := Lib.hid (rdRelation_any HRX3.out HOK2.out (a.drop 9) (by rw [List.length_drop]; have := HAL.out; omega) fun w' hb => HT.out w' (HB3.out.trans (hb.mono (by have := HZ.out; omega))))
        rw [← hq] at HCALL
        rw [HLN.out] at HGO
        clear hq
        go_wp2_with (go_at_call 60; refine HP1.out.mono ?_; rintro e w6 ⟨rfl, hw⟩; obtain rfl := hw.symm)
        refine HCALL.out.mono ?_
        intro e w7 hpost
        obtain ⟨l1, l2, lb⟩ := hpost
        have HRW7 : Hid (Row w7 b0 28 [.map none] ∧ Row w7 b1 3 [.int .i64 0] ∧ Row w7 b2 44 [.int .i64 0]) := ⟨HRW3.out.1.below lb (by have := HZ.out; omega), HRW3.out.2.1.below lb (by have := HZ.out; omega), HRW3.out.2.2.below lb (by have := HZ.out; omega)⟩
        have HB7 : Hid (Below w.heap.size w w7) := HB3.out.trans (lb.mono (by have := HZ.out; omega))
        by_cases hq1 : q.1 = 0
        · obtain ⟨rfl, hrd7⟩ := l1 hq1
          have HRD7 := Lib.hid hrd7
          have HOK7 := Lib.hid (HQO.out hq1)
          have HGO7 : Hid (parseGo f q.2 t = R) := by show _ = _; have h := HGO.out; rw [if_pos hq1] at h; exact h
          clear l1 l2 lb hrd7 hq1 HGO
          go_wp2_with fail
          go_roundw
          case rel => exact ⟨f, q.2, t, rfl, by have := HF.out; have := HLA.out; omega, HGO7.out, by have := HLEN.out; have := HLA.out; have := HQL.out; have := HL2.out; omega, HRD7.out, HOK7.out, HRW7.out, HB7.out⟩
          case measure => show t.length < l.length; have := HLA.out; omega
        · obtain rfl := l2 hq1
          have HRES : Hid (R = q) := by show _ = _; have h := HGO.out; rw [if_neg hq1] at h; exact h.symm
          have HNE : Hid (q.1 ≠ 0) := hq1
          clear l1 l2 lb hq1 HGO
          go_wp2_with fail
          refine leaves_cons (f := 58) (args := #[.pointer (some ⟨b0, 0, none⟩), .pointer (some ⟨b1, 0, none⟩), .pointer (some ⟨b2, 0, none⟩)]) (by simp) (by simp [go_sem]) ?_
          refine (ctParse1_panic (q.2.line : Nat) q.1 [] _ HRW7.out.1 HRW7.out.2.1 HRW7.out.2.2 HZ.out.2.1 HZ.out.2.2.1).mono ?_
          rintro e u' w9 ⟨rfl, rfl, q0, q1, q2, q5⟩
          have k0 := q0.cell 0
          have k1 := q1.cell 0
          have k2 := q2.cell 0
          simp only [List.getElem?_cons_zero] at k0 k1 k2
          simp [Leaves, settle, results, Tryz.results29, go_sem, k0, k1, k2]
          exact ParsePost.bad (by rw [HRES.out]) HNE.out (by rw [HRES.out]) (HB7.out.trans (q5.mono HZ.out.1))
      | false =>
        rw [hp1] at HP1
        obtain ⟨vs, vr, m, sc, hs0, hrow3, hos3, -⟩ := HRX3.out
        obtain ⟨VA, VC, rfl, -⟩ := own_cut hos3 (by decide)
        obtain ⟨n, hn⟩ : ∃ n, n = r2.S.length := ⟨_, rfl⟩
        rw [← hn] at hrow3
        have c1 : W3.cell? ⟨rb, 1, none⟩ = some (.slice VA n VC) := hrow3.cell 1
        have HROW3 := Lib.hid hrow3
        have HN := Lib.hid hn
        clear hrow3 hos3 hn HLIN HLR
        cases hp2 : Lib.hasPrefix a [40] with
        | false =>
          rw [hp2] at HP2
          have HRES : Hid (R = (15, r2)) := by
            show _ = _
            have h := HGO.out
            rw [HL15.out hp1 (by rw [hp2]; rfl), if_neg (show ¬ (15 : Int) = 0 by decide)] at h
            exact h.symm
          clear hp1 hp2 HLW HL15
          clear HGO
          go_wp2_with (first | (go_at_call 60; refine HP1.out.mono ?_; rintro e w6 ⟨rfl, hw⟩; obtain rfl := hw.symm) | (go_at_call 60; refine HP2.out.mono ?_; rintro e w6 ⟨rfl, hw⟩; obtain rfl := hw.symm) | fail)
          refine (rdFail_any HROW3.out).mono ?_
          rintro e w7 ⟨rfl, rfl⟩
          go_wp2_with fail
          refine leaves_cons (f := 58) (args := #[.pointer (some ⟨b0, 0, none⟩), .pointer (some ⟨b1, 0, none⟩), .pointer (some ⟨b2, 0, none⟩)]) (by simp) (by simp [go_sem]) ?_
          refine (ctParse1_panic (r2.line : Nat) 15 [] _ HRW3.out.1 HRW3.out.2.1 HRW3.out.2.2 HZ.out.2.1 HZ.out.2.2.1).mono ?_
          rintro e u' w9 ⟨rfl, rfl, q0, q1, q2, q5⟩
          have k0 := q0.cell 0
          have k1 := q1.cell 0
          have k2 := q2.cell 0
          simp only [List.getElem?_cons_zero] at k0 k1 k2
          simp [Leaves, settle, results, Tryz.results29, go_sem, k0, k1, k2]
          exact ParsePost.bad (by rw [HRES.out]) (by decide) (by rw [HRES.out]) (HB3.out.trans (q5.mono HZ.out.1))
        | true =>
          rw [hp2] at HP2
          by_cases hn0 : n = 0
          · have hd0 : decide ((0 : Int) < (n : Int)) = false := decide_eq_false (by omega)
            have hd1 : decide (0 < n) = false := decide_eq_false (by omega)
            have hd2 : ¬ 0 < n := by omega
            have HRES : Hid (R = (15, r2)) := by
              show _ = _
              have h := HGO.out
              have hS : r.S = [] := List.eq_nil_of_length_eq_zero (by rw [← HS2.out, ← HN.out]; exact hn0)
              rw [HL15.out hp1 (by rw [hp2, hS]; rfl), if_neg (show ¬ (15 : Int) = 0 by decide)] at h
              exact h.symm
            clear hp1 hp2 HLW HL15 hn0
            clear HGO
            go_wp2_with (first | (go_at_call 60; refine HP1.out.mono ?_; rintro e w6 ⟨rfl, hw⟩; obtain rfl := hw.symm) | (go_at_call 60; refine HP2.out.mono ?_; rintro e w6 ⟨rfl, hw⟩; obtain rfl := hw.symm) | fail)
            refine (rdFail_any HROW3.out).mono ?_
            rintro e w7 ⟨rfl, rfl⟩
            go_wp2_with fail
            refine leaves_cons (f := 58) (args := #[.pointer (some ⟨b0, 0, none⟩), .pointer (some ⟨b1, 0, none⟩), .pointer (some ⟨b2, 0, none⟩)]) (by simp) (by simp [go_sem]) ?_
            refine (ctParse1_panic (r2.line : Nat) 15 [] _ HRW3.out.1 HRW3.out.2.1 HRW3.out.2.2 HZ.out.2.1 HZ.out.2.2.1).mono ?_
            rintro e u' w9 ⟨rfl, rfl, q0, q1, q2, q5⟩
            have k0 := q0.cell 0
            have k1 := q1.cell 0
            have k2 := q2.cell 0
            simp only [List.getElem?_cons_zero] at k0 k1 k2
            simp [Leaves, settle, results, Tryz.results29, go_sem, k0, k1, k2]
            exact ParsePost.bad (by rw [HRES.out]) (by decide) (by rw [HRES.out]) (HB3.out.trans (q5.mono HZ.out.1))
          · have hd0 : decide ((0 : Int) < (n : Int)) = true := decide_eq_true (by omega)
            have hd2 : 0 < n := by omega
            have hSne : r2.S ≠ [] := fun e => hn0 (by rw [HN.out, e]; rfl)
            have HLN := Lib.hid (HLW.out hp1 (by
              rw [hp2, ← HS2.out]
              cases hc : r2.S with
              | nil => exact absurd hc hSne
              | cons x y => rfl))
            obtain ⟨S0, p, hSp⟩ : ∃ S0 p, r2.S = S0 ++ [p] := by
              rcases List.eq_nil_or_concat r2.S with h | ⟨S0, p, h⟩
              · exact absurd h hSne
              · exact ⟨S0, p, by simpa using h⟩
            obtain ⟨pn, pk⟩ := p
            have HSP := Lib.hid hSp
            have HSNE := Lib.hid hSne
            clear hp1 hp2 HLW HL15 hn0 hSne hSp
            obtain ⟨q, hq⟩ : ∃ q, q = rowRd r2 a := ⟨_, rfl⟩
            rw [← hq] at HLN
            have HQL : Hid (q.2.line = r2.line) := by show _ = _; rw [hq]; exact rowRd_line _ _
            have HQO : Hid (q.1 = 0 → RdOk q.2) := by show _ → _; rw [hq]; exact HOK2.out.row HSNE.out
            have HCALL := Lib.hid (show Calls Tryz.prog 62 #[.pointer (some ⟨rb, 0, none⟩), .string (toB a)] W3 (LinePost rb (rowRd r2 a) W3) from rdRow_any HRX3.out HOK2.out HSP.out (toB a) (by rw [toB_size]; exact HAL.out) (HT.out W3 HB3.out))
            rw [← hq] at HCALL
            rw [HLN.out] at HGO
            clear hq
            go_wp2_with (first | (go_at_call 60; refine HP1.out.mono ?_; rintro e w6 ⟨rfl, hw⟩; obtain rfl := hw.symm) | (go_at_call 60; refine HP2.out.mono ?_; rintro e w6 ⟨rfl, hw⟩; obtain rfl := hw.symm) | fail)
            refine HCALL.out.mono ?_
            intro e w7 hpost
            obtain ⟨l1, l2, lb⟩ := hpost
            have HRW7 : Hid (Row w7 b0 28 [.map none] ∧ Row w7 b1 3 [.int .i64 0] ∧ Row w7 b2 44 [.int .i64 0]) := ⟨HRW3.out.1.below lb (by have := HZ.out; omega), HRW3.out.2.1.below lb (by have := HZ.out; omega), HRW3.out.2.2.below lb (by have := HZ.out; omega)⟩
            have HB7 : Hid (Below w.heap.size w w7) := HB3.out.trans (lb.mono (by have := HZ.out; omega))
            by_cases hq1 : q.1 = 0
            · obtain ⟨rfl, hrd7⟩ := l1 hq1
              have HRD7 := Lib.hid hrd7
              have HOK7 := Lib.hid (HQO.out hq1)
              have HGO7 : Hid (parseGo f q.2 t = R) := by show _ = _; have h := HGO.out; rw [if_pos hq1] at h; exact h
              clear l1 l2 lb hrd7 hq1 HGO
              go_wp2_with fail
              go_roundw
              case rel => exact ⟨f, q.2, t, rfl, by have := HF.out; have := HLA.out; omega, HGO7.out, by have := HLEN.out; have := HLA.out; have := HQL.out; have := HL2.out; omega, HRD7.out, HOK7.out, HRW7.out, HB7.out⟩
              case measure => show t.length < l.length; have := HLA.out; omega
            · obtain rfl := l2 hq1
              have HRES : Hid (R = q) := by show _ = _; have h := HGO.out; rw [if_neg hq1] at h; exact h.symm
              have HNE : Hid (q.1 ≠ 0) := hq1
              clear l1 l2 lb hq1 HGO
              go_wp2_with fail
              refine leaves_cons (f := 58) (args := #[.pointer (some ⟨b0, 0, none⟩), .pointer (some ⟨b1, 0, none⟩), .pointer (some ⟨b2, 0, none⟩)]) (by simp) (by simp [go_sem]) ?_
              refine (ctParse1_panic (q.2.line : Nat) q.1 [] _ HRW7.out.1 HRW7.out.2.1 HRW7.out.2.2 HZ.out.2.1 HZ.out.2.2.1).mono ?_
              rintro e u' w9 ⟨rfl, rfl, q0, q1, q2, q5⟩
              have k0 := q0.cell 0
              have k1 := q1.cell 0
              have k2 := q2.cell 0
              simp only [List.getElem?_cons_zero] at k0 k1 k2
              simp [Leaves, settle, results, Tryz.results29, go_sem, k0, k1, k2]
              exact ParsePost.bad (by rw [HRES.out]) HNE.out (by rw [HRES.out]) (HB7.out.trans (q5.mono HZ.out.1))
end
end Go.Proofs.YtdadchpiibipoaaGreatDoor

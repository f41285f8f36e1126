/- Parts of the proof, merged: C10, C11, C12, C13, C14, C15, C16, C17, C18. -/
import Derived.Test.YtdadchpiibipoaaGreatDoorQc5
import Derived.Test.YtdadchpiibipoaaGreatDoorQc1
import Derived.Test.YtdadchpiibipoaaGreatDoorQc4
import Derived.Test.YtdadchpiibipoaaGreatDoorQc6
import Derived.Shelf.Strconv.ParseIntPublic10
import Derived.WalkLawsBesides

set_option maxRecDepth 100000
namespace Go.Proofs.YtdadchpiibipoaaGreatDoor
section
open Go.RowKit Go.Sort Go.ChangeMaps Go.WideShapes

theorem Stay.less {Pr Pr' : Nat → Prop} {w w' : World} (h : Stay Pr w w') (hP : ∀ k, k < w.heap.size → Pr' k → Pr k) : Stay Pr' w w' := ⟨h.1, fun b hb hp => h.2 b hb (hP b hb hp)⟩
theorem Stay.cell {Pr : Nat → Prop} {w w' : World} (h : Stay Pr w w') {p : Addr} {v : Value} (hp : Pr p.block) (hc : w.cell? p = some v) : w'.cell? p = some v :=
  (World.cell?_of_block (h.2 p.block (Lib.lt_of_cell hc) hp)).trans hc
theorem kindsOf_mem {S : Sch} (hnd : (S.map Prod.fst).Nodup) {p : ByteArray × List Int} (hp : p ∈ S) : kindsOf S p.1 = p.2 := by
  unfold kindsOf
  cases hf : S.find? (fun q => decide (q.1 = p.1)) with
  | none => exact absurd (List.find?_eq_none.1 hf p hp) (by simp)
  | some q =>
    have h1 := List.mem_of_find?_eq_some hf
    have h2 : q.1 = p.1 := by have := List.find?_some hf; simpa using this
    have : q = p := by
      have hi := (List.pairwise_map.1 hnd)
      by_cases e : q = p
      · exact e
      · exact absurd h2 (by
          rcases List.pairwise_iff_getElem.1 hi with h
          obtain ⟨i, hi1, e1⟩ := List.mem_iff_getElem.1 h1
          obtain ⟨j, hj1, e2⟩ := List.mem_iff_getElem.1 hp
          rcases Nat.lt_trichotomy i j with hlt | heq | hgt
          · have := h i j hi1 hj1 hlt; rw [e1, e2] at this; exact this
          · subst heq; exact absurd (e1.symm.trans e2) e
          · have := h j i hj1 hi1 hgt; rw [e1, e2] at this; exact fun x => this x.symm)
    exact congrArg Prod.snd this

theorem textR_len {x : RL.R} (hv : ∀ v ∈ x, VFit v) : (textR x).length ≤ 100 * x.length + 2 := by
  have := commaV_len hv
  unfold textR
  simp only [List.length_cons, List.length_append, List.length_nil]
  omega
theorem rowsW_len {X : List RL.R} (hv : ∀ x ∈ X, x.length ≤ 6 ∧ ∀ v ∈ x, VFit v) : (rowsW X).length ≤ 603 * X.length := by
  induction X with
  | nil => simp [rowsW]
  | cons x t ih =>
    have h1 := ih fun y hy => hv y (List.mem_cons_of_mem _ hy)
    have h2 := textR_len (hv x List.mem_cons_self).2
    have h3 := (hv x List.mem_cons_self).1
    simp only [rowsW, List.flatMap_cons, List.length_append, List.length_cons, List.length_nil] at *
    omega
theorem kindsW_len (ks : List Int) : (ks.flatMap kindW).length = 4 * ks.length := by
  rw [List.length_flatMap]
  have h1 : (ks.map fun a => (kindW a).length) = ks.map fun _ => 4 := List.map_congr_left fun a _ => by unfold kindW; split <;> rfl
  rw [h1, List.map_const', List.sum_replicate_nat, Nat.mul_comm]
theorem rowsW_take {X : List RL.R} {i : Nat} (h : i < X.length) : rowsW (X.take (i + 1)) = rowsW (X.take i) ++ textR X[i] ++ [10] := by
  unfold rowsW
  rw [List.take_succ_eq_append_getElem h, List.flatMap_append, List.flatMap_singleton, List.append_assoc]
def RowsFit (S : Sch) (F : Cont) : Prop := ∀ p ∈ S, p.2.length ≤ 6 ∧ (F p.1).length ≤ 4096 ∧ ∀ x ∈ F p.1, x.length ≤ 6 ∧ ∀ v ∈ x, VFit v
theorem textD_len {S : Sch} {F : Cont} (hnd : (S.map Prod.fst).Nodup) (hsz : ∀ p ∈ S, p.1.size ≤ 16) (hF : RowsFit S F) : ∀ (ns : List ByteArray), (∀ s ∈ ns, s ∈ S.map Prod.fst) → (textD S F ns).length ≤ ns.length * 3000000
  | [], _ => by simp [textD]
  | nm :: t, h => by
    have ih := textD_len hnd hsz hF t fun s hs => h s (List.mem_cons_of_mem _ hs)
    obtain ⟨p, hp, rfl⟩ := List.mem_map.1 (h nm List.mem_cons_self)
    obtain ⟨h1, h2, h3⟩ := hF p hp
    have h4 := rowsW_len h3
    have h5 := hsz p hp
    have h6 := kindsW_len (kindsOf S p.1)
    rw [kindsOf_mem hnd hp] at h6
    have h7 : (textRel p.1 (kindsOf S p.1) (F p.1)).length = 9 + (p.1.size + (4 * p.2.length + ((rowsW (F p.1)).length + 1))) := by
      unfold textRel
      rw [kindsOf_mem hnd hp]
      simp only [List.length_append, List.length_cons, size_len, h6]
      rfl
    unfold textD at ih ⊢
    rw [List.flatMap_cons, List.length_append, List.length_cons, h7]
    omega

set_option maxHeartbeats 16000000 in
theorem ctText_any {P : Nat → Prop} {S : Sch} {m : Value} {F : Cont} (w : World) (hd : DbM P S w m F) (hnd : (S.map Prod.fst).Nodup) (hSl : S.length ≤ 16) (hsz : ∀ p ∈ S, p.1.size ≤ 16) (hF : ∀ p ∈ S, ∀ x ∈ F p.1, ∀ v ∈ x, VFit v) (hFit : RowsFit S F) (hT : Tabs w) :
    Calls Tryz.prog 17 #[.agg #[m]] w fun e w' => ∃ ns, NamesOf S ns ∧ e = .returned (.string (toB (textD S F ns))) ∧ Below w.heap.size w w' := by
  obtain ⟨mb, rfl⟩ := hd.form
  obtain ⟨W0, hW0⟩ : ∃ W0, W0 = w.alloc (.cells #[.map (some mb)] 28) := ⟨_, rfl⟩
  obtain ⟨W1, hW1⟩ : ∃ W1, W1 = W0.alloc (.cells #[.pointer none, .slice none 0 0] 89) := ⟨_, rfl⟩
  have hb0 : Below w.heap.size w W0 := by rw [hW0]; exact ((Ext.refl w).alloc _).below
  have hb1 : Below W0.heap.size W0 W1 := by rw [hW1]; exact ((Ext.refl W0).alloc _).below
  have hz0 : W0.heap.size = w.heap.size + 1 := by rw [hW0]; simp
  have hz1 : W1.heap.size = W0.heap.size + 1 := by rw [hW1]; simp
  have hB1 : BldP W1 W0.heap.size W0.heap.size (fun k => k < W0.heap.size) [] := by rw [hW1]; exact BldP.new W0
  have hbox : W0.cell? ⟨w.heap.size, 0, none⟩ = some (.map (some mb)) := by rw [hW0]; simp
  have hbox1 : W1.cell? ⟨w.heap.size, 0, none⟩ = some (.map (some mb)) := (hb1.cell (p := ⟨w.heap.size, 0, none⟩) (by show w.heap.size < _; omega)).trans hbox
  have hd1 : DbM P S W1 (.map (some mb)) F := (hd.up hb0).up hb1
  have hT1 : Tabs W1 := (hT.up hb0).up hb1
  have HN := Lib.hid (ctNames2_any (w := W1) hd1 hnd (by omega))
  have HB1 := Lib.hid hB1
  have HD1 := Lib.hid hd1
  have HT1 := Lib.hid hT1
  have HBE := Lib.hid (hb0.trans (hb1.mono (by omega)))
  have HD0 : Hid (∀ W, Below w.heap.size w W → DbM (fun k => k < w.heap.size) S W (.map (some mb)) F) := fun W hb => (hd.weak (P' := fun k => k < w.heap.size) fun b hb _ => hb).keep (Stay.of hb)
  have HT0 := Lib.hid (fun (W : World) (hb : Below w.heap.size w W) => hT.up hb)
  have HSZ := Lib.hid hsz
  have HFF := Lib.hid hF
  have HLD : Hid (∀ ns, NamesOf S ns → ∀ k, k ≤ ns.length → (textD S F (ns.take k)).length ≤ k * 3000000) := fun ns hns k hk => by
    have h := textD_len hnd hsz hFit (ns.take k) fun s hs => hns.1.mem_iff.1 (List.mem_of_mem_take hs)
    rw [List.length_take, Nat.min_eq_left hk] at h
    exact h
  clear hFit
  have HND := Lib.hid hnd
  clear hd hT hb0 hb1 hB1 hd1 hT1 hbox hsz hF hnd HD1 HT1
  go_enter Tryz.func17, Tryz.ntmps17
  go_upto_region 1 with (fail)
  rw [← hW0]
  clear hW0
  go_upto_region 2 with (fail)
  rw [← hW1]
  clear hW1
  go_upto_region 3 with (go_at_call 45; refine HN.out.mono ?_; rintro e w2 ⟨A, C, ns, rfl, hns, hsl, hab, hb2⟩)
  obtain ⟨Pr0, hPr0⟩ : ∃ Q : Nat → Prop, Q = fun k => k < w2.heap.size ∧ k ≠ w.heap.size + 1 := ⟨_, rfl⟩
  have hz2 := hb2.size
  have hlen : ns.length ≤ 16 := by rw [hns.1.length_eq, List.length_map]; exact hSl
  have HB2 : Hid (BldP w2 (w.heap.size + 1) (w.heap.size + 1) Pr0 []) := by
    have h := HB1.out.up hb2
    rw [hz0] at h
    refine h.weak fun k hk hp => ?_
    rw [hPr0] at hp
    have := hp.2
    omega
  have HP0 : Hid (∀ k, Pr0 k → k < w2.heap.size) := by rw [hPr0]; exact fun k h => h.1
  have HPL : Hid (∀ k, k < w.heap.size + 1 → Pr0 k) := by rw [hPr0]; exact fun k h => ⟨by omega, by omega⟩
  have HW2 : Hid (Below w.heap.size w w2) := HBE.out.trans (hb2.mono HBE.out.size)
  have HNM : Hid (∀ W, Stay Pr0 w2 W → ∀ i (h : i < ns.length), ∃ nb no, A = some ⟨nb, no, none⟩ ∧ nb < w2.heap.size ∧ W.cell? ⟨nb, no + i, none⟩ = some (.string ns[i])) := fun W hst i hi => by
    obtain ⟨nb, no, e, hnb, hc⟩ := hsl (by intro h; have := congrArg List.length h; simp at this; rw [this] at hi; simp at hi)
    have h3 : W1.heap.size ≤ nb := hab _ e
    refine ⟨nb, no, e, hnb, hst.cell (p := ⟨nb, no + i, none⟩) (by rw [hPr0]; exact ⟨hnb, by show nb ≠ _; omega⟩) (hc i _ (by simp [hi]))⟩
  have HBX : Hid (∀ W, Stay Pr0 w2 W → W.cell? ⟨w.heap.size, 0, none⟩ = some (.map (some mb))) := fun W hst =>
    hst.cell (p := ⟨w.heap.size, 0, none⟩) (HPL.out _ (by show w.heap.size < _; omega)) ((hb2.cell (p := ⟨w.heap.size, 0, none⟩) (by show w.heap.size < _; omega)).trans hbox1)
  have HNS := Lib.hid hns
  clear hsl hab hb2 hns hbox1 hPr0
  go_loopw [13] (fun c wx => ∃ (k : Nat), k ≤ ns.length ∧ c = .int .i64 k ∧ BldP wx (w.heap.size + 1) (w.heap.size + 1) Pr0 (textD S F (ns.take k)) ∧ Stay Pr0 w2 wx ∧ Below w.heap.size w wx) (fun c _ => ns.length - (intOf c).toNat)
  case atStart => exact ⟨0, Nat.zero_le _, rfl, HB2.out, ⟨Nat.le_refl _, fun _ _ _ => rfl⟩, HW2.out⟩
  case round =>
    obtain ⟨wo, hwo⟩ : ∃ wo, wo = wr := ⟨_, rfl⟩
    subst hwo
    obtain ⟨k, hk, rfl, hbp, hst, hbw⟩ := hrel
    have HBP := Lib.hid hbp
    have HST := Lib.hid hst
    have HBW := Lib.hid hbw
    clear hbp hst hbw
    by_cases hkl : k < ns.length
    · have g1 : (k : Int) < (ns.length : Int) := by omega
      have g0 : (0 : Int) ≤ (k : Int) := by omega
      have hw1 : IntKind.i64.wrap ((k : Int) + 1) = ((k + 1 : Nat) : Int) := by rw [IntWalk.i64_in _ (by omega)]; omega
      obtain ⟨nb, no, rfl, hnb, c1⟩ := HNM.out _ HST.out k hkl
      have c2 := HBX.out _ HST.out
      obtain ⟨⟨nm, ks⟩, hmem, hnm⟩ := List.mem_map.1 (HNS.out.1.mem_iff.1 (List.getElem_mem hkl))
      simp only at hnm
      rw [← hnm] at c1
      have HNK := Lib.hid hnm
      clear hnm
      obtain ⟨_, D, e, -, hown, hent⟩ := (HD0.out _ HBW.out).ents
      injection e with e
      injection e with e
      subst e
      obtain ⟨val, hv1, KA, KC, A2, C2, rfl, hk6, hki, hxc, hxm, hsl, hro⟩ := hent.2.2 (nm, ks) hmem
      have hlk := (look_yes keyedS Tryz.underlying26 zeroEnt hown (keyS (Nat.le_trans (HSZ.out _ hmem) (by decide))) hv1).2
      simp only at hlk
      have HNO := Lib.hid hnb
      clear hown hent hv1 hnb
      go_upto_region 6 with (fail)
      have hki : SlIP _ _ KA ks := hki
      have hsl : SlRsP _ _ _ A2 (F nm) := hsl
      have hro : RowsOk ks.length (F nm) := hro
      obtain ⟨W3, hW3⟩ : ∃ W3, W3 = wo.alloc (.cells #[.slice KA ks.length KC, .int .i64 (ks.length : Nat), .slice A2 (F nm).length C2] 99) := ⟨_, rfl⟩
      rw [← hW3]
      have hb3 : Below wo.heap.size wo W3 := by rw [hW3]; exact ((Ext.refl wo).alloc _).below
      have hr3 : Row W3 wo.heap.size 99 [.slice KA ks.length KC, .int .i64 (ks.length : Nat), .slice A2 (F nm).length C2] := by rw [hW3]; exact Row.new wo 99 _
      have hn0 : w.heap.size + 2 ≤ wo.heap.size := by have := HST.out.1; omega
      have hn3 : w.heap.size + 2 ≤ W3.heap.size := Nat.le_trans hn0 hb3.size
      obtain ⟨Pr1, hPr1⟩ : ∃ Q : Nat → Prop, Q = fun k => Pr0 k ∨ k = wo.heap.size := ⟨_, rfl⟩
      have HP1 : Hid (∀ k, Pr1 k → k < W3.heap.size) := by
        rw [hPr1]
        intro k hk
        rcases hk with h | h
        · exact Nat.lt_of_lt_of_le (HP0.out k h) (Nat.le_trans HST.out.1 hb3.size)
        · rw [h]; exact hr3.lt
      have HP10 : Hid (∀ k, Pr0 k → Pr1 k) := by rw [hPr1]; exact fun k h => Or.inl h
      have HP1n : Hid (Pr1 wo.heap.size) := by rw [hPr1]; exact Or.inr rfl
      have HB3 : Hid (BldP W3 (w.heap.size + 1) (w.heap.size + 1) Pr1 (textD S F (ns.take k))) := by
        refine (HBP.out.up hb3).weak fun k hk hp => ?_
        rw [hPr1] at hp
        rcases hp with h | h
        · exact Or.inl h
        · exact Or.inr (by rw [h]; exact Nat.le_refl _)
      have HS3 : Hid (Stay Pr0 w2 W3) := HST.out.trans (Stay.of hb3)
      have HW3 : Hid (Below w.heap.size w W3) := HBW.out.trans (hb3.mono HBW.out.size)
      have HEN : Hid (∀ W, Stay Pr1 W3 W → Row W wo.heap.size 99 [.slice KA ks.length KC, .int .i64 (ks.length : Nat), .slice A2 (F nm).length C2]) := fun W h => (h.2 _ hr3.lt HP1n.out).trans hr3
      have HKS : Hid (∀ W, Stay Pr1 W3 W → ∀ i (h : i < ks.length), ∃ kb ko, KA = some ⟨kb, ko, none⟩ ∧ W.cell? ⟨kb, ko + i, none⟩ = some (.int .i64 ks[i])) := fun W h i hi => by
        obtain ⟨kb, ko, e, q1, q2, q3⟩ := hki (by intro h0; rw [h0] at hi; exact absurd hi (Nat.not_lt_zero _))
        refine ⟨kb, ko, e, h.cell (p := ⟨kb, ko + i, none⟩) (HP10.out _ (HPL.out _ (Nat.lt_succ_of_lt q2))) ((hb3.cell (p := ⟨kb, ko + i, none⟩) q1).trans (q3 i _ (by simp [hi])))⟩
      have HRS : Hid (∀ W, Stay Pr1 W3 W → SlRs W.heap.size W A2 (F nm)) := fun W h => by
        have h1 : Stay (fun k => k < w.heap.size) wo W := (Stay.of hb3).trans (h.less fun k _ hk => HP10.out _ (HPL.out _ (Nat.lt_succ_of_lt hk)))
        have h2 := SlRsP.stay hsl h1
        exact h2.sl
      have HRO := Lib.hid hro
      have HNM2 := Lib.hid hmem
      clear hW3 hb3 hr3 hki hsl hro hmem hPr1 hlk c1 c2 hxc hxm
      obtain ⟨L, hL⟩ : ∃ L, L = textD S F (ns.take k) := ⟨_, rfl⟩
      rw [← hL] at HB3
      have HLN : Hid (L.length ≤ k * 3000000) := by show _ ≤ _; rw [hL]; exact HLD.out ns HNS.out k hk
      have hk16 : k * 3000000 ≤ 48000000 := by omega
      have HL := Lib.hid hL
      have HNZ := Lib.hid (HSZ.out _ HNM2.out)
      simp only at HNZ
      have hZ3 := HW3.out.size
      have HZ3 : Hid (w.heap.size + 1 ≤ W3.heap.size) := Nat.le_trans (Nat.le_succ _) hn3
      clear hL
      go_upto_region 8 with (first
        | (go_at_call 42; refine (bWriteStringP HB3.out ⟨#[114, 101, 108, 97, 116, 105, 111, 110, 32]⟩ (by have := HLN.out; omega) (by decide) HZ3.out HP1.out).mono ?_; rintro e w4 ⟨rfl, hb4, hz4, hs4⟩; have HB4 := Lib.hid hb4; have HZ4 := Lib.hid hz4; have HS4 := Lib.hid hs4; clear hb4 hz4 hs4 HB3)
        | (go_at_call 42; refine (bWriteStringP HB4.out nm (by have := HLN.out; simp; omega) (by have := HNZ.out; omega) (Nat.le_trans HZ3.out HZ4.out.size) (fun k hk => Nat.lt_of_lt_of_le (HP1.out k hk) HZ4.out.size)).mono ?_; rintro e w5 ⟨rfl, hb5, hz5, hs5⟩; have HB5 := Lib.hid hb5; have HZ5 := Lib.hid (HZ4.out.trans hz5); have HS5 := Lib.hid (HS4.out.trans hs5); clear hb5 hz5 hs5))
      have e0 : w5.cell? ⟨wo.heap.size, 0, none⟩ = some (.slice KA ks.length KC) := (HEN.out w5 HS5.out).cell 0
      obtain ⟨L2, hL2⟩ : ∃ L2, L2 = L ++ (⟨#[114, 101, 108, 97, 116, 105, 111, 110, 32]⟩ : ByteArray).data.toList ++ nm.data.toList := ⟨_, rfl⟩
      rw [← hL2] at HB5
      have HL2 := Lib.hid hL2
      have HLN2 : Hid (L2.length ≤ 48000025) := by
        show _ ≤ _
        have h1 := HLN.out
        have h2 := size_len nm
        have h3 := HNZ.out
        rw [hL2, List.length_append, List.length_append, h2]
        show L.length + 9 + nm.size ≤ _
        omega
      have HKL : Hid (∀ j, j ≤ ks.length → ((ks.take j).flatMap kindW).length = 4 * j) := fun j hj => by
        rw [List.length_flatMap]
        have h1 : ((ks.take j).map fun a => (kindW a).length) = (ks.take j).map fun _ => 4 := List.map_congr_left fun a _ => by unfold kindW; split <;> rfl
        rw [h1, List.map_const', List.sum_replicate_nat, List.length_take, Nat.min_eq_left hj, Nat.mul_comm]
      have hk6 : ks.length ≤ 6 := hk6
      clear hL2
      go_wp2_with fail
      go_loopw [27] (fun c wx => ∃ (j : Nat), j ≤ ks.length ∧ c = .int .i64 j ∧ BldP wx (w.heap.size + 1) (w.heap.size + 1) Pr1 (L2 ++ (ks.take j).flatMap kindW) ∧ Stay Pr1 W3 wx ∧ Below (w.heap.size + 1) W3 wx) (fun c _ => ks.length - (intOf c).toNat)
      case atStart => exact ⟨0, Nat.zero_le _, rfl, by rw [List.take_zero, List.flatMap_nil, List.append_nil]; exact HB5.out, HS5.out, HZ5.out⟩
      case round =>
        obtain ⟨w6, hw6⟩ : ∃ w6, w6 = wr := ⟨_, rfl⟩
        subst hw6
        obtain ⟨j, hj, rfl, hbp, hst, hbw⟩ := hrel
        have HBP6 := Lib.hid hbp
        have HST6 := Lib.hid hst
        have HBW6 := Lib.hid hbw
        have e1 : w6.cell? ⟨wo.heap.size, 0, none⟩ = some (.slice KA ks.length KC) := (HEN.out w6 hst).cell 0
        have HZ6 := Lib.hid (Nat.le_trans HZ3.out hbw.size)
        clear hbp hst hbw e0
        by_cases hjl : j < ks.length
        · have q1 : (j : Int) < (ks.length : Int) := by omega
          have q0 : (0 : Int) ≤ (j : Int) := by omega
          have hw2 : IntKind.i64.wrap ((j : Int) + 1) = ((j + 1 : Nat) : Int) := by rw [IntWalk.i64_in _ (by omega)]; omega
          obtain ⟨kb, ko, rfl, e2⟩ := HKS.out w6 HST6.out j hjl
          have HKW : Hid (L2 ++ (ks.take (j + 1)).flatMap kindW = L2 ++ (ks.take j).flatMap kindW ++ kindW ks[j]) := by
            show _ = _
            rw [List.take_succ_eq_append_getElem hjl, List.flatMap_append, List.flatMap_singleton, List.append_assoc]
          have HLJ : Hid ((L2 ++ (ks.take j).flatMap kindW).length ≤ 48000049) := by
            show _ ≤ _
            rw [List.length_append, HKL.out j hj]
            have := HLN2.out
            omega
          generalize L2 ++ (ks.take j).flatMap kindW = L3 at HBP6 HKW HLJ
          by_cases hk1 : ks[j] = 1
          · have q2 : (ks[j] == 1) = true := by rw [beq_iff_eq]; exact hk1
            have HKW2 : Hid (L2 ++ (ks.take (j + 1)).flatMap kindW = L3 ++ [32, 105, 110, 116]) := by show _ = _; rw [HKW.out]; unfold kindW; rw [if_pos hk1]
            clear hk1
            go_wp2_with (go_at_call 42; refine (bWriteStringP HBP6.out ⟨#[32, 105, 110, 116]⟩ (by have := HLJ.out; omega) (by decide) HZ6.out (fun k hk => Nat.lt_of_lt_of_le (HP1.out k hk) HST6.out.1)).mono ?_; rintro e w7 ⟨rfl, hb7, hz7, hs7⟩)
            go_roundw
            case rel => exact ⟨j + 1, hjl, by go_num, by rw [HKW2.out]; exact hb7, HST6.out.trans hs7, HBW6.out.trans hz7⟩
            case measure => simp [intOf]; omega
          · have q2 : (ks[j] == 1) = false := by rw [beq_eq_false_iff_ne]; exact hk1
            have HKW2 : Hid (L2 ++ (ks.take (j + 1)).flatMap kindW = L3 ++ [32, 115, 116, 114]) := by show _ = _; rw [HKW.out]; unfold kindW; rw [if_neg hk1]
            clear hk1
            go_wp2_with (go_at_call 42; refine (bWriteStringP HBP6.out ⟨#[32, 115, 116, 114]⟩ (by have := HLJ.out; omega) (by decide) HZ6.out (fun k hk => Nat.lt_of_lt_of_le (HP1.out k hk) HST6.out.1)).mono ?_; rintro e w7 ⟨rfl, hb7, hz7, hs7⟩)
            go_roundw
            case rel => exact ⟨j + 1, hjl, by go_num, by rw [HKW2.out]; exact hb7, HST6.out.trans hs7, HBW6.out.trans hz7⟩
            case measure => simp [intOf]; omega
        · obtain rfl : j = ks.length := by omega
          have q1 : ¬ (ks.length : Int) < (ks.length : Int) := by omega
          rw [List.take_length] at HBP6
          have HLJ : Hid ((L2 ++ ks.flatMap kindW).length ≤ 48000049) := by
            show _ ≤ _
            have h := HKL.out ks.length (Nat.le_refl _)
            rw [List.take_length] at h
            rw [List.length_append, h]
            have := HLN2.out
            omega
          obtain ⟨X, hX⟩ : ∃ X, X = F nm := ⟨_, rfl⟩
          rw [← hX] at HEN HRS HRO
          have HXF : Hid (X.length ≤ 4096 ∧ ∀ x ∈ X, x.length ≤ 6 ∧ ∀ v ∈ x, VFit v) := ⟨HRO.out.many, fun x hx => ⟨by rw [(wrong_ok (HRO.out.ok x hx)).1]; exact hk6, fun v hv => HFF.out _ HNM2.out x (by rw [← hX]; exact hx) v hv⟩⟩
          have HXE := Lib.hid hX
          clear hX e1 hj
          go_upto_region 16 with (go_at_call 41; refine (bWriteByteP HBP6.out 10 (by have := HLJ.out; omega) HZ6.out (fun k hk => Nat.lt_of_lt_of_le (HP1.out k hk) HST6.out.1)).mono ?_; rintro e w7 ⟨rfl, hb7, hz7, hs7⟩; have HB7 := Lib.hid hb7; have HS7 := Lib.hid (HST6.out.trans hs7); have HZ7 := Lib.hid (HBW6.out.trans hz7); clear hb7 hz7 hs7)
          have hrow := HEN.out w7 HS7.out
          have e1 : w7.cell? ⟨wo.heap.size, 1, none⟩ = some (.int .i64 (ks.length : Nat)) := hrow.cell 1
          have e2 : w7.cell? ⟨wo.heap.size, 2, none⟩ = some (.slice A2 X.length C2) := hrow.cell 2
          have HRW := Lib.hid (rlRows_any (ks.length : Nat) A2 C2 X w7 (HRS.out w7 HS7.out) (HRO.out.rs (by omega)) (by have := HXF.out.1; omega))
          clear hrow
          go_upto_region 17 with (go_at_call 46; refine HRW.out.mono ?_; rintro e w8 ⟨g, rfl, hmd, hb8⟩)
          obtain ⟨L4, hL4⟩ : ∃ L4, L4 = L2 ++ ks.flatMap kindW ++ [10] := ⟨_, rfl⟩
          rw [← hL4] at HB7
          have HLN4 : Hid (L4.length ≤ 48000050) := by show _ ≤ _; rw [hL4, List.length_append]; have := HLJ.out; simp only [List.length_cons, List.length_nil]; omega
          have HL4 := Lib.hid hL4
          obtain ⟨Pr2, hPr2⟩ : ∃ Q : Nat → Prop, Q = fun k => Pr1 k ∨ (w7.heap.size ≤ k ∧ k < w8.heap.size) := ⟨_, rfl⟩
          have HP12 : Hid (∀ k, Pr1 k → Pr2 k) := by rw [hPr2]; exact fun k h => Or.inl h
          have HP2 : Hid (∀ k, Pr2 k → k < w8.heap.size) := by
            rw [hPr2]
            intro k hk
            rcases hk with h | h
            · exact Nat.lt_of_lt_of_le (HP1.out k h) (Nat.le_trans HS7.out.1 hb8.size)
            · exact h.2
          have HB8 : Hid (BldP w8 (w.heap.size + 1) (w.heap.size + 1) Pr2 L4) := by
            refine (HB7.out.up hb8).weak fun k hk hp => ?_
            rw [hPr2] at hp
            rcases hp with h | h
            · exact Or.inl h
            · exact Or.inr h.1
          have HZ7' := Lib.hid (Nat.le_trans HZ3.out HZ7.out.size)
          have HZ8 := Lib.hid (HZ7.out.trans (hb8.mono HZ7'.out))
          have HS8 := Lib.hid (HS7.out.trans (Stay.of hb8))
          have HMD : Hid (∀ W, Stay Pr2 w8 W → ∀ i (h : i < X.length), ∃ A' C', W.cell? ⟨g, i, none⟩ = some (.slice A' X[i].length C') ∧ SlR W.heap.size W A' X[i]) := fun W hst i hi => by
            obtain ⟨A', C', q1, q2, q3⟩ := hmd.get hi
            have hg := hmd.lt
            have hgb := hmd.base
            refine ⟨A', C', hst.cell (p := ⟨g, i, none⟩) (by rw [hPr2]; exact Or.inr ⟨hgb, hg⟩) q1, fun hx => ?_⟩
            obtain ⟨b, o, e, hbl, hc⟩ := q2 hx
            refine ⟨b, o, e, Nat.lt_of_lt_of_le hbl hst.1, fun j u hu => hst.cell (p := ⟨b, o + j, none⟩) (by rw [hPr2]; exact Or.inr ⟨q3 (by intro h0; rw [h0] at hx; exact hx rfl) ⟨b, o, none⟩ e, hbl⟩) (hc j u hu)⟩
          have HW8 : Hid (Below w.heap.size w w8) := HW3.out.trans (HZ8.out.mono (Nat.le_succ _))
          have HZ8s := Lib.hid (Nat.le_trans HZ3.out HZ8.out.size)
          clear hmd hb8 hL4 hPr2 e1 e2 q1
          go_loopw [44] (fun c wx => ∃ (i : Nat), i ≤ X.length ∧ c = .int .i64 i ∧ BldP wx (w.heap.size + 1) (w.heap.size + 1) Pr2 (L4 ++ rowsW (X.take i)) ∧ Stay Pr2 w8 wx ∧ Below (w.heap.size + 1) w8 wx) (fun c _ => X.length - (intOf c).toNat)
          case atStart => exact ⟨0, Nat.zero_le _, rfl, by rw [List.take_zero]; show BldP _ _ _ _ (L4 ++ []); rw [List.append_nil]; exact HB8.out, ⟨Nat.le_refl _, fun _ _ _ => rfl⟩, Below.refl _ _⟩
          case round =>
            obtain ⟨w9, hw9⟩ : ∃ w9, w9 = wr := ⟨_, rfl⟩
            subst hw9
            obtain ⟨i, hi, rfl, hbp, hst, hbw⟩ := hrel
            have HBP9 := Lib.hid hbp
            have HST9 := Lib.hid hst
            have HBW9 := Lib.hid hbw
            have HZ9 := Lib.hid (Nat.le_trans HZ8s.out hbw.size)
            clear hbp hst hbw
            have HLI : Hid ((L4 ++ rowsW (X.take i)).length ≤ 52000000) := by
              show _ ≤ _
              have h1 := rowsW_len (X := X.take i) fun x hx => HXF.out.2 x (List.mem_of_mem_take hx)
              have h2 : (X.take i).length ≤ X.length := List.length_take_le' _ _
              have h3 := HXF.out.1
              have h4 := HLN4.out
              rw [List.length_append]
              omega
            by_cases hil : i < X.length
            · have r1 : (i : Int) < (X.length : Int) := by omega
              have r0 : (0 : Int) ≤ (i : Int) := by omega
              have hw3 : IntKind.i64.wrap ((i : Int) + 1) = ((i + 1 : Nat) : Int) := by rw [IntWalk.i64_in _ (by have := HXF.out.1; omega)]; omega
              obtain ⟨A', C', e3, hsr⟩ := HMD.out w9 HST9.out i hil
              have HXI := Lib.hid (HXF.out.2 _ (List.getElem_mem hil))
              have HW9 : Hid (Below w.heap.size w w9) := HW8.out.trans (HBW9.out.mono (Nat.le_succ _))
              have HTX := Lib.hid (rwText_any A' C' X[i] w9 hsr (by have := HXI.out.1; omega) HXI.out.2 (HT0.out w9 HW9.out))
              have HTS : Hid ((toB (textR X[i])).size ≤ 602) := by
                show (textR X[i]).length ≤ _
                have h1 := textR_len HXI.out.2
                have h2 := HXI.out.1
                omega
              have HRK : Hid (L4 ++ rowsW (X.take (i + 1)) = L4 ++ rowsW (X.take i) ++ textR X[i] ++ [10]) := by
                show _ = _
                rw [rowsW_take hil]
                simp [List.append_assoc]
              generalize L4 ++ rowsW (X.take i) = L5 at HBP9 HRK HLI
              generalize X[i] = xi at e3 HTX HTS HRK HXI
              clear hsr
              go_wp2_with (first
                | (go_at_call 16; refine HTX.out.mono ?_; rintro e w10 ⟨rfl, hb10⟩; have HB10 : Hid (BldP w10 (w.heap.size + 1) (w.heap.size + 1) Pr2 L5) := ((HBP9.out.up hb10).weak fun k _ h => Or.inl h); have HS10 := Lib.hid (HST9.out.trans (Stay.of hb10)); have HZ10 := Lib.hid (HBW9.out.trans (hb10.mono HZ9.out)); have HN10 := Lib.hid (Nat.le_trans HZ9.out hb10.size); clear hb10 HTX)
                | (go_at_call 42; refine (bWriteStringP HB10.out _ (by have := HLI.out; omega) (by have := HTS.out; omega) HN10.out (fun k hk => Nat.lt_of_lt_of_le (HP2.out k hk) HS10.out.1)).mono ?_; rintro e w11 ⟨rfl, hb11, hz11, hs11⟩; have HB11 : Hid (BldP w11 (w.heap.size + 1) (w.heap.size + 1) Pr2 (L5 ++ textR xi)) := hb11; have HS11 := Lib.hid (HS10.out.trans hs11); have HZ11 := Lib.hid (HZ10.out.trans hz11); have HN11 := Lib.hid (Nat.le_trans HN10.out hz11.size); clear hb11 hz11 hs11)
                | (go_at_call 41; refine (bWriteByteP HB11.out 10 (by have h1 := HLI.out; have h2 := HTS.out; rw [List.length_append]; have h3 : (textR xi).length ≤ 602 := h2; omega) HN11.out (fun k hk => Nat.lt_of_lt_of_le (HP2.out k hk) HS11.out.1)).mono ?_; rintro e w12 ⟨rfl, hb12, hz12, hs12⟩; have HB12 := Lib.hid hb12; have HS12 := Lib.hid (HS11.out.trans hs12); have HZ12 := Lib.hid (HZ11.out.trans hz12); clear hb12 hz12 hs12))
              go_roundw
              case rel => exact ⟨i + 1, hil, by go_num, by rw [HRK.out]; exact HB12.out, HS12.out, HZ12.out⟩
              case measure => simp [intOf]; omega
            · obtain rfl : i = X.length := by omega
              have r1 : ¬ (X.length : Int) < (X.length : Int) := by omega
              rw [List.take_length] at HBP9
              have HDK : Hid (textD S F (ns.take (k + 1)) = L4 ++ rowsW X) := by
                show _ = _
                unfold textD
                rw [List.take_succ_eq_append_getElem hkl, List.flatMap_append, List.flatMap_singleton]
                have e1 : L = List.flatMap (fun nm => textRel nm (kindsOf S nm) (F nm)) (ns.take k) := HL.out
                rw [← e1, HL4.out, HL2.out, ← HNK.out, HXE.out]
                unfold textRel
                rw [kindsOf_mem HND.out HNM2.out]
                simp only [List.append_assoc]
                rfl
              go_wp2_with fail
              go_roundw
              case rel => exact ⟨k + 1, hkl, by go_num, by rw [HDK.out]; exact HBP9.out.weak fun k _ h => HP12.out _ (HP10.out _ h), HS3.out.trans ((HS8.out.less fun k _ h => HP10.out _ h).trans (HST9.out.less fun k _ h => HP12.out _ (HP10.out _ h))), HW8.out.trans (HBW9.out.mono (Nat.le_succ _))⟩
              case measure => simp [intOf]; omega
    · obtain rfl : k = ns.length := by omega
      have g1 : ¬ (ns.length : Int) < (ns.length : Int) := by omega
      rw [List.take_length] at HBP
      have hn0 : w.heap.size + 1 ≤ wo.heap.size := by have := HST.out.1; omega
      go_wp2_with (go_at_call 44; refine (bString_any HBP.out.bld hn0).mono ?_; rintro e w4 ⟨rfl, hz4⟩)
      go_ret
      exact ⟨ns, HNS.out, rfl, HBW.out.trans (hz4.mono (Nat.le_succ _))⟩
end
section
open Go.RowKit Go.Sort

def VPost (r : Option RL.V) (w : World) (e : Ending) (w' : World) : Prop :=
  (∀ v, r = some v → e = .returned (.tuple #[vv v, .int .i64 0])) ∧ (r = none → ∃ k : Int, k ≠ 0 ∧ e = .returned (.tuple #[vv ⟨0, 0, ⟨#[]⟩⟩, .int .i64 k])) ∧ Below w.heap.size w w'
theorem VPost.ok {r : Option RL.V} {w w' : World} {e : Ending} (v : RL.V) (hr : r = some v) (he : e = .returned (.tuple #[vv v, .int .i64 0])) (hb : Below w.heap.size w w') : VPost r w e w' :=
  ⟨fun u hu => (by rw [hr] at hu; injection hu with hu; rw [← hu]; exact he), fun h => (by rw [hr] at h; cases h), hb⟩
theorem VPost.bad {r : Option RL.V} {w w' : World} {e : Ending} (k : Int) (hk : k ≠ 0) (hr : r = none) (he : e = .returned (.tuple #[vv ⟨0, 0, ⟨#[]⟩⟩, .int .i64 k])) (hb : Below w.heap.size w w') : VPost r w e w' :=
  ⟨fun u hu => (by rw [hr] at hu; cases hu), fun _ => ⟨k, hk, he⟩, hb⟩
theorem sClone_any (s : ByteArray) (hs : s.size ≤ 281474976710656) (w : World) : Calls Tryz.prog 57 #[.string s] w fun e w' => e = .returned (.string s) ∧ Below w.heap.size w w' := by
  have HC := Lib.hid (Any.stringslite_Clone YtdadchpiibipoaaGreatDoor.lClone s w hs)
  go_enter Tryz.func57, Tryz.ntmps57
  go_wp2_with (go_at_call 87; refine HC.out.mono ?_; rintro e w1 ⟨rfl, hb⟩)
  go_ret
  exact ⟨rfl, hb⟩

set_option maxHeartbeats 1000000 in
theorem vInt_any (n : Int) (w : World) : Calls Tryz.prog 164 #[.int .i64 n] w fun e w' => e = .returned (vv ⟨1, n, ⟨#[]⟩⟩) ∧ Below w.heap.size w w' := by
  go_enter Tryz.func164, Tryz.ntmps164
  go_wp2
  exact bodyPost_ret (v := vv ⟨1, n, ⟨#[]⟩⟩) (by simp [results, Tryz.results164, go_sem, vv]) rfl ⟨rfl, ((Ext.refl w).alloc _).below⟩

set_option maxHeartbeats 1000000 in
theorem vStr_any (s : ByteArray) (hs : s.size ≤ 281474976710656) (w : World) : Calls Tryz.prog 161 #[.string s] w (VPost (if s.size ≤ 24 then some ⟨2, 0, s⟩ else none) w) := by
  have HC := Lib.hid (fun (W : World) => sClone_any s hs W)
  by_cases h : s.size ≤ 24
  · rw [if_pos h]
    have hd : decide ((24 : Int) < (s.size : Int)) = false := decide_eq_false (by omega)
    go_enter Tryz.func161, Tryz.ntmps161
    have hr0 := Row.new w 82 [.int .i64 0, .int .i64 0, .string ⟨#[]⟩]
    have hl0 := hr0.lt
    go_wp2_with (go_at_call 57; refine (HC.out _).mono ?_; rintro e w1 ⟨rfl, hb⟩; have hr1 := hr0.below hb hl0; have c0 := hr1.cell 0; have c1 := hr1.cell 1; have c2 := hr1.cell 2; have f0 := hr1.frozen 0; have f1 := hr1.frozen 1; have f2 := hr1.frozen 2; have HB := Lib.hid hb; have HR := Lib.hid hr1; clear hb hr1 hr0 hl0)
    have hrF := ((HR.out.set 0 (.int .i64 2)).set 1 (.int .i64 0)).set 2 (.string s)
    have hbF : Below w.heap.size w (((w1.setCell ⟨w.heap.size, 0, none⟩ (.int .i64 2)).setCell ⟨w.heap.size, 1, none⟩ (.int .i64 0)).setCell ⟨w.heap.size, 2, none⟩ (.string s)) :=
      (((((Ext.refl w).alloc _).below.trans (HB.out.mono (by simp))).setCell (p := ⟨w.heap.size, 0, none⟩) (Nat.le_refl _) _).setCell (p := ⟨w.heap.size, 1, none⟩) (Nat.le_refl _) _).setCell (p := ⟨w.heap.size, 2, none⟩) (Nat.le_refl _) _
    generalize ((w1.setCell ⟨w.heap.size, 0, none⟩ (.int .i64 2)).setCell ⟨w.heap.size, 1, none⟩ (.int .i64 0)).setCell ⟨w.heap.size, 2, none⟩ (.string s) = wF at hrF hbF ⊢
    have d0 : wF.cell? ⟨w.heap.size, 0, none⟩ = some (.int .i64 2) := hrF.cell 0
    have d1 : wF.cell? ⟨w.heap.size, 1, none⟩ = some (.int .i64 0) := hrF.cell 1
    have d2 : wF.cell? ⟨w.heap.size, 2, none⟩ = some (.string s) := hrF.cell 2
    exact bodyPost_ret (v := .tuple #[vv ⟨2, 0, s⟩, .int .i64 0]) (by simp [results, Tryz.results161, go_sem, vv, d0, d1, d2]) rfl (VPost.ok ⟨2, 0, s⟩ rfl rfl hbF)
  · rw [if_neg h]
    have hd : decide ((24 : Int) < (s.size : Int)) = true := decide_eq_true (by omega)
    go_enter Tryz.func161, Tryz.ntmps161
    go_wp2_with fail
    exact bodyPost_ret (v := .tuple #[vv ⟨0, 0, ⟨#[]⟩⟩, .int .i64 13]) (by simp [results, Tryz.results161, go_sem, vv]) rfl (VPost.bad 13 (by decide) rfl rfl ((Ext.refl w).alloc _).below)
end
section
open Go.RowKit Go.Sort

theorem unhexL_lt (l : List UInt8) : (unhexL l).1 < 256 ∧ (unhexL l).2 ≤ l.length := by
  unfold unhexL
  split
  · exact ⟨by decide, by simp⟩
  · split
    · exact ⟨by decide, by simp⟩
    · have h2 := hexS_lt (l.getD 2 0)
      have h3 := hexS_lt (l.getD 3 0)
      simp only
      split
      · exact ⟨by decide, by simp⟩
      · simp only
        omega
theorem unquoteL_lt (l : List UInt8) : (unquoteL l).1 < 256 ∧ (unquoteL l).2 ≤ l.length := by
  unfold unquoteL
  split
  · exact ⟨by decide, by simp⟩
  · rename_i c t
    have hc : c.toNat < 256 := UInt8.toNat_lt _
    split
    · split
      · exact ⟨by decide, by simp⟩
      · exact ⟨hc, by simp⟩
    · split
      · exact ⟨by decide, by simp⟩
      · rename_i d u
        have hd : d.toNat < 256 := UInt8.toNat_lt _
        split
        · exact ⟨hd, by simp⟩
        · split
          · exact ⟨by decide, by simp⟩
          · split
            · exact ⟨by decide, by simp⟩
            · split
              · exact unhexL_lt _
              · exact ⟨by decide, by simp⟩
theorem vUnquote_at (s : ByteArray) (i : Nat) (hi : i < s.size) (hs : s.size ≤ 9223372036854775807) (w : World) : Calls Tryz.prog 160 #[.string (s.extract i s.size)] w fun e w' =>
    e = .returned (.tuple #[.int .u8 ((UInt8.ofNat (unquoteL (s.data.toList.drop i)).1).toNat : Nat), .int .i64 (unquoteL (s.data.toList.drop i)).2]) ∧ w' = w := by
  have hx : (s.extract i s.size).data.toList = s.data.toList.drop i := by
    rw [Lib.extract_data]
    exact List.take_of_length_le (by rw [List.length_drop, size_len]; exact Nat.le_refl _)
  have hsz : (s.extract i s.size).size = s.size - i := by rw [← size_len, hx, List.length_drop, size_len]
  have h := vUnquote_any (s.extract i s.size) (by omega) (by omega) w
  rw [hx] at h
  have hl := (unquoteL_lt (s.data.toList.drop i)).1
  have e : (UInt8.ofNat (unquoteL (s.data.toList.drop i)).1).toNat = (unquoteL (s.data.toList.drop i)).1 := by simp [Nat.mod_eq_of_lt hl]
  rw [e]
  exact h

theorem convBack {w : World} {base : Nat} {A : Option Addr} {C : Nat} {o : List UInt8} (h : OwnBs w base (.slice A o.length C) o) : (convert 87 9 (.slice A o.length C)).run Tryz.prog w = .ok (.string (toB o)) w := by
  rcases h.2 with ⟨hv, h0⟩ | ⟨g, cap, cur, hv, _⟩
  · have ho : o = [] := List.eq_nil_of_length_eq_zero h0
    subst ho
    injection hv with e1 e2 e3
    subst e1 e3
    show (convert 87 9 (.slice none 0 0)).run Tryz.prog w = _
    rw [run_convert_bytes_string w 87 9 5 none 0 0 Tryz.underlying87 Tryz.underlying5 Tryz.underlying9]
    rfl
  · injection hv with e1 e2 e3
    subst e1 e3
    exact run_convert_bytes_back (P := Tryz.prog) w 87 9 5 ⟨g, 0, none⟩ C o Tryz.underlying87 Tryz.underlying5 Tryz.underlying9 (fun j hj => World.ownsRow.cells (g := g) h rfl j _ (by unfold Lib.byteCells; rw [List.getElem?_map, List.getElem?_eq_getElem hj]; rfl))
theorem box_set {w : World} {g : Nat} {a b c : Value} (h : Row w g 82 [a, b, c]) (x y z : Value) :
    Row (((w.setCell ⟨g, 0, none⟩ x).setCell ⟨g, 1, none⟩ y).setCell ⟨g, 2, none⟩ z) g 82 [x, y, z] := ((h.set 0 x).set 1 y).set 2 z
theorem box_below {w0 w : World} {g : Nat} (h : Below g w0 w) (x y z : Value) : Below g w0 (((w.setCell ⟨g, 0, none⟩ x).setCell ⟨g, 1, none⟩ y).setCell ⟨g, 2, none⟩ z) :=
  ((h.setCell (p := ⟨g, 0, none⟩) (Nat.le_refl _) _).setCell (p := ⟨g, 1, none⟩) (Nat.le_refl _) _).setCell (p := ⟨g, 2, none⟩) (Nat.le_refl _) _

set_option maxHeartbeats 8000000 in
theorem vParseStr_any (s : ByteArray) (h1 : 1 ≤ s.size) (hs : s.size ≤ 1000000) (w : World) : Calls Tryz.prog 132 #[.string s] w (VPost ((strP s.data.toList).map fun o => ⟨2, 0, toB o⟩) w) := by
  obtain ⟨R, hR⟩ : ∃ R, R = strGo (s.data.toList.length + 1) (s.data.toList.drop 1) [] := ⟨_, rfl⟩
  have HP : Hid (strP s.data.toList = strEnd R) := by show _ = _; unfold strP; rw [hR]
  have hlen := size_len s
  have hr0 := Row.new w 82 [.int .i64 0, .int .i64 0, .string ⟨#[]⟩]
  have HR := Lib.hid hR
  have HLEN := Lib.hid hlen
  have HB0 : Hid (Below w.heap.size w (w.alloc (.cells #[.int .i64 0, .int .i64 0, .string ⟨#[]⟩] 82))) := ((Ext.refl w).alloc _).below
  have HR0 := Lib.hid hr0
  clear hR hlen hr0
  go_enter Tryz.func132, Tryz.ntmps132
  go_upto_region 3 with (fail)
  go_loopw [4, 5] (fun vo c wx => ∃ (i f : Nat) (o : List UInt8) (A : Option Addr) (C : Nat), 1 ≤ i ∧ i ≤ s.size ∧ s.size < f + i ∧ c = .int .i64 i ∧ strGo f (s.data.toList.drop i) o = R ∧ o.length ≤ i ∧ vo = .slice A o.length C ∧ OwnBs wx (w.heap.size + 1) vo o ∧ Row wx w.heap.size 82 [.int .i64 0, .int .i64 0, .string ⟨#[]⟩] ∧ Below w.heap.size w wx) (fun _ c _ => s.size - (intOf c).toNat)
  case atStart => exact ⟨1, s.size + 1, [], none, 0, Nat.le_refl _, h1, by omega, rfl, by rw [HR.out, HLEN.out], Nat.zero_le _, rfl, OwnBs.nil _ _, HR0.out, HB0.out⟩
  case round =>
    obtain ⟨i, f, o, A, C, hi1, hi, hf, rfl, hgo, hol, rfl, ho, hr, hb⟩ := hrel
    have HO := Lib.hid ho
    have HRR := Lib.hid hr
    have HB := Lib.hid hb
    have HGO := Lib.hid hgo
    clear ho hr hb hgo
    by_cases hil : i < s.size
    · have g0 : (0 : Int) ≤ (i : Int) := by omega
      have g1 : (i : Int) < (s.size : Int) := by omega
      have g2 : (i : Int) ≤ (s.size : Int) := by omega
      have hdrop : s.data.toList.drop i = s[i] :: s.data.toList.drop (i + 1) := by
        have h' : i < s.data.toList.length := by rw [size_len]; exact hil
        rw [List.drop_eq_getElem_cons h']
        rfl
      by_cases hq : s[i] = 34
      · have q1 : (((s[i]).toNat : Int) != 34) = false := by rw [hq]; rfl
        have hcons : R = if s.data.toList.drop (i + 1) = [] then some o else none := by
          obtain ⟨f', rfl⟩ : ∃ f', f = f' + 1 := ⟨f - 1, by omega⟩
          rw [← HGO.out, hdrop, strGo, if_pos hq]
        by_cases hend : i = s.size - 1
        · have HRS : Hid (R = some o) := by
            show _ = _
            rw [hcons, if_pos]
            exact List.drop_eq_nil_iff.2 (by rw [size_len]; omega)
          have hw1 : IntKind.i64.wrap ((s.size : Int) - 1) = ((s.size - 1 : Nat) : Int) := by rw [IntWalk.i64_in _ (by omega)]; omega
          have hw2 : wrap64 ((s.size : Int) - 1) = ((s.size - 1 : Nat) : Int) := by unfold wrap64; omega
          have q2 : ((i : Int) != ((s.size - 1 : Nat) : Int)) = false := by rw [bne_eq_false_iff_eq]; omega
          have hcv := convBack HO.out
          have HSO := Lib.hid (fun (W : World) => vStr_any (toB o) (by show o.length ≤ _; omega) W)
          clear hdrop hcons hq HGO hend
          by_cases h24 : o.length ≤ 24
          · have HS1 : Hid (∀ W, Calls Tryz.prog 161 #[.string (toB o)] W fun e w' => e = .returned (.tuple #[vv ⟨2, 0, toB o⟩, .int .i64 0]) ∧ Below W.heap.size W w') := fun W => (HSO.out W).mono fun e w' h => ⟨h.1 _ (if_pos h24), h.2.2⟩
            clear HSO
            have HRRW := Lib.hid HRR.out.lt
            go_upto_region 11 with (fail)
            go_wp2_with (go_at_call 161; refine (HS1.out _).mono ?_; rintro e w1 ⟨rfl, hb⟩; have hr1 := HRR.out.below hb HRRW.out; have c0 := hr1.cell 0; have c1 := hr1.cell 1; have c2 := hr1.cell 2; have f0 := hr1.frozen 0; have f1 := hr1.frozen 1; have f2 := hr1.frozen 2; have HB1 := Lib.hid (HB.out.trans (hb.mono HB.out.size)); have HR1 := Lib.hid hr1; clear hb hr1)
            have hrF := box_set HR1.out (.int .i64 2) (.int .i64 0) (.string (toB o))
            have hbF := box_below HB1.out (.int .i64 2) (.int .i64 0) (.string (toB o))
            generalize ((w1.setCell ⟨w.heap.size, 0, none⟩ (.int .i64 2)).setCell ⟨w.heap.size, 1, none⟩ (.int .i64 0)).setCell ⟨w.heap.size, 2, none⟩ (.string (toB o)) = wF at hrF hbF ⊢
            have d0 : wF.cell? ⟨w.heap.size, 0, none⟩ = some (.int .i64 2) := hrF.cell 0
            have d1 : wF.cell? ⟨w.heap.size, 1, none⟩ = some (.int .i64 0) := hrF.cell 1
            have d2 : wF.cell? ⟨w.heap.size, 2, none⟩ = some (.string (toB o)) := hrF.cell 2
            exact bodyPost_ret (v := .tuple #[vv ⟨2, 0, toB o⟩, .int .i64 0]) (by simp [results, Tryz.results132, go_sem, vv, d0, d1, d2]) rfl (VPost.ok ⟨2, 0, toB o⟩ (by rw [HP.out, HRS.out, show strEnd (some o) = if o.length ≤ 24 then some o else none from rfl, if_pos h24]; rfl) rfl hbF)
          · have HS1 : Hid (∀ W, Calls Tryz.prog 161 #[.string (toB o)] W fun e w' => (∃ k : Int, k ≠ 0 ∧ e = .returned (.tuple #[vv ⟨0, 0, ⟨#[]⟩⟩, .int .i64 k])) ∧ Below W.heap.size W w') := fun W => (HSO.out W).mono fun e w' h => ⟨h.2.1 (if_neg h24), h.2.2⟩
            clear HSO
            have HRRW := Lib.hid HRR.out.lt
            go_upto_region 11 with (fail)
            go_wp2_with (go_at_call 161; refine (HS1.out _).mono ?_; rintro e w1 ⟨⟨kk, hkk, rfl⟩, hb⟩; have hr1 := HRR.out.below hb HRRW.out; have c0 := hr1.cell 0; have c1 := hr1.cell 1; have c2 := hr1.cell 2; have f0 := hr1.frozen 0; have f1 := hr1.frozen 1; have f2 := hr1.frozen 2; have HB1 := Lib.hid (HB.out.trans (hb.mono HB.out.size)); have HR1 := Lib.hid hr1; have HKK := Lib.hid hkk; clear hb hr1 hkk)
            have hrF := box_set HR1.out (.int .i64 0) (.int .i64 0) (.string ⟨#[]⟩)
            have hbF := box_below HB1.out (.int .i64 0) (.int .i64 0) (.string ⟨#[]⟩)
            generalize ((w1.setCell ⟨w.heap.size, 0, none⟩ (.int .i64 0)).setCell ⟨w.heap.size, 1, none⟩ (.int .i64 0)).setCell ⟨w.heap.size, 2, none⟩ (.string ⟨#[]⟩) = wF at hrF hbF ⊢
            have d0 : wF.cell? ⟨w.heap.size, 0, none⟩ = some (.int .i64 0) := hrF.cell 0
            have d1 : wF.cell? ⟨w.heap.size, 1, none⟩ = some (.int .i64 0) := hrF.cell 1
            have d2 : wF.cell? ⟨w.heap.size, 2, none⟩ = some (.string ⟨#[]⟩) := hrF.cell 2
            exact bodyPost_ret (v := .tuple #[vv ⟨0, 0, ⟨#[]⟩⟩, .int .i64 kk]) (by simp [results, Tryz.results132, go_sem, vv, d0, d1, d2]) rfl (VPost.bad kk HKK.out (by rw [HP.out, HRS.out, show strEnd (some o) = if o.length ≤ 24 then some o else none from rfl, if_neg h24]; rfl) rfl hbF)
        · have HRN : Hid (R = none) := by
            show _ = _
            rw [hcons, if_neg]
            intro h
            have := List.drop_eq_nil_iff.1 h
            rw [size_len] at this
            omega
          have hw1 : IntKind.i64.wrap ((s.size : Int) - 1) = ((s.size - 1 : Nat) : Int) := by rw [IntWalk.i64_in _ (by omega)]; omega
          have hw2 : wrap64 ((s.size : Int) - 1) = ((s.size - 1 : Nat) : Int) := by unfold wrap64; omega
          have q2 : ((i : Int) != ((s.size - 1 : Nat) : Int)) = true := by rw [bne_iff_ne]; omega
          clear hdrop hcons hq HGO
          have c0 : wr.cell? ⟨w.heap.size, 0, none⟩ = some (.int .i64 0) := HRR.out.cell 0
          have c1 : wr.cell? ⟨w.heap.size, 1, none⟩ = some (.int .i64 0) := HRR.out.cell 1
          have c2 : wr.cell? ⟨w.heap.size, 2, none⟩ = some (.string ⟨#[]⟩) := HRR.out.cell 2
          have f0 := HRR.out.frozen 0
          have f1 := HRR.out.frozen 1
          have f2 := HRR.out.frozen 2
          go_wp2_with fail
          have hrF := box_set HRR.out (.int .i64 0) (.int .i64 0) (.string ⟨#[]⟩)
          have hbF := box_below HB.out (.int .i64 0) (.int .i64 0) (.string ⟨#[]⟩)
          generalize ((wr.setCell ⟨w.heap.size, 0, none⟩ (.int .i64 0)).setCell ⟨w.heap.size, 1, none⟩ (.int .i64 0)).setCell ⟨w.heap.size, 2, none⟩ (.string ⟨#[]⟩) = wF at hrF hbF ⊢
          have d0 : wF.cell? ⟨w.heap.size, 0, none⟩ = some (.int .i64 0) := hrF.cell 0
          have d1 : wF.cell? ⟨w.heap.size, 1, none⟩ = some (.int .i64 0) := hrF.cell 1
          have d2 : wF.cell? ⟨w.heap.size, 2, none⟩ = some (.string ⟨#[]⟩) := hrF.cell 2
          exact bodyPost_ret (v := .tuple #[vv ⟨0, 0, ⟨#[]⟩⟩, .int .i64 15]) (by simp [results, Tryz.results132, go_sem, vv, d0, d1, d2]) rfl (VPost.bad 15 (by decide) (by rw [HP.out, HRN.out]; rfl) rfl hbF)
      · have q1 : (((s[i]).toNat : Int) != 34) = true := by
          rw [bne_iff_ne]
          intro e
          exact hq (UInt8.toNat_inj.1 (by have : (s[i]).toNat = 34 := by omega
                                          rw [this]; rfl))
        have HU := Lib.hid (vUnquote_at s i hil (by omega) wr)
        have hul := unquoteL_lt (s.data.toList.drop i)
        have hdl : (s.data.toList.drop i).length = s.size - i := by rw [List.length_drop, size_len]
        rw [hdl] at hul
        obtain ⟨f', rfl⟩ : ∃ f', f = f' + 1 := ⟨f - 1, by omega⟩
        have HST : Hid (R = if (unquoteL (s.data.toList.drop i)).2 = 0 then none else strGo f' ((s.data.toList.drop i).drop (unquoteL (s.data.toList.drop i)).2) (o ++ [UInt8.ofNat (unquoteL (s.data.toList.drop i)).1])) := by
          show _ = _
          rw [← HGO.out, hdrop, strGo, if_neg hq]
        clear hdl hdrop HGO
        obtain ⟨n, hn⟩ : ∃ n, n = (unquoteL (s.data.toList.drop i)).2 := ⟨_, rfl⟩
        obtain ⟨cb, hcb⟩ : ∃ cb, cb = UInt8.ofNat (unquoteL (s.data.toList.drop i)).1 := ⟨_, rfl⟩
        rw [← hn, ← hcb] at HU
        rw [← hn, ← hcb] at HST
        rw [← hn] at hul
        have hnle := hul.2
        clear hn hcb hul hq
        by_cases hn0 : n = 0
        · subst hn0
          have HRN : Hid (R = none) := by show _ = _; rw [HST.out, if_pos rfl]
          clear HST
          go_upto_region 5 with (go_at_call 160; refine HU.out.mono ?_; rintro e w1 ⟨rfl, hw⟩; obtain rfl := hw.symm)
          have c0 : wr.cell? ⟨w.heap.size, 0, none⟩ = some (.int .i64 0) := HRR.out.cell 0
          have c1 : wr.cell? ⟨w.heap.size, 1, none⟩ = some (.int .i64 0) := HRR.out.cell 1
          have c2 : wr.cell? ⟨w.heap.size, 2, none⟩ = some (.string ⟨#[]⟩) := HRR.out.cell 2
          have f0 := HRR.out.frozen 0
          have f1 := HRR.out.frozen 1
          have f2 := HRR.out.frozen 2
          go_wp2_with fail
          have hrF := box_set HRR.out (.int .i64 0) (.int .i64 0) (.string ⟨#[]⟩)
          have hbF := box_below HB.out (.int .i64 0) (.int .i64 0) (.string ⟨#[]⟩)
          generalize ((wr.setCell ⟨w.heap.size, 0, none⟩ (.int .i64 0)).setCell ⟨w.heap.size, 1, none⟩ (.int .i64 0)).setCell ⟨w.heap.size, 2, none⟩ (.string ⟨#[]⟩) = wF at hrF hbF ⊢
          have d0 : wF.cell? ⟨w.heap.size, 0, none⟩ = some (.int .i64 0) := hrF.cell 0
          have d1 : wF.cell? ⟨w.heap.size, 1, none⟩ = some (.int .i64 0) := hrF.cell 1
          have d2 : wF.cell? ⟨w.heap.size, 2, none⟩ = some (.string ⟨#[]⟩) := hrF.cell 2
          exact bodyPost_ret (v := .tuple #[vv ⟨0, 0, ⟨#[]⟩⟩, .int .i64 15]) (by simp [results, Tryz.results132, go_sem, vv, d0, d1, d2]) rfl (VPost.bad 15 (by decide) (by rw [HP.out, HRN.out]; rfl) rfl hbF)
        · have q2 : ((n : Int) == 0) = false := by rw [beq_eq_false_iff_ne]; omega
          go_upto_region 7 with (go_at_call 160; refine HU.out.mono ?_; rintro e w1 ⟨rfl, hw⟩; obtain rfl := hw.symm)
          have hw1 : IntKind.i64.wrap ((i : Int) + (n : Int)) = ((i + n : Nat) : Int) := by rw [IntWalk.i64_in _ (by omega)]; omega
          have hw2 : wrap64 ((i : Int) + (n : Int)) = ((i + n : Nat) : Int) := by unfold wrap64; omega
          have HRD : Hid (strGo f' (s.data.toList.drop (i + n)) (o ++ [cb]) = R) := by
            show _ = _
            rw [HST.out, if_neg hn0, List.drop_drop]
          have HZ := Lib.hid (Nat.lt_of_lt_of_le (Nat.lt_succ_self _) (Nat.succ_le_of_lt HRR.out.lt))
          go_wp2_with (at_builtin; refine appBs rfl (.tmp 28) (.tmp 30) rfl (w.heap.size + 1) _ o rfl (HO.out.alloc _) wr.heap.size 1 [cb] rfl rfl (by decide) (Row.new wr 5 (Lib.byteCells [cb])) (by simp; omega) (by have := HRR.out.lt; simp; omega) ?_; intro gn cn wn hown3 hg3 hat3; have HOn := Lib.hid hown3; have HRn : Hid (Row wn w.heap.size 82 [.int .i64 0, .int .i64 0, .string ⟨#[]⟩]) := ((HRR.out.alloc _).grown hg3 (fun e => by have := own_base HO.out e.symm; omega)); have HBn : Hid (Below w.heap.size w wn) := ((HB.out.alloc HB.out.size _).grown hg3 (by have := HRR.out.lt; simp; omega) (fun j hj => by have := own_base HO.out hj; omega)); clear hown3 hg3 hat3)
          go_roundw
          case rel => exact ⟨i + n, f', o ++ [cb], some ⟨gn, 0, none⟩, cn, by omega, by omega, by omega, by go_num, HRD.out, by simp; omega, by simp, by have h := HOn.out; simp only [List.length_append, List.length_cons, List.length_nil, Nat.zero_add] at h; exact h, HRn.out, HBn.out⟩
          case measure => simp [intOf]; omega
    · obtain rfl : i = s.size := by omega
      have g1 : ¬ (s.size : Int) < (s.size : Int) := by omega
      have HRN : Hid (R = none) := by
        show _ = _
        obtain ⟨f', rfl⟩ : ∃ f', f = f' + 1 := ⟨f - 1, by omega⟩
        rw [← HGO.out, show s.data.toList.drop s.size = [] from List.drop_eq_nil_iff.2 (by rw [size_len]; exact Nat.le_refl _), strGo]
      have hw1 : IntKind.i64.wrap ((s.size : Int) - 1) = ((s.size - 1 : Nat) : Int) := by rw [IntWalk.i64_in _ (by omega)]; omega
      have hw2 : wrap64 ((s.size : Int) - 1) = ((s.size - 1 : Nat) : Int) := by unfold wrap64; omega
      have q2 : ((s.size : Int) != ((s.size - 1 : Nat) : Int)) = true := by rw [bne_iff_ne]; omega
      clear HGO
      have c0 : wr.cell? ⟨w.heap.size, 0, none⟩ = some (.int .i64 0) := HRR.out.cell 0
      have c1 : wr.cell? ⟨w.heap.size, 1, none⟩ = some (.int .i64 0) := HRR.out.cell 1
      have c2 : wr.cell? ⟨w.heap.size, 2, none⟩ = some (.string ⟨#[]⟩) := HRR.out.cell 2
      have f0 := HRR.out.frozen 0
      have f1 := HRR.out.frozen 1
      have f2 := HRR.out.frozen 2
      go_wp2_with fail
      have hrF := box_set HRR.out (.int .i64 0) (.int .i64 0) (.string ⟨#[]⟩)
      have hbF := box_below HB.out (.int .i64 0) (.int .i64 0) (.string ⟨#[]⟩)
      generalize ((wr.setCell ⟨w.heap.size, 0, none⟩ (.int .i64 0)).setCell ⟨w.heap.size, 1, none⟩ (.int .i64 0)).setCell ⟨w.heap.size, 2, none⟩ (.string ⟨#[]⟩) = wF at hrF hbF ⊢
      have d0 : wF.cell? ⟨w.heap.size, 0, none⟩ = some (.int .i64 0) := hrF.cell 0
      have d1 : wF.cell? ⟨w.heap.size, 1, none⟩ = some (.int .i64 0) := hrF.cell 1
      have d2 : wF.cell? ⟨w.heap.size, 2, none⟩ = some (.string ⟨#[]⟩) := hrF.cell 2
      exact bodyPost_ret (v := .tuple #[vv ⟨0, 0, ⟨#[]⟩⟩, .int .i64 15]) (by simp [results, Tryz.results132, go_sem, vv, d0, d1, d2]) rfl (VPost.bad 15 (by decide) (by rw [HP.out, HRN.out]; rfl) rfl hbF)
end
section
open Go.RowKit Go.Sort

theorem sTrimPrefix_any (s p : ByteArray) (w : World) : Calls Tryz.prog 162 #[.string s, .string p] w fun e w' => e = .returned (.string (toB (Lib.trimPrefix s.data.toList p.data.toList))) ∧ w' = w :=
  Any.strings_TrimPrefix YtdadchpiibipoaaGreatDoor.lTrimPrefix s p w
theorem parseUintM_dig (M : Nat) : ∀ (l : List UInt8) (acc : Nat), l.all isDig = true → Lib.parseUintM M acc l ≠ Lib.NumEnd.syntax
  | [], acc, _ => by unfold Lib.parseUintM; intro h; cases h
  | c :: t, acc, h => by
    rw [List.all_cons, Bool.and_eq_true] at h
    unfold isDig at h
    simp only [Bool.and_eq_true, decide_eq_true_eq] at h
    unfold Lib.parseUintM
    rw [if_pos h.1]
    split
    · intro h; cases h
    · split
      · intro h; cases h
      · exact parseUintM_dig M t _ h.2
theorem parseIntB_dig {l : List UInt8} (h1 : Lib.trimPrefix l [45] ≠ []) (h2 : (Lib.trimPrefix l [45]).all isDig = true) : Lib.parseIntB 64 l ≠ Lib.NumEnd.syntax := by
  match l with
  | [] => exact absurd rfl h1
  | c :: r =>
    have hcase : (c = 45 ∧ Lib.trimPrefix (c :: r) [45] = r) ∨ (c ≠ 45 ∧ Lib.trimPrefix (c :: r) [45] = c :: r) := by
      unfold Lib.trimPrefix Lib.hasPrefix
      by_cases hc : c = 45
      · left
        refine ⟨hc, ?_⟩
        subst hc
        simp
      · right
        refine ⟨hc, ?_⟩
        have : ([45].isPrefixOf (c :: r)) = false := by simp [List.isPrefixOf]; exact fun h => absurd h.symm hc
        rw [this]
        simp
    unfold Lib.parseIntB
    simp only
    rcases hcase with ⟨hc, e⟩ | ⟨hc, e⟩
    · rw [e] at h1 h2
      subst hc
      rw [if_pos (by decide)]
      have hu : Lib.parseUintB 64 r ≠ Lib.NumEnd.syntax := by
        unfold Lib.parseUintB
        rw [if_neg h1]
        exact parseUintM_dig _ _ _ h2
      split
      · rename_i h; exact absurd h hu
      · intro h; cases h
      · split
        · intro h; cases h
        · split <;> (intro h; cases h)
    · rw [e] at h1 h2
      have hd : isDig c = true := by rw [List.all_cons, Bool.and_eq_true] at h2; exact h2.1
      unfold isDig at hd
      simp only [Bool.and_eq_true, decide_eq_true_eq] at hd
      rw [if_neg (by omega)]
      have hu : Lib.parseUintB 64 (c :: r) ≠ Lib.NumEnd.syntax := by
        unfold Lib.parseUintB
        rw [if_neg h1]
        exact parseUintM_dig _ _ _ h2
      split
      · rename_i h; exact absurd h hu
      · intro h; cases h
      · split
        · intro h; cases h
        · split <;> (intro h; cases h)

set_option maxHeartbeats 8000000 in
theorem vParseInt_any (s : ByteArray) (h1 : 1 ≤ s.size) (hs : s.size ≤ 1000000) (w : World) (hT : Tabs w) : Calls Tryz.prog 133 #[.string s] w (VPost ((intP s.data.toList).map fun n => ⟨1, n, ⟨#[]⟩⟩) w) := by
  have HTP := Lib.hid (fun (W : World) => sTrimPrefix_any s ⟨#[45]⟩ W)
  obtain ⟨d, hd⟩ : ∃ d, d = Lib.trimPrefix s.data.toList [45] := ⟨_, rfl⟩
  change Hid (∀ W, Calls Tryz.prog 162 #[.string s, .string ⟨#[45]⟩] W fun e w' => e = .returned (.string (toB (Lib.trimPrefix s.data.toList [45]))) ∧ w' = W) at HTP
  rw [← hd] at HTP
  have hdl : d.length ≤ 1000000 := by
    have := Lib.trimPrefix_le s.data.toList [45]
    rw [size_len] at this
    rw [hd]; omega
  have HIP : Hid (intP s.data.toList = if d = [] ∨ (d.getD 0 0 = 48 ∧ s.data.toList ≠ [48]) then none else if d.all isDig = false then none else okInt (Lib.parseIntB 64 s.data.toList)) := by
    show _ = _
    unfold intP
    rw [← hd]
  have HSY : Hid (d ≠ [] → d.all isDig = true → Lib.parseIntB 64 s.data.toList ≠ Lib.NumEnd.syntax) := by rw [hd]; exact parseIntB_dig
  clear hd
  obtain ⟨W1, hW1⟩ : ∃ W1, W1 = w.alloc (.cells #[.int .i64 0, .int .i64 0, .string ⟨#[]⟩] 82) := ⟨_, rfl⟩
  have HB : Hid (Below w.heap.size w W1) := by rw [hW1]; exact ((Ext.refl w).alloc _).below
  have HRR : Hid (Row W1 w.heap.size 82 [.int .i64 0, .int .i64 0, .string ⟨#[]⟩]) := by rw [hW1]; exact Row.new w 82 [.int .i64 0, .int .i64 0, .string ⟨#[]⟩]
  have HT1 := Lib.hid (hT.up HB.out)
  have hDs : (toB d).size = d.length := rfl
  have hDl : (toB d).toList = d := by rw [ByteArray.toList_eq]; rfl
  have hsl : s.toList = s.data.toList := ByteArray.toList_eq s
  have HDS := Lib.hid hDs
  clear hT
  by_cases h0 : d = []
  · have k0 : (toB d).toList.isEmpty = true := by rw [hDl, h0]; rfl
    have HNO : Hid (intP s.data.toList = none) := by show _ = _; rw [HIP.out, if_pos (Or.inl h0)]
    clear HIP HSY h0 hDl hsl
    go_enter Tryz.func133, Tryz.ntmps133
    go_upto_region 1 with (fail)
    rw [← hW1]
    clear hW1
    go_upto_region 3 with (go_at_call 162; refine (HTP.out _).mono ?_; rintro e w' ⟨rfl, hw⟩; obtain rfl := hw.symm)
    have c0 : W1.cell? ⟨w.heap.size, 0, none⟩ = some (.int .i64 0) := HRR.out.cell 0
    have c1 : W1.cell? ⟨w.heap.size, 1, none⟩ = some (.int .i64 0) := HRR.out.cell 1
    have c2 : W1.cell? ⟨w.heap.size, 2, none⟩ = some (.string ⟨#[]⟩) := HRR.out.cell 2
    have f0 := HRR.out.frozen 0
    have f1 := HRR.out.frozen 1
    have f2 := HRR.out.frozen 2
    go_wp2_with fail
    have hrF := box_set HRR.out (.int .i64 0) (.int .i64 0) (.string ⟨#[]⟩)
    have hbF := box_below HB.out (.int .i64 0) (.int .i64 0) (.string ⟨#[]⟩)
    generalize ((W1.setCell ⟨w.heap.size, 0, none⟩ (.int .i64 0)).setCell ⟨w.heap.size, 1, none⟩ (.int .i64 0)).setCell ⟨w.heap.size, 2, none⟩ (.string ⟨#[]⟩) = wF at hrF hbF ⊢
    have d0 : wF.cell? ⟨w.heap.size, 0, none⟩ = some (.int .i64 0) := hrF.cell 0
    have d1 : wF.cell? ⟨w.heap.size, 1, none⟩ = some (.int .i64 0) := hrF.cell 1
    have d2 : wF.cell? ⟨w.heap.size, 2, none⟩ = some (.string ⟨#[]⟩) := hrF.cell 2
    exact bodyPost_ret (v := .tuple #[vv ⟨0, 0, ⟨#[]⟩⟩, .int .i64 15]) (by simp [results, Tryz.results133, go_sem, vv, d0, d1, d2]) rfl (VPost.bad 15 (by decide) (by rw [HNO.out]; rfl) rfl hbF)
  have k0 : (toB d).toList.isEmpty = false := by rw [hDl]; cases d with | nil => exact absurd rfl h0 | cons a t => rfl
  have hpos : 0 < d.length := List.length_pos_iff.2 h0
  have g0 : (0 : Int) < ((toB d).size : Int) := by rw [hDs]; omega
  have hd0 : (toB d)[0]'(by rw [hDs]; exact hpos) = d.getD 0 0 := by
    have := byteD_at (s := toB d) (k := 0) (by rw [hDs]; exact hpos)
    exact this.symm
  have hb0 : ∀ (b : Bool), decide (d.getD 0 0 = 48) = b → ((((toB d)[0]'(by rw [hDs]; exact hpos)).toNat : Int) == 48) = b := fun b hb => by
    rw [hd0, ← hb]
    by_cases h : d.getD 0 0 = 48
    · rw [decide_eq_true h, h]; rfl
    · rw [decide_eq_false h, beq_eq_false_iff_ne]
      intro e
      exact h (UInt8.toNat_inj.1 (by have e2 : (d.getD 0 0).toNat = 48 := by omega
                                     rw [e2]; rfl))
  by_cases hz : d.getD 0 0 = 48 ∧ s.data.toList ≠ [48]
  · have k1 := hb0 true (decide_eq_true hz.1)
    have k2 : (s.toList == [48]) = false := by rw [hsl, beq_eq_false_iff_ne]; exact hz.2
    have HNO : Hid (intP s.data.toList = none) := by show _ = _; rw [HIP.out, if_pos (Or.inr hz)]
    clear HIP HSY h0 hDl hsl hd0 hb0 hz
    go_enter Tryz.func133, Tryz.ntmps133
    go_upto_region 1 with (fail)
    rw [← hW1]
    clear hW1
    go_upto_region 3 with (go_at_call 162; refine (HTP.out _).mono ?_; rintro e w' ⟨rfl, hw⟩; obtain rfl := hw.symm)
    have c0 : W1.cell? ⟨w.heap.size, 0, none⟩ = some (.int .i64 0) := HRR.out.cell 0
    have c1 : W1.cell? ⟨w.heap.size, 1, none⟩ = some (.int .i64 0) := HRR.out.cell 1
    have c2 : W1.cell? ⟨w.heap.size, 2, none⟩ = some (.string ⟨#[]⟩) := HRR.out.cell 2
    have f0 := HRR.out.frozen 0
    have f1 := HRR.out.frozen 1
    have f2 := HRR.out.frozen 2
    go_wp2_with fail
    have hrF := box_set HRR.out (.int .i64 0) (.int .i64 0) (.string ⟨#[]⟩)
    have hbF := box_below HB.out (.int .i64 0) (.int .i64 0) (.string ⟨#[]⟩)
    generalize ((W1.setCell ⟨w.heap.size, 0, none⟩ (.int .i64 0)).setCell ⟨w.heap.size, 1, none⟩ (.int .i64 0)).setCell ⟨w.heap.size, 2, none⟩ (.string ⟨#[]⟩) = wF at hrF hbF ⊢
    have d0 : wF.cell? ⟨w.heap.size, 0, none⟩ = some (.int .i64 0) := hrF.cell 0
    have d1 : wF.cell? ⟨w.heap.size, 1, none⟩ = some (.int .i64 0) := hrF.cell 1
    have d2 : wF.cell? ⟨w.heap.size, 2, none⟩ = some (.string ⟨#[]⟩) := hrF.cell 2
    exact bodyPost_ret (v := .tuple #[vv ⟨0, 0, ⟨#[]⟩⟩, .int .i64 15]) (by simp [results, Tryz.results133, go_sem, vv, d0, d1, d2]) rfl (VPost.bad 15 (by decide) (by rw [HNO.out]; rfl) rfl hbF)
  have hC : (((((toB d)[0]'(by rw [hDs]; exact hpos)).toNat : Int) == 48) = false ∧ True) ∨ (((((toB d)[0]'(by rw [hDs]; exact hpos)).toNat : Int) == 48) = true ∧ (s.toList == [48]) = true) := by
    by_cases h : d.getD 0 0 = 48
    · exact Or.inr ⟨hb0 true (decide_eq_true h), by rw [hsl]; exact beq_iff_eq.2 (Classical.byContradiction fun hn => hz ⟨h, hn⟩)⟩
    · exact Or.inl ⟨hb0 false (decide_eq_false h), trivial⟩
  have HIP2 : Hid (intP s.data.toList = if d.all isDig = false then none else okInt (Lib.parseIntB 64 s.data.toList)) := by
    show _ = _
    rw [HIP.out, if_neg (not_or.2 ⟨h0, hz⟩)]
  have HSY2 := Lib.hid (HSY.out h0)
  clear HIP HSY h0 hDl hsl hd0 hb0 hz
  go_enter Tryz.func133, Tryz.ntmps133
  go_upto_region 1 with (fail)
  rw [← hW1]
  clear hW1
  rcases hC with ⟨k1, k2⟩ | ⟨k1, k2⟩ <;> (
    go_upto_region 5 with (go_at_call 162; refine (HTP.out _).mono ?_; rintro e w' ⟨rfl, hw⟩; obtain rfl := hw.symm)
    clear k0 k1 k2 g0
    go_loopw [24] (fun c wx => ∃ k : Nat, k ≤ d.length ∧ c = .int .i64 k ∧ (d.take k).all isDig = true ∧ wx = W1) (fun c _ => d.length - (intOf c).toNat)
    case atStart => exact ⟨0, Nat.zero_le _, rfl, rfl, rfl⟩
    case round =>
      obtain ⟨k, hk, rfl, hall, rfl⟩ := hrel
      have HALL := Lib.hid hall
      clear hall
      by_cases hkl : k < d.length
      · have g1 : (0 : Int) ≤ (k : Int) := by omega
        have g2 : (k : Int) < ((toB d).size : Int) := by rw [HDS.out]; omega
        have hw1 : IntKind.i64.wrap ((k : Int) + 1) = ((k + 1 : Nat) : Int) := by rw [IntWalk.i64_in _ (by omega)]; omega
        have hks : k < (toB d).size := by rw [HDS.out]; exact hkl
        have HTK : Hid (∀ b, isDig ((toB d)[k]'hks) = b → (d.take (k + 1)).all isDig = b) := fun b hb => by
          rw [List.take_succ_eq_append_getElem hkl, List.all_append, HALL.out, Bool.true_and, List.all_cons, List.all_nil, Bool.and_true]
          exact hb
        by_cases hlo : ((toB d)[k]'hks).toNat < 48
        · have m1 : decide ((((toB d)[k]'hks).toNat : Int) < 48) = true := decide_eq_true (by omega)
          have HNO : Hid (intP s.data.toList = none) := by
            show _ = _
            have h1 := HTK.out false (by unfold isDig; rw [decide_eq_false (by omega)]; rfl)
            have h2 : d.all isDig = false := by
              cases hd : d.all isDig
              · rfl
              · rw [List.all_eq_true] at hd
                rw [List.all_eq_false] at h1
                obtain ⟨x, hx, hx2⟩ := h1
                exact absurd (hd x (List.mem_of_mem_take hx)) hx2
            rw [HIP2.out, if_pos h2]
          clear hlo HTK
          have c0 : wr.cell? ⟨w.heap.size, 0, none⟩ = some (.int .i64 0) := HRR.out.cell 0
          have c1 : wr.cell? ⟨w.heap.size, 1, none⟩ = some (.int .i64 0) := HRR.out.cell 1
          have c2 : wr.cell? ⟨w.heap.size, 2, none⟩ = some (.string ⟨#[]⟩) := HRR.out.cell 2
          have f0 := HRR.out.frozen 0
          have f1 := HRR.out.frozen 1
          have f2 := HRR.out.frozen 2
          go_wp2_with fail
          have hrF := box_set HRR.out (.int .i64 0) (.int .i64 0) (.string ⟨#[]⟩)
          have hbF := box_below HB.out (.int .i64 0) (.int .i64 0) (.string ⟨#[]⟩)
          generalize ((wr.setCell ⟨w.heap.size, 0, none⟩ (.int .i64 0)).setCell ⟨w.heap.size, 1, none⟩ (.int .i64 0)).setCell ⟨w.heap.size, 2, none⟩ (.string ⟨#[]⟩) = wF at hrF hbF ⊢
          have d0 : wF.cell? ⟨w.heap.size, 0, none⟩ = some (.int .i64 0) := hrF.cell 0
          have d1 : wF.cell? ⟨w.heap.size, 1, none⟩ = some (.int .i64 0) := hrF.cell 1
          have d2 : wF.cell? ⟨w.heap.size, 2, none⟩ = some (.string ⟨#[]⟩) := hrF.cell 2
          exact bodyPost_ret (v := .tuple #[vv ⟨0, 0, ⟨#[]⟩⟩, .int .i64 15]) (by simp [results, Tryz.results133, go_sem, vv, d0, d1, d2]) rfl (VPost.bad 15 (by decide) (by rw [HNO.out]; rfl) rfl hbF)
        by_cases hhi : 57 < ((toB d)[k]'hks).toNat
        · have m1 : decide ((((toB d)[k]'hks).toNat : Int) < 48) = false := decide_eq_false (by omega)
          have m2 : decide ((57 : Int) < (((toB d)[k]'hks).toNat : Int)) = true := decide_eq_true (by omega)
          have HNO : Hid (intP s.data.toList = none) := by
            show _ = _
            have h1 := HTK.out false (by unfold isDig; rw [decide_eq_false (p := _ ≤ 57) (by omega), Bool.and_false])
            have h2 : d.all isDig = false := by
              cases hd : d.all isDig
              · rfl
              · rw [List.all_eq_true] at hd
                rw [List.all_eq_false] at h1
                obtain ⟨x, hx, hx2⟩ := h1
                exact absurd (hd x (List.mem_of_mem_take hx)) hx2
            rw [HIP2.out, if_pos h2]
          clear hlo hhi HTK
          have c0 : wr.cell? ⟨w.heap.size, 0, none⟩ = some (.int .i64 0) := HRR.out.cell 0
          have c1 : wr.cell? ⟨w.heap.size, 1, none⟩ = some (.int .i64 0) := HRR.out.cell 1
          have c2 : wr.cell? ⟨w.heap.size, 2, none⟩ = some (.string ⟨#[]⟩) := HRR.out.cell 2
          have f0 := HRR.out.frozen 0
          have f1 := HRR.out.frozen 1
          have f2 := HRR.out.frozen 2
          go_wp2_with fail
          have hrF := box_set HRR.out (.int .i64 0) (.int .i64 0) (.string ⟨#[]⟩)
          have hbF := box_below HB.out (.int .i64 0) (.int .i64 0) (.string ⟨#[]⟩)
          generalize ((wr.setCell ⟨w.heap.size, 0, none⟩ (.int .i64 0)).setCell ⟨w.heap.size, 1, none⟩ (.int .i64 0)).setCell ⟨w.heap.size, 2, none⟩ (.string ⟨#[]⟩) = wF at hrF hbF ⊢
          have d0 : wF.cell? ⟨w.heap.size, 0, none⟩ = some (.int .i64 0) := hrF.cell 0
          have d1 : wF.cell? ⟨w.heap.size, 1, none⟩ = some (.int .i64 0) := hrF.cell 1
          have d2 : wF.cell? ⟨w.heap.size, 2, none⟩ = some (.string ⟨#[]⟩) := hrF.cell 2
          exact bodyPost_ret (v := .tuple #[vv ⟨0, 0, ⟨#[]⟩⟩, .int .i64 15]) (by simp [results, Tryz.results133, go_sem, vv, d0, d1, d2]) rfl (VPost.bad 15 (by decide) (by rw [HNO.out]; rfl) rfl hbF)
        have m1 : decide ((((toB d)[k]'hks).toNat : Int) < 48) = false := decide_eq_false (by omega)
        have m2 : decide ((57 : Int) < (((toB d)[k]'hks).toNat : Int)) = false := decide_eq_false (by omega)
        have HAL2 := Lib.hid (HTK.out true (by unfold isDig; rw [decide_eq_true (by omega), decide_eq_true (by omega)]; rfl))
        clear hlo hhi HTK
        go_wp2_with fail
        go_roundw
        case rel => exact ⟨k + 1, hkl, by go_num, HAL2.out, by first | rfl | trivial⟩
        case measure => simp [intOf]; omega
      · obtain rfl : k = d.length := by omega
        have g2 : ¬ (d.length : Int) < ((toB d).size : Int) := by rw [HDS.out]; omega
        have hall := HALL.out
        rw [List.take_length] at hall
        have HIP3 : Hid (intP s.data.toList = okInt (Lib.parseIntB 64 s.data.toList)) := by show _ = _; rw [HIP2.out, if_neg (by rw [hall]; simp)]
        have hsy := HSY2.out hall
        clear hall HALL HIP2 HSY2
        rcases hpi : Lib.parseIntB 64 s.data.toList with v | _ | _
        · have HOK : Hid (intP s.data.toList = some v) := by show _ = _; rw [HIP3.out, hpi]; rfl
          have HPI : Hid (Calls Tryz.prog 163 #[.string s, .int .i64 10, .int .i64 64] wr fun e w' => e = .returned (.tuple #[.int .i64 v, .nilIface]) ∧ Below wr.heap.size wr w') := by
            refine Calls.mono (Any.strconv_ParseInt_10_at64_ok YtdadchpiibipoaaGreatDoor.lParseInt s (by omega) v hpi wr) fun e w' h => ⟨h.1, ?_⟩
            rcases h.2 with h | ⟨t, h⟩
            · rw [h]; exact Below.refl _ _
            · rw [h]; exact Lib.bytesWorld_below _ _ _
          clear hsy hpi HIP3
          have HRW := Lib.hid HRR.out.lt
          go_wp2_with (first
            | (go_at_call 163; refine HPI.out.mono ?_; rintro e w2 ⟨rfl, hb2⟩; have HB2 := Lib.hid (HB.out.trans (hb2.mono HB.out.size)); have HR2 := Lib.hid (HRR.out.below hb2 HRW.out); have HW2 := Lib.hid HR2.out.lt; clear hb2)
            | (go_at_call 164; refine (vInt_any v _).mono ?_; rintro e w3 ⟨rfl, hb3⟩; have hr3 := HR2.out.below hb3 HW2.out; have c0 := hr3.cell 0; have c1 := hr3.cell 1; have c2 := hr3.cell 2; have f0 := hr3.frozen 0; have f1 := hr3.frozen 1; have f2 := hr3.frozen 2; have HB3 := Lib.hid (HB2.out.trans (hb3.mono HB2.out.size)); have HR3 := Lib.hid hr3; clear hb3 hr3))
          have hrF := box_set HR3.out (.int .i64 1) (.int .i64 v) (.string ⟨#[]⟩)
          have hbF := box_below HB3.out (.int .i64 1) (.int .i64 v) (.string ⟨#[]⟩)
          generalize ((w3.setCell ⟨w.heap.size, 0, none⟩ (.int .i64 1)).setCell ⟨w.heap.size, 1, none⟩ (.int .i64 v)).setCell ⟨w.heap.size, 2, none⟩ (.string ⟨#[]⟩) = wF at hrF hbF ⊢
          have d0 : wF.cell? ⟨w.heap.size, 0, none⟩ = some (.int .i64 1) := hrF.cell 0
          have d1 : wF.cell? ⟨w.heap.size, 1, none⟩ = some (.int .i64 v) := hrF.cell 1
          have d2 : wF.cell? ⟨w.heap.size, 2, none⟩ = some (.string ⟨#[]⟩) := hrF.cell 2
          exact bodyPost_ret (v := .tuple #[vv ⟨1, v, ⟨#[]⟩⟩, .int .i64 0]) (by simp [results, Tryz.results133, go_sem, vv, d0, d1, d2]) rfl (VPost.ok ⟨1, v, ⟨#[]⟩⟩ (by rw [HOK.out]; rfl) rfl hbF)
        · exact absurd hpi hsy
        · have HNO : Hid (intP s.data.toList = none) := by show _ = _; rw [HIP3.out, hpi]; rfl
          obtain ⟨ev, hev1, hev2⟩ := HT1.out.rng
          have HPI := Lib.hid (Any.strconv_ParseInt_10_at64_range YtdadchpiibipoaaGreatDoor.lParseInt s (by omega) hpi ev wr hev1 hev2)
          change Hid (Calls Tryz.prog 163 _ _ _) at HPI
          clear hsy hpi HIP3 hev1 hev2
          have HRW := Lib.hid HRR.out.lt
          go_wp2_with (go_at_call 163; refine HPI.out.mono ?_; rintro e w2 ⟨gN, rfl, -, -, hb2⟩; have HB2 := Lib.hid (HB.out.trans (hb2.mono HB.out.size)); have hr2 := HRR.out.below hb2 HRW.out; have c0 := hr2.cell 0; have c1 := hr2.cell 1; have c2 := hr2.cell 2; have f0 := hr2.frozen 0; have f1 := hr2.frozen 1; have f2 := hr2.frozen 2; have HR2 := Lib.hid hr2; clear hb2 hr2)
          have hrF := box_set HR2.out (.int .i64 0) (.int .i64 0) (.string ⟨#[]⟩)
          have hbF := box_below HB2.out (.int .i64 0) (.int .i64 0) (.string ⟨#[]⟩)
          generalize ((w2.setCell ⟨w.heap.size, 0, none⟩ (.int .i64 0)).setCell ⟨w.heap.size, 1, none⟩ (.int .i64 0)).setCell ⟨w.heap.size, 2, none⟩ (.string ⟨#[]⟩) = wF at hrF hbF ⊢
          have d0 : wF.cell? ⟨w.heap.size, 0, none⟩ = some (.int .i64 0) := hrF.cell 0
          have d1 : wF.cell? ⟨w.heap.size, 1, none⟩ = some (.int .i64 0) := hrF.cell 1
          have d2 : wF.cell? ⟨w.heap.size, 2, none⟩ = some (.string ⟨#[]⟩) := hrF.cell 2
          exact bodyPost_ret (v := .tuple #[vv ⟨0, 0, ⟨#[]⟩⟩, .int .i64 3]) (by simp [results, Tryz.results133, go_sem, vv, d0, d1, d2]) rfl (VPost.bad 3 (by decide) (by rw [HNO.out]; rfl) rfl hbF))
end
section
open Go.RowKit Go.Sort

theorem parseV_str {l : List UInt8} (h0 : l ≠ []) (h : l.getD 0 0 = 34) : parseV l = (strP l).map fun o => ⟨2, 0, toB o⟩ := by
  unfold parseV
  rw [if_neg h0, if_pos h]
  rfl
theorem parseV_int {l : List UInt8} (h0 : l ≠ []) (h : l.getD 0 0 ≠ 34) : parseV l = (intP l).map fun n => ⟨1, n, ⟨#[]⟩⟩ := by
  unfold parseV
  rw [if_neg h0, if_neg h]

set_option maxHeartbeats 4000000 in
theorem vParse_any (s : ByteArray) (hs : s.size ≤ 1000000) (w : World) (hT : Tabs w) : Calls Tryz.prog 109 #[.string s] w (VPost (parseV s.data.toList) w) := by
  have hsl : s.toList = s.data.toList := ByteArray.toList_eq s
  obtain ⟨W1, hW1⟩ : ∃ W1, W1 = w.alloc (.cells #[.int .i64 0, .int .i64 0, .string ⟨#[]⟩] 82) := ⟨_, rfl⟩
  have HB : Hid (Below w.heap.size w W1) := by rw [hW1]; exact ((Ext.refl w).alloc _).below
  have HRR : Hid (Row W1 w.heap.size 82 [.int .i64 0, .int .i64 0, .string ⟨#[]⟩]) := by rw [hW1]; exact Row.new w 82 [.int .i64 0, .int .i64 0, .string ⟨#[]⟩]
  have HT1 := Lib.hid (hT.up HB.out)
  have HRW := Lib.hid HRR.out.lt
  clear hT
  by_cases h0 : s.size = 0
  · have k0 : s.toList.isEmpty = true := by rw [isEmpty_size, h0]; rfl
    have HNO : Hid (parseV s.data.toList = none) := by
      show _ = _
      have : s.data.toList = [] := List.eq_nil_of_length_eq_zero (by rw [size_len]; exact h0)
      rw [this]
      rfl
    clear h0 hsl
    go_enter Tryz.func109, Tryz.ntmps109
    go_upto_region 1 with (fail)
    rw [← hW1]
    clear hW1
    have c0 : W1.cell? ⟨w.heap.size, 0, none⟩ = some (.int .i64 0) := HRR.out.cell 0
    have c1 : W1.cell? ⟨w.heap.size, 1, none⟩ = some (.int .i64 0) := HRR.out.cell 1
    have c2 : W1.cell? ⟨w.heap.size, 2, none⟩ = some (.string ⟨#[]⟩) := HRR.out.cell 2
    have f0 := HRR.out.frozen 0
    have f1 := HRR.out.frozen 1
    have f2 := HRR.out.frozen 2
    go_wp2_with fail
    have hrF := box_set HRR.out (.int .i64 0) (.int .i64 0) (.string ⟨#[]⟩)
    have hbF := box_below HB.out (.int .i64 0) (.int .i64 0) (.string ⟨#[]⟩)
    generalize ((W1.setCell ⟨w.heap.size, 0, none⟩ (.int .i64 0)).setCell ⟨w.heap.size, 1, none⟩ (.int .i64 0)).setCell ⟨w.heap.size, 2, none⟩ (.string ⟨#[]⟩) = wF at hrF hbF ⊢
    have d0 : wF.cell? ⟨w.heap.size, 0, none⟩ = some (.int .i64 0) := hrF.cell 0
    have d1 : wF.cell? ⟨w.heap.size, 1, none⟩ = some (.int .i64 0) := hrF.cell 1
    have d2 : wF.cell? ⟨w.heap.size, 2, none⟩ = some (.string ⟨#[]⟩) := hrF.cell 2
    exact bodyPost_ret (v := .tuple #[vv ⟨0, 0, ⟨#[]⟩⟩, .int .i64 10]) (by simp [results, Tryz.results109, go_sem, vv, d0, d1, d2]) rfl (VPost.bad 10 (by decide) HNO.out rfl hbF)
  have k0 : s.toList.isEmpty = false := by rw [isEmpty_size, decide_eq_false h0]
  have hpos : 0 < s.size := by omega
  have g0 : (0 : Int) < (s.size : Int) := by omega
  have hne : s.data.toList ≠ [] := fun h => h0 (by rw [← size_len, h]; rfl)
  have hd0 : s.data.toList.getD 0 0 = s[0]'hpos := byteD_at hpos
  have HQ1 : Hid ((((s[0]'hpos).toNat : Int) == 34) = true → parseV s.data.toList = (strP s.data.toList).map fun o => ⟨2, 0, toB o⟩) := fun h =>
    parseV_str hne (by rw [hd0]; exact UInt8.toNat_inj.1 (by have := beq_iff_eq.1 h; have e2 : (s[0]'hpos).toNat = 34 := by omega
                                                             rw [e2]; rfl))
  have HQ2 : Hid ((((s[0]'hpos).toNat : Int) == 34) = false → parseV s.data.toList = (intP s.data.toList).map fun n => ⟨1, n, ⟨#[]⟩⟩) := fun h =>
    parseV_int hne (by rw [hd0]; intro e1; rw [e1] at h; exact absurd h (by decide))
  have HPS := Lib.hid (vParseStr_any s hpos hs W1)
  have HPI := Lib.hid (vParseInt_any s hpos hs W1 HT1.out)
  clear hsl hd0 hne h0
  cases hq : (((s[0]'hpos).toNat : Int) == 34)
  · have HR := Lib.hid (HQ2.out hq)
    have HP := HPI
    clear HPS HPI HQ1 HQ2
    generalize (Option.map (fun n => (⟨1, n, ⟨#[]⟩⟩ : RL.V)) (intP s.data.toList)) = r at HR HP
    rcases r with _ | ⟨vk, vi, vt⟩
    · have HP1 : Hid (Calls Tryz.prog 133 #[.string s] W1 fun e w' => (∃ k : Int, k ≠ 0 ∧ e = .returned (.tuple #[vv ⟨0, 0, ⟨#[]⟩⟩, .int .i64 k])) ∧ Below W1.heap.size W1 w') := HP.out.mono fun e w' h => ⟨h.2.1 rfl, h.2.2⟩
      clear HP
      go_enter Tryz.func109, Tryz.ntmps109
      go_upto_region 1 with (fail)
      rw [← hW1]
      clear hW1
      go_wp2_with (go_at_call 133; refine HP1.out.mono ?_; rintro e w2 ⟨⟨kk, hkk, rfl⟩, hb⟩; have hr2 := HRR.out.below hb HRW.out; have c0 := hr2.cell 0; have c1 := hr2.cell 1; have c2 := hr2.cell 2; have f0 := hr2.frozen 0; have f1 := hr2.frozen 1; have f2 := hr2.frozen 2; have HB2 := Lib.hid (HB.out.trans (hb.mono HB.out.size)); have HR2 := Lib.hid hr2; have HKK := Lib.hid hkk; clear hkk; clear hb hr2)
      have hrF := box_set HR2.out (.int .i64 0) (.int .i64 0) (.string ⟨#[]⟩)
      have hbF := box_below HB2.out (.int .i64 0) (.int .i64 0) (.string ⟨#[]⟩)
      generalize ((w2.setCell ⟨w.heap.size, 0, none⟩ (.int .i64 0)).setCell ⟨w.heap.size, 1, none⟩ (.int .i64 0)).setCell ⟨w.heap.size, 2, none⟩ (.string ⟨#[]⟩) = wF at hrF hbF ⊢
      have d0 : wF.cell? ⟨w.heap.size, 0, none⟩ = some (.int .i64 0) := hrF.cell 0
      have d1 : wF.cell? ⟨w.heap.size, 1, none⟩ = some (.int .i64 0) := hrF.cell 1
      have d2 : wF.cell? ⟨w.heap.size, 2, none⟩ = some (.string ⟨#[]⟩) := hrF.cell 2
      exact bodyPost_ret (v := .tuple #[vv ⟨0, 0, ⟨#[]⟩⟩, .int .i64 kk]) (by simp [results, Tryz.results109, go_sem, vv, d0, d1, d2]) rfl (VPost.bad kk HKK.out HR.out rfl hbF)
    · have HP1 : Hid (Calls Tryz.prog 133 #[.string s] W1 fun e w' => e = .returned (.tuple #[vv ⟨vk, vi, vt⟩, .int .i64 0]) ∧ Below W1.heap.size W1 w') := HP.out.mono fun e w' h => ⟨h.1 _ rfl, h.2.2⟩
      clear HP
      go_enter Tryz.func109, Tryz.ntmps109
      go_upto_region 1 with (fail)
      rw [← hW1]
      clear hW1
      go_wp2_with (go_at_call 133; refine HP1.out.mono ?_; rintro e w2 ⟨rfl, hb⟩; have hr2 := HRR.out.below hb HRW.out; have c0 := hr2.cell 0; have c1 := hr2.cell 1; have c2 := hr2.cell 2; have f0 := hr2.frozen 0; have f1 := hr2.frozen 1; have f2 := hr2.frozen 2; have HB2 := Lib.hid (HB.out.trans (hb.mono HB.out.size)); have HR2 := Lib.hid hr2; clear hb hr2)
      have hrF := box_set HR2.out (.int .i64 vk) (.int .i64 vi) (.string vt)
      have hbF := box_below HB2.out (.int .i64 vk) (.int .i64 vi) (.string vt)
      generalize ((w2.setCell ⟨w.heap.size, 0, none⟩ (.int .i64 vk)).setCell ⟨w.heap.size, 1, none⟩ (.int .i64 vi)).setCell ⟨w.heap.size, 2, none⟩ (.string vt) = wF at hrF hbF ⊢
      have d0 : wF.cell? ⟨w.heap.size, 0, none⟩ = some (.int .i64 vk) := hrF.cell 0
      have d1 : wF.cell? ⟨w.heap.size, 1, none⟩ = some (.int .i64 vi) := hrF.cell 1
      have d2 : wF.cell? ⟨w.heap.size, 2, none⟩ = some (.string vt) := hrF.cell 2
      exact bodyPost_ret (v := .tuple #[vv ⟨vk, vi, vt⟩, .int .i64 0]) (by simp [results, Tryz.results109, go_sem, vv, d0, d1, d2]) rfl (VPost.ok ⟨vk, vi, vt⟩ HR.out rfl hbF)
  · have HR := Lib.hid (HQ1.out hq)
    have HP := HPS
    clear HPS HPI HQ1 HQ2
    generalize (Option.map (fun o => (⟨2, 0, toB o⟩ : RL.V)) (strP s.data.toList)) = r at HR HP
    rcases r with _ | ⟨vk, vi, vt⟩
    · have HP1 : Hid (Calls Tryz.prog 132 #[.string s] W1 fun e w' => (∃ k : Int, k ≠ 0 ∧ e = .returned (.tuple #[vv ⟨0, 0, ⟨#[]⟩⟩, .int .i64 k])) ∧ Below W1.heap.size W1 w') := HP.out.mono fun e w' h => ⟨h.2.1 rfl, h.2.2⟩
      clear HP
      go_enter Tryz.func109, Tryz.ntmps109
      go_upto_region 1 with (fail)
      rw [← hW1]
      clear hW1
      go_wp2_with (go_at_call 132; refine HP1.out.mono ?_; rintro e w2 ⟨⟨kk, hkk, rfl⟩, hb⟩; have hr2 := HRR.out.below hb HRW.out; have c0 := hr2.cell 0; have c1 := hr2.cell 1; have c2 := hr2.cell 2; have f0 := hr2.frozen 0; have f1 := hr2.frozen 1; have f2 := hr2.frozen 2; have HB2 := Lib.hid (HB.out.trans (hb.mono HB.out.size)); have HR2 := Lib.hid hr2; have HKK := Lib.hid hkk; clear hkk; clear hb hr2)
      have hrF := box_set HR2.out (.int .i64 0) (.int .i64 0) (.string ⟨#[]⟩)
      have hbF := box_below HB2.out (.int .i64 0) (.int .i64 0) (.string ⟨#[]⟩)
      generalize ((w2.setCell ⟨w.heap.size, 0, none⟩ (.int .i64 0)).setCell ⟨w.heap.size, 1, none⟩ (.int .i64 0)).setCell ⟨w.heap.size, 2, none⟩ (.string ⟨#[]⟩) = wF at hrF hbF ⊢
      have d0 : wF.cell? ⟨w.heap.size, 0, none⟩ = some (.int .i64 0) := hrF.cell 0
      have d1 : wF.cell? ⟨w.heap.size, 1, none⟩ = some (.int .i64 0) := hrF.cell 1
      have d2 : wF.cell? ⟨w.heap.size, 2, none⟩ = some (.string ⟨#[]⟩) := hrF.cell 2
      exact bodyPost_ret (v := .tuple #[vv ⟨0, 0, ⟨#[]⟩⟩, .int .i64 kk]) (by simp [results, Tryz.results109, go_sem, vv, d0, d1, d2]) rfl (VPost.bad kk HKK.out HR.out rfl hbF)
    · have HP1 : Hid (Calls Tryz.prog 132 #[.string s] W1 fun e w' => e = .returned (.tuple #[vv ⟨vk, vi, vt⟩, .int .i64 0]) ∧ Below W1.heap.size W1 w') := HP.out.mono fun e w' h => ⟨h.1 _ rfl, h.2.2⟩
      clear HP
      go_enter Tryz.func109, Tryz.ntmps109
      go_upto_region 1 with (fail)
      rw [← hW1]
      clear hW1
      go_wp2_with (go_at_call 132; refine HP1.out.mono ?_; rintro e w2 ⟨rfl, hb⟩; have hr2 := HRR.out.below hb HRW.out; have c0 := hr2.cell 0; have c1 := hr2.cell 1; have c2 := hr2.cell 2; have f0 := hr2.frozen 0; have f1 := hr2.frozen 1; have f2 := hr2.frozen 2; have HB2 := Lib.hid (HB.out.trans (hb.mono HB.out.size)); have HR2 := Lib.hid hr2; clear hb hr2)
      have hrF := box_set HR2.out (.int .i64 vk) (.int .i64 vi) (.string vt)
      have hbF := box_below HB2.out (.int .i64 vk) (.int .i64 vi) (.string vt)
      generalize ((w2.setCell ⟨w.heap.size, 0, none⟩ (.int .i64 vk)).setCell ⟨w.heap.size, 1, none⟩ (.int .i64 vi)).setCell ⟨w.heap.size, 2, none⟩ (.string vt) = wF at hrF hbF ⊢
      have d0 : wF.cell? ⟨w.heap.size, 0, none⟩ = some (.int .i64 vk) := hrF.cell 0
      have d1 : wF.cell? ⟨w.heap.size, 1, none⟩ = some (.int .i64 vi) := hrF.cell 1
      have d2 : wF.cell? ⟨w.heap.size, 2, none⟩ = some (.string vt) := hrF.cell 2
      exact bodyPost_ret (v := .tuple #[vv ⟨vk, vi, vt⟩, .int .i64 0]) (by simp [results, Tryz.results109, go_sem, vv, d0, d1, d2]) rfl (VPost.ok ⟨vk, vi, vt⟩ HR.out rfl hbF)
end
section
open Go.RowKit Go.Sort

theorem litQ_step {l : List UInt8} {c : UInt8} {t : List UInt8} (h : l = c :: t) : litQ l = if c = 34 then 0 else if c = 92 then 2 + litQ (t.drop 1) else 1 + litQ t := by
  subst h
  cases t with
  | nil => simp [litQ]
  | cons d u => simp [litQ]

set_option maxHeartbeats 4000000 in
theorem rwLiteral_any (s : ByteArray) (hs : s.size ≤ 1000000) (w : World) : Calls Tryz.prog 108 #[.string s] w fun e w' => e = .returned (.int .i64 (litL s.data.toList)) ∧ w' = w := by
  have hsl : s.toList = s.data.toList := ByteArray.toList_eq s
  by_cases hq : s.data.toList.head? = some 34
  rotate_left
  · have HI := Lib.hid (sIndexByte_any s 44 w)
    have hlt := indexByte_lt s.data.toList 44
    have hge := Lib.indexByte_ge s.data.toList 44
    rw [size_len] at hlt
    have HL : Hid (litL s.data.toList = if 0 ≤ Lib.indexByte s.data.toList 44 then (Lib.indexByte s.data.toList 44).toNat else s.size) := by
      show _ = _
      unfold litL
      rw [if_neg hq, size_len]
    change Hid (Calls Tryz.prog 131 #[.string s, .int .u8 44] w fun e w' => e = .returned (.int .i64 (Lib.indexByte s.data.toList 44)) ∧ w' = w) at HI
    generalize Lib.indexByte s.data.toList 44 = ix at HI HL hlt hge
    have hC : (s.toList.isEmpty = true ∧ True) ∨ (s.toList.isEmpty = false ∧ ∃ h : 0 < s.size, (((s[0]'h).toNat : Int) != 34) = true) := by
      by_cases h0 : s.size = 0
      · exact Or.inl ⟨by rw [isEmpty_size, h0]; rfl, trivial⟩
      · have hpos : 0 < s.size := by omega
        refine Or.inr ⟨by rw [isEmpty_size, decide_eq_false h0], hpos, ?_⟩
        rw [bne_iff_ne]
        intro e
        apply hq
        have e2 : (s[0]'hpos).toNat = 34 := by omega
        have e3 : s[0]'hpos = 34 := UInt8.toNat_inj.1 (by rw [e2]; rfl)
        have hd0 := byteD_at hpos
        cases hl : s.data.toList with
        | nil => have := size_len s; rw [hl] at this; simp at this; omega
        | cons a t => rw [hl] at hd0; simp at hd0; rw [e3] at hd0; rw [hd0]; rfl
    clear hq hsl
    by_cases hix : 0 ≤ ix
    · obtain ⟨n, rfl⟩ := Int.eq_ofNat_of_zero_le hix
      rw [HL.out, if_pos hix]
      clear hix hlt hge HL
      rcases hC with ⟨k0, k1⟩ | ⟨k0, hpos, k1⟩
      · go_enter Tryz.func108, Tryz.ntmps108
        go_wp2_with (go_at_call 131; refine HI.out.mono ?_; rintro e w' ⟨rfl, hw⟩; obtain rfl := hw.symm)
        go_ret
        exact ⟨rfl, rfl⟩
      · have g0 : (0 : Int) < (s.size : Int) := by omega
        go_enter Tryz.func108, Tryz.ntmps108
        go_wp2_with (go_at_call 131; refine HI.out.mono ?_; rintro e w' ⟨rfl, hw⟩; obtain rfl := hw.symm)
        go_ret
        exact ⟨rfl, rfl⟩
    · rw [HL.out, if_neg hix]
      have m0 : decide (0 ≤ ix) = false := decide_eq_false hix
      clear hix hlt hge HL
      rcases hC with ⟨k0, k1⟩ | ⟨k0, hpos, k1⟩
      · go_enter Tryz.func108, Tryz.ntmps108
        go_wp2_with (go_at_call 131; refine HI.out.mono ?_; rintro e w' ⟨rfl, hw⟩; obtain rfl := hw.symm)
        go_ret
        exact ⟨rfl, rfl⟩
      · have g0 : (0 : Int) < (s.size : Int) := by omega
        go_enter Tryz.func108, Tryz.ntmps108
        go_wp2_with (go_at_call 131; refine HI.out.mono ?_; rintro e w' ⟨rfl, hw⟩; obtain rfl := hw.symm)
        go_ret
        exact ⟨rfl, rfl⟩
  have hpos : 0 < s.size := by
    rcases Nat.eq_zero_or_pos s.size with h | h
    · have : s.data.toList = [] := List.eq_nil_of_length_eq_zero (by rw [size_len]; exact h)
      rw [this] at hq
      cases hq
    · exact h
  have hd0 := byteD_at hpos
  have k0 : s.toList.isEmpty = false := by rw [isEmpty_size, decide_eq_false (by omega)]
  have k1 : (((s[0]'hpos).toNat : Int) != 34) = false := by
    cases hl : s.data.toList with
    | nil => rw [hl] at hq; cases hq
    | cons a t =>
      rw [hl] at hd0 hq
      simp at hd0 hq
      rw [← hd0, hq]
      rfl
  have g0 : (0 : Int) < (s.size : Int) := by omega
  obtain ⟨E, hE⟩ : ∃ E, E = 1 + litQ (s.data.toList.drop 1) := ⟨_, rfl⟩
  have HL : Hid (litL s.data.toList = min (E + 1) s.size) := by
    show _ = _
    unfold litL
    rw [if_pos hq, size_len, hE]
  have HE := Lib.hid hE
  clear hq hsl hd0 hE
  rw [HL.out]
  go_enter Tryz.func108, Tryz.ntmps108
  go_upto_region 7 with (fail)
  clear k0 k1 g0
  go_loopw [4] (fun c wx => ∃ i : Nat, 1 ≤ i ∧ i ≤ s.size + 1 ∧ c = .int .i64 i ∧ i + litQ (s.data.toList.drop i) = E ∧ wx = w) (fun c _ => s.size + 1 - (intOf c).toNat)
  case atStart => exact ⟨1, Nat.le_refl _, by omega, rfl, HE.out.symm, rfl⟩
  case round =>
    obtain ⟨i, hi1, hi, rfl, hgo, rfl⟩ := hrel
    by_cases hil : i < s.size
    · have g0 : (0 : Int) ≤ (i : Int) := by omega
      have g1 : (i : Int) < (s.size : Int) := by omega
      have hw1 : IntKind.i64.wrap ((i : Int) + 1) = ((i + 1 : Nat) : Int) := by rw [IntWalk.i64_in _ (by omega)]; omega
      have hv1 : wrap64 ((i : Int) + 1) = ((i + 1 : Nat) : Int) := by unfold wrap64; omega
      have hw2 : IntKind.i64.wrap (((i + 1 : Nat) : Int) + 1) = ((i + 2 : Nat) : Int) := by rw [IntWalk.i64_in _ (by omega)]; omega
      have hv2 : wrap64 (((i + 1 : Nat) : Int) + 1) = ((i + 2 : Nat) : Int) := by unfold wrap64; omega
      have hdrop : s.data.toList.drop i = s[i] :: s.data.toList.drop (i + 1) := by
        have h' : i < s.data.toList.length := by rw [size_len]; exact hil
        rw [List.drop_eq_getElem_cons h']
        rfl
      have hst := litQ_step hdrop
      rw [List.drop_drop] at hst
      by_cases hq : s[i] = 34
      · have q1 : (((s[i]).toNat : Int) != 34) = false := by rw [hq]; rfl
        rw [if_pos hq] at hst
        have hEi : E = i := by omega
        have HEI := Lib.hid hEi
        clear hst hdrop hgo hq hEi
        go_wp2_with fail
        go_ret
        exact ⟨by show Ending.returned (.int .i64 (min ((i : Int) + 1) (s.size : Int))) = _; rw [show min ((i : Int) + 1) (s.size : Int) = ((min (E + 1) s.size : Nat) : Int) by have := HEI.out; omega], rfl⟩
      · have q1 : (((s[i]).toNat : Int) != 34) = true := by
          rw [bne_iff_ne]
          intro e
          exact hq (UInt8.toNat_inj.1 (by have : (s[i]).toNat = 34 := by omega
                                          rw [this]; rfl))
        rw [if_neg hq] at hst
        by_cases hb : s[i] = 92
        · have q2 : (((s[i]).toNat : Int) == 92) = true := by rw [hb]; rfl
          rw [if_pos hb] at hst
          have HG : Hid (i + 2 + litQ (s.data.toList.drop (i + 2)) = E) := by
            show _ = _
            have : i + 1 + 1 = i + 2 := rfl
            rw [this] at hst
            omega
          clear hst hdrop hgo hq hb
          go_wp2_with fail
          go_roundw
          case rel => exact ⟨i + 2, by omega, by omega, by go_num, HG.out, by first | rfl | trivial⟩
          case measure => simp [intOf]; omega
        · have q2 : (((s[i]).toNat : Int) == 92) = false := by
            rw [beq_eq_false_iff_ne]
            intro e
            exact hb (UInt8.toNat_inj.1 (by have : (s[i]).toNat = 92 := by omega
                                            rw [this]; rfl))
          rw [if_neg hb] at hst
          have HG : Hid (i + 1 + litQ (s.data.toList.drop (i + 1)) = E) := by
            show _ = _
            omega
          clear hst hdrop hgo hq hb
          go_wp2_with fail
          go_roundw
          case rel => exact ⟨i + 1, by omega, by omega, by go_num, HG.out, by first | rfl | trivial⟩
          case measure => simp [intOf]; omega
    · have g1 : ¬ (i : Int) < (s.size : Int) := by omega
      have hEi : E = i := by
        rw [show s.data.toList.drop i = [] from List.drop_eq_nil_iff.2 (by rw [size_len]; omega)] at hgo
        simp [litQ] at hgo
        omega
      have HEI := Lib.hid hEi
      clear hgo hEi
      go_wp2_with fail
      go_ret
      exact ⟨by show Ending.returned (.int .i64 (min ((i : Int) + 1) (s.size : Int))) = _; rw [show min ((i : Int) + 1) (s.size : Int) = ((min (E + 1) s.size : Nat) : Int) by have := HEI.out; omega], rfl⟩
end
section
open Go.RowKit Go.Sort

def RPost (r : Option RL.R) (w : World) (e : Ending) (w' : World) : Prop :=
  (∀ x, r = some x → ∃ A C, e = .returned (.tuple #[.slice A x.length C, .int .i64 0]) ∧ x.length ≤ C ∧ C ≤ 9223372036854775807 ∧ SlR w'.heap.size w' A x ∧ (∀ ad, A = some ad → w.heap.size ≤ ad.block)) ∧
    (r = none → e = .returned (.tuple #[.slice none 0 0, .int .i64 15])) ∧ Below w.heap.size w w'
theorem RPost.bad {r : Option RL.R} {w w' : World} (hr : r = none) (hb : Below w.heap.size w w') : RPost r w (.returned (.tuple #[.slice none 0 0, .int .i64 15])) w' :=
  ⟨fun x hx => (by rw [hr] at hx; cases hx), fun _ => rfl, hb⟩
def strLen : Value → Nat
  | .string s => s.size
  | _ => 0
theorem toB_size (l : List UInt8) : (toB l).size = l.length := rfl
theorem toB_mk (s : ByteArray) : toB s.data.toList = s := Lib.mk_data s
theorem toB_extract (l : List UInt8) (a b : Nat) : (toB l).extract a b = toB ((l.drop a).take (b - a)) := by
  rw [Lib.extract_eq]; rfl
theorem toB_take (l : List UInt8) (n : Nat) : (toB l).extract 0 n = toB (l.take n) := by rw [toB_extract]; rfl
theorem toB_drop (l : List UInt8) (n : Nat) : (toB l).extract n l.length = toB (l.drop n) := by
  rw [toB_extract, List.take_of_length_le (by rw [List.length_drop]; exact Nat.le_refl _)]
theorem litL_le (l : List UInt8) : litL l ≤ l.length := by
  unfold litL
  split
  · exact Nat.min_le_right _ _
  · split
    · have := indexByte_lt l 44; omega
    · exact Nat.le_refl _

set_option maxHeartbeats 8000000 in
theorem rwParse_any (s : ByteArray) (hs : s.size ≤ 1000000) (w : World) (hT : Tabs w) : Calls Tryz.prog 92 #[.string s] w (RPost (parseR s.data.toList) w) := by
  have hsl : s.toList = s.data.toList := ByteArray.toList_eq s
  by_cases h0 : s.data.toList = [40, 41]
  · have k0 : (s.toList == [40, 41]) = true := by rw [hsl, h0]; rfl
    have HNO : Hid (parseR s.data.toList = some []) := by show _ = _; unfold parseR; rw [if_pos h0]
    clear hT h0 hsl
    go_enter Tryz.func92, Tryz.ntmps92
    go_wp2_with fail
    go_ret2
    exact ⟨fun x hx => (by rw [HNO.out] at hx; injection hx with hx; subst hx; exact ⟨none, 0, rfl, Nat.le_refl _, by decide, fun h => absurd rfl h, fun ad h => by cases h⟩), fun h => (by rw [HNO.out] at h; cases h), Below.refl _ _⟩
  have k0 : (s.toList == [40, 41]) = false := by rw [hsl, beq_eq_false_iff_ne]; exact h0
  by_cases h2 : s.size < 2
  · have k1 : decide ((s.size : Int) < 2) = true := decide_eq_true (by omega)
    have HNO : Hid (parseR s.data.toList = none) := by show _ = _; unfold parseR; rw [if_neg h0, if_pos (Or.inl (by rw [size_len]; exact h2))]
    clear hT h0 hsl h2
    go_enter Tryz.func92, Tryz.ntmps92
    go_wp2_with fail
    go_ret2
    exact RPost.bad HNO.out (Below.refl _ _)
  have k1 : decide ((s.size : Int) < 2) = false := decide_eq_false (by omega)
  have g0 : (0 : Int) < (s.size : Int) := by omega
  have hw1 : IntKind.i64.wrap ((s.size : Int) - 1) = ((s.size - 1 : Nat) : Int) := by rw [IntWalk.i64_in _ (by omega)]; omega
  have hv1 : wrap64 ((s.size : Int) - 1) = ((s.size - 1 : Nat) : Int) := by unfold wrap64; omega
  have g1 : (0 : Int) ≤ ((s.size - 1 : Nat) : Int) := by omega
  have g2 : ((s.size - 1 : Nat) : Int) < (s.size : Int) := by omega
  have hp0 : 0 < s.size := by omega
  have hp1 : s.size - 1 < s.size := by omega
  have hd0 : s.data.toList.getD 0 0 = s[0]'hp0 := byteD_at hp0
  have hd1 : s.data.toList.getD (s.size - 1) 0 = s[s.size - 1]'hp1 := byteD_at hp1
  by_cases ha : s[0]'hp0 = 40
  rotate_left
  · have k2 : (((s[0]'hp0).toNat : Int) != 40) = true := by
      rw [bne_iff_ne]
      intro e
      exact ha (UInt8.toNat_inj.1 (by have e2 : (s[0]'hp0).toNat = 40 := by omega
                                      rw [e2]; rfl))
    have HNO : Hid (parseR s.data.toList = none) := by show _ = _; unfold parseR; rw [if_neg h0, if_pos (Or.inr (Or.inl (by rw [hd0]; exact ha)))]
    clear hT h0 hsl h2 hd0 hd1 ha
    go_enter Tryz.func92, Tryz.ntmps92
    go_wp2_with fail
    go_ret2
    exact RPost.bad HNO.out (Below.refl _ _)
  have k2 : (((s[0]'hp0).toNat : Int) != 40) = false := by rw [ha]; rfl
  by_cases hb : s[s.size - 1]'hp1 = 41
  rotate_left
  · have k3 : (((s[s.size - 1]'hp1).toNat : Int) != 41) = true := by
      rw [bne_iff_ne]
      intro e
      exact hb (UInt8.toNat_inj.1 (by have e2 : (s[s.size - 1]'hp1).toNat = 41 := by omega
                                      rw [e2]; rfl))
    have HNO : Hid (parseR s.data.toList = none) := by show _ = _; unfold parseR; rw [if_neg h0, if_pos (Or.inr (Or.inr (by rw [size_len, hd1]; exact hb)))]
    clear hT h0 hsl h2 hd0 hd1 ha hb
    go_enter Tryz.func92, Tryz.ntmps92
    go_wp2_with fail
    go_ret2
    exact RPost.bad HNO.out (Below.refl _ _)
  have k3 : (((s[s.size - 1]'hp1).toNat : Int) != 41) = false := by rw [hb]; rfl
  obtain ⟨l0, hl0⟩ : ∃ l0, l0 = (s.data.toList.drop 1).take (s.size - 2) := ⟨_, rfl⟩
  have HR : Hid (parseR s.data.toList = rowGo (s.size + 1) l0 []) := by
    show _ = _
    unfold parseR
    rw [if_neg h0, if_neg (by rw [size_len, hd0, hd1, ha, hb]; simp; omega), size_len, hl0]
  have hex : s.extract 1 (s.size - 1) = toB l0 := by rw [Lib.extract_eq, hl0]; rfl
  have g3 : (1 : Int) ≤ ((s.size - 1 : Nat) : Int) := by omega
  have g4 : ((s.size - 1 : Nat) : Int) ≤ (s.size : Int) := by omega
  have hll : l0.length ≤ s.size := by rw [hl0]; have := List.length_take_le (s.size - 2) (s.data.toList.drop 1); omega
  have HT := Lib.hid hT
  clear hT h0 hsl h2 hd0 hd1 ha hb hl0
  go_enter Tryz.func92, Tryz.ntmps92
  go_upto_region 7 with (fail)
  obtain ⟨R, hR⟩ : ∃ R, R = rowGo (s.size + 1) l0 [] := ⟨_, rfl⟩
  rw [← hR] at HR
  have HRE := Lib.hid hR
  have HLL := Lib.hid hll
  clear hR hll k0 k1 k2 k3 g3 g4 hex hw1 hv1
  go_loopw [4, 5] (fun r4 vo wx => ∃ (f : Nat) (rest : List UInt8) (o : RL.R), r4 = .string (toB rest) ∧ rest.length < f ∧ o.length + rest.length ≤ s.size ∧ rowGo f rest o = R ∧ wx.ownsRow w.heap.size 82 3 vo o.length (rcells o) ∧ Below w.heap.size w wx) (fun r4 _ _ => strLen r4)
  case atStart => exact ⟨s.size + 1, l0, [], rfl, by have := HLL.out; omega, by have := HLL.out; simpa using this, HRE.out.symm, World.ownsRow_nil _ _ _ _, Below.refl _ _⟩
  case round =>
    obtain ⟨f, rest, o, rfl, hf, hol, hgo, ho, hb⟩ := hrel
    obtain ⟨f', rfl⟩ : ∃ f', f = f' + 1 := ⟨f - 1, by omega⟩
    have HO := Lib.hid ho
    have HB := Lib.hid hb
    obtain ⟨n, hn⟩ : ∃ n, n = litL rest := ⟨_, rfl⟩
    have hnle : n ≤ rest.length := by rw [hn]; exact litL_le rest
    have hT4 : (toB rest).size = rest.length := rfl
    have HLI := Lib.hid (rwLiteral_any (toB rest) (by rw [hT4]; omega) wr)
    change Hid (Calls Tryz.prog 108 #[.string (toB rest)] wr fun e w' => e = .returned (.int .i64 (litL rest)) ∧ w' = wr) at HLI
    rw [← hn] at HLI
    have hx1 : (toB rest).extract 0 n = toB (rest.take n) := toB_take rest n
    have hx2 : (toB rest).extract n rest.length = toB (rest.drop n) := toB_drop rest n
    have m0 : (0 : Int) ≤ (n : Int) := by omega
    have m1 : (n : Int) ≤ ((toB rest).size : Int) := by rw [hT4]; omega
    have HVP := Lib.hid (vParse_any (toB (rest.take n)) (by show (rest.take n).length ≤ _; have := List.length_take_le n rest; omega) wr (HT.out.up HB.out))
    change Hid (Calls Tryz.prog 109 #[.string (toB (rest.take n))] wr (VPost (parseV (rest.take n)) wr)) at HVP
    have HGO : Hid (R = match parseV (rest.take n) with | none => none | some v => if rest.drop n = [] then some (o ++ [v]) else if Lib.hasPrefix (rest.drop n) [44, 32] then rowGo f' ((rest.drop n).drop 2) (o ++ [v]) else none) := by
      show _ = _
      rw [← hgo, hn]
      rfl
    have HF := Lib.hid hf
    have HOL := Lib.hid hol
    have HNL := Lib.hid hnle
    have HNN : Hid (∀ v, parseV (rest.take n) = some v → 1 ≤ n) := fun v hv => by
      rcases Nat.eq_zero_or_pos n with h | h
      · rw [h] at hv; simp [parseV] at hv
      · exact h
    clear ho hb hn hgo hf hol hnle
    generalize parseV (rest.take n) = pv at HVP HGO HNN
    rcases pv with _ | v
    · have HNO : Hid (R = none) := HGO.out
      have HV1 : Hid (Calls Tryz.prog 109 #[.string (toB (rest.take n))] wr fun e w' => (∃ k : Int, k ≠ 0 ∧ e = .returned (.tuple #[vv ⟨0, 0, ⟨#[]⟩⟩, .int .i64 k])) ∧ Below wr.heap.size wr w') := HVP.out.mono fun e w' h => ⟨h.2.1 rfl, h.2.2⟩
      clear HGO HVP HNN
      go_wp2_with (first
        | (go_at_call 108; refine HLI.out.mono ?_; rintro e w1 ⟨rfl, hw⟩; obtain rfl := hw.symm)
        | (go_at_call 109; refine HV1.out.mono ?_; rintro e w2 ⟨⟨kk, hkk, rfl⟩, hb2⟩; have hkd : (kk != 0) = true := bne_iff_ne.2 hkk; have HB2 := Lib.hid (HB.out.trans (hb2.mono HB.out.size)); clear hkk hb2))
      go_ret2
      exact RPost.bad (by rw [HR.out]; exact HNO.out) (HB2.out.alloc HB2.out.size _)
    · obtain ⟨vk, vi, vt⟩ := v
      have HV1 : Hid (Calls Tryz.prog 109 #[.string (toB (rest.take n))] wr fun e w' => e = .returned (.tuple #[vv ⟨vk, vi, vt⟩, .int .i64 0]) ∧ Below wr.heap.size wr w') := HVP.out.mono fun e w' h => ⟨h.1 _ rfl, h.2.2⟩
      have HN1 := Lib.hid (HNN.out _ rfl)
      have HRO : Hid (R = if rest.drop n = [] then some (o ++ [⟨vk, vi, vt⟩]) else if Lib.hasPrefix (rest.drop n) [44, 32] then rowGo f' ((rest.drop n).drop 2) (o ++ [⟨vk, vi, vt⟩]) else none) := HGO.out
      clear HGO HVP HNN
      go_upto_region 13 with (first
        | (go_at_call 108; refine HLI.out.mono ?_; rintro e w1 ⟨rfl, hw⟩; obtain rfl := hw.symm)
        | (go_at_call 109; refine HV1.out.mono ?_; rintro e w2 ⟨rfl, hb2⟩; have HWR := Lib.hid hb2; clear hb2)
        | (at_builtin; go_loud (refine app1V rfl (.tmp 43) (.tmp 45) rfl w.heap.size u5 o rfl (own_keep HO.out ((HWR.out.alloc HWR.out.size _).alloc (by have := HWR.out.size; simp; omega) _)) (w2.heap.size + 1) ⟨vk, vi, vt⟩ rfl (by simp) (by simp) (by simp) (by have := HOL.out; omega) (by have h1 := HWR.out.size; have h2 := HB.out.size; simp; omega) ?_); intro v5 w5 hown5 hg5; have HO5 := Lib.hid hown5; go_loud (have HB5 : Hid (Below w.heap.size w w5) := (((HB.out.trans (HWR.out.mono HB.out.size)).alloc (by have h1 := HWR.out.size; have h2 := HB.out.size; omega) _).alloc (by have h1 := HWR.out.size; have h2 := HB.out.size; simp; omega) _).grown hg5 (by have h1 := HWR.out.size; have h2 := HB.out.size; simp; omega) (fun j hj => own_base HO.out hj)); clear hown5 hg5))
      clear hx1 hx2 m0 m1
      have hRL : (toB (rest.drop n)).toList = rest.drop n := ByteArray.toList_eq _
      have HRD : Hid ((rest.drop n).length = rest.length - n) := List.length_drop
      generalize rest.drop n = rd at HRO hRL HRD
      by_cases hd : rd = []
      · have k5 : (toB rd).toList.isEmpty = true := by rw [hRL, hd]; rfl
        have HOK : Hid (R = some (o ++ [⟨vk, vi, vt⟩])) := by show _ = _; rw [HRO.out, if_pos hd]
        clear HRO hd hRL
        go_wp2_with fail
        go_ret2
        obtain ⟨-, A, c, rfl, q1, q2, q3, q4⟩ := SlR.of_own HO5.out
        exact ⟨fun x hx => (by rw [HR.out, HOK.out] at hx; injection hx with hx; subst hx; exact ⟨A, c, rfl, q1, q2, q3, q4⟩), fun h => (by rw [HR.out, HOK.out] at h; cases h), HB5.out⟩
      · have k5 : (toB rd).toList.isEmpty = false := by rw [hRL]; cases rd with | nil => exact absurd rfl hd | cons a t => rfl
        rw [if_neg hd] at HRO
        have HPX := Lib.hid (Any.strings_HasPrefix YtdadchpiibipoaaGreatDoor.lHasPrefix (toB rd) ⟨#[44, 32]⟩ w5)
        change Hid (Calls Tryz.prog 60 #[.string (toB rd), .string ⟨#[44, 32]⟩] w5 fun e w' => e = .returned (.bool (Lib.hasPrefix rd [44, 32])) ∧ w' = w5) at HPX
        clear hd hRL
        cases hpx : Lib.hasPrefix rd [44, 32]
        · rw [hpx] at HPX
          have HNO : Hid (R = none) := by show _ = _; rw [HRO.out, hpx]; rfl
          clear HRO hpx
          go_wp2_with (go_at_call 60; refine HPX.out.mono ?_; rintro e w6 ⟨rfl, hw⟩; obtain rfl := hw.symm)
          go_ret2
          exact RPost.bad (by rw [HR.out]; exact HNO.out) HB5.out
        · rw [hpx] at HPX
          have hlen : 2 ≤ rd.length := by
            have h := List.isPrefixOf_iff_prefix.1 (show [44, 32].isPrefixOf rd = true from hpx)
            exact h.length_le
          have hRO : rowGo f' (rd.drop 2) (o ++ [⟨vk, vi, vt⟩]) = R := by rw [HRO.out, hpx]; rfl
          have hx3 : (toB rd).extract 2 rd.length = toB (rd.drop 2) := toB_drop rd 2
          have hx4 : (toB rd).extract 2 (toB rd).size = toB (rd.drop 2) := toB_drop rd 2
          have m1 : (2 : Int) ≤ ((toB rd).size : Int) := by rw [toB_size]; omega
          have HROW := Lib.hid hRO
          have HLEN2 := Lib.hid hlen
          clear HRO hpx hlen hRO
          go_wp2_with (go_at_call 60; refine HPX.out.mono ?_; rintro e w6 ⟨rfl, hw⟩; obtain rfl := hw.symm)
          go_roundw
          case rel => exact ⟨f', rd.drop 2, o ++ [⟨vk, vi, vt⟩], by first | rfl | (rw [hx3]) | (rw [hx4]), by rw [List.length_drop]; have h1 := HRD.out; have h2 := HF.out; have h3 := HN1.out; have h4 := HNL.out; omega, by rw [List.length_append, List.length_drop, List.length_cons, List.length_nil]; have h1 := HRD.out; have h2 := HOL.out; have h3 := HN1.out; have h4 := HNL.out; omega, HROW.out, HO5.out, HB5.out⟩
          case measure =>
            show (rd.drop 2).length < rest.length
            rw [List.length_drop]
            have h1 := HRD.out
            have h3 := HN1.out
            have h4 := HNL.out
            have h5 := HLEN2.out
            omega
end
section
open Go.RowKit Go.Sort

def failV (l k : Int) : Value := .iface 116 (.agg #[.int .i64 l, .int .i64 k])
theorem rdFail_any {w : World} {rb : Nat} {l k : Int} {a b c : Value} (hr : Row w rb 119 [.int .i64 l, a, b, c]) :
    Calls Tryz.prog 63 #[.pointer (some ⟨rb, 0, none⟩), .int .i64 k] w fun e w' => e = .panicked [{ v := failV l k, recovered := false }] ∧ w' = w := by
  have c0 : w.cell? ⟨rb, 0, none⟩ = some (.int .i64 l) := hr.cell 0
  clear hr
  go_enter Tryz.func63, Tryz.ntmps63
  go_wp2
  exact ⟨rfl, rfl, rfl⟩
end
section
open Go.RowKit Go.Sort Go.ChangeMaps Go.WideShapes

theorem map_no_cell {w : World} {k : TypeId} {b n : Nat} {D : DataW Value} (h : w.ownsMap Tryz.prog k heldR b n D) (o : Nat) : w.cell? ⟨b, o, none⟩ = none := by
  obtain ⟨es, clock, h1, -⟩ := h
  simp [World.cell?, h1]
theorem SlIP.off {P : Nat → Prop} {w : World} {k : TypeId} {b n : Nat} {D : DataW Value} (hm : w.ownsMap Tryz.prog k heldR b n D) {A : Option Addr} {ks : List Int} (h : SlIP P w A ks) : SlIP (fun c => P c ∧ c ≠ b) w A ks := fun hn => by
  obtain ⟨c, o, e, hb, hp, hc⟩ := h hn
  refine ⟨c, o, e, hb, ⟨hp, fun he => ?_⟩, hc⟩
  subst he
  cases ks with
  | nil => exact hn rfl
  | cons x t =>
    have h1 := hc 0 _ rfl
    rw [map_no_cell hm] at h1
    cases h1
theorem HR.off {P : Nat → Prop} {B : Nat} {w : World} {k : TypeId} {b n : Nat} {D : DataW Value} (hm : w.ownsMap Tryz.prog k heldR b n D) {u : Value} {y : RL.R} (h : HR P B w u y) : HR (fun c => P c ∧ c ≠ b) B w u y := by
  obtain ⟨A', C', h1, h2, h3, h4, h5⟩ := h
  refine ⟨A', C', h1, h2, h3, h4, fun hy ad e => ⟨h5 hy ad e, fun he => ?_⟩⟩
  have hn : rcells y ≠ [] := fun h0 => by
    have hl := rcells_length y
    rw [h0] at hl
    cases y with
    | nil => exact hy rfl
    | cons a t => simp at hl
  obtain ⟨c, o, e', -, hc⟩ := h4 hn
  rw [e] at e'
  injection e' with e'
  subst e'
  have he : c = b := he
  subst he
  obtain ⟨x, hx⟩ : ∃ x, (rcells y)[0]? = some x := by
    cases hr : rcells y with
    | nil => exact absurd hr hn
    | cons a t => exact ⟨a, rfl⟩
  have h1 := hc 0 x hx
  rw [map_no_cell hm] at h1
  cases h1
theorem SlRsP.off {P : Nat → Prop} {B : Nat} {w : World} {k : TypeId} {b n : Nat} {D : DataW Value} (hm : w.ownsMap Tryz.prog k heldR b n D) {A : Option Addr} {X : List RL.R} (h : SlRsP P B w A X) : SlRsP (fun c => P c ∧ c ≠ b) B w A X := fun hn => by
  obtain ⟨c, o, e, hb, hp, hs, hh, hc⟩ := h hn
  refine ⟨c, o, e, hb, ⟨hp, fun he => ?_⟩, hs, ⟨hh.1, fun i u y h1 h2 => HR.off hm (hh.2 i u y h1 h2)⟩, hc⟩
  subst he
  have hl := hh.1
  cases hs with
  | nil => cases X with
    | nil => exact hn rfl
    | cons a t => simp at hl
  | cons x t =>
    have h1 := hc 0 _ rfl
    rw [map_no_cell hm] at h1
    cases h1
theorem EntM.off {P : Nat → Prop} {w : World} {k : TypeId} {b n : Nat} {D : DataW Value} (hm : w.ownsMap Tryz.prog k heldR b n D) {val : Value} {ks : List Int} {X : List RL.R} (h : EntM P w val ks X) : EntM (fun c => P c ∧ c ≠ b) w val ks X := by
  obtain ⟨KA, KC, A, C, h1, h2, h3, h4, h5, h6, h7⟩ := h
  exact ⟨KA, KC, A, C, h1, h2, h3.off hm, h4, h5, h6.off hm, h7⟩
end
end Go.Proofs.YtdadchpiibipoaaGreatDoor

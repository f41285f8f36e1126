/- Parts of the proof, merged: Z42, RMem, V27, V13, V14, V21, V28, Z43, Z44. -/
import Derived.Test.YtgaffbdcpkbdhaaGreatQ6
import Derived.Test.YtgaffbdcpkbdhaaGreatQ2
import Derived.Test.YtgaffbdcpkbdhaaGreatQ4
import Derived.Deep.RegionHeld3
import Derived.Test.YtgaffbdcpkbdhaaGreatQ5

section
/- Walk: sameSchemas (of databases of the same schemas); words for a list of updates that grows. -/
namespace Go.Proofs.YtgaffbdcpkbdhaaGreat
open Go.RowKit Go.Sort Go.ChangeMaps Go.WideShapes

set_option maxHeartbeats 4000000 in
set_option maxRecDepth 100000 in
theorem ctSame1_any (KA KA' A A' : Option Addr) (KC KC' C C' n x y : Nat) (ks : List Int) (w : World) (hn : ks.length = n) (hk : SlI .i64 w.heap.size w KA ks) (hk' : SlI .i64 w.heap.size w KA' ks) (hkl : n ≤ 1000000) :
    Calls Tryz.prog 41 #[.agg #[.slice KA n KC, .int .i64 (n : Nat), .slice A x C], .agg #[.slice KA' n KC', .int .i64 (n : Nat), .slice A' y C']] w fun e w' => e = .returned (.bool true) ∧ Ext w w' := by
  obtain ⟨W0, hW0⟩ : ∃ W0, W0 = (w.alloc (.cells #[.slice KA n KC, .int .i64 (n : Nat), .slice A x C] 73)).alloc (.cells #[.slice KA' n KC', .int .i64 (n : Nat), .slice A' y C'] 73) := ⟨_, rfl⟩
  have hx0 : Ext w W0 := by rw [hW0]; exact ((Ext.refl w).alloc _).alloc _
  have hr1 : Row W0 w.heap.size 73 [.slice KA n KC, .int .i64 (n : Nat), .slice A x C] := by rw [hW0]; exact (Row.new w 73 _).alloc _
  have hr2 : Row W0 (w.heap.size + 1) 73 [.slice KA' n KC', .int .i64 (n : Nat), .slice A' y C'] := by
    have h := Row.new (w.alloc (.cells #[.slice KA n KC, .int .i64 (n : Nat), .slice A x C] 73)) 73 [.slice KA' n KC', .int .i64 (n : Nat), .slice A' y C']
    rw [World.size_alloc] at h
    rw [hW0]; exact h
  have h1 := eqInt_any KA KA' KC KC' ks ks W0 ((hk.ext (Nat.le_refl _) hx0).more hx0.size) ((hk'.ext (Nat.le_refl _) hx0).more hx0.size) (by omega) (by omega)
  rw [hn, decide_eq_true (show ks = ks from rfl)] at h1
  have HE := Lib.hid h1
  have HX0 := Lib.hid hx0
  have HW0 := Lib.hid hW0
  have k0 : W0.cell? ⟨w.heap.size, 0, none⟩ = some (.slice KA n KC) := hr1.cell 0
  have k3 := hr1.lt
  have k4 : W0.cell? ⟨w.heap.size + 1, 0, none⟩ = some (.slice KA' n KC') := hr2.cell 0
  have k7 := hr2.lt
  clear hW0 hx0 hr1 hr2 h1 hk hk' hn
  go_enter Tryz.func41, Tryz.ntmps41
  go_upto_region 1 with (fail)
  rw [← HW0.out]
  clear HW0
  go_wp2_with fail
  refine HE.out.mono ?_
  rintro e w1 ⟨rfl, k, rfl⟩
  have HX2 := Lib.hid (HX0.out.drewN k)
  clear HE HX0 k0 k3 k4 k7
  go_wp2_with fail
  go_ret
  exact ⟨rfl, HX2.out⟩

set_option maxHeartbeats 8000000 in
set_option maxRecDepth 100000 in
theorem ctSameFunc_any {P P' : Nat → Prop} {S : Sch} {m m' : Value} {F G : Cont} (w : World) (hd : DbM P S w m F) (hd' : DbM P' S w m' G) (_hnd : (S.map Prod.fst).Nodup) :
    Calls Tryz.prog 32 #[m, m', .func (.func 41) #[] #[]] w fun e w' => e = .returned (.bool true) ∧ Below w.heap.size w w' := by
  obtain ⟨b, D, rfl, -, hown, hent⟩ := hd.ents
  obtain ⟨b', D', rfl, -, hown', hent'⟩ := hd'.ents
  have hl1 := fun ty => hown.len Tryz.underlying27 ty
  have hl2 := fun ty => hown'.len Tryz.underlying27 ty
  rw [hent.1] at hl1
  rw [hent'.1] at hl2
  have HENT := Lib.hid hent
  have HENT' := Lib.hid hent'
  have HOW := Lib.hid hown
  have HOW' := Lib.hid hown'
  clear hd hd' hown hown' hent hent'
  go_enter Tryz.func32, Tryz.ntmps32
  go_wp2_with (first
    | (at_range; refine wpList_range_own _ rfl _ 27 rfl 9 73 keyedS Tryz.underlying27 heldR b (Maps.size D) D rfl HOW.out ?_; intro w0 hrg0 hg0 hs0)
    | fail)
  go_frame
  have HRG0 := Lib.hid hrg0
  have HB0 : Hid (Below w.heap.size w w0) := (Below.refl _ _).grown hg0 (Nat.le_refl _) (fun j hj => by cases hj)
  obtain ⟨r, hr⟩ : ∃ r, r = w.heap.size := ⟨_, rfl⟩
  rw [← hr] at HRG0 ⊢
  clear hrg0 hg0 hs0 hl1 hl2
  have eg : ∀ args w, (callFunc 41 args).run Tryz.prog w = .ok (.enter 41 args) w := enters_of Tryz.func41 (by kernel_rfl) rfl
  have hrw : w.heap.size ≤ r := by omega
  clear hr
  go_loopw [6] (fun c wx => ∃ (left : Lit → Bool) (cnt : Nat), c = .bool false ∧ wx.ranges Tryz.prog 9 heldR b r (Maps.size D) D left cnt ∧ Below w.heap.size w wx) (fun _ wx => wx.rangeLeft b r)
  case atStart => exact ⟨_, _, rfl, HRG0.out, HB0.out⟩
  case round =>
    obtain ⟨left, cnt, rfl, hrg, hb⟩ := hrel
    have HRG := Lib.hid hrg
    have HB := Lib.hid hb
    clear hb
    go_wp2_with (first
      | (at_next; refine wpList_next_ranges _ rfl _ rfl 9 keyedS heldR Value.string (fun v : Value => v) (fun key kl h => by obtain ⟨x, e⟩ := Maps.keyOf_string_inv Tryz.underlying9 h; exact ⟨x, e⟩) (fun v y _ => ⟨v, rfl⟩) b r (Maps.size D) D left cnt rfl HRG.out ?_ ?_)
      | fail)
    · intro hc0 hl0
      clear hc0 hl0 hrg
      go_wp2_with fail
      exact bodyPost_ret (v := .bool true) (by simp [results, Tryz.results32, go_sem]) rfl ⟨rfl, HB.out⟩
    · intro nm c kl y ps w1 cnt1 hkey hlk hv hat hrg1 hlt hg1 hs1 hen
      have hy : y = .held c := by
        unfold heldR at hv
        injection hv with hv
        injection hv with hv
        exact hv.symm
      have hat2 : ∀ z, D.atKey kl z = .held c := fun z => (hat z).trans hy
      obtain ⟨p, hp, rfl⟩ := HENT.out.2.1 kl (Maps.has_true_of_atKey hat2)
      obtain ⟨val, hv1, KA, KC, A, C, rfl, hk6, hki, hxc, hxm, hsl, hro⟩ := HENT.out.2.2 p hp
      have hcv : DataW.held c = .held (.agg #[.slice KA p.2.length KC, .int .i64 (p.2.length : Nat), .slice A (F p.1).length C]) := (hat2 .nil).symm.trans (hv1 .nil)
      injection hcv with hcv
      subst hcv
      obtain ⟨val', hv2, KA', KC', A', C', rfl, -, hki', -, -, hsl', hro'⟩ := HENT'.out.2.2 p hp
      have HB1 : Hid (Below w.heap.size w w1) := HB.out.grown hg1 HB.out.size (fun j hj => by injection hj with hj; omega)
      have HRG1 := Lib.hid hrg1
      have HLE := Lib.hid (HRG.out.left_eq)
      have hlt2 := hlt
      have HLK : Hid (∀ V, Below w.heap.size w V → (Instr.lookup 27 (.map (some b')) (.string nm) true).run Tryz.prog V = .ok (.tuple #[.agg #[.slice KA' p.2.length KC', .int .i64 (p.2.length : Nat), .slice A' (G p.1).length C'], .bool true]) V) := fun V hb => (look_yes keyedS Tryz.underlying27 zeroEnt (map_up HOW'.out hb) hkey hv2).1
      have HEQ : Hid (∀ V, Below w.heap.size w V → Calls Tryz.prog 41 #[.agg #[.slice KA p.2.length KC, .int .i64 (p.2.length : Nat), .slice A (F p.1).length C], .agg #[.slice KA' p.2.length KC', .int .i64 (p.2.length : Nat), .slice A' (G p.1).length C']] V fun e w' => e = .returned (.bool true) ∧ Ext V w') := fun V hb =>
        ctSame1_any KA KA' A A' KC KC' C C' p.2.length (F p.1).length (G p.1).length p.2 V rfl (Sl.more (Sl.below (SlIP.sl hki) hb (Nat.le_refl _)) hb.size) (Sl.more (Sl.below (SlIP.sl hki') hb (Nat.le_refl _)) hb.size) (by omega)
      clear hkey hlk hv hat hrg1 hg1 hs1 hy hat2 hp hv1 hrg hlt hki hki' hxc hxm hsl hsl' hro hro' hv2 hk6
      generalize p.2.length = kn at *
      obtain ⟨LF, hLF⟩ : ∃ LF, LF = (F p.1).length := ⟨_, rfl⟩
      obtain ⟨LG, hLG⟩ : ∃ LG, LG = (G p.1).length := ⟨_, rfl⟩
      rw [← hLF] at hen HEQ ⊢
      rw [← hLG] at HLK HEQ
      clear hLF hLG
      obtain ⟨W2, hW2⟩ : ∃ W2, W2 = w1.alloc (.cells #[.slice KA kn KC, .int .i64 (kn : Nat), .slice A LF C] 73) := ⟨_, rfl⟩
      have hx2 : Ext w1 W2 := by rw [hW2]; exact (Ext.refl w1).alloc _
      have hr2 : Row W2 w1.heap.size 73 [.slice KA kn KC, .int .i64 (kn : Nat), .slice A LF C] := by rw [hW2]; exact Row.new w1 73 _
      have HB2 := Lib.hid (Below.then HB1.out hx2.below HB1.out.size)
      have hlk2 := HLK.out W2 HB2.out
      obtain ⟨W3, hW3⟩ : ∃ W3, W3 = W2.alloc (.cells #[.slice KA' kn KC', .int .i64 (kn : Nat), .slice A' LG C'] 73) := ⟨_, rfl⟩
      have hx3 : Ext W2 W3 := by rw [hW3]; exact (Ext.refl W2).alloc _
      have hr3 : Row W3 W2.heap.size 73 [.slice KA' kn KC', .int .i64 (kn : Nat), .slice A' LG C'] := by rw [hW3]; exact Row.new W2 73 _
      have hr23 := hr2.up hx3.below
      have HB3 := Lib.hid (Below.then HB2.out hx3.below HB2.out.size)
      have HRG3 := Lib.hid (ranges_up (ranges_up HRG1.out hx2.below) hx3.below)
      have e0 : W3.cell? ⟨w1.heap.size, 0, none⟩ = some (.slice KA kn KC) := hr23.cell 0
      have e1 : W3.cell? ⟨w1.heap.size, 1, none⟩ = some (.int .i64 (kn : Nat)) := hr23.cell 1
      have e2 : W3.cell? ⟨w1.heap.size, 2, none⟩ = some (.slice A LF C) := hr23.cell 2
      have e3 := hr23.lt
      have e4 : W3.cell? ⟨W2.heap.size, 0, none⟩ = some (.slice KA' kn KC') := hr3.cell 0
      have e5 : W3.cell? ⟨W2.heap.size, 1, none⟩ = some (.int .i64 (kn : Nat)) := hr3.cell 1
      have e6 : W3.cell? ⟨W2.heap.size, 2, none⟩ = some (.slice A' LG C') := hr3.cell 2
      have e7 := hr3.lt
      have HC := Lib.hid (HEQ.out W3 HB3.out)
      have HW2 := Lib.hid hW2
      have HW3 := Lib.hid hW3
      clear hx2 hx3 hr2 hr3 hr23 hW2 hW3 HRG1 HLK HEQ
      go_upto_region 6 with (fail)
      rw [← HW2.out]
      clear hen HW2
      go_upto_region 7 with (fail)
      rw [← HW3.out]
      clear HW3 hlk2
      go_wp2_with fail
      refine HC.out.mono ?_
      rintro e w4 ⟨rfl, hx4⟩
      have HB4 := Lib.hid (Below.then HB3.out hx4.below HB3.out.size)
      have HRG4 := Lib.hid (ranges_up HRG3.out hx4.below)
      clear hx4 HC e0 e1 e2 e3 e4 e5 e6 e7
      go_wp2
      go_roundw
      case rel => exact ⟨_, cnt1, rfl, HRG4.out, HB4.out⟩
      case measure => rw [HRG4.out.left_eq, HLE.out]; exact hlt2

set_option maxHeartbeats 2000000 in
set_option maxRecDepth 100000 in
theorem ctSameSchemas_any {P P' : Nat → Prop} {S : Sch} {m m' : Value} {F G : Cont} (w : World) (hd : DbM P S w m F) (hd' : DbM P' S w m' G) (hnd : (S.map Prod.fst).Nodup) :
    Calls Tryz.prog 25 #[.agg #[m], .agg #[m']] w fun e w' => e = .returned (.bool true) ∧ Below w.heap.size w w' := by
  obtain ⟨b, rfl⟩ := hd.form
  obtain ⟨b', rfl⟩ := hd'.form
  have HC := Lib.hid (fun V (hb : Below w.heap.size w V) => ctSameFunc_any V (hd.up hb) (hd'.up hb) hnd)
  have hx := (((Ext.refl w).alloc (.cells #[.map (some b)] 29)).alloc (.cells #[.map (some b')] 29)).below
  have HX := Lib.hid hx
  clear hd hd' hx hnd
  go_enter Tryz.func25, Tryz.ntmps25
  go_wp2_with fail
  refine (HC.out _ HX.out).mono ?_
  rintro e w1 ⟨rfl, hb⟩
  have HB := Lib.hid (Below.then HX.out hb HX.out.size)
  clear hb HC
  go_wp2_with fail
  go_ret
  exact ⟨rfl, HB.out⟩

theorem stay_self (P : Nat → Prop) (w : World) : Stay P w w := ⟨Nat.le_refl _, fun _ _ _ => rfl⟩
/-- The cells of a list of updates whose rows lie elsewhere than the row v of the call's own. -/
structure UpdN (v : Value) (w : World) (us : List Upd) (cs : List Value) : Prop where
  len : cs.length = us.length * 3
  one : ∀ u ∈ cs, u.oneCell' = true
  at_ : ∀ i (h : i < us.length), ∃ RA RC, cs[i * 3]? = some (.bool us[i].del) ∧ cs[i * 3 + 1]? = some (.string us[i].rel) ∧ cs[i * 3 + 2]? = some (.slice RA us[i].row.length RC) ∧ SlR w.heap.size w RA us[i].row ∧ (us[i].row ≠ [] → ∀ ad, RA = some ad → v.ownBlock ≠ some ad.block)
theorem UpdN.nil {v : Value} {w : World} : UpdN v w [] [] := ⟨rfl, fun u hu => (by cases hu), fun i hi => absurd hi (Nat.not_lt_zero _)⟩
theorem UpdN.up {v : Value} {w w' : World} {us : List Upd} {cs : List Value} (h : UpdN v w us cs) (hb : Below w.heap.size w w') : UpdN v w' us cs :=
  ⟨h.len, h.one, fun i hi => by obtain ⟨RA, RC, a, b, c, d, e⟩ := h.at_ i hi; exact ⟨RA, RC, a, b, c, (d.below hb (Nat.le_refl _)).more hb.size, e⟩⟩
theorem slr_grown {w w' : World} {row : Option Nat} {A : Option Addr} {x : RL.R} (h : SlR w.heap.size w A x) (hne : x ≠ [] → ∀ ad, A = some ad → row ≠ some ad.block) (hg : w.grownBy w' row) : SlR w'.heap.size w' A x := fun hc => by
  obtain ⟨b, o, e, hb, hcell⟩ := h hc
  have hx : x ≠ [] := fun h0 => hc (by rw [h0]; rfl)
  exact ⟨b, o, e, Nat.lt_of_lt_of_le hb hg.size, fun j u hu => (World.cell?_of_block (hg.block b hb (fun h0 => hne hx _ e h0.symm))).trans (hcell j u hu)⟩
theorem UpdN.grow {v v' : Value} {w w' : World} {us : List Upd} {cs : List Value} (h : UpdN v w us cs) (hg : w.grownBy w' v.ownBlock) (hat : ∀ b, v'.ownBlock = some b → v.ownBlock = some b ∨ b = w.heap.size) : UpdN v' w' us cs :=
  ⟨h.len, h.one, fun i hi => by
    obtain ⟨RA, RC, a, b, c, d, e⟩ := h.at_ i hi
    refine ⟨RA, RC, a, b, c, slr_grown d e hg, fun hne ad had h0 => ?_⟩
    rcases hat _ h0 with h1 | h1
    · exact e hne ad had h1
    · have := d.ltB hne ad had
      omega⟩
theorem UpdN.snoc {v : Value} {w : World} {us : List Upd} {cs : List Value} (h : UpdN v w us cs) {del : Bool} {nm : ByteArray} {x : RL.R} {RA : Option Addr} {RC : Nat} (hx : SlR w.heap.size w RA x) (hx2 : x ≠ [] → ∀ ad, RA = some ad → v.ownBlock ≠ some ad.block) :
    UpdN v w (us ++ [⟨del, nm, x⟩]) (cs ++ [.bool del, .string nm, .slice RA x.length RC]) := by
  have hl := h.len
  refine ⟨by rw [List.length_append, List.length_append, hl]; show _ + 3 = (_ + 1) * 3; omega, fun u hu => ?_, fun i hi => ?_⟩
  · rcases List.mem_append.1 hu with hu | hu
    · exact h.one u hu
    · simp at hu
      rcases hu with rfl | rfl | rfl <;> rfl
  · by_cases hiu : i < us.length
    · obtain ⟨RA', RC', a, b, c, d, e⟩ := h.at_ i hiu
      rw [List.getElem_append_left hiu]
      exact ⟨RA', RC', by rw [List.getElem?_append_left (by omega)]; exact a, by rw [List.getElem?_append_left (by omega)]; exact b, by rw [List.getElem?_append_left (by omega)]; exact c, d, e⟩
    · obtain rfl : i = us.length := by rw [List.length_append] at hi; simp only [List.length_cons, List.length_nil] at hi; omega
      rw [List.getElem_append_right (Nat.le_refl _)]
      simp only [Nat.sub_self, List.getElem_cons_zero]
      refine ⟨RA, RC, ?_, ?_, ?_, hx, hx2⟩
      · rw [List.getElem?_append_right (by omega), hl, Nat.sub_self]; rfl
      · rw [List.getElem?_append_right (by omega), hl, show us.length * 3 + 1 - us.length * 3 = 1 by omega]; rfl
      · rw [List.getElem?_append_right (by omega), hl, show us.length * 3 + 2 - us.length * 3 = 2 by omega]; rfl
theorem UpdN.cs {v : Value} {w : World} {us : List Upd} {cs : List Value} (h : UpdN v w us cs) : UpdCs w.heap.size w us cs :=
  ⟨h.len, h.one, fun i hi => by obtain ⟨RA, RC, a, b, c, d, _⟩ := h.at_ i hi; exact ⟨RA, RC, a, b, c, d⟩⟩

end Go.Proofs.YtgaffbdcpkbdhaaGreat
end

section
/- Plain: membership in an ascending list whose first rows are known to be smaller; merging two ascending lists. -/
namespace Go.Proofs.YtgaffbdcpkbdhaaGreat.RL

theorem mem_take_drop {Y : List R} (j : Nat) (x : R) : x ∈ Y ↔ x ∈ Y.take j ∨ x ∈ Y.drop j := by
  conv => lhs; rw [← List.take_append_drop j Y]
  exact List.mem_append
theorem mem_drop_head {Y : List R} (h : SS Y) {x : R} {j : Nat} (h1 : ∀ y ∈ Y.take j, cmpR y x < 0) (hj : j < Y.length) (h2 : 0 ≤ cmpR Y[j] x) : decide (x ∈ Y) = decide (Y[j] = x) := by
  rw [decide_eq_decide]
  constructor
  · intro hx
    rcases (mem_take_drop j x).1 hx with h3 | h3
    · have := h1 x h3
      rw [tot_cmpR.self] at this
      omega
    · obtain ⟨i, hi, rfl⟩ := List.getElem_of_mem h3
      simp only [List.length_drop] at hi
      rw [List.getElem_drop] at h2 ⊢
      rcases Nat.eq_zero_or_pos i with h0 | h0
      · subst h0; rfl
      · have := h.get (show j < j + i by omega) (by omega)
        omega
  · rintro rfl
    exact List.getElem_mem hj
theorem mem_drop_none {Y : List R} {x : R} {j : Nat} (h1 : ∀ y ∈ Y.take j, cmpR y x < 0) (hj : Y.length ≤ j) : decide (x ∈ Y) = false := by
  simp only [decide_eq_false_iff_not]
  intro hx
  rw [List.take_of_length_le hj] at h1
  have := h1 x hx
  rw [tot_cmpR.self] at this
  omega
theorem take_snoc_lt {Y : List R} {x : R} {j : Nat} (h1 : ∀ y ∈ Y.take j, cmpR y x < 0) (hj : j < Y.length) (h2 : cmpR Y[j] x < 0) : ∀ y ∈ Y.take (j + 1), cmpR y x < 0 := fun y hy => by
  rw [List.take_succ_eq_append_getElem hj, List.mem_append] at hy
  rcases hy with hy | hy
  · exact h1 y hy
  · rw [List.mem_singleton.1 hy]; exact h2
theorem below_next {X : List R} (h : SS X) {k : Nat} (hk : k < X.length) {y : R} (hy : cmpR y X[k] < 0) : ∀ x ∈ X.drop (k + 1), cmpR y x < 0 := fun x hx => by
  obtain ⟨i, hi, rfl⟩ := List.getElem_of_mem hx
  simp only [List.length_drop] at hi
  rw [List.getElem_drop]
  exact tot_cmpR.tr _ _ _ hy (h.get (by omega) (by omega))

/-- A merge under way: L holds the first k rows of X and the first j rows of Y, and all that is left is greater. -/
structure Merge (X Y : List R) (k j : Nat) (L : List R) : Prop where
  ss : SS L
  mem : ∀ r, r ∈ L ↔ r ∈ X.take k ∨ r ∈ Y.take j
  ltX : ∀ r ∈ L, ∀ s ∈ X.drop k, cmpR r s < 0
  ltY : ∀ r ∈ L, ∀ s ∈ Y.drop j, cmpR r s < 0
  kle : k ≤ X.length
  jle : j ≤ Y.length
  len : L.length ≤ k + j

theorem Merge.start (X Y : List R) : Merge X Y 0 0 [] := ⟨ss_nil, (fun r => by simp), (fun r h => by cases h), (fun r h => by cases h), Nat.zero_le _, Nat.zero_le _, Nat.le_refl _⟩
theorem ss_snoc {L : List R} (h : SS L) {y : R} (hy : ∀ r ∈ L, cmpR r y < 0) : SS (L ++ [y]) := by
  unfold SS
  rw [List.pairwise_append]
  exact ⟨h, List.pairwise_singleton _ _, fun a ha b hb => by rw [List.mem_singleton.1 hb]; exact hy a ha⟩
theorem mem_take_succ {Y : List R} {j : Nat} (hj : j < Y.length) (r : R) : r ∈ Y.take (j + 1) ↔ r ∈ Y.take j ∨ r = Y[j] := by
  rw [List.take_succ_eq_append_getElem hj, List.mem_append, List.mem_singleton]
theorem mem_drop_self {Y : List R} {j : Nat} (hj : j < Y.length) : Y[j] ∈ Y.drop j := by
  rw [List.drop_eq_getElem_cons hj]; exact List.mem_cons_self
theorem mem_drop_succ {Y : List R} {j : Nat} {s : R} (h : s ∈ Y.drop (j + 1)) : s ∈ Y.drop j := by
  rw [← List.drop_drop] at h
  exact List.mem_of_mem_drop h
/-- A row of Y that is less than the next row of X is taken. -/
theorem Merge.takeY {X Y L : List R} {k j : Nat} (m : Merge X Y k j L) (hX : SS X) (hY : SS Y) (hk : k < X.length) (hj : j < Y.length) (hlt : cmpR Y[j] X[k] < 0) : Merge X Y k (j + 1) (L ++ [Y[j]]) := by
  refine ⟨ss_snoc m.ss (fun r hr => m.ltY r hr _ (mem_drop_self hj)), fun r => ?_, fun r hr s hs => ?_, fun r hr s hs => ?_, m.kle, hj, ?_⟩
  · rw [List.mem_append, m.mem, List.mem_singleton, mem_take_succ hj, or_assoc]
  · rw [List.mem_append, List.mem_singleton] at hr
    rcases hr with hr | rfl
    · exact m.ltX r hr s hs
    · rw [List.drop_eq_getElem_cons hk, List.mem_cons] at hs
      rcases hs with rfl | hs
      · exact hlt
      · exact below_next hX hk hlt s hs
  · rw [List.mem_append, List.mem_singleton] at hr
    rcases hr with hr | rfl
    · exact m.ltY r hr s (mem_drop_succ hs)
    · obtain ⟨i, hi, rfl⟩ := List.getElem_of_mem hs
      simp only [List.length_drop] at hi
      rw [List.getElem_drop]
      exact hY.get (by omega) (by omega)
  · have := m.len; simp; omega
/-- The next row of X is taken, and the equal row of Y, if there is one, with it. -/
theorem Merge.takeX {X Y L : List R} {k j j' : Nat} (m : Merge X Y k j L) (hX : SS X) (hY : SS Y) (hk : k < X.length) (h : (j' = j ∧ ∀ hj : j < Y.length, 0 < cmpR Y[j] X[k]) ∨ (j' = j + 1 ∧ ∃ hj : j < Y.length, Y[j] = X[k])) : Merge X Y (k + 1) j' (L ++ [X[k]]) := by
  have hltY : ∀ s ∈ Y.drop j', cmpR X[k] s < 0 := fun s hs => by
    rcases h with ⟨rfl, h2⟩ | ⟨rfl, hj, he⟩
    · obtain ⟨i, hi, rfl⟩ := List.getElem_of_mem hs
      simp only [List.length_drop] at hi
      rw [List.getElem_drop]
      have h3 := (tot_cmpR.gt _ _).1 (h2 (by omega))
      rcases Nat.eq_zero_or_pos i with h0 | h0
      · subst h0; exact h3
      · exact tot_cmpR.tr _ _ _ h3 (hY.get (by omega) (by omega))
    · obtain ⟨i, hi, rfl⟩ := List.getElem_of_mem hs
      simp only [List.length_drop] at hi
      rw [List.getElem_drop, ← he]
      exact hY.get (by omega) (by omega)
  have hsub : ∀ s ∈ Y.drop j', s ∈ Y.drop j := fun s hs => by
    rcases h with ⟨rfl, _⟩ | ⟨rfl, _⟩
    · exact hs
    · exact mem_drop_succ hs
  refine ⟨ss_snoc m.ss (fun r hr => m.ltX r hr _ (mem_drop_self hk)), fun r => ?_, fun r hr s hs => ?_, fun r hr s hs => ?_, hk, ?_, ?_⟩
  · rw [List.mem_append, m.mem, List.mem_singleton, mem_take_succ hk]
    rcases h with ⟨rfl, _⟩ | ⟨rfl, hj, he⟩
    · constructor
      · rintro ((h | h) | h)
        · exact .inl (.inl h)
        · exact .inr h
        · exact .inl (.inr h)
      · rintro ((h | h) | h)
        · exact .inl (.inl h)
        · exact .inr h
        · exact .inl (.inr h)
    · rw [mem_take_succ hj, he]
      constructor
      · rintro ((h | h) | h)
        · exact .inl (.inl h)
        · exact .inr (.inl h)
        · exact .inl (.inr h)
      · rintro ((h | h) | (h | h))
        · exact .inl (.inl h)
        · exact .inr h
        · exact .inl (.inr h)
        · exact .inr h
  · rw [List.mem_append, List.mem_singleton] at hr
    rcases hr with hr | rfl
    · exact m.ltX r hr s (mem_drop_succ hs)
    · obtain ⟨i, hi, rfl⟩ := List.getElem_of_mem hs
      simp only [List.length_drop] at hi
      rw [List.getElem_drop]
      exact hX.get (by omega) (by omega)
  · rw [List.mem_append, List.mem_singleton] at hr
    rcases hr with hr | rfl
    · exact m.ltY r hr s (hsub s hs)
    · exact hltY s hs
  · rcases h with ⟨rfl, _⟩ | ⟨rfl, hj, _⟩
    · exact m.jle
    · exact hj
  · have := m.len
    rcases h with ⟨rfl, _⟩ | ⟨rfl, _⟩ <;> simp <;> omega
/-- All of X is taken: what is left of Y ends the merge. -/
theorem Merge.done {X Y L : List R} {j : Nat} (m : Merge X Y X.length j L) (hY : SS Y) : SS (L ++ Y.drop j) ∧ ∀ r, r ∈ L ++ Y.drop j ↔ r ∈ X ∨ r ∈ Y := by
  refine ⟨?_, fun r => ?_⟩
  · unfold SS
    rw [List.pairwise_append]
    exact ⟨m.ss, hY.drop j, fun a ha b hb => m.ltY a ha b hb⟩
  · rw [List.mem_append, m.mem, List.take_length, mem_take_drop (Y := Y) j r, or_assoc]

end Go.Proofs.YtgaffbdcpkbdhaaGreat.RL
end

section
/- Walks: relation's member and its function. -/
namespace Go.Proofs.YtgaffbdcpkbdhaaGreat
open Go.RowKit Go.Sort

theorem slTail1 (A : Option Addr) (m cap : Nat) (W : World) : (Instr.slice 69 (.slice A (m + 1) cap) (some (.int .i64 1)) none none).run Tryz.prog W = .ok (.slice (tailA A 1 cap) m (cap - 1)) W := slTail A (m + 1) cap 1 (by omega) W

/-- How many elements the slice in the box has. -/
def boxLen (g : Nat) (w : World) : Nat := match w.cell? ⟨g, 0, none⟩ with | some v => lenOf v | none => 0
theorem boxLen_row {w : World} {g : Nat} {e : TypeId} {A : Option Addr} {n C : Nat} (h : Row w g e [.slice A n C]) : boxLen g w = n := by
  unfold boxLen
  rw [h.cell 0]
  rfl

/-- The function of member: its box holds what is left of Y behind the rows that are less than x. -/
def MemR (cb g2 : Nat) (wt : Bool) (P : Nat → Prop) (B : Nat) (Y : List RL.R) (x : RL.R) (W : World) : Prop :=
  ∃ A C j, Row W cb 69 [.slice A (Y.drop j).length C] ∧ (Y.drop j).length ≤ C ∧ C ≤ 9223372036854775807 ∧ SlRsP P B W A (Y.drop j) ∧ j ≤ Y.length ∧ Row W g2 4 [.bool wt] ∧ ∀ y ∈ Y.take j, RL.cmpR y x < 0


set_option maxHeartbeats 2000000 in
set_option maxRecDepth 100000 in
theorem rlMember1_any (cb g2 : Nat) (wt : Bool) (P : Nat → Prop) (B : Nat) (Y : List RL.R) (x : RL.R) (A' : Option Addr) (C' : Nat) (W : World)
    (hI : MemR cb g2 wt P B Y x W) (hPc : ∀ b, P b → b ≠ cb) (hB : B ≤ W.heap.size) (hx : HR P B W (.slice A' x.length C') x) (hxl : x.length ≤ 1000000) (hYo : RsOk Y) (hYl : Y.length ≤ 1000000) (hS : RL.SS Y) (hg : g2 ≠ cb) :
    Calls Tryz.prog 61 #[.slice A' x.length C', .pointer (some ⟨cb, 0, none⟩), .pointer (some ⟨g2, 0, none⟩)] W fun e W' => e = .returned (.bool (decide (x ∈ Y) == wt)) ∧ MemR cb g2 wt P B Y x W' ∧ W.grownBy W' (some cb) := by
  have HI := Lib.hid hI
  have HPC := Lib.hid hPc
  have HX := Lib.hid hx
  have HYO := Lib.hid hYo
  have HS := Lib.hid hS
  clear hI hPc hx hYo hS
  go_enter Tryz.func61, Tryz.ntmps61
  go_wp2
  go_loopw [6] (fun _ wr => MemR cb g2 wt P B Y x wr ∧ HR P B wr (.slice A' x.length C') x ∧ W.grownBy wr (some cb)) (fun _ wr => boxLen cb wr)
  case atStart => exact ⟨HI.out, HX.out, ⟨rfl, rfl, rfl, Nat.le_refl _, fun _ _ _ => rfl⟩⟩
  case round =>
    obtain ⟨⟨A, C, j, hrow, hc1, hc2, hs, hj, hrw, hlt⟩, hx, hgr⟩ := hrel
    have HROW := Lib.hid hrow
    have HRW := Lib.hid hrw
    have HSL := Lib.hid hs
    have HLT := Lib.hid hlt
    have HXR := Lib.hid hx
    have HGR := Lib.hid hgr
    have hzz := hgr.size
    have hz1 := hrow.lt
    have hz2 := hrw.lt
    clear HI HX
    by_cases h1 : j < Y.length
    rotate_left
    · have hd0 : Y.drop j = [] := List.drop_of_length_le (by omega)
      have HD := Lib.hid (RL.mem_drop_none hlt (show Y.length ≤ j by omega))
      have r0 : wr.cell? ⟨cb, 0, none⟩ = some (.slice A 0 C) := by rw [hrow.cell 0, hd0]; rfl
      have r1 : wr.cell? ⟨g2, 0, none⟩ = some (.bool wt) := hrw.cell 0
      have HM : Hid (MemR cb g2 wt P B Y x wr) := ⟨A, C, j, hrow, hc1, hc2, hs, hj, hrw, hlt⟩
      clear hd0 hrow hs hrw hlt hx hgr hc1
      go_wp2
      go_ret
      exact ⟨by rw [HD.out]; cases wt <;> rfl, HM.out, HGR.out⟩
    · obtain ⟨m, hm⟩ : ∃ m, (Y.drop j).length = m + 1 := ⟨(Y.drop j).length - 1, by simp; omega⟩
      have hml : m ≤ 1000000 := by simp at hm; omega
      have hmc : m + 1 ≤ C := by omega
      obtain ⟨b, o, A1, C1, rfl, hb, hbP, hcell, hhr⟩ := hs.at_ (i := 0) (by omega)
      have hbc := HPC.out b hbP
      have e0 : (Y.drop j)[0]'(by omega) = Y[j] := by simp
      rw [e0] at hcell hhr
      have r0 : wr.cell? ⟨cb, 0, none⟩ = some (.slice (some ⟨b, o, none⟩) (m + 1) C) := by rw [hrow.cell 0, hm]; rfl
      have f0 := hrow.frozen 0
      have r1 : wr.cell? ⟨g2, 0, none⟩ = some (.bool wt) := hrw.cell 0
      have hc0 : wr.cell? ⟨b, o, none⟩ = some (.slice A1 Y[j].length C1) := hcell
      have HHR := Lib.hid hhr
      have hyl := (HYO.out.at_ h1).1
      have HC := Lib.hid (rwCompare_any A1 A' C1 C' Y[j] x wr (hhr.sl.more (by omega)) (hx.sl.more (by omega)) hyl hxl)
      have HE := Lib.hid (fun (w1 : World) (h : Ext wr w1) => rwEqual_any A1 A' C1 C' Y[j] x w1 ((hhr.sl.more (show B ≤ wr.heap.size by omega)).up h) ((hx.sl.more (show B ≤ wr.heap.size by omega)).up h) hyl hxl)
      have HY1 := Lib.hid (fun h => RL.mem_drop_head HS.out hlt h1 h)
      have HY2 := Lib.hid (fun h => RL.take_snoc_lt hlt h1 h)
      have hst := slTail1 (some ⟨b, o, none⟩) m C
      have HT : Hid (SlRsP P B wr (tailA (some ⟨b, o, none⟩) 1 C) (Y.drop (j + 1))) := by have h := hs.tail (cap := C) (by omega) 1; rw [List.drop_drop] at h; exact h
      have hd1 : (Y.drop (j + 1)).length = m := by simp at hm ⊢; omega
      have HD1 := Lib.hid hd1
      have HM1 := Lib.hid hm
      obtain ⟨TA, hTA⟩ : ∃ TA, TA = tailA (some ⟨b, o, none⟩) 1 C := ⟨_, rfl⟩
      rw [← hTA] at hst HT
      clear hrow hs hrw hlt hx hgr hcell hhr hd1 hm hTA e0
      generalize Y[j] = y at *
      go_wp2_with fail
      refine HC.out.mono ?_
      rintro e w1 ⟨rfl, hx1⟩
      have hz3 := hx1.size
      have hrow1 := HROW.out.up hx1.below
      rw [HM1.out] at hrow1
      have r01 : w1.cell? ⟨cb, 0, none⟩ = some (.slice (some ⟨b, o, none⟩) (m + 1) C) := hrow1.cell 0
      have f01 := hrow1.frozen 0
      have hc01 : w1.cell? ⟨b, o, none⟩ = some (.slice A1 y.length C1) := (hx1.cell (show b < wr.heap.size by omega)).trans hc0
      have r11 : w1.cell? ⟨g2, 0, none⟩ = some (.bool wt) := (HRW.out.up hx1.below).cell 0
      have HROW1 := Lib.hid hrow1
      have HX1 := Lib.hid hx1
      clear hx1 hrow1 HC r0 f0 r1 hc0
      by_cases hq : RL.cmpR y x < 0
      · have hqd : decide (RL.cmpR y x < 0) = true := by simpa using hq
        have HLT2 := Lib.hid (HY2.out hq)
        have hbl := Lib.hid (boxLen_row HROW1.out)
        clear hq HY1 HY2
        generalize RL.cmpR y x = qv at *
        go_wp2
        go_roundw
        case rel =>
          have hrow2 : Row (w1.setCell ⟨cb, 0, none⟩ (.slice TA m (C - 1))) cb 69 [.slice TA m (C - 1)] := HROW1.out.set 0 _
          have hk : ∀ p : Addr, p.block < B → P p.block → (w1.setCell ⟨cb, 0, none⟩ (.slice TA m (C - 1))).cell? p = wr.cell? p := fun p hp hP => far_cell (p := ⟨cb, 0, none⟩) (fun e => HPC.out _ hP e.symm) (HX1.out.below.cell (by omega))
          refine ⟨⟨TA, C - 1, j + 1, by rw [HD1.out]; exact hrow2, by rw [HD1.out]; omega, by omega, HT.out.keep hk, by omega, (HRW.out.up HX1.out.below).far (p := ⟨cb, 0, none⟩) hg _, HLT2.out⟩, HXR.out.keep hk, ?_⟩
          refine grown_trans HGR.out (grown_trans (HX1.out.grown _) ?_)
          exact ⟨rfl, rfl, rfl, by simp, fun b hb hne => Below.heap_setCell _ _ _ _ (fun e => hne (by rw [e]))⟩
        case measure =>
          rw [boxLen_row HROW.out, HM1.out, boxLen_row (HROW1.out.set 0 _)]
          omega
      · have hqd : decide (RL.cmpR y x < 0) = false := by simpa using hq
        have HDM := Lib.hid (HY1.out (by omega))
        clear hq HY1 HY2 HT hst
        generalize RL.cmpR y x = qv at *
        go_wp2_with fail
        refine (HE.out _ HX1.out).mono ?_
        rintro e w2 ⟨rfl, hx2⟩
        have r12 : w2.cell? ⟨g2, 0, none⟩ = some (.bool wt) := ((HRW.out.up HX1.out.below).up hx2.below).cell 0
        have HX2 := Lib.hid (HX1.out.trans hx2)
        clear hx2 HE
        obtain ⟨dq, hdq⟩ : ∃ dq, dq = decide (y = x) := ⟨_, rfl⟩
        rw [← hdq]
        have HDQ := Lib.hid hdq
        clear hdq
        go_wp2
        go_ret
        refine ⟨by rw [HDM.out, ← HDQ.out]; rfl, ⟨_, C, j, HROW.out.up HX2.out.below, by rw [HM1.out]; omega, hc2, HSL.out.below HX2.out.below (by omega), hj, HRW.out.up HX2.out.below, HLT.out⟩, grown_trans HGR.out (HX2.out.grown _)⟩

end Go.Proofs.YtgaffbdcpkbdhaaGreat
end

section
/- Walk: the laws' own made. -/
namespace Go.Proofs.YtgaffbdcpkbdhaaGreat
open Go.RowKit Go.Sort

/-- The rows that a relation of arity n accepts. -/
def validR (n : Int) (X : List RL.R) : List RL.R := X.filter fun x => decide (wrongF n x = 0)
theorem validR_snoc (n : Int) (X : List RL.R) (k : Nat) (h : k < X.length) : validR n (X.take (k + 1)) = validR n (X.take k) ++ (if wrongF n X[k] = 0 then [X[k]] else []) := by
  unfold validR
  rw [List.take_succ_eq_append_getElem h, List.filter_append]
  by_cases hw : wrongF n X[k] = 0 <;> simp [hw]
theorem validR_err (n : Int) (X : List RL.R) : errF n (validR n X) = 0 := errF_zero.2 fun x hx => by
  unfold validR at hx
  rw [List.mem_filter] at hx
  simpa using hx.2
theorem validR_sub (n : Int) (X : List RL.R) : ∀ x ∈ validR n X, x ∈ X := fun _x hx => (List.mem_filter.1 hx).1
theorem validR_length (n : Int) (X : List RL.R) : (validR n X).length ≤ X.length := List.length_filter_le _ _

theorem RelIs.upB {w w' : World} {n : Int} {X : List RL.R} {v : Value} (h : RelIs w n X v) (hb : Below w.heap.size w w') : RelIs w' n X v := by
  obtain ⟨A, C, h1, h2, h3, h4⟩ := h
  exact ⟨A, C, h1, h2, h3, h4.upB hb⟩

theorem setCell_id {w : World} {a : Addr} {v : Value} (h : w.cell? a = some v) : w.setCell a v = w := by
  unfold World.cell? at h
  split at h
  · rename_i c t f hc
    split at h
    · cases h
    · rename_i hs
      have hcs : (if a.spot.isSome then c else c.setIfInBounds a.off v) = c := by
        rw [if_neg hs]
        apply Array.ext_getElem?
        intro j
        rw [Array.getElem?_setIfInBounds]
        split
        · rename_i e2; subst e2; split
          · rw [h]
          · rename_i h3; rw [Array.getElem?_eq_none (by omega)]
        · rfl
      have hh : (w.setCell a v).heap = w.heap := by
        apply Array.ext_getElem?
        intro i
        unfold World.setCell
        rw [Array.getElem?_modify]
        split
        · rename_i e
          subst e
          rw [hc]
          rw [if_neg hs] at hcs
          simp [hcs]
        · rfl
      have : w.setCell a v = { w with heap := (w.setCell a v).heap } := rfl
      rw [this, hh]
  · cases h

/-- A row of three cells and more does not lie in a block of two. -/
theorem SlR.not_pair {w : World} {A : Option Addr} {x : RL.R} {rb : Nat} {E : TypeId} {u0 u1 : Value} (h : SlR w.heap.size w A x) (hr : Row w rb E [u0, u1]) : x ≠ [] → ∀ ad, A = some ad → ad.block ≠ rb := fun hx ad e e2 => by
  cases x with
  | nil => exact hx rfl
  | cons v y =>
    obtain ⟨b, o, e', hb, _, _, c3⟩ := slR_at h (i := 0) (by simp)
    rw [e] at e'
    injection e' with e'
    subst e'
    simp only at e2
    subst e2
    rw [hr.cell] at c3
    simp at c3
theorem OwnRs.far {w : World} {B : Nat} {E : TypeId} {v : Value} {X : List RL.R} {rb i : Nat} {T : TypeId} {u0 u1 : Value} (h : OwnRs w B E v X) (hr : Row w rb T [u0, u1]) (hB : rb < B) (u : Value) : OwnRs (w.setCell ⟨rb, i, none⟩ u) B E v X := by
  have hbase := h.base
  obtain ⟨hs, h1, h2⟩ := h
  refine ⟨hs, own_far h1 (p := ⟨rb, i, none⟩) (fun e => by have := hbase _ e; simp only at this; omega) u, fun j hj => ?_⟩
  obtain ⟨A', C', g1, g2, g3, g4, g5⟩ := h2 j hj
  exact ⟨A', C', g1, g2, g3, g4.far (p := ⟨rb, i, none⟩) u (g4.not_pair hr), g5⟩

end Go.Proofs.YtgaffbdcpkbdhaaGreat
end

section
/- Walk: row.Project. -/
namespace Go.Proofs.YtgaffbdcpkbdhaaGreat
open Go.RowKit Go.Sort

def zV : RL.V := ⟨0, 0, ⟨#[]⟩⟩
/-- n zero values, as a new array holds them. (A plain definition: the walk does not look into it.) -/
def zerosV (n : Nat) : Array Value := (rcells (List.replicate n zV)).toArray
theorem rcells_set (L : RL.R) (k : Nat) (v : RL.V) (h : k < L.length) : rcells (L.set k v) = (((rcells L).set (k * 3) (.int .i64 v.kind)).set (k * 3 + 1) (.int .i64 v.int)).set (k * 3 + 2) (.string v.str) := by
  induction L generalizing k with
  | nil => simp at h
  | cons u L ih =>
    cases k with
    | zero => simp [rcells_cons, vcells]
    | succ k =>
      rw [List.set_cons_succ, rcells_cons, rcells_cons, ih k (by simpa using h)]
      rw [show (k + 1) * 3 = k * 3 + 1 + 1 + 1 by omega]
      simp [vcells]
theorem makeVals (n : Nat) (hn : n ≤ 1000000) (w : World) : (Instr.makeSlice 59 (.int .i64 (n : Int)) (.int .i64 (n : Int))).run Tryz.prog w = .ok (.slice (some ⟨w.heap.size, 0, none⟩) n n) (w.alloc (.cells (zerosV n) 57)) := by
  obtain ⟨i0, hi0, hz0, hz1, hz2⟩ := info_parts valInfo
  have := run_make (P := Tryz.prog) w 59 57 i0 _ Tryz.underlying59 hi0 hz0 .i64 .i64 n n (by omega) (by omega) (by rw [hz2]; omega) (by omega)
  rw [this, hz1]
  simp only [Int.toNat_natCast]
  have e : madeCells (Value.agg #[.int .i64 0, .int .i64 0, .string ⟨#[]⟩]).cells (n * 3) = zerosV n := by
    unfold madeCells zerosV
    apply Array.ext
    · simp [rcells_length]
    · intro i h1 h2
      have hi : i / 3 < n := by simp [rcells_length] at h2; omega
      obtain ⟨g1, g2, g3⟩ := rcells_get (List.replicate n zV) (i / 3) zV (by rw [List.getElem?_replicate, if_pos hi])
      have hm := Nat.div_add_mod i 3
      simp only [List.getElem_toArray]
      have h3 : i % 3 = 0 ∨ i % 3 = 1 ∨ i % 3 = 2 := by omega
      rcases h3 with h3 | h3 | h3
      · rw [show i / 3 * 3 = i by omega] at g1
        rw [List.getElem?_eq_some_iff] at g1
        obtain ⟨_, g1⟩ := g1
        rw [g1]
        simp [h3, Value.cells, zV]
      · rw [show i / 3 * 3 + 1 = i by omega] at g2
        rw [List.getElem?_eq_some_iff] at g2
        obtain ⟨_, g2⟩ := g2
        rw [g2]
        simp [h3, Value.cells, zV]
      · rw [show i / 3 * 3 + 2 = i by omega] at g3
        rw [List.getElem?_eq_some_iff] at g3
        obtain ⟨_, g3⟩ := g3
        rw [g3]
        simp [h3, Value.cells, zV]
  rw [e]

/-- The given columns of a row. -/
def projF (x : RL.R) (cs : List Int) : RL.R := cs.map fun c => x.getD c.toNat zV
theorem projF_length (x : RL.R) (cs : List Int) : (projF x cs).length = cs.length := by simp [projF]

theorem getD_at {x : RL.R} {c : Nat} (h : c < x.length) : x.getD (c : Int).toNat zV = x[c] := by simp [List.getD, h]

/-- The first k columns are laid. -/
def halfP (x : RL.R) (cs : List Int) (k : Nat) : RL.R := (projF x cs).take k ++ List.replicate (cs.length - k) zV
theorem halfP_length (x : RL.R) (cs : List Int) (k : Nat) (h : k ≤ cs.length) : (halfP x cs k).length = cs.length := by simp [halfP, projF_length]; omega
theorem halfP_set (x : RL.R) (cs : List Int) (k : Nat) (h : k < cs.length) : (halfP x cs k).set k (projF x cs)[k]! = halfP x cs (k + 1) := by
  have hk : k < (projF x cs).length := by rw [projF_length]; exact h
  unfold halfP
  rw [List.set_append_right _ _ (by simp; omega), List.take_succ_eq_append_getElem hk, List.append_assoc]
  congr 1
  have e : k - ((projF x cs).take k).length = 0 := by simp; omega
  rw [e, show cs.length - k = (cs.length - (k + 1)) + 1 by omega, List.replicate_succ]
  simp [hk]

end Go.Proofs.YtgaffbdcpkbdhaaGreat
end

section
/- Walks: relation's Select and SelectSame. -/
namespace Go.Proofs.YtgaffbdcpkbdhaaGreat
open Go.RowKit Go.Sort

theorem cell_lt {w : World} {b o : Nat} {v : Value} (h : w.cell? ⟨b, o, none⟩ = some v) : b < w.heap.size := by
  rcases Nat.lt_or_ge b w.heap.size with hlt | hge
  · exact hlt
  · simp [World.cell?, Array.getElem?_eq_none hge] at h

/-- What Select answers as its error. -/
def selErr (n col op : Int) (v : RL.V) : Int := if 0 ≤ col ∧ col < n then (if op < 0 ∨ 5 < op then 2 else if RL.validV v = true then 0 else 4) else 3
/-- The rows that a selection keeps. -/
def selF (X : List RL.R) (c op : Int) (v : RL.V) : List RL.R := X.filter fun x => RL.holdsF op (RL.cmpV (x.getD c.toNat zV) v)
/-- What relation's Select leaves. -/
def SelPost (P : Nat → Prop) (w : World) (n : Int) (X : List RL.R) (col op : Int) (v : RL.V) (e : Ending) (w' : World) : Prop :=
  ∃ rv, e = .returned (.tuple #[rv, .int .i64 (selErr n col op v)]) ∧ (selErr n col op v ≠ 0 → rv = .agg #[.int .i64 0, .slice none 0 0]) ∧ (selErr n col op v = 0 → RelP P w' n (selF X col op v) rv) ∧ Below w.heap.size w w'

end Go.Proofs.YtgaffbdcpkbdhaaGreat
end

section
/- Walks: relation's member, Intersect, Minus. -/
namespace Go.Proofs.YtgaffbdcpkbdhaaGreat
open Go.RowKit Go.Sort

set_option maxHeartbeats 400000 in
set_option maxRecDepth 100000 in
theorem rlMember_any (n : Int) (YA : Option Addr) (YC l : Nat) (wt : Bool) (w : World) :
    Calls Tryz.prog 45 #[.agg #[.int .i64 n, .slice YA l YC], .bool wt] w fun e w' => ∃ cb g2, e = .returned (.func (.func 61) #[] #[.pointer (some ⟨cb, 0, none⟩), .pointer (some ⟨g2, 0, none⟩)]) ∧ Row w' cb 69 [.slice YA l YC] ∧ Row w' g2 4 [.bool wt] ∧ w.heap.size ≤ cb ∧ w.heap.size ≤ g2 ∧ g2 ≠ cb ∧ Ext w w' := by
  go_enter Tryz.func45, Tryz.ntmps45
  go_wp2
  go_ret
  refine ⟨w.heap.size + 2, w.heap.size + 1, rfl, ?_, ?_, by omega, by omega, by omega, ((((Ext.refl w).alloc _).alloc _).alloc _)⟩
  · have h := Row.new ((w.alloc (.cells #[.int .i64 n, .slice YA l YC] 71)).alloc (.cells #[.bool wt] 4)) 69 [.slice YA l YC]
    simp only [World.size_alloc] at h
    exact h
  · have h := (Row.new (w.alloc (.cells #[.int .i64 n, .slice YA l YC] 71)) 4 [.bool wt]).alloc (.cells #[.slice YA l YC] 69)
    simp only [World.size_alloc] at h
    exact h

/-- What Intersect and Minus leave: the rows of X that are, or are not, in Y. -/
def BothPost (P : Nat → Prop) (w : World) (n : Int) (X Y : List RL.R) (wt : Bool) (e : Ending) (w' : World) : Prop :=
  ∃ v, e = .returned (.tuple #[v, .int .i64 0]) ∧ RelP P w' n (X.filter fun x => decide (x ∈ Y) == wt) v ∧ Below w.heap.size w w'

/-- The filter of Intersect and Minus. -/
theorem both_filter (P : Nat → Prop) (n : Int) (RA YA : Option Addr) (RC YC : Nat) (X Y : List RL.R) (wt : Bool) (w0 B : Nat) (cb g2 : Nat) (w1 : World)
    (hX : SlRsP P w0 w1 RA X) (hY : SlRsP P w0 w1 YA Y) (hPn : ∀ b, w0 ≤ b → P b) (hB : w0 ≤ B) (hcb : B ≤ cb) (_hg2 : B ≤ g2) (hne : g2 ≠ cb) (hr1 : Row w1 cb 69 [.slice YA Y.length YC]) (hr2 : Row w1 g2 4 [.bool wt])
    (hXo : RsOk X) (hYo : RsOk Y) (hXl : X.length ≤ 60000) (hYl : Y.length ≤ 60000) (hXS : RL.SS X) (hYS : RL.SS Y) (hYc : Y.length ≤ YC) (hYm : YC ≤ 9223372036854775807) :
    Calls Tryz.prog 44 #[.agg #[.int .i64 n, .slice RA X.length RC], .func (.func 61) #[] #[.pointer (some ⟨cb, 0, none⟩), .pointer (some ⟨g2, 0, none⟩)]] w1 fun e w' => ∃ v, e = .returned v ∧ RelP (fun b => P b ∧ (b < w0 ∨ w1.heap.size ≤ b)) w' n (X.filter fun x => decide (x ∈ Y) == wt) v ∧ w1.grownBy w' (some cb) := by
  have hz1 := hr1.lt
  have hz2 := hr2.lt
  refine rlFilter_P n RA RC X 61 #[.pointer (some ⟨cb, 0, none⟩), .pointer (some ⟨g2, 0, none⟩)] (fun x => decide (x ∈ Y) == wt) (fun b => P b ∧ (b < w0 ∨ w1.heap.size ≤ b)) cb
    (fun k W => ∃ A C j, Row W cb 69 [.slice A (Y.drop j).length C] ∧ (Y.drop j).length ≤ C ∧ C ≤ 9223372036854775807 ∧ SlRsP (fun b => P b ∧ (b < w0 ∨ w1.heap.size ≤ b)) w1.heap.size W A (Y.drop j) ∧ j ≤ Y.length ∧ Row W g2 4 [.bool wt] ∧ ∀ y ∈ Y.take j, ∀ x ∈ X.drop k, RL.cmpR y x < 0) w1
    (enters_of Tryz.func61 (by kernel_rfl) rfl) ((hX.weak (fun b hb h => ⟨h, .inl hb⟩)).more (by omega)) (by omega) (fun b h => by omega) (fun b h => ⟨hPn b (by omega), .inr h⟩) hz1
    ⟨YA, YC, 0, hr1, hYc, hYm, (hY.weak (fun b hb h => ⟨h, .inl hb⟩)).more (by omega), Nat.zero_le _, hr2, fun y hy => by simp at hy⟩ ?_ ?_
  · rintro k W W' ⟨A, C, j, h1, h2, h3, h4, h5, h6, h7⟩ hb hz
    exact ⟨A, C, j, h1.below hb hz1, h2, h3, h4.below hb (Nat.le_refl _), h5, h6.below hb hz2, h7⟩
  · rintro k hk W A' C' ⟨A, C, j, h1, h2, h3, h4, h5, h6, h7⟩ hg hr
    have hM : MemR cb g2 wt (fun b => P b ∧ (b < w0 ∨ w1.heap.size ≤ b)) w1.heap.size Y X[k] W := ⟨A, C, j, h1, h2, h3, h4, h5, h6, fun y hy => h7 y hy _ (RL.mem_drop_self hk)⟩
    refine (rlMember1_any cb g2 wt _ w1.heap.size Y X[k] A' C' W hM (fun b h => by omega) hg.size hr (hXo.at_ hk).1 hYo (by omega) hYS hne).mono ?_
    rintro e W' ⟨rfl, ⟨A2, C2, j2, k1, k2, k3, k4, k5, k6, k7⟩, hg'⟩
    exact ⟨rfl, ⟨A2, C2, j2, k1, k2, k3, k4, k5, k6, fun y hy => RL.below_next hXS hk (k7 y hy)⟩, hg'⟩

set_option maxHeartbeats 2000000 in
set_option maxRecDepth 100000 in
theorem rlMinus_P (P : Nat → Prop) (n : Int) (RA YA : Option Addr) (RC YC : Nat) (X Y : List RL.R) (w : World) (hX : SlRsP P w.heap.size w RA X) (hY : SlRsP P w.heap.size w YA Y) (hPn : ∀ b, w.heap.size ≤ b → P b) (hXo : RsOk X) (hYo : RsOk Y) (hXl : X.length ≤ 60000) (hYl : Y.length ≤ 60000) (hXS : RL.SS X) (hYS : RL.SS Y) (hYc : Y.length ≤ YC) (hYm : YC ≤ 9223372036854775807) :
    Calls Tryz.prog 27 #[.agg #[.int .i64 n, .slice RA X.length RC], .agg #[.int .i64 n, .slice YA Y.length YC]] w (BothPost P w n X Y false) := by
  have HX := Lib.hid hX
  have HY := Lib.hid hY
  have HPN := Lib.hid hPn
  have HXO := Lib.hid hXo
  have HYO := Lib.hid hYo
  have HXS := Lib.hid hXS
  have HYS := Lib.hid hYS
  clear hX hY hPn hXo hYo hXS hYS
  go_enter Tryz.func27, Tryz.ntmps27
  have HW : Hid (∃ W0, W0 = ((w.alloc (.cells #[.int .i64 n, .slice RA X.length RC] 71)).alloc (.cells #[.int .i64 n, .slice YA Y.length YC] 71)).alloc (.cells #[.int .i64 0, .slice none 0 0] 71) ∧ W0.heap.size = w.heap.size + 3 ∧ Ext w W0 ∧ Row W0 w.heap.size 71 [.int .i64 n, .slice RA X.length RC] ∧ Row W0 (w.heap.size + 1) 71 [.int .i64 n, .slice YA Y.length YC] ∧ Row W0 (w.heap.size + 2) 71 [.int .i64 0, .slice none 0 0]) := by
    have q1 := ((Row.new w 71 [.int .i64 n, .slice RA X.length RC]).alloc (.cells #[.int .i64 n, .slice YA Y.length YC] 71)).alloc (.cells #[.int .i64 0, .slice none 0 0] 71)
    have q2 := (Row.new (w.alloc (.cells #[.int .i64 n, .slice RA X.length RC] 71)) 71 [.int .i64 n, .slice YA Y.length YC]).alloc (.cells #[.int .i64 0, .slice none 0 0] 71)
    have q3 := Row.new ((w.alloc (.cells #[.int .i64 n, .slice RA X.length RC] 71)).alloc (.cells #[.int .i64 n, .slice YA Y.length YC] 71)) 71 [.int .i64 0, .slice none 0 0]
    simp only [World.size_alloc] at q2 q3
    exact ⟨_, rfl, by simp only [World.size_alloc], ((Ext.refl w).alloc _).alloc _ |>.alloc _, q1, q2, q3⟩
  obtain ⟨W0, hW0, hz0, he0, q1, q2, q3⟩ := HW.out
  have HZ0 := Lib.hid hz0
  have HE0 := Lib.hid he0
  have HQ1 := Lib.hid q1
  have HQ2 := Lib.hid q2
  have HQ3 := Lib.hid q3
  have hzle : w.heap.size + 3 ≤ W0.heap.size := by omega
  clear hz0 he0
  go_wp2
  rw [← hW0]
  clear HW hW0
  have a0 : W0.cell? ⟨w.heap.size, 0, none⟩ = some (.int .i64 n) := q1.cell 0
  have a1 : W0.cell? ⟨w.heap.size, 1, none⟩ = some (.slice RA X.length RC) := q1.cell 1
  have b0 : W0.cell? ⟨w.heap.size + 1, 0, none⟩ = some (.int .i64 n) := q2.cell 0
  have b1 : W0.cell? ⟨w.heap.size + 1, 1, none⟩ = some (.slice YA Y.length YC) := q2.cell 1
  clear q1 q2 q3
  have HM := Lib.hid (fun W => rlMember_any n YA YC Y.length false W)
  go_region_held3 (fun w' => w'.cell? ⟨w.heap.size, 0, none⟩ = some (.int .i64 n) ∧ w'.cell? ⟨w.heap.size, 1, none⟩ = some (.slice RA X.length RC) ∧ w'.cell? ⟨w.heap.size + 1, 0, none⟩ = some (.int .i64 n) ∧ w'.cell? ⟨w.heap.size + 1, 1, none⟩ = some (.slice YA Y.length YC)) (first | exact KEEP2 | exact KEEP | exact HK3.out _ _ | go_keep)
    (first
      | (go_at_call 45; refine (HM.out _).mono ?_; rintro e w1 ⟨cb, g2, rfl, hr1, hr2, hcb, hg2, hne, hx1⟩
         have HX1 := Lib.hid ((Ext.refl W0).drew.trans hx1)
         have HR1 := Lib.hid hr1
         have HR2 := Lib.hid hr2
         have hcb' : W0.heap.size ≤ cb := hcb
         have hg2' : W0.heap.size ≤ g2 := hg2
         have HNE := Lib.hid hne
         have KEEP : w1.cell? ⟨w.heap.size, 0, none⟩ = some (.int .i64 n) ∧ w1.cell? ⟨w.heap.size, 1, none⟩ = some (.slice RA X.length RC) ∧ w1.cell? ⟨w.heap.size + 1, 0, none⟩ = some (.int .i64 n) ∧ w1.cell? ⟨w.heap.size + 1, 1, none⟩ = some (.slice YA Y.length YC) := ⟨(HQ1.out.up HX1.out.below).cell 0, (HQ1.out.up HX1.out.below).cell 1, (HQ2.out.up HX1.out.below).cell 0, (HQ2.out.up HX1.out.below).cell 1⟩
         clear hcb hg2 hne hx1 hr1 hr2)
      | (go_at_call 44; refine (both_filter P n RA YA RC YC X Y false w.heap.size W0.heap.size cb g2 w1 (HX.out.below (HE0.out.trans HX1.out).below (Nat.le_refl _)) (HY.out.below (HE0.out.trans HX1.out).below (Nat.le_refl _)) HPN.out (by omega) hcb' hg2' HNE.out HR1.out HR2.out HXO.out HYO.out hXl hYl HXS.out HYS.out hYc hYm).mono ?_
         rintro e w2 ⟨rv, rfl, ⟨A5, C5, rfl, hc5, hm5, hs5⟩, hg3⟩
         have r3 := ((HQ3.out.up HX1.out.below).grown hg3 (fun e => by injection e with e; omega))
         have r1 := ((HQ1.out.up HX1.out.below).grown hg3 (fun e => by injection e with e; omega))
         have r2 := ((HQ2.out.up HX1.out.below).grown hg3 (fun e => by injection e with e; omega))
         have HB2 := Lib.hid (Below.then (HE0.out.trans HX1.out).below (below_of_grown hg3 (show w.heap.size ≤ cb by omega) (HE0.out.trans HX1.out).size) (Nat.le_refl _))
         have e0 : w2.cell? ⟨w.heap.size + 2, 0, none⟩ = some (.int .i64 0) := r3.cell 0
         have e1 : w2.cell? ⟨w.heap.size + 2, 1, none⟩ = some (.slice none 0 0) := r3.cell 1
         have f0 := r3.frozen 0
         have f1 := r3.frozen 1
         have HR3 := Lib.hid r3
         have HS5 := Lib.hid hs5
         have KEEP2 : w2.cell? ⟨w.heap.size, 0, none⟩ = some (.int .i64 n) ∧ w2.cell? ⟨w.heap.size, 1, none⟩ = some (.slice RA X.length RC) ∧ w2.cell? ⟨w.heap.size + 1, 0, none⟩ = some (.int .i64 n) ∧ w2.cell? ⟨w.heap.size + 1, 1, none⟩ = some (.slice YA Y.length YC) := ⟨r1.cell 0, r1.cell 1, r2.cell 0, r2.cell 1⟩
         have KEEP3 : ∀ u v, ((w2.setCell ⟨w.heap.size + 1 + 1, 0, none⟩ u).setCell ⟨w.heap.size + 1 + 1, 1, none⟩ v).cell? ⟨w.heap.size, 0, none⟩ = some (.int .i64 n) ∧ ((w2.setCell ⟨w.heap.size + 1 + 1, 0, none⟩ u).setCell ⟨w.heap.size + 1 + 1, 1, none⟩ v).cell? ⟨w.heap.size, 1, none⟩ = some (.slice RA X.length RC) ∧ ((w2.setCell ⟨w.heap.size + 1 + 1, 0, none⟩ u).setCell ⟨w.heap.size + 1 + 1, 1, none⟩ v).cell? ⟨w.heap.size + 1, 0, none⟩ = some (.int .i64 n) ∧ ((w2.setCell ⟨w.heap.size + 1 + 1, 0, none⟩ u).setCell ⟨w.heap.size + 1 + 1, 1, none⟩ v).cell? ⟨w.heap.size + 1, 1, none⟩ = some (.slice YA Y.length YC) := fun u v => ⟨far_cell (by show w.heap.size + 1 + 1 ≠ w.heap.size; omega) (far_cell (by show w.heap.size + 1 + 1 ≠ w.heap.size; omega) KEEP2.1), far_cell (by show w.heap.size + 1 + 1 ≠ w.heap.size; omega) (far_cell (by show w.heap.size + 1 + 1 ≠ w.heap.size; omega) KEEP2.2.1), far_cell (by show w.heap.size + 1 + 1 ≠ w.heap.size + 1; omega) (far_cell (by show w.heap.size + 1 + 1 ≠ w.heap.size + 1; omega) KEEP2.2.2.1), far_cell (by show w.heap.size + 1 + 1 ≠ w.heap.size + 1; omega) (far_cell (by show w.heap.size + 1 + 1 ≠ w.heap.size + 1; omega) KEEP2.2.2.2)⟩
         have HK3 := Lib.hid KEEP3
         clear KEEP3
         obtain ⟨Z, hZ⟩ : ∃ Z, Z = X.filter fun x => decide (x ∈ Y) == false := ⟨_, rfl⟩
         rw [← hZ] at HS5 hc5
         rw [← hZ]
         have HZ := Lib.hid hZ
         clear hZ hs5 hg3 r1 r2 r3)
      | fail)
  go_wp2
  refine bodyPost_ret (v := .tuple #[.agg #[.int .i64 n, .slice A5 Z.length C5], .int .i64 0]) ?_ rfl ⟨_, rfl, ?_, ?_⟩
  · have h := HR3.out.set2 (.int .i64 n) (.slice A5 Z.length C5)
    have z0 := h.cell 0
    have z1 := h.cell 1
    simp only [List.getElem?_cons_zero, List.getElem?_cons_succ] at z0 z1
    simp [results, Tryz.results27, go_sem, z0, z1]
  · rw [← HZ.out]
    refine ⟨A5, C5, rfl, hc5, hm5, ?_⟩
    have hx1 := HX1.out.size
    have h := (HS5.out.keep (w' := (w2.setCell ⟨w.heap.size + 2, 0, none⟩ (.int .i64 n)).setCell ⟨w.heap.size + 2, 1, none⟩ (.slice A5 Z.length C5)) (fun p hp hne => by
      have hpn : p.block ≠ w.heap.size + 2 := by rcases hne.2 with h | h <;> omega
      exact far_cell (p := ⟨w.heap.size + 2, 1, none⟩) (fun e => hpn e.symm) (far_cell (p := ⟨w.heap.size + 2, 0, none⟩) (fun e => hpn e.symm) rfl))).weak (P' := P) (fun b _ h => h.1)
    simpa using h
  · exact (HB2.out.setCell (p := ⟨w.heap.size + 2, 0, none⟩) (show w.heap.size ≤ w.heap.size + 2 by omega) _).setCell (p := ⟨w.heap.size + 2, 1, none⟩) (show w.heap.size ≤ w.heap.size + 2 by omega) _

theorem rlMinus_arity (n m : Int) (RA YA : Option Addr) (RC YC k l : Nat) (w : World) (h : n ≠ m) :
    Calls Tryz.prog 27 #[.agg #[.int .i64 n, .slice RA k RC], .agg #[.int .i64 m, .slice YA l YC]] w fun e w' => e = .returned (.tuple #[.agg #[.int .i64 0, .slice none 0 0], .int .i64 6]) ∧ Below w.heap.size w w' := by
  have h1 : (n != m) = true := by simpa using h
  clear h
  go_enter Tryz.func27, Tryz.ntmps27
  go_wp2
  refine bodyPost_ret (v := .tuple #[.agg #[.int .i64 0, .slice none 0 0], .int .i64 6]) (by simp [results, Tryz.results27, go_sem]) rfl ⟨rfl, ?_⟩
  exact ((((Ext.refl w).alloc _).alloc _).alloc _).below

end Go.Proofs.YtgaffbdcpkbdhaaGreat
end

section
/- Walk: catalog.Diff. -/
namespace Go.Proofs.YtgaffbdcpkbdhaaGreat
open Go.RowKit Go.Sort Go.ChangeMaps Go.WideShapes

theorem MadeRs.get {w : World} {g B : Nat} {E : TypeId} {X : List RL.R} (h : MadeRs w g E X X.length B) {i : Nat} (hi : i < X.length) : ∃ A' C', w.cell? ⟨g, i, none⟩ = some (.slice A' X[i].length C') ∧ SlR w.heap.size w A' X[i] ∧ (X[i] ≠ [] → ∀ ad, A' = some ad → B ≤ ad.block) := by
  obtain ⟨hs, h1, h2, h3, h4⟩ := h
  obtain ⟨A', C', a, -, -, b, c⟩ := h4 i hi hi
  exact ⟨A', C', (h1.cell i).trans a, b, fun hx ad e => (c hx ad e).2.1⟩
theorem fieldEnt1 (k n a : Value) (u : World) : (Instr.field 73 (.agg #[k, n, a]) 1).run Tryz.prog u = .ok (.agg #[n, a]) u := by
  simp [Instr.field, run_underlying Tryz.underlying73, part, go_sem, asAgg]
theorem MadeRs.base {w : World} {g B : Nat} {E : TypeId} {X : List RL.R} {k : Nat} (h : MadeRs w g E X k B) : B ≤ g := by obtain ⟨_, _, _, h3, _⟩ := h; exact h3
theorem min_eq (X Y : List RL.R) : (X.filter fun x => decide (x ∈ Y) == false) = minF X Y := List.filter_congr fun x _ => by cases decide (x ∈ Y) <;> rfl
theorem diffF_snoc (ns : List ByteArray) (F G : Cont) (k : Nat) (h : k < ns.length) : diffF (ns.take (k + 1)) F G = diffF (ns.take k) F G ++ diff1 ns[k] (F ns[k]) (G ns[k]) := by
  unfold diffF
  rw [List.take_succ_eq_append_getElem h, List.flatMap_append, List.flatMap_singleton]
theorem diffF_le2 {F G : Cont} : ∀ (ns : List ByteArray), (∀ s ∈ ns, (F s).length ≤ 4096 ∧ (G s).length ≤ 4096) → (diffF ns F G).length ≤ ns.length * 8192
  | [], _ => Nat.zero_le _
  | nm :: t, hs => by
    have h1 := diffF_le2 t fun s hst => hs s (List.mem_cons_of_mem _ hst)
    obtain ⟨a, b⟩ := hs nm List.mem_cons_self
    have h2 : (minF (F nm) (G nm)).length ≤ 4096 := Nat.le_trans (List.length_filter_le _ _) a
    have h3 : (minF (G nm) (F nm)).length ≤ 4096 := Nat.le_trans (List.length_filter_le _ _) b
    show (diff1 nm (F nm) (G nm) ++ diffF t F G).length ≤ (t.length + 1) * 8192
    rw [List.length_append, diff1_len]
    omega
def DiffPost (S : Sch) (F G : Cont) (w : World) (e : Ending) (w' : World) : Prop :=
  ∃ A C ns, e = .returned (.tuple #[.slice A (diffF ns F G).length C, .int .i64 0]) ∧ ns.Perm (S.map Prod.fst) ∧ UpdsM w'.heap.size w' A (diffF ns F G) ∧ Below w.heap.size w w'

set_option maxHeartbeats 16000000 in
set_option maxRecDepth 100000 in
theorem ctDiff_any {P P' : Nat → Prop} {S : Sch} {m m' : Value} {F G : Cont} (w : World) (hd : DbM P S w m F) (hd' : DbM P' S w m' G) (hnd : (S.map Prod.fst).Nodup) (hSl : S.length ≤ 16) (hsz : ∀ p ∈ S, p.1.size ≤ 9223372036854775807) :
    Calls Tryz.prog 12 #[.agg #[m], .agg #[m']] w (DiffPost S F G w) := by
  have HDU := Lib.hid (fun (V : World) (hb : Below w.heap.size w V) => hd.up hb)
  have HDU' := Lib.hid (fun (V : World) (hb : Below w.heap.size w V) => hd'.up hb)
  obtain ⟨b, D, rfl, -, hown, hent⟩ := hd.ents
  obtain ⟨b', D', rfl, -, hown', hent'⟩ := hd'.ents
  have HENT := Lib.hid hent
  have HENT' := Lib.hid hent'
  have HOW := Lib.hid hown
  have HOW' := Lib.hid hown'
  obtain ⟨W0, hW0⟩ : ∃ W0, W0 = (w.alloc (.cells #[.map (some b)] 29)).alloc (.cells #[.map (some b')] 29) := ⟨_, rfl⟩
  have hx0 : Ext w W0 := by rw [hW0]; exact ((Ext.refl w).alloc _).alloc _
  have HR1 : Hid (Row W0 w.heap.size 29 [.map (some b)]) := by show Row _ _ _ _; rw [hW0]; exact (Row.new w 29 _).alloc _
  have HR2 : Hid (Row W0 (w.heap.size + 1) 29 [.map (some b')]) := by
    show Row _ _ _ _; rw [hW0]
    have h := Row.new (w.alloc (.cells #[.map (some b)] 29)) 29 [.map (some b')]
    simp only [World.size_alloc] at h
    exact h
  have HX0 := Lib.hid hx0
  have HSS0 := Lib.hid (ctSameSchemas_any W0 (HDU.out W0 hx0.below) (HDU'.out W0 hx0.below) hnd)
  have HND := Lib.hid hnd
  have HSZ := Lib.hid hsz
  have HW0 := Lib.hid hW0
  have k0 : W0.cell? ⟨w.heap.size, 0, none⟩ = some (.map (some b)) := HR1.out.cell 0
  have k1 := HR1.out.lt
  have k2 : W0.cell? ⟨w.heap.size + 1, 0, none⟩ = some (.map (some b')) := HR2.out.cell 0
  have k3 := HR2.out.lt
  clear hd hd' hown hown' hent hent' hx0 hnd hsz hW0
  go_enter Tryz.func12, Tryz.ntmps12
  go_upto_region 1 with (fail)
  rw [← HW0.out]
  clear HW0
  go_wp2_with fail
  clear k0 k1 k2 k3
  refine HSS0.out.mono ?_
  rintro e w1 ⟨rfl, hb1⟩
  have HB1 := Lib.hid (Below.then HX0.out.below hb1 HX0.out.size)
  have k0 : w1.cell? ⟨w.heap.size, 0, none⟩ = some (.map (some b)) := (HR1.out.up hb1).cell 0
  have k1 := (HR1.out.up hb1).lt
  have HNM := Lib.hid (ctNames_any (HDU.out w1 HB1.out) HND.out (Nat.le_trans hSl (by decide)))
  have HR11 := Lib.hid (HR1.out.up hb1)
  have HR21 := Lib.hid (HR2.out.up hb1)
  clear hb1 HSS0 HX0 HR1 HR2
  go_wp2_with fail
  clear k0 k1
  refine HNM.out.mono ?_
  rintro e W1 ⟨A1, C1, ns, rfl, hperm, hsn, hb2⟩
  have HPERM := Lib.hid hperm
  have HSN1 := Lib.hid hsn
  have HBW1 := Lib.hid (Below.then HB1.out hb2 HB1.out.size)
  have HR12 := Lib.hid (HR11.out.up hb2)
  have HR22 := Lib.hid (HR21.out.up hb2)
  have hnl : ns.length ≤ 16 := by have := hperm.length_eq; rw [List.length_map] at this; omega
  have HML : Hid (∀ s ∈ ns, (F s).length ≤ 4096 ∧ (G s).length ≤ 4096) := fun s hs => by
    obtain ⟨p, hp, rfl⟩ := List.mem_map.1 (hperm.mem_iff.1 hs)
    obtain ⟨_, _, KA, KC, A, C, _, _, _, _, _, _, hro⟩ := HENT.out.2.2 p hp
    obtain ⟨_, _, KA, KC, A, C, _, _, _, _, _, _, hro'⟩ := HENT'.out.2.2 p hp
    exact ⟨hro.many, hro'.many⟩
  obtain ⟨B, hB⟩ : ∃ B, B = W1.heap.size := ⟨_, rfl⟩
  have HBE := Lib.hid hB
  clear hperm hsn hb2 hB HNM HB1 HR11 HR21
  go_wp2_with fail
  go_loopw [6, 26] (fun vo c wx => ∃ (k : Nat) (cs : List Value), k ≤ ns.length ∧ c = .int .i64 k ∧ wx.ownsRow B 61 3 vo (diffF (ns.take k) F G).length cs ∧ UpdN vo wx (diffF (ns.take k) F G) cs ∧ Below B W1 wx) (fun _ c _ => ns.length - (intOf c).toNat)
  case atStart => exact ⟨0, [], Nat.zero_le _, rfl, own_nil _ _ _ _, UpdN.nil, Below.refl _ _⟩
  case round =>
    obtain ⟨k, cs1, hk, rfl, ho, hu, hbr⟩ := hrel
    obtain ⟨vi, hvi⟩ : ∃ v, v = u6 := ⟨_, rfl⟩
    subst hvi
    have HOK := Lib.hid ho
    have HUK := Lib.hid hu
    have HBK := Lib.hid hbr
    clear ho hu hbr
    have HBWK : Hid (Below w.heap.size w wr) := Below.then HBW1.out (by have := HBK.out; rw [HBE.out] at this; exact this) HBW1.out.size
    by_cases hkl : k < ns.length
    rotate_left
    · obtain rfl : k = ns.length := by omega
      have r1 : ¬ (ns.length : Int) < (ns.length : Int) := by omega
      rw [List.take_length] at HOK HUK
      obtain ⟨A, C, rfl, -, -, hM⟩ := own_updsM HOK.out HUK.out.cs
      have HM := Lib.hid hM
      obtain ⟨U, hU⟩ : ∃ U, U = diffF ns F G := ⟨_, rfl⟩
      rw [← hU] at HM ⊢
      have HUE := Lib.hid hU
      clear hM hU HOK HUK
      go_wp2_with fail
      exact bodyPost_ret (v := .tuple #[.slice A U.length C, .int .i64 0]) (by simp [results, Tryz.results12, go_sem]) rfl (by rw [HUE.out]; exact ⟨A, C, ns, rfl, HPERM.out, by have := HM.out; rw [HUE.out] at this; exact this, HBWK.out⟩)
    have r0 : (0 : Int) ≤ (k : Int) := by omega
    have r1 : (k : Int) < (ns.length : Int) := by omega
    have r3 : IntKind.i64.wrap ((k : Int) + 1) = ((k + 1 : Nat) : Int) := by rw [IntWalk.i64_in _ (by omega)]; omega
    have HSTEP := Lib.hid (diffF_snoc ns F G k hkl)
    obtain ⟨p, hp, hpn⟩ := List.mem_map.1 (HPERM.out.mem_iff.1 (List.getElem_mem hkl))
    have hpn : p.1 = ns[k] := hpn
    obtain ⟨valF, hvF, KF, KCF, AF, CF, rfl, hk6, -, hxc, hxm, hsl, hro⟩ := HENT.out.2.2 p hp
    obtain ⟨valG, hvG, KG, KCG, AG, CG, rfl, -, -, hyc, hym, hsl', hro'⟩ := HENT'.out.2.2 p hp
    have hszp := HSZ.out p hp
    obtain ⟨nb, no, rfl, hnb, hnc⟩ := HSN1.out (by intro h0; have := congrArg List.length h0; simp only [List.length_map, List.length_nil] at this; omega)
    have c0 : W1.cell? ⟨nb, no + k, none⟩ = some (.string ns[k]) := hnc k _ (by rw [List.getElem?_map, List.getElem?_eq_getElem hkl]; rfl)
    have c0 := (HBK.out.cell (p := ⟨nb, no + k, none⟩) (by rw [HBE.out]; exact hnb)).trans c0
    have c1 : nb < wr.heap.size := Nat.lt_of_lt_of_le hnb HBK.out.size
    rw [hpn] at hvF hvG hxc hyc hsl hsl' hro hro' hszp
    have HPL : Hid ((diffF (ns.take k) F G).length ≤ 16 * 8192) := by
      have h1 := diffF_le2 (ns.take k) (F := F) (G := G) fun s hs => HML.out s (List.mem_of_mem_take hs)
      have h2 : (ns.take k).length ≤ 16 := by rw [List.length_take]; omega
      show _ ≤ _
      omega
    generalize ns[k] = nm at *
    obtain ⟨X, hX⟩ : ∃ X, X = F nm := ⟨_, rfl⟩
    obtain ⟨Y, hY⟩ : ∃ Y, Y = G nm := ⟨_, rfl⟩
    rw [← hX] at hvF hxc hsl hro
    rw [← hY] at hvG hyc hsl' hro'
    rw [← hX, ← hY] at HSTEP
    obtain ⟨kn, hkn⟩ : ∃ kn, kn = p.2.length := ⟨_, rfl⟩
    rw [← hkn] at hvF hvG hro hro' hk6
    have HLKF : Hid (∀ V, Below w.heap.size w V → (Instr.lookup 27 (.map (some b)) (.string nm) false).run Tryz.prog V = .ok (.agg #[.slice KF kn KCF, .int .i64 (kn : Nat), .slice AF X.length CF]) V) := fun V hb => (look_yes keyedS Tryz.underlying27 zeroEnt (map_up HOW.out hb) (keyS hszp) hvF).2
    have HLKG : Hid (∀ V, Below w.heap.size w V → (Instr.lookup 27 (.map (some b')) (.string nm) false).run Tryz.prog V = .ok (.agg #[.slice KG kn KCG, .int .i64 (kn : Nat), .slice AG Y.length CG]) V) := fun V hb => (look_yes keyedS Tryz.underlying27 zeroEnt (map_up HOW'.out hb) (keyS hszp) hvG).2
    have HXR : Hid (∀ V, Below w.heap.size w V → SlRsP (fun _ => True) V.heap.size V AF X) := fun V hb => ((hsl.below hb (Nat.le_refl _)).more hb.size).weak fun _ _ _ => trivial
    have HYR : Hid (∀ V, Below w.heap.size w V → SlRsP (fun _ => True) V.heap.size V AG Y) := fun V hb => ((hsl'.below hb (Nat.le_refl _)).more hb.size).weak fun _ _ _ => trivial
    have HXO := Lib.hid hro
    have HYO := Lib.hid hro'
    have HXC : Hid (X.length ≤ CF ∧ CF ≤ 9223372036854775807) := ⟨hxc, hxm⟩
    have HYC : Hid (Y.length ≤ CG ∧ CG ≤ 9223372036854775807) := ⟨hyc, hym⟩
    have HK6 : Hid (kn ≤ 6) := hk6
    obtain ⟨wk, hwk⟩ : ∃ W, W = wr := ⟨_, rfl⟩
    subst hwk
    have HSS : Hid (∀ W, Below wk.heap.size wk W → W.cell? ⟨w.heap.size, 0, none⟩ = some (.map (some b)) ∧ W.cell? ⟨w.heap.size + 1, 0, none⟩ = some (.map (some b')) ∧ (Instr.lookup 27 (.map (some b)) (.string nm) false).run Tryz.prog W = .ok (.agg #[.slice KF kn KCF, .int .i64 (kn : Nat), .slice AF X.length CF]) W ∧ (Instr.lookup 27 (.map (some b')) (.string nm) false).run Tryz.prog W = .ok (.agg #[.slice KG kn KCG, .int .i64 (kn : Nat), .slice AG Y.length CG]) W) := fun W hb => by
      have h := Below.then HBWK.out hb HBWK.out.size
      have hk1 := HBK.out
      rw [HBE.out] at hk1
      have h1 := Below.then hk1 hb hk1.size
      exact ⟨(HR12.out.up h1).cell 0, (HR22.out.up h1).cell 0, HLKF.out W h, HLKG.out W h⟩
    clear hp hpn hvF hvG hk6 hxc hxm hyc hym hsl hsl' hro hro' hszp hnb hnc hX hY hkn HLKF HLKG HML
    have hfF := fun u => fieldEnt1 (.slice KF kn KCF) (.int .i64 (kn : Nat)) (.slice AF X.length CF) u
    have hfG := fun u => fieldEnt1 (.slice KG kn KCG) (.int .i64 (kn : Nat)) (.slice AG Y.length CG) u
    go_upto_region 7 with (fail)
    clear c0 c1
    go_cut [9, 10] from 30 to 39 (fun vp vq wx => ∃ gA gB, vp = .pointer (some ⟨gA, 0, none⟩) ∧ vq = .pointer (some ⟨gB, 0, none⟩) ∧ wk.heap.size ≤ gA ∧ wk.heap.size ≤ gB ∧ Row wx gA 71 [.int .i64 (kn : Nat), .slice AF X.length CF] ∧ Row wx gB 71 [.int .i64 (kn : Nat), .slice AG Y.length CG] ∧ Below wk.heap.size wk wx)
    case first =>
      refine wp_region_held_drew (S := (fun w' => w'.cell? ⟨w.heap.size, 0, none⟩ = some (.map (some b)) ∧ w'.cell? ⟨w.heap.size + 1, 0, none⟩ = some (.map (some b')) ∧ (Instr.lookup 27 (.map (some b)) (.string nm) false).run Tryz.prog w' = .ok (.agg #[.slice KF kn KCF, .int .i64 (kn : Nat), .slice AF X.length CF]) w' ∧ (Instr.lookup 27 (.map (some b')) (.string nm) false).run Tryz.prog w' = .ok (.agg #[.slice KG kn KCG, .int .i64 (kn : Nat), .slice AG Y.length CG]) w')) (by kernel_rfl) (HSS.out wk.drew (Below.refl _ _).drew) (fun hHeld => ?_)
      obtain ⟨V0, hV0⟩ : ∃ V, V = wk.drew := ⟨_, rfl⟩
      have HV : Hid (Below wk.heap.size wk V0) := by show Below _ _ _; rw [hV0]; exact ((Ext.refl wk).drew).below
      rw [← hV0]
      clear hV0
      have hHeld0 : V0.cell? ⟨w.heap.size, 0, none⟩ = some (.map (some b)) ∧ V0.cell? ⟨w.heap.size + 1, 0, none⟩ = some (.map (some b')) ∧ (Instr.lookup 27 (.map (some b)) (.string nm) false).run Tryz.prog V0 = .ok (.agg #[.slice KF kn KCF, .int .i64 (kn : Nat), .slice AF X.length CF]) V0 ∧ (Instr.lookup 27 (.map (some b')) (.string nm) false).run Tryz.prog V0 = .ok (.agg #[.slice KG kn KCG, .int .i64 (kn : Nat), .slice AG Y.length CG]) V0 := HSS.out V0 HV.out
      refine takeOp (i := 0) (v := ?_) (some 30) rfl rfl (by kernel_rfl) (by kernel_rfl) (by kernel_rfl) (fun _ _ _ h => h) (Or.inl ⟨by rfl, ?_⟩) (by assumption) ?_
      rotate_left 1
      · (intro w0 hSw; (try dsimp only at hSw); go_simp; try (with_reducible rfl))
      try simp only [Act.put]
      try simp only [List.setIfInBounds_toArray]
      try simp only [List.set_cons_succ]
      try simp only [List.set_cons_zero]
      refine takeOp (i := 1) (v := ?_) (some 31) rfl rfl (by kernel_rfl) (by kernel_rfl) (by kernel_rfl) (fun _ _ _ h => h) (Or.inl ⟨by rfl, ?_⟩) (by assumption) ?_
      rotate_left 1
      · (intro w0 hSw; (try dsimp only at hSw); go_simp; try (with_reducible rfl))
      try simp only [Act.put]
      try simp only [List.setIfInBounds_toArray]
      try simp only [List.set_cons_succ]
      try simp only [List.set_cons_zero]
      refine takeOp (i := 2) (v := ?_) (some 32) rfl rfl (by kernel_rfl) (by kernel_rfl) (by kernel_rfl) (fun _ _ _ h => h) (Or.inl ⟨by rfl, ?_⟩) (by assumption) ?_
      rotate_left 1
      · (intro w0 hSw; (try dsimp only at hSw); go_simp; try (with_reducible rfl))
      try simp only [Act.put]
      try simp only [List.setIfInBounds_toArray]
      try simp only [List.set_cons_succ]
      try simp only [List.set_cons_zero]
      refine takeOp (i := 3) (v := ?_) (some 33) rfl rfl (by kernel_rfl) (by kernel_rfl) (by kernel_rfl) (fun _ _ _ h => h) (Or.inl ⟨by rfl, ?_⟩) (by assumption) ?_
      rotate_left 1
      · (intro w0 hSw; (try dsimp only at hSw); go_simp; try (with_reducible rfl))
      try simp only [Act.put]
      try simp only [List.setIfInBounds_toArray]
      try simp only [List.set_cons_succ]
      try simp only [List.set_cons_zero]
      refine takeOp (i := 4) (v := ?_) (some 34) rfl rfl (by kernel_rfl) (by kernel_rfl) (by kernel_rfl) (fun _ _ _ h => h) (Or.inl ⟨by rfl, ?_⟩) (by assumption) ?_
      rotate_left 1
      · (intro w0 hSw; (try dsimp only at hSw); go_simp; try (with_reducible rfl))
      try simp only [Act.put]
      try simp only [List.setIfInBounds_toArray]
      try simp only [List.set_cons_succ]
      try simp only [List.set_cons_zero]
      refine takeOp (i := 5) (v := ?_) (some 35) rfl rfl (by kernel_rfl) (by kernel_rfl) (by kernel_rfl) (fun _ _ _ h => h) (Or.inl ⟨by rfl, ?_⟩) (by assumption) ?_
      rotate_left 1
      · (intro w0 hSw; (try dsimp only at hSw); go_simp; try (with_reducible rfl))
      try simp only [Act.put]
      try simp only [List.setIfInBounds_toArray]
      try simp only [List.set_cons_succ]
      try simp only [List.set_cons_zero]
      refine takeOp (i := 6) (v := ?_) (some 36) rfl rfl (by kernel_rfl) (by kernel_rfl) (by kernel_rfl) (fun _ _ _ h => h) (Or.inl ⟨by rfl, ?_⟩) (by assumption) ?_
      rotate_left 1
      · (intro w0 hSw; (try dsimp only at hSw); go_simp; try (with_reducible rfl))
      try simp only [Act.put]
      try simp only [List.setIfInBounds_toArray]
      try simp only [List.set_cons_succ]
      try simp only [List.set_cons_zero]
      refine takeOp (i := 7) (v := ?_) (some 37) rfl rfl (by kernel_rfl) (by kernel_rfl) (by kernel_rfl) (fun _ _ _ h => h) (Or.inl ⟨by rfl, ?_⟩) (by assumption) ?_
      rotate_left 1
      · (intro w0 hSw; (try dsimp only at hSw); go_simp; try (with_reducible rfl))
      try simp only [Act.put]
      try simp only [List.setIfInBounds_toArray]
      try simp only [List.set_cons_succ]
      try simp only [List.set_cons_zero]
      refine takeOp (i := 8) (v := ?_) (some 38) rfl rfl (by kernel_rfl) (by kernel_rfl) (by kernel_rfl) (fun _ _ _ h => h) (Or.inl ⟨by rfl, ?_⟩) (by assumption) ?_
      rotate_left 1
      · (intro w0 hSw; (try dsimp only at hSw); go_simp; try (with_reducible rfl))
      try simp only [Act.put]
      try simp only [List.setIfInBounds_toArray]
      try simp only [List.set_cons_succ]
      try simp only [List.set_cons_zero]
      refine takeOp (i := 9) (v := ?_) (some 39) rfl rfl (by kernel_rfl) (by kernel_rfl) (by kernel_rfl) (fun _ _ _ h => h) (Or.inl ⟨by rfl, ?_⟩) (by assumption) ?_
      rotate_left 1
      · (intro w0 hSw; (try dsimp only at hSw); go_simp; try (with_reducible rfl))
      try simp only [Act.put]
      try simp only [List.setIfInBounds_toArray]
      try simp only [List.set_cons_succ]
      try simp only [List.set_cons_zero]
      refine wpAnyH_ready (rs := [10, 11]) (by kernel_rfl) (by simp) ?_
      refine (AllReadyH.cons rfl (fun K hK => ?_) (AllReadyH.cons rfl (fun K hK => ?_) AllReadyH.nil))
      · go_simp
        obtain ⟨V1, hV⟩ : ∃ V', V' = V0.alloc (.cells #[.int .i64 0, .slice none 0 0] 71) := ⟨_, rfl⟩
        rw [← hV]
        have hx : Ext V0 V1 := by rw [hV]; exact (Ext.refl V0).alloc _
        have HGA : Hid (Row V1 V0.heap.size 71 [.int .i64 0, .slice none 0 0]) := by show Row _ _ _ _; rw [hV]; exact Row.new V0 71 _
        have HZA := Lib.hid HV.out.size
        have HV := Lib.hid (Below.then HV.out hx.below HV.out.size)
        clear hx hV
        refine hK.out _ _ (HSS.out V1 HV.out) (fun hHeld => ?_)
        clear hK K
        try simp only [Act.put]
        try simp only [List.setIfInBounds_toArray]
        try simp only [List.set_cons_succ]
        try simp only [List.set_cons_zero]
        refine wpAnyH_ready (rs := [11]) (by kernel_rfl) (by simp) ?_
        refine (AllReadyH.cons rfl (fun K hK => ?_) AllReadyH.nil)
        go_simp
        obtain ⟨V2, hV⟩ : ∃ V', V' = V1.alloc (.cells #[.int .i64 0, .slice none 0 0] 71) := ⟨_, rfl⟩
        rw [← hV]
        have hx : Ext V1 V2 := by rw [hV]; exact (Ext.refl V1).alloc _
        have HGB : Hid (Row V2 V1.heap.size 71 [.int .i64 0, .slice none 0 0]) := by show Row _ _ _ _; rw [hV]; exact Row.new V1 71 _
        have HZB := Lib.hid HV.out.size
        have HNE : Hid (V0.heap.size ≠ V1.heap.size) := by have := HGA.out.lt; show _ ≠ _; omega
        have HGA := Lib.hid (HGA.out.up hx.below)
        have HV := Lib.hid (Below.then HV.out hx.below HV.out.size)
        clear hx hV
        refine hK.out _ _ (HSS.out V2 HV.out) (fun hHeld => ?_)
        clear hK K
        try simp only [Act.put]
        try simp only [List.setIfInBounds_toArray]
        try simp only [List.set_cons_succ]
        try simp only [List.set_cons_zero]
        refine wpAnyH_ready (rs := [12]) (by kernel_rfl) (by simp) ?_
        refine (AllReadyH.cons rfl (fun K hK => ?_) AllReadyH.nil)
        have m0 : V2.cell? ⟨V0.heap.size, 0, none⟩ = some (.int .i64 0) := HGA.out.cell 0
        have m1 : V2.cell? ⟨V0.heap.size, 1, none⟩ = some (.slice none 0 0) := HGA.out.cell 1
        have m2 := HGA.out.frozen 0
        have m3 := HGA.out.frozen 1
        have m4 := HGA.out.lt
        go_simp
        obtain ⟨V3, hV⟩ : ∃ V', V' = (V2.setCell ⟨V0.heap.size, 0, none⟩ (.int .i64 (kn : Nat))).setCell ⟨V0.heap.size, 1, none⟩ (.slice AF X.length CF) := ⟨_, rfl⟩
        rw [← hV]
        have HGA : Hid (Row V3 V0.heap.size 71 [.int .i64 (kn : Nat), (.slice AF X.length CF)]) := by show Row _ _ _ _; rw [hV]; exact HGA.out.set2 _ _
        have HGB : Hid (Row V3 V1.heap.size 71 [.int .i64 0, .slice none 0 0]) := by show Row _ _ _ _; rw [hV]; exact (HGB.out.far (fun e => HNE.out e.symm) _).far (fun e => HNE.out e.symm) _
        have HV : Hid (Below wk.heap.size wk V3) := by show Below _ _ _; rw [hV]; exact (HV.out.setCell HZA.out _).setCell HZA.out _
        clear m0 m1 m2 m3 m4 hV
        refine hK.out _ _ (HSS.out V3 HV.out) (fun hHeld => ?_)
        clear hK K
        try simp only [Act.put]
        try simp only [List.setIfInBounds_toArray]
        try simp only [List.set_cons_succ]
        try simp only [List.set_cons_zero]
        refine wpAnyH_ready (rs := [13]) (by kernel_rfl) (by simp) ?_
        refine (AllReadyH.cons rfl (fun K hK => ?_) AllReadyH.nil)
        have m0 : V3.cell? ⟨V1.heap.size, 0, none⟩ = some (.int .i64 0) := HGB.out.cell 0
        have m1 : V3.cell? ⟨V1.heap.size, 1, none⟩ = some (.slice none 0 0) := HGB.out.cell 1
        have m2 := HGB.out.frozen 0
        have m3 := HGB.out.frozen 1
        have m4 := HGB.out.lt
        go_simp
        obtain ⟨V4, hV⟩ : ∃ V', V' = (V3.setCell ⟨V1.heap.size, 0, none⟩ (.int .i64 (kn : Nat))).setCell ⟨V1.heap.size, 1, none⟩ (.slice AG Y.length CG) := ⟨_, rfl⟩
        rw [← hV]
        have HGB : Hid (Row V4 V1.heap.size 71 [.int .i64 (kn : Nat), (.slice AG Y.length CG)]) := by show Row _ _ _ _; rw [hV]; exact HGB.out.set2 _ _
        have HGA : Hid (Row V4 V0.heap.size 71 [.int .i64 (kn : Nat), (.slice AF X.length CF)]) := by show Row _ _ _ _; rw [hV]; exact (HGA.out.far (fun e => HNE.out e) _).far (fun e => HNE.out e) _
        have HV : Hid (Below wk.heap.size wk V4) := by show Below _ _ _; rw [hV]; exact (HV.out.setCell HZB.out _).setCell HZB.out _
        clear m0 m1 m2 m3 m4 hV
        refine hK.out _ _ (HSS.out V4 HV.out) (fun hHeld => ?_)
        clear hK K
        try simp only [Act.put]
        try simp only [List.setIfInBounds_toArray]
        try simp only [List.set_cons_succ]
        try simp only [List.set_cons_zero]
        refine wpAnyH_done (by kernel_rfl) ?_ _
        go_wp2_with fail
        go_meet
        case rel => exact ⟨V0.heap.size, V1.heap.size, rfl, rfl, HZA.out, HZB.out, HGA.out, HGB.out, HV.out⟩
      · go_simp
        obtain ⟨V1, hV⟩ : ∃ V', V' = V0.alloc (.cells #[.int .i64 0, .slice none 0 0] 71) := ⟨_, rfl⟩
        rw [← hV]
        have hx : Ext V0 V1 := by rw [hV]; exact (Ext.refl V0).alloc _
        have HGB : Hid (Row V1 V0.heap.size 71 [.int .i64 0, .slice none 0 0]) := by show Row _ _ _ _; rw [hV]; exact Row.new V0 71 _
        have HZB := Lib.hid HV.out.size
        have HV := Lib.hid (Below.then HV.out hx.below HV.out.size)
        clear hx hV
        refine hK.out _ _ (HSS.out V1 HV.out) (fun hHeld => ?_)
        clear hK K
        try simp only [Act.put]
        try simp only [List.setIfInBounds_toArray]
        try simp only [List.set_cons_succ]
        try simp only [List.set_cons_zero]
        refine wpAnyH_ready (rs := [10]) (by kernel_rfl) (by simp) ?_
        refine (AllReadyH.cons rfl (fun K hK => ?_) AllReadyH.nil)
        go_simp
        obtain ⟨V2, hV⟩ : ∃ V', V' = V1.alloc (.cells #[.int .i64 0, .slice none 0 0] 71) := ⟨_, rfl⟩
        rw [← hV]
        have hx : Ext V1 V2 := by rw [hV]; exact (Ext.refl V1).alloc _
        have HGA : Hid (Row V2 V1.heap.size 71 [.int .i64 0, .slice none 0 0]) := by show Row _ _ _ _; rw [hV]; exact Row.new V1 71 _
        have HZA := Lib.hid HV.out.size
        have HNE : Hid (V1.heap.size ≠ V0.heap.size) := by have := HGB.out.lt; show _ ≠ _; omega
        have HGB := Lib.hid (HGB.out.up hx.below)
        have HV := Lib.hid (Below.then HV.out hx.below HV.out.size)
        clear hx hV
        refine hK.out _ _ (HSS.out V2 HV.out) (fun hHeld => ?_)
        clear hK K
        try simp only [Act.put]
        try simp only [List.setIfInBounds_toArray]
        try simp only [List.set_cons_succ]
        try simp only [List.set_cons_zero]
        refine wpAnyH_ready (rs := [12]) (by kernel_rfl) (by simp) ?_
        refine (AllReadyH.cons rfl (fun K hK => ?_) AllReadyH.nil)
        have m0 : V2.cell? ⟨V1.heap.size, 0, none⟩ = some (.int .i64 0) := HGA.out.cell 0
        have m1 : V2.cell? ⟨V1.heap.size, 1, none⟩ = some (.slice none 0 0) := HGA.out.cell 1
        have m2 := HGA.out.frozen 0
        have m3 := HGA.out.frozen 1
        have m4 := HGA.out.lt
        go_simp
        obtain ⟨V3, hV⟩ : ∃ V', V' = (V2.setCell ⟨V1.heap.size, 0, none⟩ (.int .i64 (kn : Nat))).setCell ⟨V1.heap.size, 1, none⟩ (.slice AF X.length CF) := ⟨_, rfl⟩
        rw [← hV]
        have HGA : Hid (Row V3 V1.heap.size 71 [.int .i64 (kn : Nat), (.slice AF X.length CF)]) := by show Row _ _ _ _; rw [hV]; exact HGA.out.set2 _ _
        have HGB : Hid (Row V3 V0.heap.size 71 [.int .i64 0, .slice none 0 0]) := by show Row _ _ _ _; rw [hV]; exact (HGB.out.far (fun e => HNE.out e.symm) _).far (fun e => HNE.out e.symm) _
        have HV : Hid (Below wk.heap.size wk V3) := by show Below _ _ _; rw [hV]; exact (HV.out.setCell HZA.out _).setCell HZA.out _
        clear m0 m1 m2 m3 m4 hV
        refine hK.out _ _ (HSS.out V3 HV.out) (fun hHeld => ?_)
        clear hK K
        try simp only [Act.put]
        try simp only [List.setIfInBounds_toArray]
        try simp only [List.set_cons_succ]
        try simp only [List.set_cons_zero]
        refine wpAnyH_ready (rs := [13]) (by kernel_rfl) (by simp) ?_
        refine (AllReadyH.cons rfl (fun K hK => ?_) AllReadyH.nil)
        have m0 : V3.cell? ⟨V0.heap.size, 0, none⟩ = some (.int .i64 0) := HGB.out.cell 0
        have m1 : V3.cell? ⟨V0.heap.size, 1, none⟩ = some (.slice none 0 0) := HGB.out.cell 1
        have m2 := HGB.out.frozen 0
        have m3 := HGB.out.frozen 1
        have m4 := HGB.out.lt
        go_simp
        obtain ⟨V4, hV⟩ : ∃ V', V' = (V3.setCell ⟨V0.heap.size, 0, none⟩ (.int .i64 (kn : Nat))).setCell ⟨V0.heap.size, 1, none⟩ (.slice AG Y.length CG) := ⟨_, rfl⟩
        rw [← hV]
        have HGB : Hid (Row V4 V0.heap.size 71 [.int .i64 (kn : Nat), (.slice AG Y.length CG)]) := by show Row _ _ _ _; rw [hV]; exact HGB.out.set2 _ _
        have HGA : Hid (Row V4 V1.heap.size 71 [.int .i64 (kn : Nat), (.slice AF X.length CF)]) := by show Row _ _ _ _; rw [hV]; exact (HGA.out.far (fun e => HNE.out e) _).far (fun e => HNE.out e) _
        have HV : Hid (Below wk.heap.size wk V4) := by show Below _ _ _; rw [hV]; exact (HV.out.setCell HZB.out _).setCell HZB.out _
        clear m0 m1 m2 m3 m4 hV
        refine hK.out _ _ (HSS.out V4 HV.out) (fun hHeld => ?_)
        clear hK K
        try simp only [Act.put]
        try simp only [List.setIfInBounds_toArray]
        try simp only [List.set_cons_succ]
        try simp only [List.set_cons_zero]
        refine wpAnyH_done (by kernel_rfl) ?_ _
        go_wp2_with fail
        go_meet
        case rel => exact ⟨V1.heap.size, V0.heap.size, rfl, rfl, HZA.out, HZB.out, HGA.out, HGB.out, HV.out⟩
    case rest =>
    clear hfF hfG
    obtain ⟨gA, gB, rfl, rfl, hzA, hzB, hgA, hgB, hbc⟩ := hcut
    obtain ⟨pre, hpre⟩ : ∃ pre, pre = diffF (ns.take k) F G := ⟨_, rfl⟩
    rw [← hpre] at HOK HUK HSTEP HPL
    have HO0 := Lib.hid (own_keep HOK.out hbc)
    have HU0 := Lib.hid (HUK.out.up hbc)
    have HBc := Lib.hid (Below.then HBWK.out hbc HBWK.out.size)
    have hkB : B ≤ wk.heap.size := by have h1 := HBK.out.size; have h2 := HBE.out; omega
    have HB0 := Lib.hid (Below.then HBK.out hbc hkB)
    have HOLT : Hid (∀ x, vi.ownBlock = some x → x < wk.heap.size) := own_lt HOK.out
    have HGA := Lib.hid hgA
    have HGB := Lib.hid hgB
    have HZA := Lib.hid hzA
    have HZB := Lib.hid hzB
    have HMN := Lib.hid (rlMinus_P (fun _ => True) (kn : Nat) AF AG CF CG X Y wc (HXR.out wc HBc.out) (HYR.out wc HBc.out) (fun _ _ => trivial) (HXO.out.rs (by have := HK6.out; omega)) (HYO.out.rs (by have := HK6.out; omega)) (Nat.le_trans HXO.out.many (by decide)) (Nat.le_trans HYO.out.many (by decide)) HXO.out.ss HYO.out.ss HYC.out.1 HYC.out.2)
    have k0 : wc.cell? ⟨gA, 0, none⟩ = some (.int .i64 (kn : Nat)) := hgA.cell 0
    have k1 : wc.cell? ⟨gA, 1, none⟩ = some (.slice AF X.length CF) := hgA.cell 1
    have k2 := hgA.lt
    have k3 : wc.cell? ⟨gB, 0, none⟩ = some (.int .i64 (kn : Nat)) := hgB.cell 0
    have k4 : wc.cell? ⟨gB, 1, none⟩ = some (.slice AG Y.length CG) := hgB.cell 1
    have k5 := hgB.lt
    clear hgA hgB hbc hzA hzB hpre HSS HOK HUK HBK HBWK
    go_wp2_with fail
    clear k0 k1 k2 k3 k4 k5
    refine HMN.out.mono ?_
    rintro e w4 ⟨_, rfl, ⟨A4, C4, rfl, -, -, hs4⟩, hb4⟩
    rw [min_eq] at hs4 ⊢
    obtain ⟨DX, hDX⟩ : ∃ DX, DX = minF X Y := ⟨_, rfl⟩
    have hDXl : DX.length ≤ 4096 := by rw [hDX]; exact Nat.le_trans (List.length_filter_le _ _) HXO.out.many
    have hDXo : RsOk DX := by rw [hDX]; exact fun x hx => (HXO.out.rs (by have := HK6.out; omega)) x (List.mem_filter.1 hx).1
    rw [← hDX] at hs4 ⊢
    have HDX := Lib.hid hDX
    obtain ⟨g11, hg11⟩ : ∃ g, g = w4.heap.size := ⟨_, rfl⟩
    obtain ⟨W5, hW5⟩ : ∃ W, W = w4.alloc (.cells #[.int .i64 (kn : Nat), .slice A4 DX.length C4] 71) := ⟨_, rfl⟩
    have hx5 : Ext w4 W5 := by rw [hW5]; exact (Ext.refl w4).alloc _
    have hr5 : Row W5 g11 71 [.int .i64 (kn : Nat), .slice A4 DX.length C4] := by rw [hW5, hg11]; exact Row.new w4 71 _
    have HBc5 := Lib.hid (Below.then hb4 hx5.below hb4.size)
    have HRW := Lib.hid (rlRows_any (kn : Nat) A4 C4 DX W5 (hs4.sl.up hx5) hDXo (by omega))
    have k0 : W5.cell? ⟨g11, 0, none⟩ = some (.int .i64 (kn : Nat)) := hr5.cell 0
    have k1 : W5.cell? ⟨g11, 1, none⟩ = some (.slice A4 DX.length C4) := hr5.cell 1
    have k2 := hr5.lt
    have HW5 := Lib.hid hW5
    have HG11 := Lib.hid hg11
    clear hs4 hb4 hg11 hW5 hx5 hr5 hDX hDXo HMN
    go_upto_region 9 with (fail)
    rw [← HW5.out, ← HG11.out]
    clear HW5 HG11
    go_wp2_with fail
    clear k0 k1 k2
    refine HRW.out.mono ?_
    rintro e w6 ⟨g12, rfl, hmr, hb6⟩
    have HBc6 := Lib.hid (Below.then HBc5.out hb6 HBc5.out.size)
    have HM1 := Lib.hid hmr
    have HM1L : Hid (∀ x, vi.ownBlock = some x → x < W5.heap.size) := fun x hx => by have h1 := HOLT.out x hx; have h2 := HBc5.out.size; have h3 := HZA.out; have h4 := HGA.out.lt; omega
    have HM1N : Hid (vi.ownBlock ≠ some g12) := fun h => by have := HM1L.out _ h; have := hmr.base; omega
    have HM1B : Hid (DX.length ≤ 4096) := hDXl
    have HO1 := Lib.hid (own_keep HO0.out HBc6.out)
    have HU1 := Lib.hid (HU0.out.up HBc6.out)
    have hcB : B ≤ wc.heap.size := by have h1 := HB0.out.size; have h2 := HBE.out; omega
    have HB1 := Lib.hid (Below.then HB0.out HBc6.out hcB)
    have HGA1 := Lib.hid (HGA.out.up HBc6.out)
    have HGB1 := Lib.hid (HGB.out.up HBc6.out)
    have HBw1 := Lib.hid (Below.then HBc.out HBc6.out HBc.out.size)
    clear hb6 hmr hDXl HRW HO0 HU0 HB0 HBc5
    go_wp2_with fail
    go_loopw [6, 49] (fun vo c wx => ∃ (j : Nat) (cs : List Value), j ≤ DX.length ∧ c = .int .i64 j ∧ wx.ownsRow B 61 3 vo (pre ++ (DX.take j).map fun x => (⟨true, nm, x⟩ : Upd)).length cs ∧ UpdN vo wx (pre ++ (DX.take j).map fun x => (⟨true, nm, x⟩ : Upd)) cs ∧ (∀ b, vo.ownBlock = some b → vi.ownBlock = some b ∨ w6.heap.size ≤ b) ∧ Stay (fun b => vi.ownBlock ≠ some b) w6 wx ∧ Below B W1 wx) (fun _ c _ => DX.length - (intOf c).toNat)
    case atStart => exact ⟨0, cs1, Nat.zero_le _, rfl, by rw [List.take_zero, List.map_nil, List.append_nil]; exact HO1.out, by rw [List.take_zero, List.map_nil, List.append_nil]; exact HU1.out, fun b h => .inl h, stay_self _ _, HB1.out⟩
    case round =>
      obtain ⟨j, cs, hj, rfl, ho, hu, hav, hst, hbr⟩ := hrel
      have HOR := Lib.hid ho
      have HUR := Lib.hid hu
      have HAV := Lib.hid hav
      have HSTR := Lib.hid hst
      have HBRR := Lib.hid hbr
      clear ho hu hav hst hbr
      by_cases hjl : j < DX.length
      · have hDB : DX.length ≤ 4096 := HM1B.out
        have q0 : (0 : Int) ≤ (j : Int) := by omega
        have q1 : (j : Int) < (DX.length : Int) := by omega
        have q3 : IntKind.i64.wrap ((j : Int) + 1) = ((j + 1 : Nat) : Int) := by rw [IntWalk.i64_in _ (by omega)]; omega
        obtain ⟨A', C', hc0, hsr, hfar⟩ := HM1.out.get hjl
        have hgne : vi.ownBlock ≠ some g12 := HM1N.out
        have e0 : wr.cell? ⟨g12, j, none⟩ = some (.slice A' DX[j].length C') := (World.cell?_of_block (HSTR.out.2 g12 HM1.out.lt hgne)).trans hc0
        have e1 : g12 < wr.heap.size := Nat.lt_of_lt_of_le HM1.out.lt HSTR.out.1
        have HSR : Hid (SlR wr.heap.size wr A' DX[j] ∧ (DX[j] ≠ [] → ∀ ad, A' = some ad → u6.ownBlock ≠ some ad.block)) := by
          have hne : DX[j] ≠ [] → ∀ ad, A' = some ad → vi.ownBlock ≠ some ad.block := fun h ad ha h0 => by
            have h1 := hfar h ad ha
            have h2 := HM1L.out _ h0
            omega
          refine ⟨fun hc => ?_, fun h ad ha h0 => ?_⟩
          · obtain ⟨b', o', ea, hb', hcell⟩ := hsr hc
            have hx : DX[j] ≠ [] := fun h0 => hc (by rw [h0]; rfl)
            exact ⟨b', o', ea, Nat.lt_of_lt_of_le hb' HSTR.out.1, fun i u hi => (World.cell?_of_block (HSTR.out.2 b' hb' (hne hx _ ea))).trans (hcell i u hi)⟩
          · rcases HAV.out _ h0 with h1 | h1
            · exact hne h ad ha h1
            · have := hsr.ltB h ad ha
              omega
        have HTK : Hid ((DX.take (j + 1)).map (fun x => (⟨true, nm, x⟩ : Upd)) = (DX.take j).map (fun x => (⟨true, nm, x⟩ : Upd)) ++ [⟨true, nm, DX[j]⟩]) := by
          show _ = _
          rw [List.take_succ_eq_append_getElem hjl, List.map_append, List.map_singleton]
        have HLE : Hid ((pre ++ (DX.take j).map fun x => (⟨true, nm, x⟩ : Upd)).length + 1 ≤ 1000000) := by
          have h1 := HPL.out
          have h2 := HM1B.out
          show _ ≤ _
          rw [List.length_append, List.length_map, List.length_take]
          omega
        clear hc0 hsr hfar hgne hDB
        generalize DX[j] = x at *
        obtain ⟨us, hus⟩ : ∃ us, us = pre ++ (DX.take j).map fun x => (⟨true, nm, x⟩ : Upd) := ⟨_, rfl⟩
        have HUS := Lib.hid hus.symm
        rw [← hus] at HOR HUR HLE
        clear hus
        obtain ⟨W2, hW2⟩ : ∃ W2, W2 = wr.alloc (.cells #[.bool true, .string nm, .slice A' x.length C'] 61) := ⟨_, rfl⟩
        have hx2 : Ext wr W2 := by rw [hW2]; exact (Ext.refl wr).alloc _
        have hr2 : Row W2 wr.heap.size 61 [.bool true, .string nm, .slice A' x.length C'] := by rw [hW2]; exact Row.new wr _ _
        have HSN : Hid (Sl W2.heap.size W2 (some ⟨wr.heap.size, 0, none⟩) [.bool true, .string nm, .slice A' x.length C']) := hr2.sl
        have HO2 := Lib.hid (own_keep HOR.out hx2.below)
        have HU2 := Lib.hid ((HUR.out.up hx2.below).snoc (del := true) (nm := nm) (RC := C') ((HSR.out.1.below hx2.below (Nat.le_refl _)).more hx2.size) HSR.out.2)
        have HST2 := Lib.hid (HSTR.out.trans (Stay.of hx2.below))
        have HB2 := Lib.hid (Below.then HBRR.out hx2.below (by have h1 := HBE.out; have h2 := HBRR.out.size; omega))
        have hbz : B ≤ W2.heap.size := by have h1 := HBE.out; have h2 := HB2.out.size; omega
        have hz2 : w6.heap.size ≤ W2.heap.size := HST2.out.1
        have HW2 := Lib.hid hW2
        clear hx2 hr2 hW2 HOR HUR HSR
        go_wp2_with (first
          | (at_builtin; rw [← HW2.out]; refine appXUpd rfl (.tmp 53) (.tmp 57) rfl B u6 us.length cs rfl HO2.out (some ⟨wr.heap.size, 0, none⟩) 1 1 [.bool true, .string nm, .slice A' x.length C'] rfl rfl HSN.out (by simp [Value.oneCell']) HLE.out hbz ?_; intro v5 w5 hown hg hat)
          | fail)
        have HO5 := Lib.hid hown
        have HU5 := Lib.hid (HU2.out.grow hg hat)
        have HAV5 : Hid (∀ b, v5.ownBlock = some b → vi.ownBlock = some b ∨ w6.heap.size ≤ b) := fun b h => by
          rcases hat b h with h1 | h1
          · exact HAV.out b h1
          · right; omega
        have HST5 : Hid (Stay (fun b => vi.ownBlock ≠ some b) w6 w5) := ⟨Nat.le_trans HST2.out.1 hg.size, fun b hb hp => (hg.block b (Nat.lt_of_lt_of_le hb HST2.out.1) (fun e => by
          rcases HAV.out b e.symm with h1 | h1
          · exact hp h1
          · omega)).trans (HST2.out.2 b hb hp)⟩
        have HB5 : Hid (Below B W1 w5) := by
          have h := HB2.out.grown hg hbz (fun k hk => own_base HO2.out hk)
          exact h
        clear hown hg hat HO2 HU2 HST2 HB2 HSN HW2 e0 e1
        go_wp2_with fail
        go_roundw
        case rel =>
          refine ⟨j + 1, cs ++ [.bool true, .string nm, .slice A' x.length C'], hjl, by go_num, ?_, ?_, HAV5.out, HST5.out, HB5.out⟩
          · rw [HTK.out, ← List.append_assoc, HUS.out, List.length_append]; exact HO5.out
          · rw [HTK.out, ← List.append_assoc, HUS.out]; exact HU5.out
        case measure => simp [intOf]; omega
      · obtain rfl : j = DX.length := by omega
        have q1 : ¬ (DX.length : Int) < (DX.length : Int) := by omega
        rw [List.take_length] at HOR HUR
        obtain ⟨pre2, hpre2⟩ : ∃ l, l = pre ++ DX.map fun x => (⟨true, nm, x⟩ : Upd) := ⟨_, rfl⟩
        rw [← hpre2] at HOR HUR
        have HBwr : Hid (Below w.heap.size w wr) := Below.then HBW1.out (by have := HBRR.out; rw [HBE.out] at this; exact this) HBW1.out.size
        have HOLT2 : Hid (∀ x, u6.ownBlock = some x → x < wr.heap.size) := own_lt HOR.out
        have hgane : vi.ownBlock ≠ some gA := fun h => by have := HOLT.out _ h; have := HZA.out; omega
        have hgbne : vi.ownBlock ≠ some gB := fun h => by have := HOLT.out _ h; have := HZB.out; omega
        have HGA2 : Hid (Row wr gA 71 [.int .i64 (kn : Nat), .slice AF X.length CF]) := (HSTR.out.2 gA HGA1.out.lt hgane).trans HGA1.out
        have HGB2 : Hid (Row wr gB 71 [.int .i64 (kn : Nat), .slice AG Y.length CG]) := (HSTR.out.2 gB HGB1.out.lt hgbne).trans HGB1.out
        have HMN2 := Lib.hid (rlMinus_P (fun _ => True) (kn : Nat) AG AF CG CF Y X wr (HYR.out wr HBwr.out) (HXR.out wr HBwr.out) (fun _ _ => trivial) (HYO.out.rs (by have := HK6.out; omega)) (HXO.out.rs (by have := HK6.out; omega)) (Nat.le_trans HYO.out.many (by decide)) (Nat.le_trans HXO.out.many (by decide)) HYO.out.ss HXO.out.ss HXC.out.1 HXC.out.2)
        have k0 : wr.cell? ⟨gA, 0, none⟩ = some (.int .i64 (kn : Nat)) := HGA2.out.cell 0
        have k1 : wr.cell? ⟨gA, 1, none⟩ = some (.slice AF X.length CF) := HGA2.out.cell 1
        have k2 := HGA2.out.lt
        have k3 : wr.cell? ⟨gB, 0, none⟩ = some (.int .i64 (kn : Nat)) := HGB2.out.cell 0
        have k4 : wr.cell? ⟨gB, 1, none⟩ = some (.slice AG Y.length CG) := HGB2.out.cell 1
        have k5 := HGB2.out.lt
        have HP2 : Hid (pre2.length ≤ 16 * 8192 + 4096) := by
          have h1 := HPL.out
          have h2 := HM1B.out
          show _ ≤ _
          rw [hpre2, List.length_append, List.length_map]
          omega
        have HPRE2 := Lib.hid hpre2
        obtain ⟨wj, hwj⟩ : ∃ W, W = wr := ⟨_, rfl⟩
        obtain ⟨vj, hvj⟩ : ∃ v, v = u6 := ⟨_, rfl⟩
        subst hwj hvj
        clear hpre2 hgane hgbne HAV HSTR HM1 HM1L HM1N HO1 HU1 HB1 HBw1 HGA1 HGB1 HGA HGB HBc HBc6 HPL
        have HPL := HP2
        go_wp2_with fail
        clear k0 k1 k2 k3 k4 k5
        refine HMN2.out.mono ?_
        rintro e w7 ⟨_, rfl, ⟨A7, C7, rfl, -, -, hs7⟩, hb7⟩
        rw [min_eq] at hs7 ⊢
        obtain ⟨DY, hDY⟩ : ∃ DY, DY = minF Y X := ⟨_, rfl⟩
        have hDYl : DY.length ≤ 4096 := by rw [hDY]; exact Nat.le_trans (List.length_filter_le _ _) HYO.out.many
        have hDYo : RsOk DY := by rw [hDY]; exact fun x hx => (HYO.out.rs (by have := HK6.out; omega)) x (List.mem_filter.1 hx).1
        rw [← hDY] at hs7 ⊢
        have HDY := Lib.hid hDY
        obtain ⟨g15, hg15⟩ : ∃ g, g = w7.heap.size := ⟨_, rfl⟩
        obtain ⟨W8, hW8⟩ : ∃ W, W = w7.alloc (.cells #[.int .i64 (kn : Nat), .slice A7 DY.length C7] 71) := ⟨_, rfl⟩
        have hx8 : Ext w7 W8 := by rw [hW8]; exact (Ext.refl w7).alloc _
        have hr8 : Row W8 g15 71 [.int .i64 (kn : Nat), .slice A7 DY.length C7] := by rw [hW8, hg15]; exact Row.new w7 71 _
        have HBj8 := Lib.hid (Below.then hb7 hx8.below hb7.size)
        have HRW2 := Lib.hid (rlRows_any (kn : Nat) A7 C7 DY W8 (hs7.sl.up hx8) hDYo (by omega))
        have k0 : W8.cell? ⟨g15, 0, none⟩ = some (.int .i64 (kn : Nat)) := hr8.cell 0
        have k1 : W8.cell? ⟨g15, 1, none⟩ = some (.slice A7 DY.length C7) := hr8.cell 1
        have k2 := hr8.lt
        have HW8 := Lib.hid hW8
        have HG15 := Lib.hid hg15
        clear hs7 hb7 hg15 hW8 hx8 hr8 hDY hDYo HMN2
        go_upto_region 15 with (fail)
        rw [← HW8.out, ← HG15.out]
        clear HW8 HG15
        go_wp2_with fail
        clear k0 k1 k2
        refine HRW2.out.mono ?_
        rintro e w9 ⟨g16, rfl, hmr, hb9⟩
        have HBj9 := Lib.hid (Below.then HBj8.out hb9 HBj8.out.size)
        have HM2 := Lib.hid hmr
        have HM2L : Hid (∀ x, vj.ownBlock = some x → x < W8.heap.size) := fun x hx => by have h1 := HOLT2.out x hx; have h2 := HBj8.out.size; omega
        have HM2N : Hid (vj.ownBlock ≠ some g16) := fun h => by have := HM2L.out _ h; have := hmr.base; omega
        have HM2B : Hid (DY.length ≤ 4096) := hDYl
        have HO2 := Lib.hid (own_keep HOR.out HBj9.out)
        have HU2 := Lib.hid (HUR.out.up HBj9.out)
        have hjB : B ≤ wj.heap.size := by have h1 := HBRR.out.size; have h2 := HBE.out; omega
        have HB2 := Lib.hid (Below.then HBRR.out HBj9.out hjB)
        obtain ⟨cs2, hcs2⟩ : ∃ c, c = cs := ⟨_, rfl⟩
        subst hcs2
        clear hb9 hmr hDYl HRW2 HOR HUR HBRR HBj8 q1
        go_wp2_with fail
        go_loopw [6, 69] (fun vo c wx => ∃ (j : Nat) (cs : List Value), j ≤ DY.length ∧ c = .int .i64 j ∧ wx.ownsRow B 61 3 vo (pre2 ++ (DY.take j).map fun x => (⟨false, nm, x⟩ : Upd)).length cs ∧ UpdN vo wx (pre2 ++ (DY.take j).map fun x => (⟨false, nm, x⟩ : Upd)) cs ∧ (∀ b, vo.ownBlock = some b → vj.ownBlock = some b ∨ w9.heap.size ≤ b) ∧ Stay (fun b => vj.ownBlock ≠ some b) w9 wx ∧ Below B W1 wx) (fun _ c _ => DY.length - (intOf c).toNat)
        case atStart => exact ⟨0, cs2, Nat.zero_le _, rfl, by rw [List.take_zero, List.map_nil, List.append_nil]; exact HO2.out, by rw [List.take_zero, List.map_nil, List.append_nil]; exact HU2.out, fun b h => .inl h, stay_self _ _, HB2.out⟩
        case round =>
          obtain ⟨j, cs, hj, rfl, ho, hu, hav, hst, hbr⟩ := hrel
          have HOR := Lib.hid ho
          have HUR := Lib.hid hu
          have HAV := Lib.hid hav
          have HSTR := Lib.hid hst
          have HBRR := Lib.hid hbr
          clear ho hu hav hst hbr
          by_cases hjl : j < DY.length
          · have hDB : DY.length ≤ 4096 := HM2B.out
            have q0 : (0 : Int) ≤ (j : Int) := by omega
            have q1 : (j : Int) < (DY.length : Int) := by omega
            have q3 : IntKind.i64.wrap ((j : Int) + 1) = ((j + 1 : Nat) : Int) := by rw [IntWalk.i64_in _ (by omega)]; omega
            obtain ⟨A', C', hc0, hsr, hfar⟩ := HM2.out.get hjl
            have hgne : vj.ownBlock ≠ some g16 := HM2N.out
            have e0 : wr.cell? ⟨g16, j, none⟩ = some (.slice A' DY[j].length C') := (World.cell?_of_block (HSTR.out.2 g16 HM2.out.lt hgne)).trans hc0
            have e1 : g16 < wr.heap.size := Nat.lt_of_lt_of_le HM2.out.lt HSTR.out.1
            have HSR : Hid (SlR wr.heap.size wr A' DY[j] ∧ (DY[j] ≠ [] → ∀ ad, A' = some ad → u6.ownBlock ≠ some ad.block)) := by
              have hne : DY[j] ≠ [] → ∀ ad, A' = some ad → vj.ownBlock ≠ some ad.block := fun h ad ha h0 => by
                have h1 := hfar h ad ha
                have h2 := HM2L.out _ h0
                omega
              refine ⟨fun hc => ?_, fun h ad ha h0 => ?_⟩
              · obtain ⟨b', o', ea, hb', hcell⟩ := hsr hc
                have hx : DY[j] ≠ [] := fun h0 => hc (by rw [h0]; rfl)
                exact ⟨b', o', ea, Nat.lt_of_lt_of_le hb' HSTR.out.1, fun i u hi => (World.cell?_of_block (HSTR.out.2 b' hb' (hne hx _ ea))).trans (hcell i u hi)⟩
              · rcases HAV.out _ h0 with h1 | h1
                · exact hne h ad ha h1
                · have := hsr.ltB h ad ha
                  omega
            have HTK : Hid ((DY.take (j + 1)).map (fun x => (⟨false, nm, x⟩ : Upd)) = (DY.take j).map (fun x => (⟨false, nm, x⟩ : Upd)) ++ [⟨false, nm, DY[j]⟩]) := by
              show _ = _
              rw [List.take_succ_eq_append_getElem hjl, List.map_append, List.map_singleton]
            have HLE : Hid ((pre2 ++ (DY.take j).map fun x => (⟨false, nm, x⟩ : Upd)).length + 1 ≤ 1000000) := by
              have h1 := HPL.out
              have h2 := HM2B.out
              show _ ≤ _
              rw [List.length_append, List.length_map, List.length_take]
              omega
            clear hc0 hsr hfar hgne hDB
            generalize DY[j] = x at *
            obtain ⟨us, hus⟩ : ∃ us, us = pre2 ++ (DY.take j).map fun x => (⟨false, nm, x⟩ : Upd) := ⟨_, rfl⟩
            have HUS := Lib.hid hus.symm
            rw [← hus] at HOR HUR HLE
            clear hus
            obtain ⟨W2, hW2⟩ : ∃ W2, W2 = wr.alloc (.cells #[.bool false, .string nm, .slice A' x.length C'] 61) := ⟨_, rfl⟩
            have hx2 : Ext wr W2 := by rw [hW2]; exact (Ext.refl wr).alloc _
            have hr2 : Row W2 wr.heap.size 61 [.bool false, .string nm, .slice A' x.length C'] := by rw [hW2]; exact Row.new wr _ _
            have HSN : Hid (Sl W2.heap.size W2 (some ⟨wr.heap.size, 0, none⟩) [.bool false, .string nm, .slice A' x.length C']) := hr2.sl
            have HO2 := Lib.hid (own_keep HOR.out hx2.below)
            have HU2 := Lib.hid ((HUR.out.up hx2.below).snoc (del := false) (nm := nm) (RC := C') ((HSR.out.1.below hx2.below (Nat.le_refl _)).more hx2.size) HSR.out.2)
            have HST2 := Lib.hid (HSTR.out.trans (Stay.of hx2.below))
            have HB2 := Lib.hid (Below.then HBRR.out hx2.below (by have h1 := HBE.out; have h2 := HBRR.out.size; omega))
            have hbz : B ≤ W2.heap.size := by have h1 := HBE.out; have h2 := HB2.out.size; omega
            have hz2 : w9.heap.size ≤ W2.heap.size := HST2.out.1
            have HW2 := Lib.hid hW2
            clear hx2 hr2 hW2 HOR HUR HSR
            go_wp2_with (first
              | (at_builtin; rw [← HW2.out]; refine appXUpd rfl (.tmp 73) (.tmp 77) rfl B u6 us.length cs rfl HO2.out (some ⟨wr.heap.size, 0, none⟩) 1 1 [.bool false, .string nm, .slice A' x.length C'] rfl rfl HSN.out (by simp [Value.oneCell']) HLE.out hbz ?_; intro v5 w5 hown hg hat)
              | fail)
            have HO5 := Lib.hid hown
            have HU5 := Lib.hid (HU2.out.grow hg hat)
            have HAV5 : Hid (∀ b, v5.ownBlock = some b → vj.ownBlock = some b ∨ w9.heap.size ≤ b) := fun b h => by
              rcases hat b h with h1 | h1
              · exact HAV.out b h1
              · right; omega
            have HST5 : Hid (Stay (fun b => vj.ownBlock ≠ some b) w9 w5) := ⟨Nat.le_trans HST2.out.1 hg.size, fun b hb hp => (hg.block b (Nat.lt_of_lt_of_le hb HST2.out.1) (fun e => by
              rcases HAV.out b e.symm with h1 | h1
              · exact hp h1
              · omega)).trans (HST2.out.2 b hb hp)⟩
            have HB5 : Hid (Below B W1 w5) := by
              have h := HB2.out.grown hg hbz (fun k hk => own_base HO2.out hk)
              exact h
            clear hown hg hat HO2 HU2 HST2 HB2 HSN HW2 e0 e1
            go_wp2_with fail
            go_roundw
            case rel =>
              refine ⟨j + 1, cs ++ [.bool false, .string nm, .slice A' x.length C'], hjl, by go_num, ?_, ?_, HAV5.out, HST5.out, HB5.out⟩
              · rw [HTK.out, ← List.append_assoc, HUS.out, List.length_append]; exact HO5.out
              · rw [HTK.out, ← List.append_assoc, HUS.out]; exact HU5.out
            case measure => simp [intOf]; omega
          · obtain rfl : j = DY.length := by omega
            have q1 : ¬ (DY.length : Int) < (DY.length : Int) := by omega
            rw [List.take_length] at HOR HUR
            rw [HPRE2.out, List.append_assoc, HDX.out, HDY.out] at HOR HUR
            have HOF : Hid (wr.ownsRow B 61 3 u6 (diffF (ns.take (k + 1)) F G).length cs) := by show World.ownsRow _ _ _ _ _ _ _; rw [HSTEP.out]; exact HOR.out
            have HUF : Hid (UpdN u6 wr (diffF (ns.take (k + 1)) F G) cs) := by show UpdN _ _ _ _; rw [HSTEP.out]; exact HUR.out
            clear HOR HUR HAV HSTR HM2 HM2L HM2N
            go_wp2_with fail
            go_roundw
            case rel => exact ⟨k + 1, cs, hkl, by go_num, HOF.out, HUF.out, HBRR.out⟩
            case measure => simp [intOf]; omega

end Go.Proofs.YtgaffbdcpkbdhaaGreat
end

section
/- Walk: snapshot.Changes; plain facts on the contents of versions. -/
namespace Go.Proofs.YtgaffbdcpkbdhaaGreat
open Go.RowKit Go.Sort Go.ChangeMaps Go.WideShapes

/-- The contents of all versions came of updates. -/
def VersC (S : Sch) (V : List Ver) : Prop := ∀ x ∈ V, ContOk S x.db
theorem VersC.db {S : Sch} {V : List Ver} (h : VersC S V) (n : Int) : ContOk S (dbV V n) := by
  unfold dbV
  cases hf : findV V n with
  | none => exact ContOk.zero
  | some x => exact h x (findV_some hf).1
theorem VersC.commit {S : Sch} {V : List Ver} {l : Int} (h : VersC S V) (hp : V.Pairwise (fun x y => x.num < y.num)) (us : List Upd) : VersC S (commitR S V l us).2.1 := by
  unfold commitR
  split
  · intro x hx
    rcases (mem_putV _ hp _).1 hx with rfl | ⟨hx, _⟩
    · exact ContOk.apply us 0 (h.db l)
    · exact h x hx
  · exact h
theorem diff_ok {S : Sch} {F G : Cont} {ns : List ByteArray} (hF : ContOk S F) (hG : ContOk S G) (hns : ∀ s ∈ ns, s ∈ S.map Prod.fst) (hsz : ∀ p ∈ S, p.1.size ≤ 9223372036854775807 ∧ p.2.length ≤ 6) : ∀ u ∈ diffF ns F G, UpdOk u := fun u hu => by
  obtain ⟨h1, h2⟩ := mem_diffF hu
  obtain ⟨p, hp, e⟩ := List.mem_map.1 (hns _ h1)
  have hc : checkF S u.rel u.row = 0 := by
    rw [← e] at h2 ⊢
    rcases h2 with h2 | h2
    · exact (hF p hp).2.2 _ h2
    · exact (hG p hp).2.2 _ h2
  obtain ⟨ks, hks, hw⟩ := checkF_zero hc
  have hr := rOk_of (n := ks.length) (by have := (hsz _ hks).2; show ks.length ≤ 1000000; have h3 : ks.length ≤ 6 := this; omega) hw
  exact ⟨by rw [← e]; exact (hsz p hp).1, hr.1, fun v hv => Nat.le_trans (hr.2 v hv) (by decide)⟩

def ChPost (S : Sch) (V : List Ver) (qa qb : Int) (w : World) (e : Ending) (w' : World) : Prop :=
  ((findV V qa = none ∨ findV V qb = none) → e = .returned (.tuple #[.slice none 0 0, .int .i64 31])) ∧
  (∀ x y, findV V qa = some x → findV V qb = some y → ∃ A C ns, e = .returned (.tuple #[.slice A (diffF ns x.db y.db).length C, .int .i64 0]) ∧ ns.Perm (S.map Prod.fst) ∧ UpdsM w'.heap.size w' A (diffF ns x.db y.db)) ∧ Below w.heap.size w w'

set_option maxHeartbeats 8000000 in
set_option maxRecDepth 100000 in
theorem snChanges_any {P : Nat → Prop} {S : Sch} {m : Value} {l qa qb : Int} {V : List Ver} {w : World} (hst : StM P S w m V) (hwa : (Lit.int .i64 qa).wf = true) (hwb : (Lit.int .i64 qb).wf = true) (hnd : (S.map Prod.fst).Nodup) (hSl : S.length ≤ 16) (hsz : ∀ p ∈ S, p.1.size ≤ 9223372036854775807) :
    Calls Tryz.prog 10 #[.agg #[m, .int .i64 l], .int .i64 qa, .int .i64 qb] w (ChPost S V qa qb w) := by
  obtain ⟨b, rfl⟩ := hst.form
  obtain ⟨W0, hW0⟩ : ∃ W0, W0 = w.alloc (.cells #[.map (some b), .int .i64 l] 35) := ⟨_, rfl⟩
  have hx0 : Ext w W0 := by rw [hW0]; exact (Ext.refl w).alloc _
  have HR0 : Hid (Row W0 w.heap.size 35 [.map (some b), .int .i64 l]) := by show Row _ _ _ _; rw [hW0]; exact Row.new w 35 _
  have HX0 := Lib.hid hx0.below
  have HST := Lib.hid (hst.up hx0.below)
  have HA := Lib.hid (snAt_all (l := l) (n := qa) HST.out hwa)
  have HWB := Lib.hid hwb
  have HND := Lib.hid hnd
  have HSZ := Lib.hid hsz
  have k0 : W0.cell? ⟨w.heap.size, 0, none⟩ = some (.map (some b)) := HR0.out.cell 0
  have k1 : W0.cell? ⟨w.heap.size, 1, none⟩ = some (.int .i64 l) := HR0.out.cell 1
  have k2 := HR0.out.lt
  have HW0 := Lib.hid hW0
  clear hst hx0 hW0 hwa hwb hnd hsz
  go_enter Tryz.func10, Tryz.ntmps10
  go_upto_region 1 with (fail)
  rw [← HW0.out]
  clear HW0
  go_wp2_with fail
  clear k0 k1 k2
  refine HA.out.mono ?_
  rintro e w1 ⟨ha0, ha1, hx1⟩
  have HX1 := Lib.hid (Below.then HX0.out hx1.below HX0.out.size)
  cases hfa : findV V qa with
  | none =>
    obtain rfl := ha0 hfa
    have HF := Lib.hid hfa
    clear ha0 ha1 hx1 hfa
    go_wp2_with fail
    exact bodyPost_ret (v := .tuple #[.slice none 0 0, .int .i64 31]) (by simp [results, Tryz.results10, go_sem]) rfl ⟨fun _ => rfl, fun x y hx _ => (by rw [HF.out] at hx; cases hx), Below.then HX1.out ((Ext.refl w1).alloc _).below HX1.out.size⟩
  | some x =>
    obtain ⟨d, rfl, hd⟩ := ha1 x hfa
    have HFA := Lib.hid hfa
    obtain ⟨g8, hg8⟩ : ∃ g, g = w1.heap.size := ⟨_, rfl⟩
    obtain ⟨W2, hW2⟩ : ∃ W, W = w1.alloc (.cells #[.map (some d)] 29) := ⟨_, rfl⟩
    have hx2 : Ext w1 W2 := by rw [hW2]; exact (Ext.refl w1).alloc _
    have HG8 : Hid (Row W2 g8 29 [.map (some d)]) := by show Row _ _ _ _; rw [hW2, hg8]; exact Row.new w1 29 _
    have hb2 := (hx1.trans hx2).below
    have HD2 := Lib.hid (hd.up hb2)
    have HX2 := Lib.hid (Below.then HX0.out hb2 HX0.out.size)
    have HR2 := Lib.hid (HR0.out.up hb2)
    have HST2 := Lib.hid (HST.out.up hb2)
    have HB := Lib.hid (snAt_all (l := l) (n := qb) HST2.out HWB.out)
    have k0 : W2.cell? ⟨w.heap.size, 0, none⟩ = some (.map (some b)) := HR2.out.cell 0
    have k1 : W2.cell? ⟨w.heap.size, 1, none⟩ = some (.int .i64 l) := HR2.out.cell 1
    have k2 := HR2.out.lt
    have HW2 := Lib.hid hW2
    have HGE := Lib.hid hg8
    clear ha0 ha1 hx1 hfa hd hg8 hW2 hx2 hb2 HA HX1
    go_upto_region 4 with (fail)
    rw [← HW2.out, ← HGE.out]
    clear HW2 HGE
    go_wp2_with fail
    clear k0 k1 k2
    refine HB.out.mono ?_
    rintro e w3 ⟨hb0, hb1, hx3⟩
    have HX3 := Lib.hid (Below.then HX2.out hx3.below HX2.out.size)
    cases hfb : findV V qb with
    | none =>
      obtain rfl := hb0 hfb
      have HF := Lib.hid hfb
      clear hb0 hb1 hx3 hfb
      go_wp2_with fail
      exact bodyPost_ret (v := .tuple #[.slice none 0 0, .int .i64 31]) (by simp [results, Tryz.results10, go_sem]) rfl ⟨fun _ => rfl, fun x y _ hy => (by rw [HF.out] at hy; cases hy), Below.then HX3.out ((Ext.refl w3).alloc _).below HX3.out.size⟩
    | some y =>
      obtain ⟨d', rfl, hd'⟩ := hb1 y hfb
      have HFB := Lib.hid hfb
      obtain ⟨g10, hg10⟩ : ∃ g, g = w3.heap.size := ⟨_, rfl⟩
      obtain ⟨W4, hW4⟩ : ∃ W, W = w3.alloc (.cells #[.map (some d')] 29) := ⟨_, rfl⟩
      have hx4 : Ext w3 W4 := by rw [hW4]; exact (Ext.refl w3).alloc _
      have HG10 : Hid (Row W4 g10 29 [.map (some d')]) := by show Row _ _ _ _; rw [hW4, hg10]; exact Row.new w3 29 _
      have hb4 := (hx3.trans hx4).below
      have HX4 := Lib.hid (Below.then HX2.out hb4 HX2.out.size)
      have HG84 := Lib.hid (HG8.out.up hb4)
      have HDF := Lib.hid (ctDiff_any W4 (HD2.out.up hb4) (hd'.up hb4) HND.out hSl HSZ.out)
      have k0 : W4.cell? ⟨g8, 0, none⟩ = some (.map (some d)) := HG84.out.cell 0
      have k1 := HG84.out.lt
      have k2 : W4.cell? ⟨g10, 0, none⟩ = some (.map (some d')) := HG10.out.cell 0
      have k3 := HG10.out.lt
      have HW4 := Lib.hid hW4
      have HGE := Lib.hid hg10
      clear hb0 hb1 hx3 hfb hd' hg10 hW4 hx4 hb4 HB HX3
      go_upto_region 7 with (fail)
      rw [← HW4.out, ← HGE.out]
      clear HW4 HGE
      go_wp2_with fail
      clear k0 k1 k2 k3
      refine HDF.out.mono ?_
      rintro e w5 ⟨A, C, ns, rfl, hp, hu, hb5⟩
      have HP := Lib.hid hp
      have HU := Lib.hid hu
      have HB5 := Lib.hid (Below.then HX4.out hb5 HX4.out.size)
      obtain ⟨U, hUE⟩ : ∃ U, U = diffF ns x.db y.db := ⟨_, rfl⟩
      rw [← hUE] at HU ⊢
      have HUE := Lib.hid hUE
      clear hp hu hb5 hUE HDF
      go_wp2_with fail
      refine bodyPost_ret (v := .tuple #[.slice A U.length C, .int .i64 0]) (by simp [results, Tryz.results10, go_sem]) rfl ⟨fun h => ?_, fun x' y' hx hy => ?_, HB5.out⟩
      · rcases h with h | h
        · rw [HFA.out] at h; cases h
        · rw [HFB.out] at h; cases h
      · rw [HFA.out] at hx
        rw [HFB.out] at hy
        cases hx
        cases hy
        exact ⟨A, C, ns, by rw [HUE.out], HP.out, by have := HU.out; rw [HUE.out] at this; exact this⟩

end Go.Proofs.YtgaffbdcpkbdhaaGreat
end

/- Parts of the proof, merged: G25, G26, G28, G31, GY4, GY5, GY6, G34, Y30. -/
import Derived.Test.YthgaflmldbgbnaaGreatDoorQ10
import Derived.Test.YthgaflmldbgbnaaGreatDoorQ6
import Derived.Test.YthgaflmldbgbnaaGreatDoorQ1
import Derived.Test.YthgaflmldbgbnaaGreatDoorQ9
import Derived.Test.YthgaflmldbgbnaaGreatDoorQ4
import Derived.Test.YthgaflmldbgbnaaGreatDoorQ5

set_option maxRecDepth 100000
namespace Go.Proofs.YthgaflmldbgbnaaGreatDoor
section
open Go.RowKit Go.Sort

theorem AtP.parts {P : Nat → Prop} {B : Nat} {w : World} {c0 c1 c2 : Value} {a : At} (h : AtP P B w (.agg #[c0, c1, c2]) a) : ∃ VA VC PA PC, c0 = .slice VA a.vs.length VC ∧ c1 = .int .i64 (a.vs.length : Nat) ∧ c2 = .slice PA a.P.length PC := by
  obtain ⟨VA, VC, PA, PC, e, _⟩ := h
  injection e with e
  have e0 : c0 = .slice VA a.vs.length VC := by have := congrArg (fun l : Array Value => l[0]?) e; simpa using this
  have e1 : c1 = .int .i64 (a.vs.length : Nat) := by have := congrArg (fun l : Array Value => l[1]?) e; simpa using this
  have e2 : c2 = .slice PA a.P.length PC := by have := congrArg (fun l : Array Value => l[2]?) e; simpa using this
  exact ⟨VA, VC, PA, PC, e0, e1, e2⟩

theorem setE {P : Nat → Prop} {R E : Nat} {w w' W5 : World} {L : List At} {q0 q1 q2 u0 u1 u2 : Value} (hw : w' = ((w.setCell ⟨E, 0, none⟩ u0).setCell ⟨E, 1, none⟩ u1).setCell ⟨E, 2, none⟩ u2) (hr : Row w E 36 [q0, q1, q2]) (hb : BlkA P R w L) (hP : ¬ P E) (hne : R ≠ E) (hc : Chg (fun b => b = R ∨ b = E) W5 w) :
    Row w' E 36 [u0, u1, u2] ∧ BlkA P R w' L ∧ Chg (fun b => b = R ∨ b = E) W5 w' ∧ w'.heap.size = w.heap.size ∧ ∀ p : Addr, p.block ≠ E → w'.cell? p = w.cell? p := by
  subst hw
  refine ⟨((hr.set 0 u0).set 1 u1).set 2 u2, ((hb.far hne hP _).far hne hP _).far hne hP _, ?_, by simp, fun p hp => ?_⟩
  · have h1 : ∀ (W : World) (i : Nat) (u : Value), Chg (fun b => b = R ∨ b = E) W5 W → Chg (fun b => b = R ∨ b = E) W5 (W.setCell ⟨E, i, none⟩ u) := fun W i u h => h.trans (Chg.set W E i u (.inr rfl))
    exact h1 _ _ _ (h1 _ _ _ (h1 _ _ _ hc))
  · have h : ∀ i, (⟨E, i, none⟩ : Addr) ≠ p := fun i e => hp (by rw [← e])
    rw [World.cell?_setCell_other _ _ _ _ (h _), World.cell?_setCell_other _ _ _ _ (h _), World.cell?_setCell_other _ _ _ _ (h _)]

set_option maxHeartbeats 16000000 in
theorem sjEvaluate_good (PA AA : Option Addr) (PC AC : Nat) (ps : List Int) (al : List At) (K : Nat) (w : World) (hA : AtsM w.heap.size w AA (al.map At.ra)) (hgd : ∀ a ∈ al, Gd a) (hm : al.length ≤ 32) (hp : SlI .i64 w.heap.size w PA ps) (h0 : errT (al.map At.ra) ps = 0) (hK : K < 4294967296)
    (X : Nat → At) (hX : X = fun i => al.getD i ⟨[], []⟩) (hT : TreeOk al ps X) (hF : Few X al.length) :
    Calls Tryz.prog 22 #[.agg #[.slice PA ps.length PC], .int .u32 (K : Nat), .slice AA al.length AC] w fun e w' =>
      (JT.dif K (orF al) ≠ 0 → e = .returned (.tuple #[zeroAt, .int .i64 22])) ∧ (JT.dif K (orF al) = 0 → ∃ v a, e = .returned (.tuple #[v, .int .i64 0]) ∧ AtV w' v a ∧ EvF X al.length (keepB K) a) ∧ Below w.heap.size w w' := by
  have hS : ∀ a ∈ al.map At.ra, Small a := fun a ha => by obtain ⟨b, hb, rfl⟩ := List.mem_map.1 ha; exact (hgd b hb).small
  have hlm : (al.map At.ra).length = al.length := List.length_map ..
  have hra : (al.map At.ra).map RA.at = al := by
    rw [List.map_map]
    conv => rhs; rw [← List.map_id al]
    exact List.map_congr_left fun a _ => At.ra_at a
  have hXF : atF (al.map At.ra) = X := by unfold atF; rw [hra, hX]
  have hpl : ps.length ≤ 1000000 := by have := hT.len; omega
  obtain ⟨W0, hW0⟩ : ∃ W0, W0 = (w.alloc (.cells #[.slice PA ps.length PC] 51)).alloc (.cells #[.slice none 0 0, .int .i64 0, .slice none 0 0] 36) := ⟨_, rfl⟩
  have hx0 : Ext w W0 := by rw [hW0]; exact ((Ext.refl w).alloc _).alloc _
  have hrt : Row W0 w.heap.size 51 [.slice PA ps.length PC] := by rw [hW0]; exact (Row.new w 51 _).alloc _
  have hr6 : Row W0 (w.heap.size + 1) 36 [.slice none 0 0, .int .i64 0, .slice none 0 0] := by
    have h := Row.new (w.alloc (.cells #[.slice PA ps.length PC] 51)) 36 [.slice none 0 0, .int .i64 0, .slice none 0 0]
    rw [World.size_alloc] at h
    rw [hW0]; exact h
  have hck := sjCheckTree_any PA AA PC AC ps (al.map At.ra) W0 (hA.upB hx0.below) (by omega) hS ((Sl.below hp hx0.below (Nat.le_refl _)).more hx0.size) hpl
  rw [hlm, h0] at hck
  have HCK := Lib.hid hck
  have HA := Lib.hid (fun W (h : Below w.heap.size w W) => hA.upB h)
  have HPS := Lib.hid (fun W (h : Below w.heap.size w W) => (Sl.below hp h (Nat.le_refl _)).more h.size)
  have HRD : Hid (∀ W, Below w.heap.size w W → Calls Tryz.prog 39 #[.agg #[.slice PA ps.length PC], .slice AA al.length AC] W fun e w' => ∃ R RC, e = .returned (.tuple #[.slice (some ⟨R, 0, none⟩) al.length RC, .int .i64 0]) ∧ W.heap.size ≤ R ∧ BlkA (fun c => c ≠ R) R w' ((List.range al.length).map fun n => ⟨(X n).vs, redF ps X n⟩) ∧ Below W.heap.size W w') := fun W h => by
    have hr := sjReduce_red PA AA PC AC ps (al.map At.ra) W (hA.upB h) hS ((Sl.below hp h (Nat.le_refl _)).more h.size) h0
    unfold RedM redL at hr
    rw [hlm, hXF] at hr
    exact hr
  have HGD := Lib.hid hgd
  have HX := Lib.hid hX
  have HT := Lib.hid hT
  have HF := Lib.hid hF
  have HX0 := Lib.hid hx0
  have HR6 := Lib.hid hr6
  have HRT := Lib.hid hrt
  have HEV := Lib.hid (ev_first hX hgd hT (keepB K))
  have HPL := Lib.hid hpl
  have hpos : Hid (0 < al.length) := hT.pos
  have q0 : W0.cell? ⟨w.heap.size, 0, none⟩ = some (.slice PA ps.length PC) := hrt.cell 0
  have q1 := hrt.lt
  clear hA hgd hp hX hT hF hx0 hr6 hrt hS hlm hra hXF h0 hpl hck
  go_enter Tryz.func22, Tryz.ntmps22
  go_upto_region 1 with (fail)
  rw [← hW0]
  clear hW0
  go_wp2_with fail
  refine HCK.out.mono ?_
  rintro e w1 ⟨rfl, hb1⟩
  have HB1 := Lib.hid (Below.then HX0.out.below hb1 HX0.out.size)
  have HB01 := Lib.hid hb1
  clear hb1 HCK q0 q1
  go_wp2_with fail
  go_loopw [9, 28] (fun va c wx => ∃ k : Nat, k ≤ al.length ∧ c = .int .i64 k ∧ va = .int .u32 (orF (al.take k) : Nat) ∧ Below w1.heap.size w1 wx) (fun _ c _ => al.length - (intOf c).toNat)
  case atStart => exact ⟨0, Nat.zero_le _, rfl, rfl, Below.refl _ _⟩
  case round =>
    obtain ⟨k, hk, rfl, rfl, hbw⟩ := hrel
    have HBW := Lib.hid hbw
    have HBA : Hid (Below w.heap.size w wr) := Below.then HB1.out hbw HB1.out.size
    have HB0 : Hid (Below W0.heap.size W0 wr) := Below.then HB01.out hbw HB01.out.size
    clear hbw
    by_cases hkl : k < al.length
    · have r0 : (0 : Int) ≤ (k : Int) := by omega
      have r1 : (k : Int) < (al.length : Int) := by omega
      have r3 : IntKind.i64.wrap ((k : Int) + 1) = ((k + 1 : Nat) : Int) := by rw [IntWalk.i64_in _ (by omega)]; omega
      obtain ⟨ab, ao, VA, VC, QA, QC, rfl, hab, a0, a1, a2, -, -, -, -, av, -⟩ := ats_at (HA.out wr HBA.out) (i := k) (by rw [List.length_map]; exact hkl)
      rw [List.getElem_map] at a0 a1 a2 av
      have HOS : Hid (orF (al.take (k + 1)) = orF (al.take k) ||| setN al[k].vs) := by show _ = _; rw [List.take_succ_eq_append_getElem hkl, orF_snoc]
      have HGK := Lib.hid (HGD.out _ (List.getElem_mem hkl))
      have HLT : Hid (orF (al.take k) < 2 ^ 32) := orF_lt fun a ha => (HGD.out a (List.mem_of_mem_take ha)).lt
      generalize al[k] = a at *
      obtain ⟨us, UP⟩ := a
      replace a0 : wr.cell? ⟨ab, ao + k * 3, none⟩ = some (.slice VA us.length VC) := by rw [a0]; unfold At.ra; simp
      replace a1 : wr.cell? ⟨ab, ao + k * 3 + 1, none⟩ = some (.int .i64 (us.length : Nat)) := a1
      replace a2 : wr.cell? ⟨ab, ao + k * 3 + 2, none⟩ = some (.slice QA UP.length QC) := a2
      have HVS : Hid (SlI .i64 wr.heap.size wr VA (us.map Int.ofNat)) := av
      have hul : us.length ≤ 32 := HGK.out.vl
      obtain ⟨M, hMe⟩ : ∃ M, M = orF (al.take k) ||| setN us := ⟨_, rfl⟩
      have hor : bits .or .u32 (orF (al.take k) : Int) (setN us : Int) = (M : Int) := by rw [hMe]; exact u32_or_nat _ _ HLT.out (setN_lt HGK.out.lt)
      rw [← hMe] at HOS
      clear hMe av
      obtain ⟨wo, hwo⟩ : ∃ wo, wo = wr := ⟨_, rfl⟩
      subst hwo
      obtain ⟨W3, hW3⟩ : ∃ W3, W3 = wo.alloc (.cells #[.slice VA us.length VC, .int .i64 (us.length : Nat), .slice QA UP.length QC] 36) := ⟨_, rfl⟩
      obtain ⟨g8, hg8⟩ : ∃ g8, g8 = wo.heap.size := ⟨_, rfl⟩
      have HX3 : Hid (Ext wo W3) := by show Ext _ _; rw [hW3]; exact (Ext.refl wo).alloc _
      have hr8 : Row W3 g8 36 [.slice VA us.length VC, .int .i64 (us.length : Nat), .slice QA UP.length QC] := by rw [hW3, hg8]; exact Row.new wo 36 _
      have HSE := Lib.hid (sjSet_any VA QA VC QC UP.length us.length us W3 ((Sl.below HVS.out HX3.out.below (Nat.le_refl _)).more HX3.out.size) (by omega) HGK.out.lt)
      have e0 : W3.cell? ⟨g8, 0, none⟩ = some (.slice VA us.length VC) := hr8.cell 0
      have e1 : W3.cell? ⟨g8, 1, none⟩ = some (.int .i64 (us.length : Nat)) := hr8.cell 1
      have e2 : W3.cell? ⟨g8, 2, none⟩ = some (.slice QA UP.length QC) := hr8.cell 2
      have e3 := hr8.lt
      have HW3E := Lib.hid hW3
      have HG8E := Lib.hid hg8
      clear hW3 hg8 hr8
      go_upto_region 8 with (fail)
      rw [← HW3E.out, ← HG8E.out]
      clear a0 a1 a2 HW3E HG8E
      go_wp2_with fail
      refine HSE.out.mono ?_
      rintro e w5 ⟨rfl, hx5⟩
      have HB5 : Hid (Below w1.heap.size w1 w5) := Below.then HBW.out (HX3.out.trans hx5).below HBW.out.size
      clear hx5 HSE e0 e1 e2 e3
      go_wp2_with fail
      go_roundw
      case rel => exact ⟨k + 1, hkl, by go_num, by rw [HOS.out], HB5.out⟩
      case measure => simp [intOf]; omega
    obtain rfl : k = al.length := by omega
    have r1 : ¬ (al.length : Int) < (al.length : Int) := by omega
    rw [List.take_length]
    obtain ⟨D, hDe⟩ : ∃ D, D = JT.dif K (orF al) := ⟨_, rfl⟩
    have hba : bits .andNot .u32 (K : Int) (orF al : Int) = (D : Int) := by rw [hDe]; exact u32_andNot_nat K _ hK (orF_lt fun a ha => (HGD.out a ha).lt)
    have HDE := Lib.hid hDe
    have HND0 : Hid (D ≠ 0 → JT.dif K (orF al) ≠ 0) := fun h => by rw [← hDe]; exact h
    clear hDe
    obtain ⟨S, hS⟩ : ∃ S, S = orF al := ⟨_, rfl⟩
    rw [← hS] at hba ⊢
    clear hS
    by_cases hD : D = 0
    rotate_left
    · have hd : ((D : Int) != 0) = true := by rw [bne_iff_ne]; omega
      have rr := HR6.out.up HB0.out
      have HRR := Lib.hid rr
      have HND : Hid (D ≠ 0) := hD
      have m3 := rr.frozen 0
      have m4 := rr.frozen 1
      have m5 := rr.frozen 2
      have m6 := rr.lt
      have m0 : wr.cell? ⟨w.heap.size + 1, 0, none⟩ = some (.slice none 0 0) := rr.cell 0
      have m1 : wr.cell? ⟨w.heap.size + 1, 1, none⟩ = some (.int .i64 0) := rr.cell 1
      have m2 : wr.cell? ⟨w.heap.size + 1, 2, none⟩ = some (.slice none 0 0) := rr.cell 2
      clear rr hD
      go_wp2_with fail
      obtain ⟨V6, hV6⟩ : ∃ V', V' = ((wr.setCell ⟨w.heap.size + 1, 0, none⟩ (.slice none 0 0)).setCell ⟨w.heap.size + 1, 1, none⟩ (.int .i64 0)).setCell ⟨w.heap.size + 1, 2, none⟩ (.slice none 0 0) := ⟨_, rfl⟩
      rw [← hV6]
      have q : Row V6 (w.heap.size + 1) 36 [.slice none 0 0, .int .i64 0, .slice none 0 0] := by rw [hV6]; exact ((HRR.out.set 0 _).set 1 _).set 2 _
      have f0 := q.cell 0
      have f1 := q.cell 1
      have f2 := q.cell 2
      exact bodyPost_ret (v := .tuple #[zeroAt, .int .i64 22]) (by simp [zeroAt, results, Tryz.results22, go_sem, f0, f1, f2]) rfl ⟨fun _ => rfl, fun h => absurd h (HND0.out HND.out), by rw [hV6]; exact ((HBA.out.setCell (by show w.heap.size ≤ w.heap.size + 1; omega) _).setCell (by show w.heap.size ≤ w.heap.size + 1; omega) _).setCell (by show w.heap.size ≤ w.heap.size + 1; omega) _⟩
    have HD0 : Hid (JT.dif K (orF al) = 0) := by show _ = _; rw [← HDE.out, hD]
    subst hD
    clear HND0 HDE
    have rt := HRT.out.up HB0.out
    have t0 : wr.cell? ⟨w.heap.size, 0, none⟩ = some (.slice PA ps.length PC) := rt.cell 0
    have t1 := rt.lt
    have HRC := Lib.hid (HRD.out wr HBA.out)
    have hd : (((0 : Nat) : Int) != 0) = false := rfl
    clear rt HRD
    go_wp2_with fail
    refine HRC.out.mono ?_
    rintro e w3 ⟨R, RC, rfl, hR, hblk, hb3⟩
    have HBK := Lib.hid hblk
    have HRZ : Hid (wr.heap.size ≤ R ∧ R < w3.heap.size ∧ W0.heap.size ≤ wr.heap.size ∧ w.heap.size + 1 < W0.heap.size) := ⟨hR, hblk.lt, HB0.out.size, HR6.out.lt⟩
    have HB3 : Hid (Below w.heap.size w w3) := Below.then HBA.out hb3 HBA.out.size
    have HB03 : Hid (Below W0.heap.size W0 w3) := Below.then HB0.out hb3 HB0.out.size
    have rt := HRT.out.up HB03.out
    have t0 : w3.cell? ⟨w.heap.size, 0, none⟩ = some (.slice PA ps.length PC) := rt.cell 0
    have t1 := rt.lt
    have HJO := Lib.hid (jtOrder_own PA PC ps w3 (HPS.out w3 HB3.out) HPL.out HT.out.root)
    clear hblk hR hb3 rt HRC hba
    obtain ⟨O, hO⟩ : ∃ O, O = JT.orderF ps := ⟨_, rfl⟩
    rw [← hO] at HJO HEV
    have HOE := Lib.hid hO
    have HOL : Hid (O.length ≤ 32 ∧ 0 < O.length ∧ ∀ c ∈ O, c < al.length) := by
      rw [hO]
      have h1 := (JT.orderF_is ps).1.length
      have h2 := HT.out.len
      exact ⟨by omega, List.length_pos_of_mem ((HT.out.mem 0).2 hpos.out), fun c hc => (HT.out.mem c).1 hc⟩
    clear hO
    go_wp2_with fail
    refine HJO.out.mono ?_
    rintro e w4 ⟨vo, rfl, hown, hb4⟩
    obtain ⟨g, cap, rfl, -, hgl, -⟩ := own_form hown HOL.out.2.1
    have hgb : w3.heap.size ≤ g := own_base hown rfl
    have HOC : Hid (∀ i (hi : i < O.length), w4.cell? ⟨g, 0 + i, none⟩ = some (.int .i64 (O[i] : Nat))) := fun i hi => by
      rw [Nat.zero_add, own_cell27 hown (j := i) (by simp only [natV, List.length_map]; exact hi)]
      simp [natV]
    have HB4 : Hid (Below w.heap.size w w4) := Below.then HB3.out hb4 HB3.out.size
    have HB04 : Hid (Below W0.heap.size W0 w4) := Below.then HB03.out hb4 HB03.out.size
    obtain ⟨W5, hW5⟩ : ∃ W5, W5 = w4.alloc (.cells #[.slice none 0 0, .int .i64 0, .slice none 0 0] 36) := ⟨_, rfl⟩
    obtain ⟨E, hE⟩ : ∃ E, E = w4.heap.size := ⟨_, rfl⟩
    have hx5 : Ext w4 W5 := by rw [hW5]; exact (Ext.refl w4).alloc _
    have HZ : Hid (wr.heap.size ≤ R ∧ R < w3.heap.size ∧ W0.heap.size ≤ wr.heap.size ∧ w.heap.size + 1 < W0.heap.size ∧ w3.heap.size ≤ g ∧ g < E ∧ E = w4.heap.size ∧ W5.heap.size = E + 1) := ⟨HRZ.out.1, HRZ.out.2.1, HRZ.out.2.2.1, HRZ.out.2.2.2, hgb, by rw [hE]; exact hgl, hE, by rw [hW5, hE]; simp⟩
    have HRE : Hid (Row W5 E 36 [.slice none 0 0, .int .i64 0, .slice none 0 0]) := by show Row _ _ _ _; rw [hW5, hE]; exact Row.new w4 36 _
    have HB5 : Hid (Below W0.heap.size W0 W5) := Below.then HB04.out hx5.below HB04.out.size
    have HB5w : Hid (Below w.heap.size w W5) := Below.then HB4.out hx5.below HB4.out.size
    obtain ⟨PP, hPP⟩ : ∃ PP : Nat → Prop, PP = fun c => c ≠ R ∧ c ≠ E := ⟨_, rfl⟩
    have HPN : Hid (¬ PP R ∧ ¬ PP E) := by rw [hPP]; exact ⟨fun h => h.1 rfl, fun h => h.2 rfl⟩
    have HPO : Hid (∀ c, E < c → PP c) := fun c hc => by
      rw [hPP]
      have := HZ.out
      refine ⟨?_, ?_⟩ <;> omega
    have HBK5 : Hid (BlkA PP R W5 ((List.range al.length).map fun n => ⟨(X n).vs, redF ps X n⟩)) := by
      have hz := HZ.out
      exact (HBK.out.weak (P' := PP) fun b hb hn => by rw [hPP]; exact ⟨hn, by omega⟩).keep (Below.then hb4 hx5.below hb4.size)
    have HOC5 : Hid (∀ i (hi : i < O.length), W5.cell? ⟨g, 0 + i, none⟩ = some (.int .i64 (O[i] : Nat))) := fun i hi => (hx5.cell hgl).trans (HOC.out i hi)
    have HW5E := Lib.hid hW5
    have HEE := Lib.hid hE
    clear hPP hb4 hown hgl hgb hW5 hE hx5 HOC HJO t0 t1 HRZ HBK
    go_upto_region 19 with (fail)
    rw [← HW5E.out, ← HEE.out]
    clear HW5E HEE
    go_wp2_with fail
    go_loopw [63] (fun c wx => ∃ (j : Nat) (J : Nat → At) (b : At) (q0 q1 q2 : Value), j ≤ O.length ∧ c = .int .i64 j ∧ BlkA PP R wx ((List.range al.length).map J) ∧ Chg (fun b => b = R ∨ b = E) W5 wx ∧ Row wx E 36 [q0, q1, q2] ∧ (j < O.length → EvN X al.length (keepB K) (O.drop j) J) ∧ (j = O.length → EvF X al.length (keepB K) b ∧ AtP (fun c => E < c) wx.heap.size wx (.agg #[q0, q1, q2]) b)) (fun c _ => O.length - (intOf c).toNat)
    case atStart => exact ⟨0, _, ⟨[], []⟩, _, _, _, Nat.zero_le _, rfl, HBK5.out, Chg.refl _ _, HRE.out, fun _ => HEV.out, fun h => absurd h (by have := HOL.out.2.1; omega)⟩
    case round =>
      obtain ⟨j, J, b, q0, q1, q2, hj, rfl, hblk, hch, hre, hev, hend⟩ := hrel
      have HBJ := Lib.hid hblk
      have HCH := Lib.hid hch
      have HREj := Lib.hid hre
      have HB0j : Hid (Below W0.heap.size W0 wr) := HB5.out.trans (hch.below (by have := HZ.out; omega) fun k hk => by have := HZ.out; rcases hk with rfl | rfl <;> omega)
      have HBwj : Hid (Below w.heap.size w wr) := Below.then HX0.out.below HB0j.out HX0.out.size
      have HSZ : Hid (W5.heap.size ≤ wr.heap.size) := hch.size
      by_cases hjl : j < O.length
      rotate_left
      · obtain rfl : j = O.length := by omega
        have s1 : ¬ (O.length : Int) < (O.length : Int) := by omega
        obtain ⟨hev', hat⟩ := hend rfl
        obtain ⟨VA, VC, QA, QC, rfl, rfl, rfl⟩ := hat.parts
        have HAT := Lib.hid hat
        have HEF := Lib.hid hev'
        have rr := HR6.out.up HB0j.out
        have HRR := Lib.hid rr
        have e0 : wr.cell? ⟨E, 0, none⟩ = some (.slice VA b.vs.length VC) := hre.cell 0
        have e1 : wr.cell? ⟨E, 1, none⟩ = some (.int .i64 (b.vs.length : Nat)) := hre.cell 1
        have e2 : wr.cell? ⟨E, 2, none⟩ = some (.slice QA b.P.length QC) := hre.cell 2
        have e3 := hre.lt
        have m3 := rr.frozen 0
        have m4 := rr.frozen 1
        have m5 := rr.frozen 2
        have m6 := rr.lt
        have m0 : wr.cell? ⟨w.heap.size + 1, 0, none⟩ = some (.slice none 0 0) := rr.cell 0
        have m1 : wr.cell? ⟨w.heap.size + 1, 1, none⟩ = some (.int .i64 0) := rr.cell 1
        have m2 : wr.cell? ⟨w.heap.size + 1, 2, none⟩ = some (.slice none 0 0) := rr.cell 2
        have HEZ : Hid (w.heap.size + 1 < E) := by have := HZ.out; show _ < _; omega
        clear rr hat hev' hend hev hre hch hblk hjl
        go_wp2_with fail
        obtain ⟨V6, hV6⟩ : ∃ V', V' = ((wr.setCell ⟨w.heap.size + 1, 0, none⟩ (.slice VA b.vs.length VC)).setCell ⟨w.heap.size + 1, 1, none⟩ (.int .i64 (b.vs.length : Nat))).setCell ⟨w.heap.size + 1, 2, none⟩ (.slice QA b.P.length QC) := ⟨_, rfl⟩
        rw [← hV6]
        have q : Row V6 (w.heap.size + 1) 36 [.slice VA b.vs.length VC, .int .i64 (b.vs.length : Nat), .slice QA b.P.length QC] := by rw [hV6]; exact ((HRR.out.set 0 _).set 1 _).set 2 _
        have f0 := q.cell 0
        have f1 := q.cell 1
        have f2 := q.cell 2
        refine bodyPost_ret (v := .tuple #[.agg #[.slice VA b.vs.length VC, .int .i64 (b.vs.length : Nat), .slice QA b.P.length QC], .int .i64 0]) (by simp [results, Tryz.results22, go_sem, f0, f1, f2]) rfl ⟨fun h => absurd HD0.out h, fun _ => ⟨_, rfl, b, ?_, HEF.out⟩, by rw [hV6]; exact ((HBwj.out.setCell (by show w.heap.size ≤ w.heap.size + 1; omega) _).setCell (by show w.heap.size ≤ w.heap.size + 1; omega) _).setCell (by show w.heap.size ≤ w.heap.size + 1; omega) _⟩
        refine AtP.v (P := fun c => E < c) (HAT.out.keep (fun p _ hp => ?_) (by rw [hV6]; simp) fun _ _ h => h)
        have hne : ∀ j, (⟨w.heap.size + 1, j, none⟩ : Addr) ≠ p := fun j e => by rw [← e] at hp; have := HEZ.out; simp only at hp; omega
        rw [hV6, World.cell?_setCell_other _ _ _ _ (hne _), World.cell?_setCell_other _ _ _ _ (hne _), World.cell?_setCell_other _ _ _ _ (hne _)]
      have s0 : (0 : Int) ≤ (j : Int) := by omega
      have s1 : (j : Int) < (O.length : Int) := by omega
      have s3 : IntKind.i64.wrap ((j : Int) + 1) = ((j + 1 : Nat) : Int) := by have := HOL.out.1; rw [IntWalk.i64_in _ (by omega)]; omega
      obtain ⟨hgc, hcase⟩ := ev_round HT.out HF.out HOE.out hjl (hev hjl)
      have hcm := HOL.out.2.2 _ (List.getElem_mem hjl)
      have hgE : g < E := HZ.out.2.2.2.2.2.1
      have hgw : g < wr.heap.size := by have := HZ.out; have := HSZ.out; omega
      have oc : wr.cell? ⟨g, j, none⟩ = some (.int .i64 (O[j] : Nat)) := (HCH.out.cell (p := ⟨g, j, none⟩) (by show g < W5.heap.size; have := HZ.out; omega) (fun h => by have := HZ.out; rcases h with h | h <;> (simp only at h; omega))).trans (by have := HOC5.out j hjl; rw [Nat.zero_add] at this; exact this)
      have HCA := Lib.hid hcase
      have HGC := Lib.hid hgc
      clear hcase hgc hev hend
      generalize O[j] = c at *
      have hcl : c < ps.length := by rw [HT.out.len]; exact hcm
      obtain ⟨pb, po, hpa, hpb, pc⟩ := slI_at (HPS.out w (Below.refl _ _)) hcl
      have hpe : ps[c] = JT.par ps c := by unfold JT.par; simp [hcl]
      rw [hpe] at pc
      subst hpa
      replace pc := (HBwj.out.cell (p := ⟨pb, po + c, none⟩) hpb).trans pc
      have hpb2 : pb < wr.heap.size := Nat.lt_of_lt_of_le hpb HBwj.out.size
      have rt := HRT.out.up HB0j.out
      have t0 : wr.cell? ⟨w.heap.size, 0, none⟩ = some (.slice (some ⟨pb, po, none⟩) ps.length PC) := rt.cell 0
      have t1 := rt.lt
      have v0 : (0 : Int) ≤ (c : Int) := by omega
      have v1 : (c : Int) < (ps.length : Int) := by omega
      have v2 : (c : Int) < (al.length : Int) := by omega
      obtain ⟨VA, VC, QA, QC, p0, p1, p2, hap⟩ := HBJ.out.at_ (map_at hcm)
      have hRz := HBJ.out.lt
      have HAPV : Hid (AtV wr _ (J c)) := hap.v
      have HGCL : Hid (∀ v ∈ (J c).vs, v < 32) := HGC.out.lt
      clear hpe hcl rt hap hpb hre hch hblk
      by_cases hneg : JT.par ps c < 0
      · obtain ⟨hjn, hef⟩ : j + 1 = O.length ∧ EvF X al.length (keepB K) (projA (J c) (keepB K)) := by
          rcases HCA.out with ⟨-, h1, h2⟩ | ⟨p, h1, -⟩
          · exact ⟨h1, h2⟩
          · omega
        have HEF := Lib.hid hef
        have HJN := Lib.hid hjn
        have hpj := sjProject_ok _ (J c) K (bitsL K) wr HAPV.out HGC.out hK fun v hv => bit_if (keep_bit (HGCL.out v hv))
        rw [show (fun v => decide (v ∈ bitsL K)) = keepB K from rfl] at hpj
        have HPJ := Lib.hid hpj
        clear hpj
        have hd : decide (JT.par ps c < 0) = true := decide_eq_true hneg
        clear hef hjn HCA
        generalize JT.par ps c = pp at *
        go_wp2_with fail
        refine HPJ.out.mono ?_
        rintro e V1 ⟨v1, rfl, hat, hb⟩
        obtain ⟨d0, d1, d2, rfl⟩ := hat.one
        obtain ⟨SA, SC, TA, TC, rfl, rfl, rfl⟩ := hat.parts
        have HAT := Lib.hid hat
        have HBV := Lib.hid hb
        have HREV := Lib.hid (HREj.out.up hb)
        have HBKV := Lib.hid (HBJ.out.keep hb)
        have m3 := HREV.out.frozen 0
        have m4 := HREV.out.frozen 1
        have m5 := HREV.out.frozen 2
        have m6 := HREV.out.lt
        have m0 : V1.cell? ⟨E, 0, none⟩ = some q0 := HREV.out.cell 0
        have m1 : V1.cell? ⟨E, 1, none⟩ = some q1 := HREV.out.cell 1
        have m2 : V1.cell? ⟨E, 2, none⟩ = some q2 := HREV.out.cell 2
        clear hat hb HPJ
        go_wp2_with fail
        obtain ⟨V7, hV7⟩ : ∃ V', V' = ((V1.setCell ⟨E, 0, none⟩ (.slice SA (projA (J c) (keepB K)).vs.length SC)).setCell ⟨E, 1, none⟩ (.int .i64 ((projA (J c) (keepB K)).vs.length : Nat))).setCell ⟨E, 2, none⟩ (.slice TA (projA (J c) (keepB K)).P.length TC) := ⟨_, rfl⟩
        have hzz := HZ.out
        have hwz := HSZ.out
        have hst := setE hV7 HREV.out HBKV.out HPN.out.2 (by omega) (HCH.out.then (Chg.of_below (F := fun b => b = R ∨ b = E) HBV.out fun k h1 h2 => absurd h1 (by omega)) fun _ _ h => h)
        have HST := Lib.hid hst
        rw [← hV7]
        have HAT7 : Hid (AtP (fun c => E < c) V7.heap.size V7 (.agg #[.slice SA (projA (J c) (keepB K)).vs.length SC, .int .i64 ((projA (J c) (keepB K)).vs.length : Nat), .slice TA (projA (J c) (keepB K)).P.length TC]) (projA (J c) (keepB K))) := by
          refine HAT.out.keep (fun p _ hp => hst.2.2.2.2 p (by have hp' : wr.heap.size + 2 ≤ p.block := hp; omega)) (by rw [hst.2.2.2.1]; exact Nat.le_refl _) fun b _ hb => ?_
          have hb' : wr.heap.size + 2 ≤ b := hb
          show E < b
          omega
        clear hV7 hzz hwz hst
        go_roundw
        case rel => exact ⟨j + 1, J, projA (J c) (keepB K), _, _, _, by omega, by go_num, HST.out.2.1, HST.out.2.2.1, HST.out.1, fun h => absurd h (by have := HJN.out; omega), fun _ => ⟨HEF.out, HAT7.out⟩⟩
        case measure => simp [intOf]; omega
      obtain ⟨p, hpar, hpm, hjn, hgp, hlen, hev'⟩ : ∃ p : Nat, JT.par ps c = (p : Int) ∧ p < al.length ∧ j + 1 < O.length ∧ Gd (J p) ∧ (joinL (uniV (J p).vs (handA X (keepB K) J c p).vs) (J p) (handA X (keepB K) J c p)).length ≤ 60000 ∧ EvN X al.length (keepB K) (O.drop (j + 1)) (evJ X (keepB K) J c p) := by
        rcases HCA.out with ⟨h1, -⟩ | h
        · exact absurd h1 hneg
        · exact h
      have HHA := Lib.hid (keep_fun K (X p).vs)
      have hXp : X p = al[p] := by rw [HX.out]; simp [hpm]
      obtain ⟨ab, ao, UA, UC, YA, YC, rfl, hab, a0, a1, a2, -, -, -, -, av, -⟩ := ats_at (HA.out wr HBwj.out) (i := p) (by rw [List.length_map]; exact hpm)
      rw [List.getElem_map] at a0 a1 a2 av
      have HGX := Lib.hid (HGD.out _ (List.getElem_mem hpm))
      rw [← hXp] at a0 a1 a2 av HGX
      have HEVN := Lib.hid hev'
      have HGP := Lib.hid hgp
      have HLEN := Lib.hid hlen
      have HHF : Hid (handA X (keepB K) J c p = projA (J c) fun v => decide (v ∈ bitsL K ++ (X p).vs)) := by show _ = _; rw [HHA.out]; rfl
      have HEJ : Hid (evJ X (keepB K) J c p = fun n => if n = p then joinA (uniV (J p).vs (handA X (keepB K) J c p).vs) (J p) (handA X (keepB K) J c p) else J n) := rfl
      obtain ⟨H, hH⟩ : ∃ H, H = handA X (keepB K) J c p := ⟨_, rfl⟩
      rw [← hH] at HHF HLEN HEJ
      have HGH : Hid (Gd H) := by show Gd _; rw [hH]; exact HGC.out.proj _
      clear hH hXp hev' hgp hlen HHA HCA hneg
      obtain ⟨XJ, hXJ⟩ : ∃ XJ, XJ = evJ X (keepB K) J c p := ⟨_, rfl⟩
      rw [← hXJ] at HEJ HEVN
      clear hXJ
      generalize X p = xp at *
      obtain ⟨us, UP⟩ := xp
      replace a0 : wr.cell? ⟨ab, ao + p * 3, none⟩ = some (.slice UA us.length UC) := by rw [a0]; unfold At.ra; simp
      replace a1 : wr.cell? ⟨ab, ao + p * 3 + 1, none⟩ = some (.int .i64 (us.length : Nat)) := a1
      replace a2 : wr.cell? ⟨ab, ao + p * 3 + 2, none⟩ = some (.slice YA UP.length YC) := a2
      have HVS : Hid (SlI .i64 wr.heap.size wr UA (us.map Int.ofNat)) := av
      have hul : us.length ≤ 32 := HGX.out.vl
      have hul3 : ∀ v ∈ us, v < 32 := HGX.out.lt
      obtain ⟨M, hMe⟩ : ∃ M, M = K ||| setN us := ⟨_, rfl⟩
      have hor : bits .or .u32 (K : Int) (setN us : Int) = (M : Int) := by rw [hMe]; exact u32_or_nat _ _ hK (setN_lt hul3)
      have hM : M < 4294967296 := by rw [hMe]; exact Nat.or_lt_two_pow (n := 32) hK (setN_lt hul3)
      have HSE := Lib.hid (sjSet_any UA YA UC YC UP.length us.length us wr.drew (show SlI .i64 wr.drew.heap.size wr.drew UA _ from HVS.out) (by omega) hul3)
      have HPJ : Hid (∀ V, Below wr.heap.size wr V → Calls Tryz.prog 44 #[.agg #[.slice VA (J c).vs.length VC, .int .i64 ((J c).vs.length : Nat), .slice QA (J c).P.length QC], .int .u32 (M : Nat)] V fun e w' => ∃ v, e = .returned (.tuple #[v, .int .i64 0]) ∧ AtP (fun c => V.heap.size + 2 ≤ c) w'.heap.size w' v H ∧ Below V.heap.size V w') := fun V hb => by
        rw [HHF.out]
        exact sjProject_ok _ (J c) M (bitsL K ++ us) V (HAPV.out.up hb) HGC.out hM fun v hv => bit_if (by rw [hMe]; exact keep_or (HGCL.out v hv))
      have hd : decide ((p : Int) < 0) = false := decide_eq_false (by omega)
      rw [hpar] at pc
      have p5 : (0 : Int) ≤ (p : Int) := by omega
      have p6 : (p : Int) < (al.length : Int) := by omega
      clear hMe av hpar hul3
      go_upto_region 25 with (fail)
      refine regionS (S := (fun w' => (w'.cell? ⟨R, c * 3, none⟩ = some (.slice VA (J c).vs.length VC) ∧ w'.cell? ⟨R, c * 3 + 1, none⟩ = some (.int .i64 ((J c).vs.length : Nat)) ∧ w'.cell? ⟨R, c * 3 + 2, none⟩ = some (.slice QA (J c).P.length QC)) ∧ w'.cell? ⟨ab, ao + p * 3, none⟩ = some (.slice UA us.length UC) ∧ w'.cell? ⟨ab, ao + p * 3 + 1, none⟩ = some (.int .i64 (us.length : Nat)) ∧ w'.cell? ⟨ab, ao + p * 3 + 2, none⟩ = some (.slice YA UP.length YC))) [15, 16] (by kernel_rfl) ⟨⟨p0, p1, p2⟩, a0, a1, a2⟩ (fun hHeld => ?_)
      refine takeS (i := 0) (v := ?_) (some 84) rfl rfl (by kernel_rfl) (by decide) (by kernel_rfl) (by kernel_rfl) (by kernel_rfl) (by kernel_rfl) (fun _ _ _ h => h) (Or.inl ⟨by rfl, ?_⟩) (by assumption) ?_
      rotate_left 1
      · (intro w0 hSw; (try dsimp only at hSw); go_simp; try (with_reducible rfl))
      try simp only [Act.put, List.setIfInBounds_toArray, List.set_cons_succ, List.set_cons_zero]
      refine takeS (i := 1) (v := ?_) (some 85) rfl rfl (by kernel_rfl) (by decide) (by kernel_rfl) (by kernel_rfl) (by kernel_rfl) (by kernel_rfl) (fun _ _ _ h => h) (Or.inl ⟨by rfl, ?_⟩) (by assumption) ?_
      rotate_left 1
      · (intro w0 hSw; (try dsimp only at hSw); go_simp; try (with_reducible rfl))
      try simp only [Act.put, List.setIfInBounds_toArray, List.set_cons_succ, List.set_cons_zero]
      refine takeS (i := 2) (v := ?_) (some 86) rfl rfl (by kernel_rfl) (by decide) (by kernel_rfl) (by kernel_rfl) (by kernel_rfl) (by kernel_rfl) (fun _ _ _ h => h) (Or.inl ⟨by rfl, ?_⟩) (by assumption) ?_
      rotate_left 1
      · (intro w0 hSw; (try dsimp only at hSw); go_simp; try (with_reducible rfl))
      try simp only [Act.put, List.setIfInBounds_toArray, List.set_cons_succ, List.set_cons_zero]
      refine takeS (i := 3) (v := ?_) (some 87) rfl rfl (by kernel_rfl) (by decide) (by kernel_rfl) (by kernel_rfl) (by kernel_rfl) (by kernel_rfl) (fun _ _ _ h => h) (Or.inl ⟨by rfl, ?_⟩) (by assumption) ?_
      rotate_left 1
      · (intro w0 hSw; (try dsimp only at hSw); go_simp; try (with_reducible rfl))
      try simp only [Act.put, List.setIfInBounds_toArray, List.set_cons_succ, List.set_cons_zero]
      refine takeS (i := 4) (v := ?_) (some 88) rfl rfl (by kernel_rfl) (by decide) (by kernel_rfl) (by kernel_rfl) (by kernel_rfl) (by kernel_rfl) (fun _ _ _ h => h) (Or.inl ⟨by rfl, ?_⟩) (by assumption) ?_
      rotate_left 1
      · (intro w0 hSw; (try dsimp only at hSw); go_simp; try (with_reducible rfl))
      try simp only [Act.put, List.setIfInBounds_toArray, List.set_cons_succ, List.set_cons_zero]
      refine takeS (i := 5) (v := ?_) (some 89) rfl rfl (by kernel_rfl) (by decide) (by kernel_rfl) (by kernel_rfl) (by kernel_rfl) (by kernel_rfl) (fun _ _ _ h => h) (Or.inl ⟨by rfl, ?_⟩) (by assumption) ?_
      rotate_left 1
      · (intro w0 hSw; (try dsimp only at hSw); go_simp; try (with_reducible rfl))
      try simp only [Act.put, List.setIfInBounds_toArray, List.set_cons_succ, List.set_cons_zero]
      refine takeS (i := 6) (v := ?_) (some 90) rfl rfl (by kernel_rfl) (by decide) (by kernel_rfl) (by kernel_rfl) (by kernel_rfl) (by kernel_rfl) (fun _ _ _ h => h) (Or.inl ⟨by rfl, ?_⟩) (by assumption) ?_
      rotate_left 1
      · (intro w0 hSw; (try dsimp only at hSw); go_simp; try (with_reducible rfl))
      try simp only [Act.put, List.setIfInBounds_toArray, List.set_cons_succ, List.set_cons_zero]
      refine takeS (i := 7) (v := ?_) (some 91) rfl rfl (by kernel_rfl) (by decide) (by kernel_rfl) (by kernel_rfl) (by kernel_rfl) (by kernel_rfl) (fun _ _ _ h => h) (Or.inl ⟨by rfl, ?_⟩) (by assumption) ?_
      rotate_left 1
      · (intro w0 hSw; (try dsimp only at hSw); go_simp; try (with_reducible rfl))
      try simp only [Act.put, List.setIfInBounds_toArray, List.set_cons_succ, List.set_cons_zero]
      refine takeS (i := 8) (v := ?_) (some 92) rfl rfl (by kernel_rfl) (by decide) (by kernel_rfl) (by kernel_rfl) (by kernel_rfl) (by kernel_rfl) (fun _ _ _ h => h) (Or.inl ⟨by rfl, ?_⟩) (by assumption) ?_
      rotate_left 1
      · (intro w0 hSw; (try dsimp only at hSw); go_simp; try (with_reducible rfl))
      try simp only [Act.put, List.setIfInBounds_toArray, List.set_cons_succ, List.set_cons_zero]
      refine oneS (i := 9) (by kernel_rfl) rfl (fun K hK => ?_)
      go_simp
      refine HSE.out.mono ?_
      rintro e V1 ⟨rfl, hx⟩
      have hbv : Below wr.heap.size wr V1 := Below.undrew hx.below
      have HV1 := Lib.hid hbv
      have hv := fun (p : Addr) (hp : p.block < wr.heap.size) => hbv.cell (p := p) hp
      have KEEP := (⟨⟨(hv ⟨R, c * 3, none⟩ hRz).trans p0, (hv ⟨R, c * 3 + 1, none⟩ hRz).trans p1, (hv ⟨R, c * 3 + 2, none⟩ hRz).trans p2⟩, (hv ⟨ab, ao + p * 3, none⟩ hab).trans a0, (hv ⟨ab, ao + p * 3 + 1, none⟩ hab).trans a1, (hv ⟨ab, ao + p * 3 + 2, none⟩ hab).trans a2⟩ : (_ ∧ _ ∧ _) ∧ _ ∧ _ ∧ _)
      clear hbv hv hx
      go_wp2_with fail
      refine hK.out _ _ KEEP (fun hHeld => ?_)
      clear hK K
      try simp only [Act.put, List.setIfInBounds_toArray, List.set_cons_succ, List.set_cons_zero]
      refine takeS (i := 10) (v := ?_) (some 94) rfl rfl (by kernel_rfl) (by decide) (by kernel_rfl) (by kernel_rfl) (by kernel_rfl) (by kernel_rfl) (fun _ _ _ h => h) (Or.inl ⟨by rfl, ?_⟩) (by assumption) ?_
      rotate_left 1
      · (intro w0 hSw; (try dsimp only at hSw); go_simp; try (with_reducible rfl))
      try simp only [Act.put, List.setIfInBounds_toArray, List.set_cons_succ, List.set_cons_zero]
      refine oneS (i := 11) (by kernel_rfl) rfl (fun K hK => ?_)
      go_simp
      refine (HPJ.out V1 HV1.out).mono ?_
      rintro e V2 ⟨v1, rfl, hat, hb⟩
      obtain ⟨d0, d1, d2, rfl⟩ := hat.one
      obtain ⟨SA, SC, TA, TC, rfl, rfl, rfl⟩ := hat.parts
      have HAT := Lib.hid hat
      have HBV : Hid (Below wr.heap.size wr V2) := Below.then HV1.out hb HV1.out.size
      have HVZ : Hid (wr.heap.size ≤ V1.heap.size) := HV1.out.size
      have hv := fun (p : Addr) (hp : p.block < wr.heap.size) => HBV.out.cell (p := p) hp
      have KEEP2 := (⟨⟨(hv ⟨R, c * 3, none⟩ hRz).trans p0, (hv ⟨R, c * 3 + 1, none⟩ hRz).trans p1, (hv ⟨R, c * 3 + 2, none⟩ hRz).trans p2⟩, (hv ⟨ab, ao + p * 3, none⟩ hab).trans a0, (hv ⟨ab, ao + p * 3 + 1, none⟩ hab).trans a1, (hv ⟨ab, ao + p * 3 + 2, none⟩ hab).trans a2⟩ : (_ ∧ _ ∧ _) ∧ _ ∧ _ ∧ _)
      have HREV := Lib.hid (HREj.out.up HBV.out)
      have HBKV := Lib.hid (HBJ.out.keep HBV.out)
      have m3 := HREV.out.frozen 0
      have m4 := HREV.out.frozen 1
      have m5 := HREV.out.frozen 2
      have m6 := HREV.out.lt
      have m0 : V2.cell? ⟨E, 0, none⟩ = some q0 := HREV.out.cell 0
      have m1 : V2.cell? ⟨E, 1, none⟩ = some q1 := HREV.out.cell 1
      have m2 : V2.cell? ⟨E, 2, none⟩ = some q2 := HREV.out.cell 2
      clear hat hb hv
      go_wp2_with fail
      refine hK.out _ _ KEEP2 (fun hHeld => ?_)
      clear hK K
      try simp only [Act.put, List.setIfInBounds_toArray, List.set_cons_succ, List.set_cons_zero]
      refine takeFree (i := 12) (v := ?_) (some 83) rfl rfl (by kernel_rfl) (by kernel_rfl) (by kernel_rfl) (fun _ _ _ h => h) (Or.inl ⟨by rfl, ?_⟩) ?_
      rotate_left 1
      · (intro w0 hSw; (try dsimp only at hSw); go_simp; try (with_reducible rfl))
      try simp only [Act.put, List.setIfInBounds_toArray, List.set_cons_succ, List.set_cons_zero]
      refine takeFree (i := 13) (v := ?_) (some 96) rfl rfl (by kernel_rfl) (by kernel_rfl) (by kernel_rfl) (fun _ _ _ h => h) (Or.inl ⟨by rfl, ?_⟩) ?_
      rotate_left 1
      · (intro w0 hSw; (try dsimp only at hSw); go_simp; try (with_reducible rfl))
      try simp only [Act.put, List.setIfInBounds_toArray, List.set_cons_succ, List.set_cons_zero]
      refine takeFree (i := 14) (v := ?_) (some 97) rfl rfl (by kernel_rfl) (by kernel_rfl) (by kernel_rfl) (fun _ _ _ h => h) (Or.inl ⟨by rfl, ?_⟩) ?_
      rotate_left 1
      · (intro w0 hSw; (try dsimp only at hSw); go_simp; try (with_reducible rfl))
      try simp only [Act.put, List.setIfInBounds_toArray, List.set_cons_succ, List.set_cons_zero]
      refine oneL (i := 15) (by kernel_rfl) rfl (by decide) (fun K hK => ?_)
      go_simp
      go_wp2_with fail
      refine hK.out _ _ ?_
      clear hK K
      try simp only [Act.put, List.setIfInBounds_toArray, List.set_cons_succ, List.set_cons_zero]
      refine oneL (i := 16) (by kernel_rfl) rfl (by decide) (fun K hK => ?_)
      go_simp
      go_wp2_with fail
      refine hK.out _ _ ?_
      clear hK K
      try simp only [Act.put, List.setIfInBounds_toArray, List.set_cons_succ, List.set_cons_zero]
      refine doneS (by kernel_rfl) ?_ _
      obtain ⟨V7, hV7⟩ : ∃ V', V' = ((V2.setCell ⟨E, 0, none⟩ (.slice SA H.vs.length SC)).setCell ⟨E, 1, none⟩ (.int .i64 (H.vs.length : Nat))).setCell ⟨E, 2, none⟩ (.slice TA H.P.length TC) := ⟨_, rfl⟩
      rw [← hV7]
      have hzz := HZ.out
      have hwz := HSZ.out
      have hst := setE hV7 HREV.out HBKV.out HPN.out.2 (by omega) (HCH.out.then (Chg.of_below (F := fun b => b = R ∨ b = E) HBV.out fun k h1 h2 => absurd h1 (by omega)) fun _ _ h => h)
      have HAT7 : Hid (AtV V7 (.agg #[.slice SA H.vs.length SC, .int .i64 (H.vs.length : Nat), .slice TA H.P.length TC]) H) := by
        refine AtP.v (P := fun c => E < c) (HAT.out.keep (fun p _ hp => hst.2.2.2.2 p (by have hp' : V1.heap.size + 2 ≤ p.block := hp; have := HVZ.out; omega)) (by rw [hst.2.2.2.1]; exact Nat.le_refl _) fun b _ hb => ?_)
        have hb' : V1.heap.size + 2 ≤ b := hb
        have := HVZ.out
        show E < b
        omega
      obtain ⟨hre7, hbk7, hch7, hsz7, -⟩ := hst
      have HRE7 := Lib.hid hre7
      have HBK7 := Lib.hid hbk7
      have HCH7 := Lib.hid hch7
      have e0 : V7.cell? ⟨E, 0, none⟩ = some (.slice SA H.vs.length SC) := hre7.cell 0
      have e1 : V7.cell? ⟨E, 1, none⟩ = some (.int .i64 (H.vs.length : Nat)) := hre7.cell 1
      have e2 : V7.cell? ⟨E, 2, none⟩ = some (.slice TA H.P.length TC) := hre7.cell 2
      have e3 := hre7.lt
      obtain ⟨DA, DC, FA, FC, z0, z1, z2, hap7⟩ := hbk7.at_ (map_at hpm)
      have z3 := hbk7.lt
      have HJI := Lib.hid (sjJoin_ok _ _ (J p) H V7.drew (show AtV V7.drew _ _ from hap7.v) (show AtV V7.drew _ _ from HAT7.out) HGP.out HGH.out HLEN.out)
      clear hV7 hzz hwz hre7 hbk7 hch7 hap7 m0 m1 m2 m3 m4 m5 m6 p0 p1 p2 a0 a1 a2 hHeld KEEP KEEP2 t0 oc pc HPJ HSE HAT HBV
      go_upto_region 27 with (fail)
      refine regionS (S := (fun w' => (w'.cell? ⟨E, 0, none⟩ = some (.slice SA H.vs.length SC) ∧ w'.cell? ⟨E, 1, none⟩ = some (.int .i64 (H.vs.length : Nat)) ∧ w'.cell? ⟨E, 2, none⟩ = some (.slice TA H.P.length TC)) ∧ w'.cell? ⟨R, p * 3, none⟩ = some (.slice DA (J p).vs.length DC) ∧ w'.cell? ⟨R, p * 3 + 1, none⟩ = some (.int .i64 ((J p).vs.length : Nat)) ∧ w'.cell? ⟨R, p * 3 + 2, none⟩ = some (.slice FA (J p).P.length FC))) [12, 13] (by kernel_rfl) ⟨⟨e0, e1, e2⟩, z0, z1, z2⟩ (fun hHeld => ?_)
      refine takeS (i := 0) (v := ?_) (some 101) rfl rfl (by kernel_rfl) (by decide) (by kernel_rfl) (by kernel_rfl) (by kernel_rfl) (by kernel_rfl) (fun _ _ _ h => h) (Or.inl ⟨by rfl, ?_⟩) (by assumption) ?_
      rotate_left 1
      · (intro w0 hSw; (try dsimp only at hSw); go_simp; try (with_reducible rfl))
      try simp only [Act.put, List.setIfInBounds_toArray, List.set_cons_succ, List.set_cons_zero]
      refine takeS (i := 1) (v := ?_) (some 102) rfl rfl (by kernel_rfl) (by decide) (by kernel_rfl) (by kernel_rfl) (by kernel_rfl) (by kernel_rfl) (fun _ _ _ h => h) (Or.inl ⟨by rfl, ?_⟩) (by assumption) ?_
      rotate_left 1
      · (intro w0 hSw; (try dsimp only at hSw); go_simp; try (with_reducible rfl))
      try simp only [Act.put, List.setIfInBounds_toArray, List.set_cons_succ, List.set_cons_zero]
      refine takeS (i := 2) (v := ?_) (some 103) rfl rfl (by kernel_rfl) (by decide) (by kernel_rfl) (by kernel_rfl) (by kernel_rfl) (by kernel_rfl) (fun _ _ _ h => h) (Or.inl ⟨by rfl, ?_⟩) (by assumption) ?_
      rotate_left 1
      · (intro w0 hSw; (try dsimp only at hSw); go_simp; try (with_reducible rfl))
      try simp only [Act.put, List.setIfInBounds_toArray, List.set_cons_succ, List.set_cons_zero]
      refine takeS (i := 3) (v := ?_) (some 104) rfl rfl (by kernel_rfl) (by decide) (by kernel_rfl) (by kernel_rfl) (by kernel_rfl) (by kernel_rfl) (fun _ _ _ h => h) (Or.inl ⟨by rfl, ?_⟩) (by assumption) ?_
      rotate_left 1
      · (intro w0 hSw; (try dsimp only at hSw); go_simp; try (with_reducible rfl))
      try simp only [Act.put, List.setIfInBounds_toArray, List.set_cons_succ, List.set_cons_zero]
      refine takeS (i := 4) (v := ?_) (some 105) rfl rfl (by kernel_rfl) (by decide) (by kernel_rfl) (by kernel_rfl) (by kernel_rfl) (by kernel_rfl) (fun _ _ _ h => h) (Or.inl ⟨by rfl, ?_⟩) (by assumption) ?_
      rotate_left 1
      · (intro w0 hSw; (try dsimp only at hSw); go_simp; try (with_reducible rfl))
      try simp only [Act.put, List.setIfInBounds_toArray, List.set_cons_succ, List.set_cons_zero]
      refine takeS (i := 5) (v := ?_) (some 106) rfl rfl (by kernel_rfl) (by decide) (by kernel_rfl) (by kernel_rfl) (by kernel_rfl) (by kernel_rfl) (fun _ _ _ h => h) (Or.inl ⟨by rfl, ?_⟩) (by assumption) ?_
      rotate_left 1
      · (intro w0 hSw; (try dsimp only at hSw); go_simp; try (with_reducible rfl))
      try simp only [Act.put, List.setIfInBounds_toArray, List.set_cons_succ, List.set_cons_zero]
      refine takeS (i := 6) (v := ?_) (some 107) rfl rfl (by kernel_rfl) (by decide) (by kernel_rfl) (by kernel_rfl) (by kernel_rfl) (by kernel_rfl) (fun _ _ _ h => h) (Or.inl ⟨by rfl, ?_⟩) (by assumption) ?_
      rotate_left 1
      · (intro w0 hSw; (try dsimp only at hSw); go_simp; try (with_reducible rfl))
      try simp only [Act.put, List.setIfInBounds_toArray, List.set_cons_succ, List.set_cons_zero]
      refine oneS (i := 7) (by kernel_rfl) rfl (fun K hK => ?_)
      go_simp
      refine HJI.out.mono ?_
      rintro e V8 ⟨v1, rfl, hat, hb⟩
      have hbv : Below V7.heap.size V7 V8 := Below.undrew hb
      have HV8 := Lib.hid hbv
      obtain ⟨d0, d1, d2, rfl⟩ := hat.one
      obtain ⟨GA, GC, NA, NC, rfl, rfl, rfl⟩ := hat.parts
      have HAT8 := Lib.hid hat
      have hv := fun (p : Addr) (hp : p.block < V7.heap.size) => hbv.cell (p := p) hp
      have KEEP3 := (⟨⟨(hv ⟨E, 0, none⟩ e3).trans e0, (hv ⟨E, 1, none⟩ e3).trans e1, (hv ⟨E, 2, none⟩ e3).trans e2⟩, (hv ⟨R, p * 3, none⟩ z3).trans z0, (hv ⟨R, p * 3 + 1, none⟩ z3).trans z1, (hv ⟨R, p * 3 + 2, none⟩ z3).trans z2⟩ : (_ ∧ _ ∧ _) ∧ _ ∧ _ ∧ _)
      have HBK8 := Lib.hid (HBK7.out.keep hbv)
      have HRE8 := Lib.hid (HRE7.out.up hbv)
      have hf0 := HBK8.out.frozen (p * 3)
      have hf1 := HBK8.out.frozen (p * 3 + 1)
      have hf2 := HBK8.out.frozen (p * 3 + 2)
      have hfR := HBK8.out.lt
      have hk0 := KEEP3.2.1
      have hk1 := KEEP3.2.2.1
      have hk2 := KEEP3.2.2.2
      clear hat hb hbv hv
      go_wp2_with fail
      refine hK.out _ _ KEEP3 (fun hHeld => ?_)
      clear hK K
      try simp only [Act.put, List.setIfInBounds_toArray, List.set_cons_succ, List.set_cons_zero]
      refine takeFree (i := 8) (v := ?_) (some 100) rfl rfl (by kernel_rfl) (by kernel_rfl) (by kernel_rfl) (fun _ _ _ h => h) (Or.inl ⟨by rfl, ?_⟩) ?_
      rotate_left 1
      · (intro w0 hSw; (try dsimp only at hSw); go_simp; try (with_reducible rfl))
      try simp only [Act.put, List.setIfInBounds_toArray, List.set_cons_succ, List.set_cons_zero]
      refine takeFree (i := 9) (v := ?_) (some 109) rfl rfl (by kernel_rfl) (by kernel_rfl) (by kernel_rfl) (fun _ _ _ h => h) (Or.inl ⟨by rfl, ?_⟩) ?_
      rotate_left 1
      · (intro w0 hSw; (try dsimp only at hSw); go_simp; try (with_reducible rfl))
      try simp only [Act.put, List.setIfInBounds_toArray, List.set_cons_succ, List.set_cons_zero]
      refine takeFree (i := 10) (v := ?_) (some 110) rfl rfl (by kernel_rfl) (by kernel_rfl) (by kernel_rfl) (fun _ _ _ h => h) (Or.inl ⟨by rfl, ?_⟩) ?_
      rotate_left 1
      · (intro w0 hSw; (try dsimp only at hSw); go_simp; try (with_reducible rfl))
      try simp only [Act.put, List.setIfInBounds_toArray, List.set_cons_succ, List.set_cons_zero]
      refine takeS (i := 11) (v := ?_) (some 111) rfl rfl (by kernel_rfl) (by decide) (by kernel_rfl) (by kernel_rfl) (by kernel_rfl) (by kernel_rfl) (fun _ _ _ h => h) (Or.inl ⟨by rfl, ?_⟩) (by assumption) ?_
      rotate_left 1
      · (intro w0 hSw; (try dsimp only at hSw); go_simp; try (with_reducible rfl))
      try simp only [Act.put, List.setIfInBounds_toArray, List.set_cons_succ, List.set_cons_zero]
      refine oneL (i := 12) (by kernel_rfl) rfl (by decide) (fun K hK => ?_)
      go_simp
      go_wp2_with fail
      refine hK.out _ _ ?_
      clear hK K
      try simp only [Act.put, List.setIfInBounds_toArray, List.set_cons_succ, List.set_cons_zero]
      refine oneL (i := 13) (by kernel_rfl) rfl (by decide) (fun K hK => ?_)
      go_simp
      go_wp2_with fail
      refine hK.out _ _ ?_
      clear hK K
      try simp only [Act.put, List.setIfInBounds_toArray, List.set_cons_succ, List.set_cons_zero]
      refine doneS (by kernel_rfl) ?_ _
      obtain ⟨U, hU⟩ : ∃ U, U = joinA (uniV (J p).vs H.vs) (J p) H := ⟨_, rfl⟩
      rw [← hU] at HAT8 ⊢
      obtain ⟨V9, hV9⟩ : ∃ V', V' = ((V8.setCell ⟨R, p * 3, none⟩ (.slice GA U.vs.length GC)).setCell ⟨R, p * 3 + 1, none⟩ (.int .i64 (U.vs.length : Nat))).setCell ⟨R, p * 3 + 2, none⟩ (.slice NA U.P.length NC) := ⟨_, rfl⟩
      have hzz := HZ.out
      have hwz := HSZ.out
      have hw7 := HCH7.out.size
      have hER : E ≠ R := by omega
      have HBK9 : Hid (BlkA PP R V9 ((List.range al.length).map XJ)) := by
        rw [hV9, HEJ.out, ← hU, ← map_set hpm]
        refine HBK8.out.set HPN.out.1 (by simpa using hpm) (HAT8.out.keep (fun _ _ _ => rfl) (Nat.le_refl _) fun b _ hb => HPO.out b ?_)
        have hb' : V7.heap.size + 3 ≤ b := hb
        omega
      have HRE9 : Hid (Row V9 E 36 [.slice SA H.vs.length SC, .int .i64 (H.vs.length : Nat), .slice TA H.P.length TC]) := by
        show Row _ _ _ _
        rw [hV9]
        exact ((HRE8.out.far hER _).far hER _).far hER _
      have HCH9 : Hid (Chg (fun b => b = R ∨ b = E) W5 V9) := by
        rw [hV9]
        have h0 : Chg (fun b => b = R ∨ b = E) W5 V8 := HCH7.out.then (Chg.of_below (F := fun b => b = R ∨ b = E) HV8.out fun k h1 h2 => absurd h1 (by omega)) fun _ _ h => h
        have h1 : ∀ (W : World) (i : Nat) (u : Value), Chg (fun b => b = R ∨ b = E) W5 W → Chg (fun b => b = R ∨ b = E) W5 (W.setCell ⟨R, i, none⟩ u) := fun W i u h => h.trans (Chg.set W R i u (.inl rfl))
        exact h1 _ _ _ (h1 _ _ _ (h1 _ _ _ h0))
      clear HAT8 KEEP3 hHeld hf0 hf1 hf2 hk0 hk1 hk2 hfR hzz hwz hw7 hER
      rw [← hV9]
      clear hV9 hU
      go_wp2_with fail
      go_roundw
      case rel => exact ⟨j + 1, XJ, H, _, _, _, by omega, by go_num, HBK9.out, HCH9.out, HRE9.out, fun _ => HEVN.out, fun h => absurd h (by omega)⟩
      case measure => simp [intOf]; omega
end
section
open Go.RowKit Go.Sort

theorem sjEvaluate_any (PA AA : Option Addr) (PC AC : Nat) (ps : List Int) (X : List RA) (K : Nat) (w : World) (hA : AtsM w.heap.size w AA X) (hXl : X.length ≤ 9223372036854775807) (hX : ∀ a ∈ X, Small a) (hp : SlI .i64 w.heap.size w PA ps) (hpl : ps.length ≤ 1000000) (hK : K < 4294967296)
    (hF : errT X ps = 0 → Few (atF X) X.length) :
    Calls Tryz.prog 22 #[.agg #[.slice PA ps.length PC], .int .u32 (K : Nat), .slice AA X.length AC] w (EvalPost X ps K w) := by
  by_cases h0 : errT X ps = 0
  rotate_left
  · exact sjEvaluate_bad PA AA PC AC ps X K w hA hXl hX hp hpl h0
  obtain ⟨h1, h2⟩ := errT_zero h0
  have hra := ra_map h1
  have hl : (X.map RA.at).length = X.length := List.length_map ..
  have h := sjEvaluate_good PA AA PC AC ps (X.map RA.at) K w (by rw [hra]; exact hA) (gds hX h1) (by rw [hl]; exact (errC_zero h1).1) hp (by rw [hra]; exact h0) hK (atF X) rfl (TreeOk.of rfl h2) (by rw [hl]; exact hF h0)
  rw [hl] at h
  refine h.mono ?_
  rintro e w' ⟨g1, g2, g3⟩
  exact ⟨fun h => absurd h0 h, fun _ => g1, fun _ => g2, g3⟩
end
section
open Go.RowKit Go.Sort

def outI (r : RL.R) (o : Nat → Int) : Nat → Nat → Int
  | 0 => o
  | i + 1 => fun n => if n = i % 3 then (dv r i).int else outI r o i n
def outF (X : List RL.R) : Nat → Nat → Int
  | 0 => fun _ => 0
  | k + 1 => outI (X.getD k []) (outF X k) (X.getD k []).length
def cells3 (o : Nat → Int) : List Value := [.int .i64 (o 0), .int .i64 (o 1), .int .i64 (o 2)]
theorem cells3_set (r : RL.R) (o : Nat → Int) (i : Nat) (z : Int) (hz : z = (dv r i).int) : (cells3 (outI r o i)).set (i % 3) (.int .i64 z) = cells3 (outI r o (i + 1)) := by
  subst hz
  have h : i % 3 = 0 ∨ i % 3 = 1 ∨ i % 3 = 2 := by omega
  have h2 : outI r o (i + 1) = fun n => if n = i % 3 then (dv r i).int else outI r o i n := rfl
  rw [h2]
  generalize outI r o i = q
  unfold cells3
  rcases h with h | h | h <;> rw [h] <;> rfl
def Out3 (o : Nat → Int) (w : World) (e : Ending) (w' : World) : Prop := e = .returned (.agg #[.int .i64 (o 0), .int .i64 (o 1), .int .i64 (o 2)]) ∧ Below w.heap.size w w'

theorem made_get {w : World} {g B : Nat} {E : TypeId} {X : List RL.R} (h : MadeRs w g E X X.length B) {i : Nat} (hi : i < X.length) : ∃ A' C', w.cell? ⟨g, i, none⟩ = some (.slice A' X[i].length C') ∧ SlR w.heap.size w A' X[i] ∧ (X[i] ≠ [] → ∀ ad, A' = some ad → B ≤ ad.block) := by
  obtain ⟨hs, h1, h2, h3, h4⟩ := h
  obtain ⟨A', C', a, -, -, b, c⟩ := h4 i hi hi
  exact ⟨A', C', (h1.cell i).trans a, b, fun hx ad e => (c hx ad e).2.1⟩
set_option maxHeartbeats 8000000 in
theorem l36awake1_any (va : Value) (a : At) (w : World) (ha : AtV w va a) (ga : Gd a) :
    Calls Tryz.prog 27 #[va] w (Out3 (outF a.P a.P.length) w) := by
  obtain ⟨VA, VC, PA, PC, rfl, -, -, -, -, -, h2⟩ := ha
  obtain ⟨us, X⟩ := a
  simp only at h2 ⊢
  obtain ⟨W0, hW0⟩ : ∃ W0, W0 = (w.alloc (.cells #[.slice VA us.length VC, .int .i64 (us.length : Nat), .slice PA X.length PC] 36)).alloc (.cells #[.int .i64 0, .int .i64 0, .int .i64 0] 76) := ⟨_, rfl⟩
  have hx0 : Ext w W0 := by rw [hW0]; exact ((Ext.refl w).alloc _).alloc _
  have hra : Row W0 w.heap.size 36 [.slice VA us.length VC, .int .i64 (us.length : Nat), .slice PA X.length PC] := by rw [hW0]; exact (Row.new w 36 _).alloc _
  have hro : Row W0 (w.heap.size + 1) 76 [.int .i64 0, .int .i64 0, .int .i64 0] := by
    have h := Row.new (w.alloc (.cells #[.slice VA us.length VC, .int .i64 (us.length : Nat), .slice PA X.length PC] 36)) 76 [.int .i64 0, .int .i64 0, .int .i64 0]
    rw [World.size_alloc] at h
    rw [hW0]; exact h
  obtain ⟨W1, hW1⟩ : ∃ W1, W1 = W0.alloc (.cells #[.int .i64 0, .int .i64 0, .int .i64 0] 76) := ⟨_, rfl⟩
  obtain ⟨B, hB⟩ : ∃ B, B = W0.heap.size := ⟨_, rfl⟩
  have hx1 : Ext W0 W1 := by rw [hW1]; exact (Ext.refl W0).alloc _
  have hrb : Row W1 B 76 [.int .i64 0, .int .i64 0, .int .i64 0] := by rw [hW1, hB]; exact Row.new W0 _ _
  have hb1 : Below w.heap.size w W1 := Below.then hx0.below hx1.below hx0.size
  have HRW := Lib.hid (rlRows_any (us.length : Nat) PA PC X W1 (h2.upB hb1) ga.rsOk (Nat.le_trans (show X.length ≤ 60000 from ga.many) (by omega)))
  have HB1 := Lib.hid hb1
  have HRB := Lib.hid hrb
  have HRO := Lib.hid (hro.up hx1.below)
  have HBZ : Hid (B = W0.heap.size ∧ W1.heap.size = B + 1 ∧ w.heap.size + 1 < B) := ⟨hB, by rw [hW1, hB]; simp, by rw [hB]; exact hro.lt⟩
  have HLN : Hid (∀ r ∈ X, r.length ≤ 32) := fun r hr => by have := ga.len r hr; have := ga.vl; simp only at *; omega
  have hXl : X.length ≤ 60000 := ga.many
  have hra1 := hra.up hx1.below
  have HW1 := Lib.hid hW1
  have HBE := Lib.hid hB
  have e0 : W1.cell? ⟨w.heap.size, 0, none⟩ = some (.slice VA us.length VC) := hra1.cell 0
  have e1 : W1.cell? ⟨w.heap.size, 1, none⟩ = some (.int .i64 (us.length : Nat)) := hra1.cell 1
  have e2 : W1.cell? ⟨w.heap.size, 2, none⟩ = some (.slice PA X.length PC) := hra1.cell 2
  have e3 := hra1.lt
  clear hx0 hra hro hx1 hrb hb1 h2 ga hW1 hB hra1
  go_enter Tryz.func27, Tryz.ntmps27
  go_upto_region 1 with (fail)
  rw [← hW0]
  clear hW0
  go_upto_region 2 with (fail)
  rw [← HW1.out, ← HBE.out]
  clear HW1 HBE
  go_wp2_with fail
  refine HRW.out.mono ?_
  rintro e w2 ⟨g, rfl, hmr, hb2⟩
  have HMR := Lib.hid (fun i (hi : i < X.length) => made_get hmr hi)
  have HB2 := Lib.hid (Below.then HB1.out hb2 HB1.out.size)
  have HRB2 := Lib.hid (HRB.out.up hb2)
  have HRO2 := Lib.hid (HRO.out.up hb2)
  have HGZ : Hid (w2.heap.size ≤ w2.heap.size ∧ W1.heap.size ≤ g ∧ g < w2.heap.size) := ⟨Nat.le_refl _, by obtain ⟨_, _, _, h, _⟩ := hmr; exact h, hmr.lt⟩
  clear hmr hb2 HRW HRB HRO e0 e1 e2 e3
  go_wp2_with fail
  go_loopw [12] (fun c wx => ∃ k : Nat, k ≤ X.length ∧ c = .int .i64 k ∧ Row wx B 76 (cells3 (outF X k)) ∧ Chg (fun b => b = B) w2 wx) (fun c _ => X.length - (intOf c).toNat)
  case atStart => exact ⟨0, Nat.zero_le _, rfl, HRB2.out, Chg.refl _ _⟩
  case round =>
    obtain ⟨k, hk, rfl, hrow, hch⟩ := hrel
    have HROW := Lib.hid hrow
    have HCH := Lib.hid hch
    have HBW : Hid (Below w.heap.size w wr) := by
      have hz := HBZ.out
      have hs := HB2.out.size
      exact HB2.out.trans (hch.below (by omega) fun k hk => by omega)
    clear hrow hch
    by_cases hkl : k < X.length
    rotate_left
    · obtain rfl : k = X.length := by omega
      have r1 : ¬ (X.length : Int) < (X.length : Int) := by omega
      have hz := HBZ.out
      have hs := HCH.out.size
      have ro : Row wr (w.heap.size + 1) 76 [.int .i64 0, .int .i64 0, .int .i64 0] := by
        have := HRO2.out
        unfold Row at this ⊢
        rw [HCH.out.block _ HRO2.out.lt (by omega)]
        exact this
      have HROW2 := Lib.hid ro
      have b0 : wr.cell? ⟨B, 0, none⟩ = some (.int .i64 (outF X X.length 0)) := HROW.out.cell 0
      have b1 : wr.cell? ⟨B, 1, none⟩ = some (.int .i64 (outF X X.length 1)) := HROW.out.cell 1
      have b2 : wr.cell? ⟨B, 2, none⟩ = some (.int .i64 (outF X X.length 2)) := HROW.out.cell 2
      have b3 := HROW.out.lt
      have m3 := ro.frozen 0
      have m4 := ro.frozen 1
      have m5 := ro.frozen 2
      have m6 := ro.lt
      have m0 : wr.cell? ⟨w.heap.size + 1, 0, none⟩ = some (.int .i64 0) := ro.cell 0
      have m1 : wr.cell? ⟨w.heap.size + 1, 1, none⟩ = some (.int .i64 0) := ro.cell 1
      have m2 : wr.cell? ⟨w.heap.size + 1, 2, none⟩ = some (.int .i64 0) := ro.cell 2
      clear ro hz hs
      generalize outF X X.length = o at *
      go_wp2_with fail
      obtain ⟨V6, hV6⟩ : ∃ V', V' = ((wr.setCell ⟨w.heap.size + 1, 0, none⟩ (.int .i64 (o 0))).setCell ⟨w.heap.size + 1, 1, none⟩ (.int .i64 (o 1))).setCell ⟨w.heap.size + 1, 2, none⟩ (.int .i64 (o 2)) := ⟨_, rfl⟩
      rw [← hV6]
      have q : Row V6 (w.heap.size + 1) 76 [.int .i64 (o 0), .int .i64 (o 1), .int .i64 (o 2)] := by rw [hV6]; exact ((HROW2.out.set 0 _).set 1 _).set 2 _
      have f0 := q.cell 0
      have f1 := q.cell 1
      have f2 := q.cell 2
      exact bodyPost_ret (v := .agg #[.int .i64 (o 0), .int .i64 (o 1), .int .i64 (o 2)]) (by simp [results, Tryz.results27, go_sem, f0, f1, f2]) rfl ⟨rfl, by rw [hV6]; exact ((HBW.out.setCell (by show w.heap.size ≤ w.heap.size + 1; omega) _).setCell (by show w.heap.size ≤ w.heap.size + 1; omega) _).setCell (by show w.heap.size ≤ w.heap.size + 1; omega) _⟩
    have r0 : (0 : Int) ≤ (k : Int) := by omega
    have r1 : (k : Int) < (X.length : Int) := by omega
    have r3 : IntKind.i64.wrap ((k : Int) + 1) = ((k + 1 : Nat) : Int) := by rw [IntWalk.i64_in _ (by omega)]; omega
    obtain ⟨A', C', c0, hr, hlow⟩ := HMR.out k hkl
    have hgz := HGZ.out
    have hbz := HBZ.out
    have hsz := HB2.out.size
    have hwz := HCH.out.size
    have hgB : g ≠ B := by omega
    have c0 : wr.cell? ⟨g, k, none⟩ = some (.slice A' X[k].length C') := by
      exact (HCH.out.cell (p := ⟨g, k, none⟩) hgz.2.2 hgB).trans c0
    have hgw : g < wr.heap.size := by omega
    have HFK : Hid (outF X (k + 1) = outI X[k] (outF X k) X[k].length) := by
      show _ = _
      have e : X.getD k [] = X[k] := by simp [hkl]
      show outI (X.getD k []) _ _ = _
      rw [e]
    have hrl := HLN.out _ (List.getElem_mem hkl)
    have HR := Lib.hid hr
    have HLOW := Lib.hid hlow
    clear hr hlow hgz hbz hsz hwz hgB
    generalize X[k] = r at *
    generalize outF X k = o at *
    obtain ⟨wo, hwo⟩ : ∃ wo, wo = wr := ⟨_, rfl⟩
    subst hwo
    go_wp2_with fail
    go_loopw [18] (fun c wx => ∃ i : Nat, i ≤ r.length ∧ c = .int .i64 i ∧ Row wx B 76 (cells3 (outI r o i)) ∧ Chg (fun b => b = B) w2 wx) (fun c _ => r.length - (intOf c).toNat)
    case atStart => exact ⟨0, Nat.zero_le _, rfl, HROW.out, HCH.out⟩
    case round =>
      obtain ⟨i, hi, rfl, hrow, hch⟩ := hrel
      have HROWI := Lib.hid hrow
      have HCHI := Lib.hid hch
      clear c0
      by_cases hil : i < r.length
      · have s0 : (0 : Int) ≤ (i : Int) := by omega
        have s1 : (i : Int) < (r.length : Int) := by omega
        have s3 : IntKind.i64.wrap ((i : Int) + 1) = ((i + 1 : Nat) : Int) := by rw [IntWalk.i64_in _ (by omega)]; omega
        obtain ⟨vb, vo, hva, hvb, v0, v1, v2⟩ := slR_at HR.out hil
        have hne : r ≠ [] := fun e => by rw [e] at hil; simp at hil
        have hvl := HLOW.out hne _ hva
        subst hva
        have hbz := HBZ.out
        have hsz := hch.size
        have hnB : vb ≠ B := by simp only at hvl; omega
        have v0 := (hch.cell (p := ⟨vb, vo + i * 3, none⟩) hvb hnB).trans v0
        have v1 := (hch.cell (p := ⟨vb, vo + i * 3 + 1, none⟩) hvb hnB).trans v1
        have v2 := (hch.cell (p := ⟨vb, vo + i * 3 + 2, none⟩) hvb hnB).trans v2
        have hvb2 : vb < wr.heap.size := by omega
        have HDV : Hid (r[i].int = (dv r i).int) := by show _ = _; unfold dv; simp [hil]
        generalize r[i] = v at *
        obtain ⟨wp, hwp⟩ : ∃ wp, wp = wr := ⟨_, rfl⟩
        subst hwp
        obtain ⟨W3, hW3⟩ : ∃ W3, W3 = wp.alloc (.cells #[.int .i64 v.kind, .int .i64 v.int, .string v.str] 71) := ⟨_, rfl⟩
        obtain ⟨g8, hg8⟩ : ∃ g8, g8 = wp.heap.size := ⟨_, rfl⟩
        have HX3 : Hid (Ext wp W3) := by show Ext _ _; rw [hW3]; exact (Ext.refl wp).alloc _
        have hr8 : Row W3 g8 71 [.int .i64 v.kind, .int .i64 v.int, .string v.str] := by rw [hW3, hg8]; exact Row.new wp _ _
        have e0 : W3.cell? ⟨g8, 0, none⟩ = some (.int .i64 v.kind) := hr8.cell 0
        have e1 : W3.cell? ⟨g8, 1, none⟩ = some (.int .i64 v.int) := hr8.cell 1
        have e2 : W3.cell? ⟨g8, 2, none⟩ = some (.string v.str) := hr8.cell 2
        have e3 := hr8.lt
        have hrow3 := HROWI.out.up HX3.out.below
        have HR3 := Lib.hid hrow3
        have HCH3 : Hid (Chg (fun b => b = B) w2 W3) := hch.then (Chg.of_ext HX3.out) fun _ _ h => h
        have hrem : ((i : Int)).tmod 3 = ((i % 3 : Nat) : Int) := rfl
        have j0 : (0 : Int) ≤ ((i % 3 : Nat) : Int) := by omega
        have j1 : ((i % 3 : Nat) : Int) < 3 := by omega
        obtain ⟨u0, hu0⟩ : ∃ u, W3.cell? ⟨B, i % 3, none⟩ = some u := ⟨_, hrow3.cell_ (i := i % 3) (show i % 3 < (cells3 _).length by show _ < 3; omega)⟩
        have hf := hrow3.frozen (i % 3)
        have hBl := hrow3.lt
        have HW3E := Lib.hid hW3
        have HG8E := Lib.hid hg8
        have HSET := Lib.hid (cells3_set r o i v.int HDV.out)
        clear hW3 hg8 hr8 hrow3 hrow hch hne hvl hbz hsz hnB
        go_upto_region 8 with (fail)
        rw [← HW3E.out, ← HG8E.out]
        clear v0 v1 v2 HW3E HG8E
        go_wp2_with fail
        go_roundw
        case rel => exact ⟨i + 1, hil, by go_num, by rw [← HSET.out]; exact HR3.out.set _ _, HCH3.out.trans (Chg.set W3 B _ _ rfl)⟩
        case measure => simp [intOf]; omega
      · obtain rfl : i = r.length := by omega
        have s1 : ¬ (r.length : Int) < (r.length : Int) := by omega
        clear hrow hch
        go_wp2_with fail
        go_roundw
        case rel => exact ⟨k + 1, hkl, by go_num, by rw [HFK.out]; exact HROWI.out, HCHI.out⟩
        case measure => simp [intOf]; omega
end
section
open Go.RowKit Go.Sort

def resA (code : Int) (c : At) : At := if code = 0 then c else ⟨[], []⟩
theorem XPost.one {w : World} {code : Int} {c : At} {e : Ending} {w' : World} (h : XPost w code c e w') : ∃ VA VC PA PC, e = .returned (.tuple #[.agg #[.slice VA (resA code c).vs.length VC, .int .i64 ((resA code c).vs.length : Nat), .slice PA (resA code c).P.length PC], .int .i64 code]) ∧
    AtP (fun c => w.heap.size + 3 ≤ c) w'.heap.size w' (.agg #[.slice VA (resA code c).vs.length VC, .int .i64 ((resA code c).vs.length : Nat), .slice PA (resA code c).P.length PC]) (resA code c) ∧ Below w.heap.size w w' := by
  obtain ⟨h1, h2, h3⟩ := h
  by_cases h0 : code = 0
  · obtain ⟨v, he, hat⟩ := h1 h0
    obtain ⟨c0, c1, c2, rfl⟩ := hat.one
    obtain ⟨VA, VC, PA, PC, rfl, rfl, rfl⟩ := hat.parts
    have e : resA code c = c := by unfold resA; rw [if_pos h0]
    rw [e]
    exact ⟨VA, VC, PA, PC, by rw [he, h0], hat, h3⟩
  · have e : resA code c = ⟨[], []⟩ := by unfold resA; rw [if_neg h0]
    rw [e]
    exact ⟨none, 0, none, 0, h2 h0, AtP.zero _ _ _, h3⟩
def BoxA (w : World) (g : Nat) (a : At) : Prop := ∃ VA VC PA PC, Row w g 36 [.slice VA a.vs.length VC, .int .i64 (a.vs.length : Nat), .slice PA a.P.length PC] ∧ AtV w (.agg #[.slice VA a.vs.length VC, .int .i64 (a.vs.length : Nat), .slice PA a.P.length PC]) a
theorem BoxA.up {w w' : World} {g : Nat} {a : At} (h : BoxA w g a) (hb : Below w.heap.size w w') : BoxA w' g a := by
  obtain ⟨VA, VC, PA, PC, h1, h2⟩ := h
  exact ⟨VA, VC, PA, PC, h1.up hb, h2.up hb⟩
theorem BoxA.put {P : Nat → Prop} {w w' : World} {g : Nat} {a : At} {VA : Option Addr} {VC : Nat} {PA : Option Addr} {PC : Nat} {q0 q1 q2 : Value} (hr : Row w g 36 [q0, q1, q2]) (ha : AtP P w.heap.size w (.agg #[.slice VA a.vs.length VC, .int .i64 (a.vs.length : Nat), .slice PA a.P.length PC]) a) (hg : ¬ P g)
    (hw : w' = ((w.setCell ⟨g, 0, none⟩ (.slice VA a.vs.length VC)).setCell ⟨g, 1, none⟩ (.int .i64 (a.vs.length : Nat))).setCell ⟨g, 2, none⟩ (.slice PA a.P.length PC)) : BoxA w' g a := by
  subst hw
  refine ⟨VA, VC, PA, PC, ((hr.set 0 _).set 1 _).set 2 _, AtP.v (ha.keep (P' := P) (fun p _ hp => ?_) (by simp) fun _ _ h => h)⟩
  have h : ∀ i, (⟨g, i, none⟩ : Addr) ≠ p := fun i e => hg (by rw [← e] at hp; exact hp)
  rw [World.cell?_setCell_other _ _ _ _ (h _), World.cell?_setCell_other _ _ _ _ (h _), World.cell?_setCell_other _ _ _ _ (h _)]
end
section
open Go.RowKit Go.Sort

def allR : Nat → List RL.R
  | 0 => [[]]
  | n + 1 => (allR n).flatMap fun r => [valI 0 :: r, valI 1 :: r, valI 2 :: r, valI 3 :: r]
theorem flat_le {α β : Type} {g : α → List β} {n : Nat} : ∀ {l : List α}, (∀ x ∈ l, (g x).length ≤ n) → (l.flatMap g).length ≤ l.length * n
  | [], _ => by simp
  | a :: t, h => by
    have h1 := h a (by simp)
    have h2 := flat_le (l := t) fun x hx => h x (by simp [hx])
    rw [List.flatMap_cons, List.length_append, List.length_cons, Nat.succ_mul]
    omega
theorem allR_len : ∀ n, (allR n).length ≤ 4 ^ n
  | 0 => by simp [allR]
  | n + 1 => by
    unfold allR
    refine Nat.le_trans (flat_le (n := 4) fun x _ => by simp) ?_
    have := allR_len n
    rw [Nat.pow_succ]
    omega
theorem mem_allR : ∀ {r : RL.R}, (∀ c ∈ r, IsI c) → r ∈ allR r.length
  | [], _ => by simp [allR]
  | c :: t, h => by
    have h1 := mem_allR (r := t) fun d hd => h d (by simp [hd])
    obtain ⟨x, rfl⟩ := h c (by simp)
    have hx : valI x = valI (x % 4) := by unfold valI; rw [Nat.mod_mod]
    rw [hx]
    unfold allR
    rw [List.length_cons]
    refine List.mem_flatMap.2 ⟨t, h1, ?_⟩
    have : x % 4 = 0 ∨ x % 4 = 1 ∨ x % 4 = 2 ∨ x % 4 = 3 := by omega
    rcases this with h | h | h | h <;> rw [h] <;> simp
theorem nodupN_le {l m : List Nat} (hl : l.Nodup) (h : ∀ x ∈ l, x ∈ m) : l.length ≤ m.length := by
  induction l generalizing m with
  | nil => simp
  | cons a l ih =>
    have ha : a ∈ m := h a (by simp)
    rw [List.nodup_cons] at hl
    have h2 : l.length ≤ (m.erase a).length := ih hl.2 fun x hx => by
      have hne : x ≠ a := fun e => hl.1 (e ▸ hx)
      exact (List.mem_erase_of_ne hne).2 (h x (by simp [hx]))
    rw [List.length_erase_of_mem ha] at h2
    have : 0 < m.length := List.length_pos_of_mem ha
    simp; omega
theorem part_len (p : Nat → Bool) : ∀ l : List Nat, l.length = (l.filter p).length + (l.filter fun v => !p v).length
  | [] => rfl
  | a :: t => by
    have := part_len p t
    cases h : p a <;> simp [h] <;> omega
def Thin (a : At) : Prop := a.P.length ≤ 12 ∧ ∀ v ∈ a.vs, v < 8
theorem few_thin {X : Nat → At} {m : Nat} (hm : m ≤ 6) (hg : ∀ i, i < m → Gd (X i)) (ht : ∀ i, i < m → Thin (X i)) : Few X m := by
  obtain ⟨V, hV⟩ : ∃ V, V = (List.range 8).filter fun v => (List.range m).any fun i => decide (v ∈ (X i).vs) := ⟨_, rfl⟩
  have hVn : V.Nodup := by rw [hV]; exact List.nodup_range.sublist List.filter_sublist
  have hVl : V.length ≤ 8 := by rw [hV]; have := List.length_filter_le (fun v => (List.range m).any fun i => decide (v ∈ (X i).vs)) (List.range 8); simpa using this
  have hVm : ∀ v, v ∈ V ↔ ∃ i, i < m ∧ v ∈ (X i).vs := fun v => by
    rw [hV, List.mem_filter, List.any_eq_true]
    constructor
    · rintro ⟨_, i, hi, h⟩
      exact ⟨i, List.mem_range.1 hi, of_decide_eq_true h⟩
    · rintro ⟨i, hi, h⟩
      exact ⟨List.mem_range.2 ((ht i hi).2 v h), i, List.mem_range.2 hi, decide_eq_true h⟩
  have hI : ∀ (f : Nat → RL.V), satD X (fun i => i < m) f → ∀ v ∈ V, IsI (f v) := fun f hf v hv => by
    obtain ⟨i, hi, hvi⟩ := (hVm v).1 hv
    exact (hg i hi).I _ (hf i hi) _ (List.mem_map.2 ⟨v, hvi, rfl⟩)
  have hrow : ∀ (U : List Nat) (f : Nat → RL.V), (∀ v ∈ U, IsI (f v)) → rowF U f ∈ allR U.length := fun U f h => by
    have h1 := mem_allR (r := rowF U f) fun c hc => by
      unfold rowF at hc
      obtain ⟨v, hv, rfl⟩ := List.mem_map.1 hc
      exact h v hv
    unfold rowF at h1 ⊢
    rw [List.length_map] at h1
    exact h1
  by_cases h7 : V.length ≤ 7
  · refine ⟨V, allR V.length, hVn, fun i hi v hv => (hVm v).2 ⟨i, hi, hv⟩, ?_, fun f hf => hrow V f (hI f hf)⟩
    have h1 := allR_len V.length
    have h2 : 4 ^ V.length ≤ 4 ^ 7 := Nat.pow_le_pow_right (by omega) h7
    omega
  · obtain ⟨i, hi, hi2⟩ : ∃ i, i < m ∧ 2 ≤ (X i).vs.length := Classical.byContradiction fun hno => by
      have h1 : V.length ≤ ((List.range m).flatMap fun i => (X i).vs).length := nodupN_le hVn fun v hv => by
        obtain ⟨i, hi, hvi⟩ := (hVm v).1 hv
        exact List.mem_flatMap.2 ⟨i, List.mem_range.2 hi, hvi⟩
      have h2 := flat_le (l := List.range m) (g := fun i => (X i).vs) (n := 1) fun i hi => by
        have h := List.mem_range.1 hi
        rcases Nat.lt_or_ge (X i).vs.length 2 with h3 | h3
        · show (X i).vs.length ≤ 1
          omega
        · exact absurd ⟨i, h, h3⟩ hno
      rw [List.length_range] at h2
      omega
    have hgi := hg i hi
    have hti := ht i hi
    have hsub : ∀ v ∈ (X i).vs, v ∈ V := fun v hv => (hVm v).2 ⟨i, hi, hv⟩
    generalize hA : X i = A at *
    obtain ⟨U, hU⟩ : ∃ U, U = V.filter fun v => !decide (v ∈ A.vs) := ⟨_, rfl⟩
    have hUn : U.Nodup := by rw [hU]; exact hVn.sublist List.filter_sublist
    have hUl : U.length ≤ 6 := by
      have h1 : A.vs.length ≤ (V.filter fun v => decide (v ∈ A.vs)).length := nodupN_le hgi.nodup fun v hv => List.mem_filter.2 ⟨hsub v hv, decide_eq_true hv⟩
      have h2 : V.length = (V.filter fun v => decide (v ∈ A.vs)).length + (V.filter fun v => !decide (v ∈ A.vs)).length := part_len _ V
      rw [← hU] at h2
      omega
    refine ⟨V, A.P.flatMap fun x => (allR U.length).map fun r => rowF V fun v => if v ∈ A.vs then getF A.vs x v else getF U r v, hVn, fun i hi v hv => (hVm v).2 ⟨i, hi, hv⟩, ?_, fun f hf => ?_⟩
    · have h1 := flat_le (l := A.P) (g := fun x => (allR U.length).map fun r => rowF V fun v => if v ∈ A.vs then getF A.vs x v else getF U r v) (n := 4 ^ 6) fun x _ => by
        rw [List.length_map]
        exact Nat.le_trans (allR_len _) (Nat.pow_le_pow_right (by omega) hUl)
      have h2 := hti.1
      have h3 : A.P.length * 4 ^ 6 ≤ 12 * 4 ^ 6 := Nat.mul_le_mul_right _ h2
      omega
    · have hx : rowF A.vs f ∈ A.P := by rw [← hA]; exact hf i hi
      refine List.mem_flatMap.2 ⟨_, hx, List.mem_map.2 ⟨rowF U f, hrow U f fun v hv => hI f hf v (by rw [hU] at hv; exact (List.mem_filter.1 hv).1), ?_⟩⟩
      refine row_eq.2 fun v hv => ?_
      by_cases hm : v ∈ A.vs
      · rw [if_pos hm]; exact getF_row hgi.nodup f hm
      · rw [if_neg hm]; exact getF_row hUn f (by rw [hU]; exact List.mem_filter.2 ⟨hv, by simp [hm]⟩)
theorem made_thin {a : LA} (h : a.Ok) (he : errAt 32 a.ra = 0) : Thin a.ra.at := by
  obtain ⟨-, -, hl⟩ := errAt_zero he
  refine ⟨Nat.le_trans (RL.ofF_length_le _) (by rw [List.length_map]; exact h.2), fun v hv => ?_⟩
  obtain ⟨x, hx, rfl⟩ := List.mem_map.1 hv
  have hks : ∀ y ∈ ints a.ks, y < 8 := fun y hy => by
    obtain ⟨k, hk, rfl⟩ := List.mem_map.1 hy
    unfold LA.ks varsK at hk
    have := List.mem_range.1 (List.mem_filter.1 hk).1
    omega
  have hx' : x ∈ badV a.b (ints a.ks) := hx
  have hl' : ((badV a.b (ints a.ks)).length : Int) = (a.d : Nat) := hl
  have hd : (ints a.ks).length = a.d := by unfold ints LA.d; rw [List.length_map]
  unfold badV at hx' hl'
  split at hx'
  · have := hks x hx'; omega
  · rename_i h0
    rw [if_neg h0] at hl'
    split at hx'
    · rename_i h1
      rw [if_pos h1, List.length_append, List.length_singleton] at hl'
      omega
    · split at hx'
      · rcases List.mem_append.1 hx' with h | h
        · have := hks x h; omega
        · rw [List.mem_singleton.1 h]; decide
      · rcases List.mem_cons.1 hx' with h | h
        · rw [h]; decide
        · have := hks x h; omega
theorem few_made {l : List LA} (h : ∀ a ∈ l, a.Ok) (hl : l.length ≤ 6) (he : errC (l.map LA.ra) = 0) (X : Nat → At) (hX : X = fun i => ((l.map LA.ra).map RA.at).getD i ⟨[], []⟩) : Few X (l.map LA.ra).length := by
  have hz := (errC_zero he).2
  have hXi : ∀ i (hi : i < l.length), X i = (l[i].ra).at := fun i hi => by rw [hX]; simp [hi]
  rw [List.length_map]
  refine few_thin hl (fun i hi => ?_) fun i hi => ?_
  · rw [hXi i hi]
    exact Gd.of (LA.smalls h _ (List.mem_map.2 ⟨_, List.getElem_mem hi, rfl⟩)) (hz _ (List.mem_map.2 ⟨_, List.getElem_mem hi, rfl⟩))
  · rw [hXi i hi]
    exact made_thin (h _ (List.getElem_mem hi)) (hz _ (List.mem_map.2 ⟨_, List.getElem_mem hi, rfl⟩))
end
section
open Go.RowKit Go.Sort

def x36 : List LA := [⟨3, [[1, 2, 0, 0], [3, 0, 0, 0]], 0⟩, ⟨6, [[2, 1, 0, 0]], 0⟩]
def xa0 : At := ⟨[0, 1], [[valI 1, valI 2], [valI 3, valI 0]]⟩
def xa1 : At := ⟨[1, 2], [[valI 2, valI 1]]⟩
theorem x36_ok : ∀ a ∈ x36, a.Ok := by unfold LA.Ok; decide
theorem ra_ext {a b : RA} (h1 : a.vs = b.vs) (h2 : a.ar = b.ar) (h3 : a.P = b.P) : a = b := by cases a; cases b; simp only at h1 h2 h3; rw [h1, h2, h3]
theorem x36_ra : x36.map LA.ra = [xa0.ra, xa1.ra] := by
  show [LA.ra ⟨3, [[1, 2, 0, 0], [3, 0, 0, 0]], 0⟩, LA.ra ⟨6, [[2, 1, 0, 0]], 0⟩] = _
  rw [ra_ext (a := LA.ra ⟨3, [[1, 2, 0, 0], [3, 0, 0, 0]], 0⟩) (b := xa0.ra) (by decide +kernel) (by decide +kernel) (by decide +kernel), ra_ext (a := LA.ra ⟨6, [[2, 1, 0, 0]], 0⟩) (b := xa1.ra) (by decide +kernel) (by decide +kernel) (by decide +kernel)]
theorem x36_err : errC [xa0.ra, xa1.ra] = 0 := by decide +kernel
theorem x36_tree : errT [xa0.ra, xa1.ra] [-1, 0] = 0 := by decide +kernel
theorem x36_keep : JT.dif 5 (orF [xa0, xa1]) = 0 := by decide +kernel
theorem x36_bytes : LBytes x36 := by
  intro a ha
  simp [x36] at ha
  rcases ha with rfl | rfl <;> refine ⟨by decide, by decide, ?_⟩ <;> intro t ht <;> simp at ht
  · rcases ht with rfl | rfl <;> intro k <;> (match k with | 0 | 1 | 2 | 3 => decide | k + 4 => exact (by decide : (0 : Nat) < 256))
  · subst ht; intro k; (match k with | 0 | 1 | 2 | 3 => decide | k + 4 => exact (by decide : (0 : Nat) < 256))
theorem x36_small : ∀ a ∈ [xa0.ra, xa1.ra], Small a := by rw [← x36_ra]; exact LA.smalls x36_ok
theorem xa0_gd : Gd xa0 := by
  have h := Gd.of (x36_small xa0.ra (by simp)) ((errC_zero x36_err).2 _ (by simp))
  rw [At.ra_at] at h
  exact h
theorem xa1_gd : Gd xa1 := by
  have h := Gd.of (x36_small xa1.ra (by simp)) ((errC_zero x36_err).2 _ (by simp))
  rw [At.ra_at] at h
  exact h
theorem x36_few : Few (atF [xa0.ra, xa1.ra]) [xa0.ra, xa1.ra].length := by
  have h := few_made x36_ok (by decide) (by rw [x36_ra]; exact x36_err) (atF [xa0.ra, xa1.ra]) (by unfold atF; rw [x36_ra])
  rw [x36_ra] at h
  exact h
theorem ss_one (r : RL.R) : RL.SS [r] := List.pairwise_singleton _ _
theorem xa_agr {x y : RL.R} (hx : x ∈ xa0.P) (hy : y ∈ xa1.P) : agrF xa0.vs xa1.vs x y ↔ x = [valI 1, valI 2] := by
  have hy : y = [valI 2, valI 1] := List.mem_singleton.1 hy
  subst hy
  have hx : x = [valI 1, valI 2] ∨ x = [valI 3, valI 0] := by simpa [xa0] using hx
  rcases hx with rfl | rfl
  · refine ⟨fun _ => rfl, fun _ v h1 h2 => ?_⟩
    have h1 : v = 0 ∨ v = 1 := by simpa [xa0] using h1
    have h2 : v = 1 ∨ v = 2 := by simpa [xa1] using h2
    have : v = 1 := by omega
    subst this
    decide
  · refine ⟨fun h => ?_, fun h => ?_⟩
    · have := h 1 (by simp [xa0]) (by simp [xa1])
      exact absurd this (by decide)
    · exact absurd h (by decide)
theorem x36_semi : semiF xa0 xa1 = [[valI 1, valI 2]] := by
  refine RL.SS.ext (xa0_gd.semi (b := xa1)).ss (ss_one _) fun r => ?_
  rw [mem_semiF, List.mem_singleton]
  constructor
  · rintro ⟨h1, y, h2, h3⟩
    exact (xa_agr h1 h2).1 h3
  · rintro rfl
    have h1 : [valI 1, valI 2] ∈ xa0.P := by simp [xa0]
    have h2 : [valI 2, valI 1] ∈ xa1.P := by simp [xa1]
    exact ⟨h1, _, h2, (xa_agr h1 h2).2 rfl⟩
theorem x36_join : joinA (uniV xa0.vs xa1.vs) xa0 xa1 = ⟨[0, 1, 2], [[valI 1, valI 2, valI 1]]⟩ := by
  have hU : uniV xa0.vs xa1.vs = [0, 1, 2] := by decide
  rw [hU]
  have hP : (joinA [0, 1, 2] xa0 xa1).P = [[valI 1, valI 2, valI 1]] := by
    refine RL.SS.ext (by rw [joinA_list xa0_gd xa1_gd]; exact RL.SS.of _) (ss_one _) fun r => ?_
    rw [mem_joinA, List.mem_singleton]
    have hm : mergeF [0, 1, 2] xa0.vs xa1.vs [valI 1, valI 2] [valI 2, valI 1] = [valI 1, valI 2, valI 1] := by decide
    constructor
    · rintro ⟨x, h1, y, h2, h3, rfl⟩
      have hx := (xa_agr h1 h2).1 h3
      have hy : y = [valI 2, valI 1] := List.mem_singleton.1 h2
      rw [hx, hy, hm]
    · rintro rfl
      have h1 : [valI 1, valI 2] ∈ xa0.P := by simp [xa0]
      have h2 : [valI 2, valI 1] ∈ xa1.P := by simp [xa1]
      exact ⟨_, h1, _, h2, (xa_agr h1 h2).2 rfl, hm.symm⟩
  have h2 : joinA [0, 1, 2] xa0 xa1 = ⟨(joinA [0, 1, 2] xa0 xa1).vs, (joinA [0, 1, 2] xa0 xa1).P⟩ := rfl
  rw [h2, hP]
  rfl
theorem nat_asc_ext {l m : List Nat} (hl : l.Pairwise (· < ·)) (hm : m.Pairwise (· < ·)) (h : ∀ v, v ∈ l ↔ v ∈ m) : l = m := by
  induction l generalizing m with
  | nil => cases m with
    | nil => rfl
    | cons b t => exact absurd ((h b).2 (by simp)) (by simp)
  | cons a l ih => cases m with
    | nil => exact absurd ((h a).1 (by simp)) (by simp)
    | cons b t =>
      obtain ⟨h1, h2⟩ := List.pairwise_cons.1 hl
      obtain ⟨h3, h4⟩ := List.pairwise_cons.1 hm
      have e : a = b := by
        rcases List.mem_cons.1 ((h a).1 (by simp)) with h5 | h5
        · exact h5
        · rcases List.mem_cons.1 ((h b).2 (by simp)) with h6 | h6
          · exact h6.symm
          · have := h3 a h5; have := h1 b h6; omega
      subst e
      rw [ih h2 h4 fun v => ?_]
      constructor
      · intro hv
        rcases List.mem_cons.1 ((h v).1 (by simp [hv])) with h5 | h5
        · have := h1 v hv; omega
        · exact h5
      · intro hv
        rcases List.mem_cons.1 ((h v).2 (by simp [hv])) with h5 | h5
        · have := h3 v hv; omega
        · exact h5
theorem x36_eval {a : At} (h : EvF (atF [xa0.ra, xa1.ra]) [xa0.ra, xa1.ra].length (keepB 5) a) : a = ⟨[0, 2], [[valI 1, valI 1]]⟩ := by
  have e0 : atF [xa0.ra, xa1.ra] 0 = xa0 := At.ra_at xa0
  have e1 : atF [xa0.ra, xa1.ra] 1 = xa1 := At.ra_at xa1
  have hl : [xa0.ra, xa1.ra].length = 2 := rfl
  have hvs : a.vs = [0, 2] := by
    refine nat_asc_ext h.gd.asc (by decide) fun v => ?_
    rw [h.mem v, hl]
    constructor
    · rintro ⟨hk, i, hi, hv⟩
      have hb : v ∈ bitsL 5 := of_decide_eq_true hk
      have : bitsL 5 = [0, 2] := by decide
      rw [this] at hb
      exact hb
    · intro hv
      have h2 : v = 0 ∨ v = 2 := by simpa using hv
      rcases h2 with rfl | rfl
      · exact ⟨by decide, 0, by omega, by rw [e0]; decide⟩
      · exact ⟨by decide, 1, by omega, by rw [e1]; decide⟩
  have hP : a.P = [[valI 1, valI 1]] := by
    refine RL.SS.ext h.gd.ss (ss_one _) fun r => ?_
    rw [h.rows r, hl, hvs, List.mem_singleton]
    constructor
    · rintro ⟨f, hf, rfl⟩
      have h0 := hf 0 (by show 0 < 2; omega)
      have h1 := hf 1 (by show 1 < 2; omega)
      rw [e0] at h0
      rw [e1] at h1
      have h0 : [f 0, f 1] = [valI 1, valI 2] ∨ [f 0, f 1] = [valI 3, valI 0] := by simpa [satF, rowF, xa0] using h0
      have h1 : f 1 = valI 2 ∧ f 2 = valI 1 := by simpa [satF, rowF, xa1] using h1
      show [f 0, f 2] = _
      rcases h0 with h | h
      · injection h with h2 h3
        rw [h2, h1.2]
      · injection h with h2 h3
        injection h3 with h3
        rw [h1.1] at h3
        exact absurd h3 (by decide)
    · rintro rfl
      refine ⟨fun v => if v = 1 then valI 2 else valI 1, fun i hi => ?_, by decide⟩
      have hi : i < 2 := hi
      match i, hi with
      | 0, _ => rw [e0]; show rowF xa0.vs _ ∈ xa0.P; decide
      | 1, _ => rw [e1]; show rowF xa1.vs _ ∈ xa1.P; decide
  have h2 : a = ⟨a.vs, a.P⟩ := rfl
  rw [h2, hvs, hP]
end
section
open Go.RowKit Go.Sort

def unionV (al : List At) : List Nat := (List.range 32).filter fun v => al.any fun a => decide (v ∈ a.vs)
def denseR (U : List Nat) (al : List At) : List RA := al.map fun a => (denseA U a).ra
def joinR (al : List At) : At := ⟨unionV al, joinF (unionV al).length (al.map (denseA (unionV al)))⟩
def satL (al : List At) (f : Nat → RL.V) : Prop := ∀ a ∈ al, satF a f

theorem unionV_asc (al : List At) : (unionV al).Pairwise (· < ·) := List.pairwise_lt_range.filter _
theorem unionV_nodup (al : List At) : (unionV al).Nodup := nodup_of_asc (unionV_asc al)
theorem mem_unionV {al : List At} (h : ∀ a ∈ al, Gd a) (v : Nat) : v ∈ unionV al ↔ ∃ a ∈ al, v ∈ a.vs := by
  unfold unionV
  rw [List.mem_filter, List.mem_range, List.any_eq_true]
  constructor
  · rintro ⟨-, a, ha, hv⟩
    exact ⟨a, ha, of_decide_eq_true hv⟩
  · rintro ⟨a, ha, hv⟩
    exact ⟨(h a ha).lt v hv, a, ha, decide_eq_true hv⟩
theorem unionV_len (al : List At) : (unionV al).length ≤ 32 := by
  unfold unionV
  exact Nat.le_trans (List.length_filter_le _ _) (by rw [List.length_range]; exact Nat.le_refl _)
theorem unionV_lt {al : List At} {v : Nat} (hv : v ∈ unionV al) : v < 32 := by unfold unionV at hv; exact List.mem_range.1 (List.mem_filter.1 hv).1
theorem idx_mono {U : List Nat} (hU : U.Pairwise (· < ·)) {x y : Nat} (hx : x ∈ U) (hy : y ∈ U) (h : x < y) : U.idxOf x < U.idxOf y := by
  obtain ⟨i, hi, rfl⟩ := List.mem_iff_getElem.1 hx
  obtain ⟨j, hj, rfl⟩ := List.mem_iff_getElem.1 hy
  have hn := nodup_of_asc hU
  rw [hn.idxOf_getElem i hi, hn.idxOf_getElem j hj]
  refine Nat.lt_of_not_le fun hle => ?_
  rcases Nat.lt_or_eq_of_le hle with h1 | h1
  · have := List.pairwise_iff_getElem.1 hU j i hj hi h1; omega
  · subst h1; omega
theorem denseR_at (U : List Nat) (al : List At) : (denseR U al).map RA.at = al.map (denseA U) := by
  unfold denseR
  rw [List.map_map]
  exact List.map_congr_left fun a _ => At.ra_at _
theorem dense_good {al : List At} (h : ∀ a ∈ al, Gd a) (hl : al.length ≤ 32) : Good0 (unionV al).length (denseR (unionV al) al) where
  le := unionV_len al
  many := by unfold denseR; rw [List.length_map]; exact hl
  sm := fun r hr => by
    unfold denseR at hr
    obtain ⟨a, ha, rfl⟩ := List.mem_map.1 hr
    have hg := h a ha
    refine ⟨hg.ss, fun r hr => ?_, ?_, hg.many, ?_, hg.I⟩
    · have := hg.len r hr
      unfold denseA At.ra
      simp only [List.length_map]; omega
    · have := hg.vl
      unfold denseA At.ra
      simp only [List.length_map]; omega
    · have := hg.vl
      unfold denseA At.ra
      simp only [List.length_map]; omega
  ok := fun r hr => by
    unfold denseR at hr
    obtain ⟨a, ha, rfl⟩ := List.mem_map.1 hr
    have hg := h a ha
    have hin : ∀ v ∈ a.vs, v ∈ unionV al := fun v hv => (mem_unionV h v).2 ⟨a, ha, hv⟩
    rw [errAt_arity]
    · rw [if_pos]; unfold At.ra; simp
    · unfold At.ra denseA
      refine List.pairwise_map.2 (List.pairwise_map.2 (hg.asc.imp_of_mem fun {x y} hx hy hlt => ?_))
      exact Int.ofNat_lt.2 (idx_mono (unionV_asc al) (hin x hx) (hin y hy) hlt)
    · intro v hv
      unfold At.ra denseA at hv
      obtain ⟨k, hk, rfl⟩ := List.mem_map.1 hv
      obtain ⟨x, hx, rfl⟩ := List.mem_map.1 hk
      exact ⟨Int.natCast_nonneg _, Int.ofNat_lt.2 (List.idxOf_lt_length_iff.2 (hin x hx))⟩
  cov := fun v hv => by
    obtain ⟨a, ha, hva⟩ := (mem_unionV h _).1 (List.getElem_mem hv)
    refine ⟨(denseA (unionV al) a).ra, List.mem_map.2 ⟨a, ha, rfl⟩, ?_⟩
    unfold denseA At.ra
    refine List.mem_map.2 ⟨v, List.mem_map.2 ⟨_, hva, (unionV_nodup al).idxOf_getElem v hv⟩, rfl⟩
section
variable {al bl : List At} (h : ∀ a ∈ al, Gd a) (hl : al.length ≤ 32)
include h hl
theorem mem_joinR (z : RL.R) : z ∈ (joinR al).P ↔ z.length = (unionV al).length ∧ ∀ a ∈ al, rowF a.vs (getF (unionV al) z) ∈ a.P := by
  have hg := dense_good h hl
  have h1 := hg.mem z
  rw [denseR_at] at h1
  show z ∈ joinF _ _ ↔ _
  rw [h1]
  refine and_congr_right fun _ => ?_
  unfold denseR
  constructor
  · intro h2 a ha
    have := h2 _ (List.mem_map.2 ⟨a, ha, rfl⟩)
    rw [At.ra_at, sat_dense] at this
    exact this
  · intro h2 r hr
    obtain ⟨a, ha, rfl⟩ := List.mem_map.1 hr
    rw [At.ra_at, sat_dense]
    exact h2 a ha
theorem rows_joinR (z : RL.R) : z ∈ (joinR al).P ↔ ∃ f, satL al f ∧ rowF (unionV al) f = z := by
  rw [mem_joinR h hl]
  constructor
  · rintro ⟨h1, h2⟩
    exact ⟨getF (unionV al) z, h2, row_getF (unionV_nodup al) h1⟩
  · rintro ⟨f, hf, rfl⟩
    refine ⟨row_len _ _, fun a ha => ?_⟩
    have e : rowF a.vs (getF (unionV al) (rowF (unionV al) f)) = rowF a.vs f := row_eq.2 fun v hv => getF_row (unionV_nodup al) f ((mem_unionV h v).2 ⟨a, ha, hv⟩)
    rw [e]
    exact hf a ha
theorem joinR_ss : RL.SS (joinR al).P := by
  have hg := (dense_good h hl).joinSS
  rw [denseR_at] at hg
  exact hg
theorem joinR_I : ∀ r ∈ (joinR al).P, ∀ c ∈ r, IsI c := by
  have hg := (dense_good h hl).I
  rw [denseR_at] at hg
  exact hg
end
theorem satD_list {al : List At} {X : Nat → At} (hX : X = fun i => al.getD i ⟨[], []⟩) (f : Nat → RL.V) : satD X (fun i => i < al.length) f ↔ satL al f := by
  subst hX
  constructor
  · intro h a ha
    obtain ⟨i, hi, rfl⟩ := List.getElem_of_mem ha
    have := h i hi
    simpa [hi] using this
  · intro h i hi
    have := h _ (List.getElem_mem hi)
    simpa [hi] using this
theorem joinR_many {al : List At} (h : ∀ a ∈ al, Gd a) (hl : al.length ≤ 32) {X : Nat → At} (hX : X = fun i => al.getD i ⟨[], []⟩) (hF : Few X al.length) : (joinR al).P.length ≤ 60000 := by
  obtain ⟨V, J, hV, hsub, hJ, hall⟩ := hF
  have hUV : ∀ v ∈ unionV al, v ∈ V := fun v hv => by
    obtain ⟨a, ha, hva⟩ := (mem_unionV h v).1 hv
    obtain ⟨i, hi, rfl⟩ := List.getElem_of_mem ha
    refine hsub i hi v ?_
    rw [hX]; simpa [hi] using hva
  have hmem : ∀ x ∈ (joinR al).P.map fun z => rowF V (getF (unionV al) z), x ∈ J := fun x hx => by
    obtain ⟨z, hz, rfl⟩ := List.mem_map.1 hx
    exact hall _ ((satD_list hX _).2 ((mem_joinR h hl z).1 hz).2)
  have hnd : ((joinR al).P.map fun z => rowF V (getF (unionV al) z)).Nodup := by
    have h1 := ss_nodup (joinR_ss h hl)
    refine List.pairwise_map.2 (h1.imp_of_mem fun {x y} hx hy hne e => hne ?_)
    have e1 := row_getF (unionV_nodup al) ((mem_joinR h hl x).1 hx).1
    have e2 := row_getF (unionV_nodup al) ((mem_joinR h hl y).1 hy).1
    rw [← e1, ← e2]
    refine row_eq.2 fun v hv => ?_
    exact row_eq.1 e v (hUV v hv)
  have := nodupR_le hnd hmem
  rw [List.length_map] at this
  omega
theorem at_ext {a b : At} (hv : a.vs = b.vs) (ha : RL.SS a.P) (hb : RL.SS b.P) (h : ∀ x, x ∈ a.P ↔ x ∈ b.P) : a = b := by
  have hP := RL.SS.ext ha hb h
  cases a; cases b
  simp only at hv hP
  rw [hv, hP]
theorem rows_projR {al : List At} (h : ∀ a ∈ al, Gd a) (hl : al.length ≤ 32) (q : Nat → Bool) (x : RL.R) : x ∈ (projA (joinR al) q).P ↔ ∃ f, satL al f ∧ rowF ((unionV al).filter q) f = x := by
  show x ∈ RL.ofF ((joinR al).P.map fun z => rowF ((unionV al).filter q) (getF (unionV al) z)) ↔ _
  rw [RL.mem_ofF]
  constructor
  · intro hx
    obtain ⟨z, hz, rfl⟩ := List.mem_map.1 hx
    exact ⟨getF (unionV al) z, ((mem_joinR h hl z).1 hz).2, rfl⟩
  · rintro ⟨f, hf, rfl⟩
    refine List.mem_map.2 ⟨rowF (unionV al) f, (rows_joinR h hl _).2 ⟨f, hf, rfl⟩, ?_⟩
    exact row_eq.2 fun v hv => getF_row (unionV_nodup al) f (List.mem_filter.1 hv).1
theorem filter_own {al : List At} (h : ∀ a ∈ al, Gd a) {a : At} (ha : a ∈ al) : (unionV al).filter (fun v => decide (v ∈ a.vs)) = a.vs :=
  nat_asc_ext ((unionV_asc al).filter _) (h a ha).asc fun v => by
    rw [List.mem_filter, decide_eq_true_eq, mem_unionV h]
    exact ⟨fun h => h.2, fun h => ⟨⟨a, ha, h⟩, h⟩⟩
theorem gd2 {a b : At} (ha : Gd a) (hb : Gd b) : ∀ c ∈ [a, b], Gd c := fun c hc => by
  rcases List.mem_cons.1 hc with rfl | hc
  · exact ha
  · rw [List.mem_singleton.1 hc]; exact hb
theorem satL2 {a b : At} (f : Nat → RL.V) : satL [a, b] f ↔ satF a f ∧ satF b f := by unfold satL; simp
theorem uniV_union (a b : At) : uniV a.vs b.vs = unionV [a, b] := by
  unfold uniV unionV
  refine List.filter_congr fun v _ => ?_
  simp
theorem semi_rows {a b : At} (ha : Gd a) (hb : Gd b) (x : RL.R) : x ∈ semiF a b ↔ ∃ f, satF a f ∧ satF b f ∧ rowF a.vs f = x := by
  rw [semi_proj (unionV_nodup [a, b]) ha.nodup hb.nodup (fun v => by rw [mem_unionV (gd2 ha hb)]; simp) ha.len hb.len]
  constructor
  · rintro ⟨z, -, h1, h2, h3⟩
    exact ⟨_, h1, h2, h3⟩
  · rintro ⟨f, h1, h2, rfl⟩
    have e : ∀ c : At, c ∈ [a, b] → rowF c.vs (getF (unionV [a, b]) (rowF (unionV [a, b]) f)) = rowF c.vs f := fun c hc => row_eq.2 fun v hv => getF_row (unionV_nodup _) f ((mem_unionV (gd2 ha hb) v).2 ⟨c, hc, hv⟩)
    have ea := e a (by simp)
    have eb := e b (by simp)
    exact ⟨rowF (unionV [a, b]) f, row_len _ _, by rw [ea]; exact h1, by rw [eb]; exact h2, ea⟩
theorem semi_ref {a b : At} (ha : Gd a) (hb : Gd b) : projA (joinR [a, b]) (fun v => decide (v ∈ a.vs)) = ⟨a.vs, semiF a b⟩ := by
  have hg := gd2 ha hb
  refine at_ext (filter_own hg (by simp)) (RL.SS.of _) (ha.semi (b := b)).ss fun x => ?_
  rw [rows_projR hg (by simp), semi_rows ha hb, filter_own hg (by simp)]
  constructor
  · rintro ⟨f, h1, h2⟩
    exact ⟨f, ((satL2 f).1 h1).1, ((satL2 f).1 h1).2, h2⟩
  · rintro ⟨f, h1, h2, h3⟩
    exact ⟨f, (satL2 f).2 ⟨h1, h2⟩, h3⟩
theorem join_ref {a b : At} (ha : Gd a) (hb : Gd b) : joinA (uniV a.vs b.vs) a b = joinR [a, b] := by
  have hg := gd2 ha hb
  have hu := uniV_union a b
  refine at_ext hu (by rw [joinA_list ha hb]; exact RL.SS.of _) (joinR_ss hg (by simp)) fun z => ?_
  rw [mem_joinA, mem_joinR hg (by simp), ← join_two (U := uniV a.vs b.vs) (by rw [hu]; exact unionV_nodup _) ha.nodup hb.nodup (mem_uniV ha.lt hb.lt) ha.len hb.len, hu]
  simp
theorem semi_twice {a b : At} (ha : Gd a) (hb : Gd b) : semiF ⟨a.vs, semiF a b⟩ b = semiF a b := by
  have hs := ha.semi (b := b)
  refine RL.SS.ext (hs.semi (b := b)).ss hs.ss fun x => ?_
  show x ∈ semiF ⟨a.vs, semiF a b⟩ b ↔ x ∈ semiF a b
  rw [semi_rows hs hb]
  constructor
  · rintro ⟨f, h1, -, rfl⟩
    exact h1
  · intro hx
    obtain ⟨f, h1, h2, rfl⟩ := (semi_rows ha hb x).1 hx
    exact ⟨f, hx, h2, rfl⟩
end
section
open Go.RowKit Go.Sort

def inF (vs : List Int) (v : Int) : Nat × Bool := if v ∈ vs then (vs.idxOf v, true) else (0, false)
theorem inF_at {vs : List Int} {v : Int} {k : Nat} (hk : k < vs.length) (hv : vs[k] = v) (h0 : ∀ u ∈ vs.take k, u ≠ v) : inF vs v = (k, true) := by
  unfold inF
  have hm : v ∈ vs := hv ▸ List.getElem_mem hk
  rw [if_pos hm]
  have : vs.idxOf v = k := by
    have e : vs = vs.take k ++ vs.drop k := (List.take_append_drop k vs).symm
    rw [e, List.idxOf_append, if_neg (fun h => h0 v h rfl), List.drop_eq_getElem_cons hk, hv, List.idxOf_cons_self, List.length_take]
    omega
  rw [this]
theorem inF_no {vs : List Int} {v : Int} (h0 : ∀ u ∈ vs, u ≠ v) : inF vs v = (0, false) := by
  unfold inF
  rw [if_neg fun h => h0 v h rfl]
theorem inF_nat (vs : List Nat) (v : Nat) : inF (vs.map Int.ofNat) (v : Int) = if v ∈ vs then (vs.idxOf v, true) else (0, false) := by
  have hm : (v : Int) ∈ vs.map Int.ofNat ↔ v ∈ vs := by
    rw [List.mem_map]
    constructor
    · rintro ⟨x, hx, e⟩
      have : x = v := Int.ofNat.inj e
      exact this ▸ hx
    · exact fun h => ⟨v, h, rfl⟩
  unfold inF
  by_cases h : v ∈ vs
  · rw [if_pos (hm.2 h), if_pos h]
    have : ∀ l : List Nat, (l.map Int.ofNat).idxOf (v : Int) = l.idxOf v := by
      intro l
      induction l with
      | nil => rfl
      | cons a t ih =>
        rw [List.map_cons, List.idxOf_cons, List.idxOf_cons, ih]
        have : (Int.ofNat a == (v : Int)) = (a == v) := by
          rw [Bool.eq_iff_iff, beq_iff_eq, beq_iff_eq]
          exact ⟨fun e => Int.ofNat.inj e, fun e => by rw [e]; rfl⟩
        rw [this]
    rw [this]
  · rw [if_neg fun hh => h (hm.1 hh), if_neg h]

set_option maxHeartbeats 2000000 in
theorem r36In_any (VA : Option Addr) (VC : Nat) (vs : List Int) (v : Int) (w : World) (hv : SlI .i64 w.heap.size w VA vs) (hl : vs.length ≤ 1000000) :
    Calls Tryz.prog 33 #[.slice VA vs.length VC, .int .i64 v] w fun e w' => e = .returned (.tuple #[.int .i64 ((inF vs v).1 : Nat), .bool (inF vs v).2]) ∧ w' = w := by
  have HV := Lib.hid hv
  clear hv
  go_enter Tryz.func33, Tryz.ntmps33
  go_upto_region 2 with (fail)
  go_loopw [6] (fun c wx => ∃ k : Nat, k ≤ vs.length ∧ c = .int .i64 k ∧ (∀ u ∈ vs.take k, u ≠ v) ∧ wx = w) (fun c _ => vs.length - (intOf c).toNat)
  case atStart => exact ⟨0, Nat.zero_le _, rfl, fun r hr => (by simp at hr), rfl⟩
  case round =>
    obtain ⟨k, hk, rfl, hall, rfl⟩ := hrel
    have HALL := Lib.hid hall
    clear hall
    by_cases hkl : k < vs.length
    · have r0 : (0 : Int) ≤ (k : Int) := by omega
      have r1 : (k : Int) < (vs.length : Int) := by omega
      have r3 : IntKind.i64.wrap ((k : Int) + 1) = ((k + 1 : Nat) : Int) := by rw [IntWalk.i64_in _ (by omega)]; omega
      obtain ⟨b, o, rfl, hb, c0⟩ := slI_at HV.out hkl
      have HAT : Hid (vs[k] = v → inF vs v = (k, true)) := fun h => inF_at hkl h HALL.out
      have HN : Hid (vs[k] ≠ v → ∀ u ∈ vs.take (k + 1), u ≠ v) := fun h r hr => by
        rw [List.take_succ_eq_append_getElem hkl, List.mem_append] at hr
        rcases hr with hr | hr
        · exact HALL.out r hr
        · rw [List.mem_singleton.1 hr]; exact h
      generalize vs[k] = x at *
      by_cases he : x = v
      · have q : (x == v) = true := by simpa using he
        have HE := Lib.hid (HAT.out he)
        clear he HAT HN
        go_wp2
        go_ret2
        exact ⟨by rw [HE.out]; rfl, rfl⟩
      · have q : (x == v) = false := by simpa using he
        have HE := Lib.hid (HN.out he)
        clear he HAT HN
        go_wp2
        go_roundw
        case rel => exact ⟨k + 1, hkl, by go_num, HE.out, by first | rfl | trivial⟩
        case measure => simp [intOf]; omega
    · obtain rfl : k = vs.length := by omega
      have r1 : ¬ (vs.length : Int) < (vs.length : Int) := by omega
      have HE : Hid (inF vs v = (0, false)) := inF_no (by have h := HALL.out; rwa [List.take_length] at h)
      go_wp2
      go_ret2
      exact ⟨by rw [HE.out]; rfl, rfl⟩

def unionK (al : List At) (k : Nat) : List Nat := (List.range k).filter fun v => al.any fun a => decide (v ∈ a.vs)
theorem unionK_yes {al : List At} {k : Nat} (h : ∃ a ∈ al, k ∈ a.vs) : unionK al (k + 1) = unionK al k ++ [k] := by
  unfold unionK
  rw [List.range_succ, List.filter_append]
  have : (al.any fun a => decide (k ∈ a.vs)) = true := List.any_eq_true.2 (by obtain ⟨a, h1, h2⟩ := h; exact ⟨a, h1, decide_eq_true h2⟩)
  simp [this]
theorem unionK_no {al : List At} {k : Nat} (h : ∀ a ∈ al, k ∉ a.vs) : unionK al (k + 1) = unionK al k := by
  unfold unionK
  rw [List.range_succ, List.filter_append]
  have : (al.any fun a => decide (k ∈ a.vs)) = false := by
    rw [List.any_eq_false]
    intro a ha
    simpa using h a ha
  simp [this]
theorem unionK_len (al : List At) (k : Nat) : (unionK al k).length ≤ k := by
  unfold unionK
  exact Nat.le_trans (List.length_filter_le _ _) (by rw [List.length_range]; exact Nat.le_refl _)
def VarsPost (al : List At) (w : World) (e : Ending) (w' : World) : Prop := ∃ v, e = .returned v ∧ w'.ownsRow w.heap.size 3 1 v (unionV al).length ((unionV al).map fun i : Nat => Value.int .i64 (i : Nat)) ∧ Below w.heap.size w w'

set_option maxHeartbeats 8000000 in
theorem r36Vars_any (AA : Option Addr) (AC : Nat) (al : List At) (w : World) (hA : AtsR w.heap.size w AA (al.map At.ra)) (hl : al.length ≤ 1000000) (hg : ∀ a ∈ al, Gd a) :
    Calls Tryz.prog 32 #[.slice AA al.length AC] w (VarsPost al w) := by
  have HA := Lib.hid hA
  have HG := Lib.hid hg
  clear hA hg
  go_enter Tryz.func32, Tryz.ntmps32
  go_upto_region 3 with (fail)
  go_loopw [3, 4] (fun vo c wx => ∃ k : Nat, k ≤ 32 ∧ c = .int .i64 k ∧ wx.ownsRow w.heap.size 3 1 vo (unionK al k).length ((unionK al k).map fun i : Nat => Value.int .i64 (i : Nat)) ∧ Below w.heap.size w wx) (fun _ c _ => 32 - (intOf c).toNat)
  case atStart => exact ⟨0, Nat.zero_le _, rfl, own_nil _ _ _ _, Below.refl _ _⟩
  case round =>
    obtain ⟨k, hk, rfl, hown, hb⟩ := hrel
    have HO := Lib.hid hown
    have HB := Lib.hid hb
    clear hown hb
    by_cases hk32 : k < 32
    rotate_left
    · obtain rfl : k = 32 := by omega
      have HE : Hid (unionK al 32 = unionV al) := rfl
      rw [HE.out] at HO
      go_wp2_with fail
      go_ret
      exact ⟨_, rfl, HO.out, HB.out⟩
    have r1 : (k : Int) < 32 := by omega
    have r3 : IntKind.i64.wrap ((k : Int) + 1) = ((k + 1 : Nat) : Int) := by rw [IntWalk.i64_in _ (by omega)]; omega
    obtain ⟨wo, hwo⟩ : ∃ wo, wo = wr := ⟨_, rfl⟩
    subst hwo
    obtain ⟨vo, hvo⟩ : ∃ vo, vo = u3 := ⟨_, rfl⟩
    subst hvo
    go_wp2_with fail
    go_loopw [3, 5] (fun v3 c wx => ∃ i : Nat, i ≤ al.length ∧ c = .int .i64 i ∧ v3 = vo ∧ (∀ a ∈ al.take i, k ∉ a.vs) ∧ wx = wo) (fun _ c _ => al.length - (intOf c).toNat)
    case atStart => exact ⟨0, Nat.zero_le _, rfl, rfl, fun r hr => (by simp at hr), rfl⟩
    case round =>
      obtain ⟨i, hi, rfl, hv3, hno, rfl⟩ := hrel
      obtain rfl := hv3.symm
      have HNO := Lib.hid hno
      clear hno
      by_cases hil : i < al.length
      rotate_left
      · obtain rfl : i = al.length := by omega
        have q1 : ¬ (al.length : Int) < (al.length : Int) := by omega
        have HE : Hid (unionK al (k + 1) = unionK al k) := unionK_no (by have h := HNO.out; rwa [List.take_length] at h)
        go_wp2_with fail
        go_roundw
        case rel => exact ⟨k + 1, hk32, by go_num, by rw [HE.out]; exact HO.out, HB.out⟩
        case measure => simp [intOf]; omega
      have q0 : (0 : Int) ≤ (i : Int) := by omega
      have q1 : (i : Int) < (al.length : Int) := by omega
      have q3 : IntKind.i64.wrap ((i : Int) + 1) = ((i + 1 : Nat) : Int) := by rw [IntWalk.i64_in _ (by omega)]; omega
      obtain ⟨ab, ao, VA, VC, QA, QC, rfl, hab, a0, a1, -, -, -, -, av, -⟩ := atsR_at HA.out (i := i) (by rw [List.length_map]; exact hil)
      have HGK := Lib.hid (HG.out _ (List.getElem_mem hil))
      have HMK : Hid (al[i] ∈ al) := List.getElem_mem hil
      have HTK : Hid (al.take (i + 1) = al.take i ++ [al[i]]) := List.take_succ_eq_append_getElem hil
      simp only [List.getElem_map] at a0 a1 av
      have HVS : Hid (SlI .i64 w.heap.size w VA (al[i].vs.map Int.ofNat)) := av
      have hvl : al[i].ra.vs.length = al[i].vs.length := List.length_map ..
      rw [hvl] at a0
      clear av hvl a1
      generalize al[i] = a at *
      have a0 := (HB.out.cell (p := ⟨ab, ao + i * 2, none⟩) hab).trans a0
      have hab2 : ab < wr.heap.size := Nat.lt_of_lt_of_le hab HB.out.size
      have hul : a.vs.length ≤ 32 := HGK.out.vl
      have HIN := Lib.hid (r36In_any VA VC (a.vs.map Int.ofNat) (k : Int) wr ((Sl.below HVS.out HB.out (Nat.le_refl _)).more HB.out.size) (by rw [List.length_map]; omega))
      have hlm : (a.vs.map Int.ofNat).length = a.vs.length := List.length_map ..
      rw [hlm] at HIN
      go_wp2_with fail
      refine HIN.out.mono ?_
      rintro e w1 ⟨rfl, hw1⟩
      obtain rfl := hw1.symm
      rw [inF_nat]
      clear HIN hlm
      by_cases hm : k ∈ a.vs
      · have HE : Hid (unionK al (k + 1) = unionK al k ++ [k]) := unionK_yes ⟨a, HMK.out, hm⟩
        rw [if_pos hm]
        clear hm
        generalize a.vs.idxOf k = z at *
        have HLE : Hid ((unionK al k).length ≤ 1000) := Nat.le_trans (unionK_len al k) (by omega)
        generalize unionK al k = cs at *
        have HOA : Hid (∀ o : Obj, (wr.alloc o).ownsRow w.heap.size 3 1 vo cs.length (cs.map fun i : Nat => Value.int .i64 (i : Nat))) := fun o => own_keep HO.out ((Ext.refl wr).alloc o).below
        have HBZ : Hid (∀ o : Obj, w.heap.size ≤ (wr.alloc o).heap.size) := fun o => Nat.le_trans HB.out.size ((Ext.refl wr).alloc o).size
        have HRN := Lib.hid (Row.new wr 3 [.int .i64 (k : Nat)])
        go_wp2_with (at_builtin; go_loud (refine app1Int27 rfl (.tmp 29) (.tmp 31) rfl w.heap.size vo cs.length (cs.map fun i : Nat => Value.int .i64 (i : Nat)) rfl (HOA.out _) wr.heap.size (k : Int) rfl (HRN.out.cell 0) (by have := HLE.out; omega) (HBZ.out _) ?_)
                     intro v5 w5 hown hg
                     have HO5 := Lib.hid hown
                     have HB5 := Lib.hid (Below.grown (Below.then HB.out ((Ext.refl wr).alloc _).below HB.out.size) hg (by have := HB.out.size; simp; omega) (fun j hj => own_base HO.out hj))
                     clear hown hg)
        go_roundw
        case rel => exact ⟨k + 1, hk32, by go_num, by rw [HE.out, List.length_append, List.map_append]; exact HO5.out, HB5.out⟩
        case measure => simp [intOf]; omega
      · have HN : Hid (∀ b ∈ al.take (i + 1), k ∉ b.vs) := fun b hb => by
          rw [HTK.out, List.mem_append] at hb
          rcases hb with hb | hb
          · exact HNO.out b hb
          · rw [List.mem_singleton.1 hb]; exact hm
        rw [if_neg hm]
        clear hm
        go_wp2_with fail
        go_roundw
        case rel => exact ⟨i + 1, hil, by go_num, by first | rfl | trivial, HN.out, by first | rfl | trivial⟩
        case measure => simp [intOf]; omega
end
section
open Go.RowKit Go.Sort

structure Three (base : Nat) (w : World) (vo : Value) (no : Nat) (xo : List Value) (vm : Value) (nm : Nat) (xm : List Value) (va : Value) (na : Nat) (xa : List Value) (S : World → Prop) : Prop where
  out : w.ownsRow base 36 3 vo no xo
  ref : w.ownsRow base 45 2 vm nm xm
  ar : w.ownsRow base 3 1 va na xa
  om : ∀ b, vo.ownBlock = some b → vm.ownBlock ≠ some b
  oa : ∀ b, vo.ownBlock = some b → va.ownBlock ≠ some b
  ma : ∀ b, vm.ownBlock = some b → va.ownBlock ≠ some b
  el : Stab (fun b => vo.ownBlock = some b ∨ vm.ownBlock = some b ∨ va.ownBlock = some b) w S
theorem MadeI.three {base : Nat} {w : World} {Z : List (RA × HM)} {vo vm va : Value} (h : MadeI base w Z vo vm va) :
    Three base w vo Z.length (Z.flatMap outC) vm Z.length (Z.flatMap refC) va Z.length (Z.flatMap arC) fun w'' => ∀ z ∈ Z, ElR w.heap.size z w'' :=
  ⟨h.out, h.ref, h.ar, h.om, h.oa, h.ma, h.el⟩
section
variable {base : Nat} {w w' : World} {vo vm va : Value} {no nm na : Nat} {xo xm xa : List Value} {S T : World → Prop}
theorem Three.lt (h : Three base w vo no xo vm nm xm va na xa S) : ∀ b, (vo.ownBlock = some b ∨ vm.ownBlock = some b ∨ va.ownBlock = some b) → b < w.heap.size := fun b hb => by
  rcases hb with hb | hb | hb
  · exact own_lt h.out _ hb
  · exact own_lt h.ref _ hb
  · exact own_lt h.ar _ hb
theorem Three.up (h : Three base w vo no xo vm nm xm va na xa S) (hb : Below w.heap.size w w') : Three base w' vo no xo vm nm xm va na xa S :=
  ⟨own_keep h.out hb, own_keep h.ref hb, own_keep h.ar hb, h.om, h.oa, h.ma, h.el.up hb⟩
theorem Three.push (h : Three base w vo no xo vm nm xm va na xa S) (hb : Below w.heap.size w w')
    (hT : ∀ w'' : World, (∀ p : Addr, w.heap.size ≤ p.block → p.block < w'.heap.size → w''.cell? p = w'.cell? p) → T w'') : Three base w' vo no xo vm nm xm va na xa fun w'' => S w'' ∧ T w'' :=
  ⟨own_keep h.out hb, own_keep h.ref hb, own_keep h.ar hb, h.om, h.oa, h.ma, (h.el.up hb).and (Stab.of_from (lo := w.heap.size) (fun b hlo hf => absurd (h.lt b hf) (by omega)) hT)⟩
theorem Three.growO (h : Three base w vo no xo vm nm xm va na xa S) {vo' : Value} {no' : Nat} {xo' : List Value} (ho : w'.ownsRow base 36 3 vo' no' xo') (hg : w.grownBy w' vo.ownBlock) (hv : ∀ b, vo'.ownBlock = some b → vo.ownBlock = some b ∨ b = w.heap.size) :
    Three base w' vo' no' xo' vm nm xm va na xa S :=
  ⟨ho, own_grown h.ref hg fun k hk e => h.om k e.symm hk, own_grown h.ar hg fun k hk e => h.oa k e.symm hk,
   fun b hb hb' => (hv b hb).elim (fun e => h.om b e hb') fun e => by have := own_lt h.ref b hb'; omega,
   fun b hb hb' => (hv b hb).elim (fun e => h.oa b e hb') fun e => by have := own_lt h.ar b hb'; omega, h.ma,
   h.el.grow hg (fun b e => .inl e) fun b hlt hf => by
     rcases hf with hf | hf
     · exact .inl ((hv b hf).resolve_right (by omega))
     · exact .inr hf⟩
theorem Three.growM (h : Three base w vo no xo vm nm xm va na xa S) {vm' : Value} {nm' : Nat} {xm' : List Value} (ho : w'.ownsRow base 45 2 vm' nm' xm') (hg : w.grownBy w' vm.ownBlock) (hv : ∀ b, vm'.ownBlock = some b → vm.ownBlock = some b ∨ b = w.heap.size) :
    Three base w' vo no xo vm' nm' xm' va na xa S :=
  ⟨own_grown h.out hg fun k hk e => h.om k hk e.symm, ho, own_grown h.ar hg fun k hk e => h.ma k e.symm hk,
   fun b hb hb' => (hv b hb').elim (fun e => h.om b hb e) fun e => by have := own_lt h.out b hb; omega, h.oa,
   fun b hb hb' => (hv b hb).elim (fun e => h.ma b e hb') fun e => by have := own_lt h.ar b hb'; omega,
   h.el.grow hg (fun b e => .inr (.inl e)) fun b hlt hf => by
     rcases hf with hf | hf | hf
     · exact .inl hf
     · exact .inr (.inl ((hv b hf).resolve_right (by omega)))
     · exact .inr (.inr hf)⟩
theorem Three.growA (h : Three base w vo no xo vm nm xm va na xa S) {va' : Value} {na' : Nat} {xa' : List Value} (ho : w'.ownsRow base 3 1 va' na' xa') (hg : w.grownBy w' va.ownBlock) (hv : ∀ b, va'.ownBlock = some b → va.ownBlock = some b ∨ b = w.heap.size) :
    Three base w' vo no xo vm nm xm va' na' xa' S :=
  ⟨own_grown h.out hg fun k hk e => h.oa k hk e.symm, own_grown h.ref hg fun k hk e => h.ma k hk e.symm, ho, h.om,
   fun b hb hb' => (hv b hb').elim (fun e => h.oa b hb e) fun e => by have := own_lt h.out b hb; omega,
   fun b hb hb' => (hv b hb').elim (fun e => h.ma b hb e) fun e => by have := own_lt h.ref b hb; omega,
   h.el.grow hg (fun b e => .inr (.inr e)) fun b hlt hf => by
     rcases hf with hf | hf | hf
     · exact .inl hf
     · exact .inr (.inl hf)
     · exact .inr (.inr ((hv b hf).resolve_right (by omega)))⟩
end
theorem MadeI.step {base : Nat} {w : World} {vo vm va : Value} {Z : List (RA × HM)} {B1 B2 B3 B4 : Nat} {z : RA × HM} {n : Nat} (hn : n = Z.length + 1)
    (h : Three base w vo n (Z.flatMap outC ++ outC z) vm n (Z.flatMap refC ++ refC z) va n (Z.flatMap arC ++ arC z) fun w'' => ((∀ z ∈ Z, ElR B1 z w'') ∧ (SlI .i64 B2 w'' z.2.VA z.1.vs ∧ SlRs B3 w'' z.2.PA z.1.P)) ∧ SlRs B4 w'' z.2.QA z.1.P)
    (h1 : B1 ≤ w.heap.size) (h2 : B2 ≤ w.heap.size) (h3 : B3 ≤ w.heap.size) (h4 : B4 ≤ w.heap.size) (hk : ∀ z ∈ Z, HmOk z) (hz : HmOk z) : MadeI base w (Z ++ [z]) vo vm va := by
  subst hn
  have e1 : ∀ f : RA × HM → List Value, (Z ++ [z]).flatMap f = Z.flatMap f ++ f z := fun f => by rw [List.flatMap_append]; simp
  have el : (Z ++ [z]).length = Z.length + 1 := by simp
  refine ⟨by rw [el, e1]; exact h.out, by rw [el, e1]; exact h.ref, by rw [el, e1]; exact h.ar, h.om, h.oa, h.ma, h.el.imp fun w'' hs y hy => ?_, fun y hy => ?_⟩
  · rcases List.mem_append.1 hy with hy | hy
    · exact (hs.1.1 y hy).more h1
    · simp at hy; subst hy
      exact ⟨hs.1.2.1.more h2, hs.1.2.2.more h3, hs.2.more h4⟩
  · rcases List.mem_append.1 hy with hy | hy
    · exact hk y hy
    · simp at hy; subst hy; exact hz

theorem own_held {w : World} {base : Nat} {e : TypeId} {n : Nat} {xs : List Value} {A : Option Addr} {C : Nat} (h : w.ownsRow base e 1 (.slice A n C) n xs) :
    n ≤ C ∧ C ≤ 9223372036854775807 ∧ ∀ w'' : World, (∀ p : Addr, base ≤ p.block → p.block < w.heap.size → w''.cell? p = w.cell? p) → Sl w.heap.size w'' A xs := by
  obtain ⟨A', C', e', h1, h2, h3⟩ := own_slice h (by decide)
  injection e' with e1 _ e3
  subst e1 e3
  refine ⟨h1, h2, fun w'' hk hn => ?_⟩
  obtain ⟨b, rfl, hb, hc⟩ := h3 hn
  refine ⟨b, 0, rfl, hb, fun i u hu => ?_⟩
  rw [Nat.zero_add]
  exact (hk ⟨b, i, none⟩ (own_base h rfl) hb).trans (hc i u hu)
end
end Go.Proofs.YthgaflmldbgbnaaGreatDoor

/- Walks: the laws' Few (chapter 08) and few (chapter 16). -/
import Derived.Test.YtgaffbdcpkbdhaaQ5
import Derived.Test.YtgaffbdcpkbdhaaQ4
namespace Go.Proofs.Ytgaffbdcpkbdhaa
open Go.RowKit Go.Sort Go.ChangeMaps Go.WideShapes

def fewU (u : Upd) : Bool := decide (u.row.length ≤ 20) && decide (u.rel.size ≤ 100)
def fewB (us : List Upd) : Bool := (us.take 60).all fewU && decide (us.length ≤ 60)
theorem fewB_iff {us : List Upd} : fewB us = true ↔ us.length ≤ 60 ∧ ∀ u ∈ us, u.row.length ≤ 20 ∧ u.rel.size ≤ 100 := by
  unfold fewB
  rw [Bool.and_eq_true, decide_eq_true_eq, List.all_eq_true]
  constructor
  · rintro ⟨h1, h2⟩
    rw [List.take_of_length_le h2] at h1
    exact ⟨h2, fun u hu => by have := h1 u hu; unfold fewU at this; rw [Bool.and_eq_true, decide_eq_true_eq, decide_eq_true_eq] at this; exact this⟩
  · rintro ⟨h1, h2⟩
    rw [List.take_of_length_le h1]
    exact ⟨fun u hu => by unfold fewU; rw [Bool.and_eq_true, decide_eq_true_eq, decide_eq_true_eq]; exact h2 u hu, h1⟩
theorem all_take_succ {α : Type} (p : α → Bool) (l : List α) (k : Nat) (h : k < l.length) : (l.take (k + 1)).all p = ((l.take k).all p && p l[k]) := by
  rw [List.take_succ_eq_append_getElem h, List.all_append]
  simp
theorem all_bad {α : Type} (p : α → Bool) (l : List α) (k n : Nat) (h : k < l.length) (hn : k < n) (hb : p l[k] = false) : (l.take n).all p = false := by
  rw [List.all_eq_false]
  refine ⟨l[k], ?_, by rw [hb]; decide⟩
  rw [List.mem_iff_getElem]
  exact ⟨k, by rw [List.length_take]; omega, by rw [List.getElem_take]⟩

set_option maxHeartbeats 4000000 in
set_option maxRecDepth 100000 in
theorem l08Few_nil (A : Option Addr) (C : Nat) (us : List Upd) (w : World) (hU : UpdsM w.heap.size w A us) (hul : us.length ≤ 9223372036854775807) (hok : ∀ u ∈ us, u.rel.size ≤ 9223372036854775807 ∧ u.row.length ≤ 9223372036854775807) :
    Calls Try.prog 35 #[.slice none 0 0, .slice A us.length C] w fun e w' => e = .returned (.bool (fewB us)) ∧ Ext w w' := by
  have HU := Lib.hid hU
  have HO := Lib.hid hok
  clear hU hok
  go_enter Try.func35, Try.ntmps35
  go_wp2_with fail
  go_loopw [5] (fun c wx => ∃ k : Nat, k ≤ us.length ∧ k ≤ 60 ∧ c = .int .i64 k ∧ (us.take k).all fewU = true ∧ Ext w wx) (fun c _ => us.length - (intOf c).toNat)
  case atStart => exact ⟨0, Nat.zero_le _, by decide, rfl, rfl, Ext.refl _⟩
  case round =>
    obtain ⟨k, hk, hk6, rfl, hall, hxr⟩ := hrel
    have HALL := Lib.hid hall
    have HXR := Lib.hid hxr
    clear hall hxr
    by_cases hkl : k < us.length
    · have r1 : (k : Int) < (us.length : Int) := by omega
      by_cases hk60 : k < 60
      · have r2 : (k : Int) < 60 := by omega
        obtain ⟨b, o, rfl, hb, hc⟩ := HU.out (by intro h0; rw [h0] at hkl; simp at hkl)
        obtain ⟨RA, RC, c0, c1, c2, -⟩ := hc k hkl
        have c1 := (HXR.out.cell hb).trans c1
        have c2 := (HXR.out.cell hb).trans c2
        have b1 := Nat.lt_of_lt_of_le hb HXR.out.size
        have r0 : (0 : Int) ≤ (k : Int) := by omega
        have r3 : IntKind.i64.wrap ((k : Int) + 1) = ((k + 1 : Nat) : Int) := by rw [IntWalk.i64_in _ (by omega)]; omega
        have HT := Lib.hid (all_take_succ fewU us k hkl)
        have HBD := Lib.hid (all_bad fewU us k 60 hkl hk60)
        obtain ⟨o1, o2⟩ := HO.out us[k] (List.getElem_mem hkl)
        clear c0 hc
        have HF : Hid (fewU us[k] = (decide (us[k].row.length ≤ 20) && decide (us[k].rel.size ≤ 100))) := rfl
        generalize us[k] = u at *
        by_cases h20 : 20 < u.row.length
        · have q1 : (20 : Int) < (u.row.length : Int) := by omega
          have HB : Hid (fewB us = false) := by
            show fewB us = false
            unfold fewB
            rw [HBD.out (by rw [HF.out, decide_eq_false (by omega)]; rfl)]
            rfl
          clear h20
          go_wp2
          exact bodyPost_ret (v := .bool false) (by simp [results, Try.results35, go_sem]) rfl ⟨by rw [HB.out], HXR.out⟩
        · have q1 : ¬ (20 : Int) < (u.row.length : Int) := by omega
          by_cases h100 : 100 < u.rel.size
          · have q2 : (100 : Int) < (u.rel.size : Int) := by omega
            have HB : Hid (fewB us = false) := by
              show fewB us = false
              unfold fewB
              rw [HBD.out (by rw [HF.out, decide_eq_false (show ¬ u.rel.size ≤ 100 by omega), Bool.and_false])]
              rfl
            clear h100
            go_wp2
            exact bodyPost_ret (v := .bool false) (by simp [results, Try.results35, go_sem]) rfl ⟨by rw [HB.out], HXR.out⟩
          · have q2 : ¬ (100 : Int) < (u.rel.size : Int) := by omega
            have HK : Hid ((us.take (k + 1)).all fewU = true) := by
              show _ = true
              rw [HT.out, HALL.out, HF.out, decide_eq_true (by omega), decide_eq_true (by omega)]
              rfl
            clear h20 h100
            go_wp2
            go_roundw
            case rel => exact ⟨k + 1, hkl, hk60, by go_num, HK.out, HXR.out⟩
            case measure => simp [intOf]; omega
      · have r2 : ¬ (k : Int) < 60 := by omega
        obtain rfl : k = 60 := by omega
        have q : ¬ (us.length : Int) ≤ 60 := by omega
        have HB : Hid (fewB us = false) := by
          show fewB us = false
          unfold fewB
          rw [decide_eq_false (show ¬ us.length ≤ 60 by omega), Bool.and_false]
        go_wp2
        exact bodyPost_ret (v := .bool false) (by simp [results, Try.results35, go_sem]) rfl ⟨by rw [HB.out], HXR.out⟩
    · obtain rfl : k = us.length := by omega
      have r1 : ¬ (us.length : Int) < (us.length : Int) := by omega
      have q : (us.length : Int) ≤ 60 := by omega
      have HB : Hid (fewB us = true) := by
        show fewB us = true
        unfold fewB
        rw [List.take_of_length_le hk6, decide_eq_true hk6, Bool.and_true]
        have h := HALL.out
        rwa [List.take_length] at h
      go_wp2
      exact bodyPost_ret (v := .bool true) (by simp [results, Try.results35, go_sem]) rfl ⟨by rw [HB.out], HXR.out⟩

def fewA (a : ActR) : Bool := fewB a.us && decide (a.us.length ≤ 12)
def fewL (l : List ActR) : Bool := (l.take 40).all fewA && decide (l.length ≤ 40)
/-- Acts that may be played. -/
def ActFit (a : ActR) : Prop := a.kind ≤ 255 ∧ (Lit.int .i64 a.num).wf = true ∧ a.us.length ≤ 12 ∧ ∀ u ∈ a.us, u.rel.size ≤ 100 ∧ u.row.length ≤ 20 ∧ BigW u.row
theorem ActFit.upd {a : ActR} (h : ActFit a) : ∀ u ∈ a.us, UpdOk u := fun u hu => by
  obtain ⟨h1, h2, h3⟩ := h.2.2.2 u hu
  exact ⟨by omega, by omega, h3.2⟩
theorem fewL_fit {l : List ActR} (h : fewL l = true) (hl : ∀ a ∈ l, ActOk a) : l.length ≤ 40 ∧ ∀ a ∈ l, ActFit a := by
  unfold fewL at h
  rw [Bool.and_eq_true, decide_eq_true_eq] at h
  obtain ⟨h1, h2⟩ := h
  rw [List.take_of_length_le h2, List.all_eq_true] at h1
  refine ⟨h2, fun a ha => ?_⟩
  have := h1 a ha
  unfold fewA at this
  rw [Bool.and_eq_true, decide_eq_true_eq, fewB_iff] at this
  obtain ⟨⟨g1, g2⟩, g3⟩ := this
  obtain ⟨k1, k2, k3, k4⟩ := hl a ha
  exact ⟨k1, k2, g3, fun u hu => ⟨(g2 u hu).2, (g2 u hu).1, (k4 u hu).2.2⟩⟩
theorem fewL_fit' {l : List ActR} (h : fewL l = false) : ¬ (l.length ≤ 40 ∧ ∀ a ∈ l, ActFit a) := by
  rintro ⟨h1, h2⟩
  unfold fewL at h
  rw [List.take_of_length_le h1, decide_eq_true h1, Bool.and_true, List.all_eq_false] at h
  obtain ⟨a, ha, h⟩ := h
  refine h ?_
  obtain ⟨k1, k2, k3, k4⟩ := h2 a ha
  unfold fewA
  rw [Bool.and_eq_true, decide_eq_true_eq, fewB_iff]
  exact ⟨⟨by omega, fun u hu => ⟨(k4 u hu).2.1, (k4 u hu).1⟩⟩, k3⟩
theorem UpdsM.ext {B : Nat} {w w' : World} {A : Option Addr} {us : List Upd} (h : UpdsM B w A us) (hB : B ≤ w.heap.size) (he : Ext w w') : UpdsM B w' A us := fun hn => by
  obtain ⟨b, o, e, hb, hc⟩ := h hn
  exact ⟨b, o, e, hb, fun i hi => by
    obtain ⟨RA, RC, g0, g1, g2, g3⟩ := hc i hi
    have hb' : b < w.heap.size := Nat.lt_of_lt_of_le hb hB
    exact ⟨RA, RC, (he.cell hb').trans g0, (he.cell hb').trans g1, (he.cell hb').trans g2, g3.ext hB he⟩⟩
theorem UpdsM.below {B C : Nat} {w w' : World} {A : Option Addr} {us : List Upd} (h : UpdsM B w A us) (hb : Below C w w') (hC : B ≤ C) : UpdsM B w' A us := fun hn => by
  obtain ⟨b, o, e, hlt, hc⟩ := h hn
  exact ⟨b, o, e, hlt, fun i hi => by
    obtain ⟨RA, RC, g0, g1, g2, g3⟩ := hc i hi
    have hb' : b < C := Nat.lt_of_lt_of_le hlt hC
    exact ⟨RA, RC, (hb.cell hb').trans g0, (hb.cell hb').trans g1, (hb.cell hb').trans g2, g3.below hb hC⟩⟩
theorem UpdsM.more {B B' : Nat} {w : World} {A : Option Addr} {us : List Upd} (h : UpdsM B w A us) (hB : B ≤ B') : UpdsM B' w A us := fun hn => by
  obtain ⟨b, o, e, hlt, hc⟩ := h hn
  exact ⟨b, o, e, Nat.lt_of_lt_of_le hlt hB, fun i hi => by
    obtain ⟨RA, RC, g0, g1, g2, g3⟩ := hc i hi
    exact ⟨RA, RC, g0, g1, g2, g3.more hB⟩⟩
theorem ActsM.below {B C : Nat} {w w' : World} {A : Option Addr} {l : List ActR} (h : ActsM B w A l) (hb : Below C w w') (hC : B ≤ C) : ActsM B w' A l := fun hn => by
  obtain ⟨b, o, e, hlt, hc⟩ := h hn
  exact ⟨b, o, e, hlt, fun i hi => by
    obtain ⟨UA, UC, g0, g1, g2, g3, g4⟩ := hc i hi
    have hb' : b < C := Nat.lt_of_lt_of_le hlt hC
    exact ⟨UA, UC, (hb.cell hb').trans g0, (hb.cell hb').trans g1, (hb.cell hb').trans g2, g3, g4.below hb hC⟩⟩
theorem ActsM.more {B B' : Nat} {w : World} {A : Option Addr} {l : List ActR} (h : ActsM B w A l) (hB : B ≤ B') : ActsM B' w A l := fun hn => by
  obtain ⟨b, o, e, hlt, hc⟩ := h hn
  exact ⟨b, o, e, Nat.lt_of_lt_of_le hlt hB, fun i hi => by
    obtain ⟨UA, UC, g0, g1, g2, g3, g4⟩ := hc i hi
    exact ⟨UA, UC, g0, g1, g2, g3, g4.more hB⟩⟩

set_option maxHeartbeats 4000000 in
set_option maxRecDepth 100000 in
theorem l16few_any (A : Option Addr) (C : Nat) (l : List ActR) (w : World) (hL : ActsM w.heap.size w A l) (hll : l.length ≤ 9223372036854775807) (hok : ∀ a ∈ l, ActOk a) :
    Calls Try.prog 19 #[.slice A l.length C] w fun e w' => e = .returned (.bool (fewL l)) ∧ Ext w w' := by
  have HU := Lib.hid hL
  have HO := Lib.hid hok
  clear hL hok
  go_enter Try.func19, Try.ntmps19
  go_wp2_with fail
  go_loopw [3] (fun c wx => ∃ k : Nat, k ≤ l.length ∧ k ≤ 40 ∧ c = .int .i64 k ∧ (l.take k).all fewA = true ∧ Ext w wx) (fun c _ => l.length - (intOf c).toNat)
  case atStart => exact ⟨0, Nat.zero_le _, by decide, rfl, rfl, Ext.refl _⟩
  case round =>
    obtain ⟨k, hk, hk4, rfl, hall, hxr⟩ := hrel
    have HALL := Lib.hid hall
    have HXR := Lib.hid hxr
    clear hall hxr
    by_cases hkl : k < l.length
    · have r1 : (k : Int) < (l.length : Int) := by omega
      by_cases hk40 : k < 40
      · have r2 : (k : Int) < 40 := by omega
        obtain ⟨b, o, rfl, hb, hc⟩ := HU.out (by intro h0; rw [h0] at hkl; simp at hkl)
        obtain ⟨UA, UC, c0, c1, c2, -, hu⟩ := hc k hkl
        have c2 := (HXR.out.cell hb).trans c2
        have b1 := Nat.lt_of_lt_of_le hb HXR.out.size
        have r0 : (0 : Int) ≤ (k : Int) := by omega
        have r3 : IntKind.i64.wrap ((k : Int) + 1) = ((k + 1 : Nat) : Int) := by rw [IntWalk.i64_in _ (by omega)]; omega
        have HT := Lib.hid (all_take_succ fewA l k hkl)
        have HBD := Lib.hid (all_bad fewA l k 40 hkl hk40)
        obtain ⟨o1, o2, o3, o4⟩ := HO.out l[k] (List.getElem_mem hkl)
        have HF : Hid (fewA l[k] = (fewB l[k].us && decide (l[k].us.length ≤ 12))) := rfl
        generalize l[k] = a at *
        obtain ⟨kd, nm, us⟩ := a
        have c2 : wr.cell? ⟨b, o + k * 3 + 2, none⟩ = some (.slice UA us.length UC) := c2
        have HCF := Lib.hid (l08Few_nil UA UC us wr ((hu.ext (Nat.le_refl _) HXR.out).more HXR.out.size) o3 (fun u hu => ⟨(o4 u hu).1, (o4 u hu).2.1⟩))
        have o3 : us.length ≤ 9223372036854775807 := o3
        clear c0 c1 hc hu o1 o2 o4
        cases hfb : fewB us with
        | false =>
          have HB : Hid (fewL l = false) := by
            show fewL l = false
            unfold fewL
            rw [HBD.out (by rw [HF.out]; show (fewB us && _) = false; rw [hfb]; rfl)]
            rfl
          rw [hfb] at HCF
          clear hfb
          go_wp2_with fail
          refine HCF.out.mono ?_
          rintro e w5 ⟨rfl, hx5⟩
          have HX5 := Lib.hid (HXR.out.trans hx5)
          clear hx5 HCF HXR c2 b1
          go_wp2_with fail
          exact bodyPost_ret (v := .bool false) (by simp [results, Try.results19, go_sem]) rfl ⟨by rw [HB.out], HX5.out⟩
        | true =>
          rw [hfb] at HCF
          have HFB := Lib.hid hfb
          clear hfb
          by_cases h12 : 12 < us.length
          · have q2 : (12 : Int) < (us.length : Int) := by omega
            have HB : Hid (fewL l = false) := by
              show fewL l = false
              unfold fewL
              rw [HBD.out (by rw [HF.out]; show (_ && decide (us.length ≤ 12)) = false; rw [decide_eq_false (show ¬ us.length ≤ 12 by omega), Bool.and_false])]
              rfl
            clear h12
            go_wp2_with fail
            refine HCF.out.mono ?_
            rintro e w5 ⟨rfl, hx5⟩
            have HX5 := Lib.hid (HXR.out.trans hx5)
            have c2 := (hx5.cell b1).trans c2
            have b1 := Nat.lt_of_lt_of_le b1 hx5.size
            clear hx5 HCF HXR
            go_wp2_with fail
            exact bodyPost_ret (v := .bool false) (by simp [results, Try.results19, go_sem]) rfl ⟨by rw [HB.out], HX5.out⟩
          · have q2 : ¬ (12 : Int) < (us.length : Int) := by omega
            have HK : Hid ((l.take (k + 1)).all fewA = true) := by
              show _ = true
              rw [HT.out, HALL.out, HF.out]
              show (true && (fewB us && decide (us.length ≤ 12))) = true
              rw [HFB.out, decide_eq_true (by omega)]
              rfl
            clear h12
            go_wp2_with fail
            refine HCF.out.mono ?_
            rintro e w5 ⟨rfl, hx5⟩
            have HX5 := Lib.hid (HXR.out.trans hx5)
            have c2 := (hx5.cell b1).trans c2
            have b1 := Nat.lt_of_lt_of_le b1 hx5.size
            clear hx5 HCF HXR
            go_wp2_with fail
            go_roundw
            case rel => exact ⟨k + 1, hkl, hk40, by go_num, HK.out, HX5.out⟩
            case measure => simp [intOf]; omega
      · have r2 : ¬ (k : Int) < 40 := by omega
        obtain rfl : k = 40 := by omega
        have q : ¬ (l.length : Int) ≤ 40 := by omega
        have HB : Hid (fewL l = false) := by
          show fewL l = false
          unfold fewL
          rw [decide_eq_false (show ¬ l.length ≤ 40 by omega), Bool.and_false]
        go_wp2
        exact bodyPost_ret (v := .bool false) (by simp [results, Try.results19, go_sem]) rfl ⟨by rw [HB.out], HXR.out⟩
    · obtain rfl : k = l.length := by omega
      have r1 : ¬ (l.length : Int) < (l.length : Int) := by omega
      have q : (l.length : Int) ≤ 40 := by omega
      have HB : Hid (fewL l = true) := by
        show fewL l = true
        unfold fewL
        rw [List.take_of_length_le hk4, decide_eq_true hk4, Bool.and_true]
        have h := HALL.out
        rwa [List.take_length] at h
      go_wp2
      exact bodyPost_ret (v := .bool true) (by simp [results, Try.results19, go_sem]) rfl ⟨by rw [HB.out], HXR.out⟩

end Go.Proofs.Ytgaffbdcpkbdhaa

/- Parts of the proof, merged: Z24, Z19, Z20, Z25, Z26, Z27, Z30. -/
import Derived.Test.YtgaffbdcpkbdhaaQ5
import Derived.Test.YtgaffbdcpkbdhaaQ4
import Derived.Test.YtgaffbdcpkbdhaaQ2

section
/- Walks: the laws' Few (chapter 08) and few (chapter 16). -/
namespace Go.Proofs.Ytgaffbdcpkbdhaa
open Go.RowKit Go.Sort Go.ChangeMaps Go.WideShapes

def fewU (u : Upd) : Bool := decide (u.row.length ≤ 20) && decide (u.rel.size ≤ 100)
def fewB (us : List Upd) : Bool := (us.take 60).all fewU && decide (us.length ≤ 60)
theorem fewB_iff {us : List Upd} : fewB us = true ↔ us.length ≤ 60 ∧ ∀ u ∈ us, u.row.length ≤ 20 ∧ u.rel.size ≤ 100 := by
  unfold fewB
  rw [Bool.and_eq_true, decide_eq_true_eq, List.all_eq_true]
  constructor
  · rintro ⟨h1, h2⟩
    rw [List.take_of_length_le h2] at h1
    exact ⟨h2, fun u hu => by have := h1 u hu; unfold fewU at this; rw [Bool.and_eq_true, decide_eq_true_eq, decide_eq_true_eq] at this; exact this⟩
  · rintro ⟨h1, h2⟩
    rw [List.take_of_length_le h1]
    exact ⟨fun u hu => by unfold fewU; rw [Bool.and_eq_true, decide_eq_true_eq, decide_eq_true_eq]; exact h2 u hu, h1⟩
theorem all_take_succ {α : Type} (p : α → Bool) (l : List α) (k : Nat) (h : k < l.length) : (l.take (k + 1)).all p = ((l.take k).all p && p l[k]) := by
  rw [List.take_succ_eq_append_getElem h, List.all_append]
  simp
theorem all_bad {α : Type} (p : α → Bool) (l : List α) (k n : Nat) (h : k < l.length) (hn : k < n) (hb : p l[k] = false) : (l.take n).all p = false := by
  rw [List.all_eq_false]
  refine ⟨l[k], ?_, by rw [hb]; decide⟩
  rw [List.mem_iff_getElem]
  exact ⟨k, by rw [List.length_take]; omega, by rw [List.getElem_take]⟩

set_option maxHeartbeats 4000000 in
set_option maxRecDepth 100000 in
theorem l08Few_nil (A : Option Addr) (C : Nat) (us : List Upd) (w : World) (hU : UpdsM w.heap.size w A us) (hul : us.length ≤ 9223372036854775807) (hok : ∀ u ∈ us, u.rel.size ≤ 9223372036854775807 ∧ u.row.length ≤ 9223372036854775807) :
    Calls Try.prog 35 #[.slice none 0 0, .slice A us.length C] w fun e w' => e = .returned (.bool (fewB us)) ∧ Ext w w' := by
  have HU := Lib.hid hU
  have HO := Lib.hid hok
  clear hU hok
  go_enter Try.func35, Try.ntmps35
  go_wp2_with fail
  go_loopw [5] (fun c wx => ∃ k : Nat, k ≤ us.length ∧ k ≤ 60 ∧ c = .int .i64 k ∧ (us.take k).all fewU = true ∧ Ext w wx) (fun c _ => us.length - (intOf c).toNat)
  case atStart => exact ⟨0, Nat.zero_le _, by decide, rfl, rfl, Ext.refl _⟩
  case round =>
    obtain ⟨k, hk, hk6, rfl, hall, hxr⟩ := hrel
    have HALL := Lib.hid hall
    have HXR := Lib.hid hxr
    clear hall hxr
    by_cases hkl : k < us.length
    · have r1 : (k : Int) < (us.length : Int) := by omega
      by_cases hk60 : k < 60
      · have r2 : (k : Int) < 60 := by omega
        obtain ⟨b, o, rfl, hb, hc⟩ := HU.out (by intro h0; rw [h0] at hkl; simp at hkl)
        obtain ⟨RA, RC, c0, c1, c2, -⟩ := hc k hkl
        have c1 := (HXR.out.cell hb).trans c1
        have c2 := (HXR.out.cell hb).trans c2
        have b1 := Nat.lt_of_lt_of_le hb HXR.out.size
        have r0 : (0 : Int) ≤ (k : Int) := by omega
        have r3 : IntKind.i64.wrap ((k : Int) + 1) = ((k + 1 : Nat) : Int) := by rw [IntWalk.i64_in _ (by omega)]; omega
        have HT := Lib.hid (all_take_succ fewU us k hkl)
        have HBD := Lib.hid (all_bad fewU us k 60 hkl hk60)
        obtain ⟨o1, o2⟩ := HO.out us[k] (List.getElem_mem hkl)
        clear c0 hc
        have HF : Hid (fewU us[k] = (decide (us[k].row.length ≤ 20) && decide (us[k].rel.size ≤ 100))) := rfl
        generalize us[k] = u at *
        by_cases h20 : 20 < u.row.length
        · have q1 : (20 : Int) < (u.row.length : Int) := by omega
          have HB : Hid (fewB us = false) := by
            show fewB us = false
            unfold fewB
            rw [HBD.out (by rw [HF.out, decide_eq_false (by omega)]; rfl)]
            rfl
          clear h20
          go_wp2
          exact bodyPost_ret (v := .bool false) (by simp [results, Try.results35, go_sem]) rfl ⟨by rw [HB.out], HXR.out⟩
        · have q1 : ¬ (20 : Int) < (u.row.length : Int) := by omega
          by_cases h100 : 100 < u.rel.size
          · have q2 : (100 : Int) < (u.rel.size : Int) := by omega
            have HB : Hid (fewB us = false) := by
              show fewB us = false
              unfold fewB
              rw [HBD.out (by rw [HF.out, decide_eq_false (show ¬ u.rel.size ≤ 100 by omega), Bool.and_false])]
              rfl
            clear h100
            go_wp2
            exact bodyPost_ret (v := .bool false) (by simp [results, Try.results35, go_sem]) rfl ⟨by rw [HB.out], HXR.out⟩
          · have q2 : ¬ (100 : Int) < (u.rel.size : Int) := by omega
            have HK : Hid ((us.take (k + 1)).all fewU = true) := by
              show _ = true
              rw [HT.out, HALL.out, HF.out, decide_eq_true (by omega), decide_eq_true (by omega)]
              rfl
            clear h20 h100
            go_wp2
            go_roundw
            case rel => exact ⟨k + 1, hkl, hk60, by go_num, HK.out, HXR.out⟩
            case measure => simp [intOf]; omega
      · have r2 : ¬ (k : Int) < 60 := by omega
        obtain rfl : k = 60 := by omega
        have q : ¬ (us.length : Int) ≤ 60 := by omega
        have HB : Hid (fewB us = false) := by
          show fewB us = false
          unfold fewB
          rw [decide_eq_false (show ¬ us.length ≤ 60 by omega), Bool.and_false]
        go_wp2
        exact bodyPost_ret (v := .bool false) (by simp [results, Try.results35, go_sem]) rfl ⟨by rw [HB.out], HXR.out⟩
    · obtain rfl : k = us.length := by omega
      have r1 : ¬ (us.length : Int) < (us.length : Int) := by omega
      have q : (us.length : Int) ≤ 60 := by omega
      have HB : Hid (fewB us = true) := by
        show fewB us = true
        unfold fewB
        rw [List.take_of_length_le hk6, decide_eq_true hk6, Bool.and_true]
        have h := HALL.out
        rwa [List.take_length] at h
      go_wp2
      exact bodyPost_ret (v := .bool true) (by simp [results, Try.results35, go_sem]) rfl ⟨by rw [HB.out], HXR.out⟩

def fewA (a : ActR) : Bool := fewB a.us && decide (a.us.length ≤ 12)
def fewL (l : List ActR) : Bool := (l.take 40).all fewA && decide (l.length ≤ 40)
/-- Acts that may be played. -/
def ActFit (a : ActR) : Prop := a.kind ≤ 255 ∧ (Lit.int .i64 a.num).wf = true ∧ a.us.length ≤ 12 ∧ ∀ u ∈ a.us, u.rel.size ≤ 100 ∧ u.row.length ≤ 20 ∧ BigW u.row
theorem ActFit.upd {a : ActR} (h : ActFit a) : ∀ u ∈ a.us, UpdOk u := fun u hu => by
  obtain ⟨h1, h2, h3⟩ := h.2.2.2 u hu
  exact ⟨by omega, by omega, h3.2⟩
theorem fewL_fit {l : List ActR} (h : fewL l = true) (hl : ∀ a ∈ l, ActOk a) : l.length ≤ 40 ∧ ∀ a ∈ l, ActFit a := by
  unfold fewL at h
  rw [Bool.and_eq_true, decide_eq_true_eq] at h
  obtain ⟨h1, h2⟩ := h
  rw [List.take_of_length_le h2, List.all_eq_true] at h1
  refine ⟨h2, fun a ha => ?_⟩
  have := h1 a ha
  unfold fewA at this
  rw [Bool.and_eq_true, decide_eq_true_eq, fewB_iff] at this
  obtain ⟨⟨g1, g2⟩, g3⟩ := this
  obtain ⟨k1, k2, k3, k4⟩ := hl a ha
  exact ⟨k1, k2, g3, fun u hu => ⟨(g2 u hu).2, (g2 u hu).1, (k4 u hu).2.2⟩⟩
theorem fewL_fit' {l : List ActR} (h : fewL l = false) : ¬ (l.length ≤ 40 ∧ ∀ a ∈ l, ActFit a) := by
  rintro ⟨h1, h2⟩
  unfold fewL at h
  rw [List.take_of_length_le h1, decide_eq_true h1, Bool.and_true, List.all_eq_false] at h
  obtain ⟨a, ha, h⟩ := h
  refine h ?_
  obtain ⟨k1, k2, k3, k4⟩ := h2 a ha
  unfold fewA
  rw [Bool.and_eq_true, decide_eq_true_eq, fewB_iff]
  exact ⟨⟨by omega, fun u hu => ⟨(k4 u hu).2.1, (k4 u hu).1⟩⟩, k3⟩
theorem UpdsM.ext {B : Nat} {w w' : World} {A : Option Addr} {us : List Upd} (h : UpdsM B w A us) (hB : B ≤ w.heap.size) (he : Ext w w') : UpdsM B w' A us := fun hn => by
  obtain ⟨b, o, e, hb, hc⟩ := h hn
  exact ⟨b, o, e, hb, fun i hi => by
    obtain ⟨RA, RC, g0, g1, g2, g3⟩ := hc i hi
    have hb' : b < w.heap.size := Nat.lt_of_lt_of_le hb hB
    exact ⟨RA, RC, (he.cell hb').trans g0, (he.cell hb').trans g1, (he.cell hb').trans g2, g3.ext hB he⟩⟩
theorem UpdsM.below {B C : Nat} {w w' : World} {A : Option Addr} {us : List Upd} (h : UpdsM B w A us) (hb : Below C w w') (hC : B ≤ C) : UpdsM B w' A us := fun hn => by
  obtain ⟨b, o, e, hlt, hc⟩ := h hn
  exact ⟨b, o, e, hlt, fun i hi => by
    obtain ⟨RA, RC, g0, g1, g2, g3⟩ := hc i hi
    have hb' : b < C := Nat.lt_of_lt_of_le hlt hC
    exact ⟨RA, RC, (hb.cell hb').trans g0, (hb.cell hb').trans g1, (hb.cell hb').trans g2, g3.below hb hC⟩⟩
theorem UpdsM.more {B B' : Nat} {w : World} {A : Option Addr} {us : List Upd} (h : UpdsM B w A us) (hB : B ≤ B') : UpdsM B' w A us := fun hn => by
  obtain ⟨b, o, e, hlt, hc⟩ := h hn
  exact ⟨b, o, e, Nat.lt_of_lt_of_le hlt hB, fun i hi => by
    obtain ⟨RA, RC, g0, g1, g2, g3⟩ := hc i hi
    exact ⟨RA, RC, g0, g1, g2, g3.more hB⟩⟩
theorem ActsM.below {B C : Nat} {w w' : World} {A : Option Addr} {l : List ActR} (h : ActsM B w A l) (hb : Below C w w') (hC : B ≤ C) : ActsM B w' A l := fun hn => by
  obtain ⟨b, o, e, hlt, hc⟩ := h hn
  exact ⟨b, o, e, hlt, fun i hi => by
    obtain ⟨UA, UC, g0, g1, g2, g3, g4⟩ := hc i hi
    have hb' : b < C := Nat.lt_of_lt_of_le hlt hC
    exact ⟨UA, UC, (hb.cell hb').trans g0, (hb.cell hb').trans g1, (hb.cell hb').trans g2, g3, g4.below hb hC⟩⟩
theorem ActsM.more {B B' : Nat} {w : World} {A : Option Addr} {l : List ActR} (h : ActsM B w A l) (hB : B ≤ B') : ActsM B' w A l := fun hn => by
  obtain ⟨b, o, e, hlt, hc⟩ := h hn
  exact ⟨b, o, e, Nat.lt_of_lt_of_le hlt hB, fun i hi => by
    obtain ⟨UA, UC, g0, g1, g2, g3, g4⟩ := hc i hi
    exact ⟨UA, UC, g0, g1, g2, g3, g4.more hB⟩⟩

set_option maxHeartbeats 4000000 in
set_option maxRecDepth 100000 in
theorem l16few_any (A : Option Addr) (C : Nat) (l : List ActR) (w : World) (hL : ActsM w.heap.size w A l) (hll : l.length ≤ 9223372036854775807) (hok : ∀ a ∈ l, ActOk a) :
    Calls Try.prog 19 #[.slice A l.length C] w fun e w' => e = .returned (.bool (fewL l)) ∧ Ext w w' := by
  have HU := Lib.hid hL
  have HO := Lib.hid hok
  clear hL hok
  go_enter Try.func19, Try.ntmps19
  go_wp2_with fail
  go_loopw [3] (fun c wx => ∃ k : Nat, k ≤ l.length ∧ k ≤ 40 ∧ c = .int .i64 k ∧ (l.take k).all fewA = true ∧ Ext w wx) (fun c _ => l.length - (intOf c).toNat)
  case atStart => exact ⟨0, Nat.zero_le _, by decide, rfl, rfl, Ext.refl _⟩
  case round =>
    obtain ⟨k, hk, hk4, rfl, hall, hxr⟩ := hrel
    have HALL := Lib.hid hall
    have HXR := Lib.hid hxr
    clear hall hxr
    by_cases hkl : k < l.length
    · have r1 : (k : Int) < (l.length : Int) := by omega
      by_cases hk40 : k < 40
      · have r2 : (k : Int) < 40 := by omega
        obtain ⟨b, o, rfl, hb, hc⟩ := HU.out (by intro h0; rw [h0] at hkl; simp at hkl)
        obtain ⟨UA, UC, c0, c1, c2, -, hu⟩ := hc k hkl
        have c2 := (HXR.out.cell hb).trans c2
        have b1 := Nat.lt_of_lt_of_le hb HXR.out.size
        have r0 : (0 : Int) ≤ (k : Int) := by omega
        have r3 : IntKind.i64.wrap ((k : Int) + 1) = ((k + 1 : Nat) : Int) := by rw [IntWalk.i64_in _ (by omega)]; omega
        have HT := Lib.hid (all_take_succ fewA l k hkl)
        have HBD := Lib.hid (all_bad fewA l k 40 hkl hk40)
        obtain ⟨o1, o2, o3, o4⟩ := HO.out l[k] (List.getElem_mem hkl)
        have HF : Hid (fewA l[k] = (fewB l[k].us && decide (l[k].us.length ≤ 12))) := rfl
        generalize l[k] = a at *
        obtain ⟨kd, nm, us⟩ := a
        have c2 : wr.cell? ⟨b, o + k * 3 + 2, none⟩ = some (.slice UA us.length UC) := c2
        have HCF := Lib.hid (l08Few_nil UA UC us wr ((hu.ext (Nat.le_refl _) HXR.out).more HXR.out.size) o3 (fun u hu => ⟨(o4 u hu).1, (o4 u hu).2.1⟩))
        have o3 : us.length ≤ 9223372036854775807 := o3
        clear c0 c1 hc hu o1 o2 o4
        cases hfb : fewB us with
        | false =>
          have HB : Hid (fewL l = false) := by
            show fewL l = false
            unfold fewL
            rw [HBD.out (by rw [HF.out]; show (fewB us && _) = false; rw [hfb]; rfl)]
            rfl
          rw [hfb] at HCF
          clear hfb
          go_wp2_with fail
          refine HCF.out.mono ?_
          rintro e w5 ⟨rfl, hx5⟩
          have HX5 := Lib.hid (HXR.out.trans hx5)
          clear hx5 HCF HXR c2 b1
          go_wp2_with fail
          exact bodyPost_ret (v := .bool false) (by simp [results, Try.results19, go_sem]) rfl ⟨by rw [HB.out], HX5.out⟩
        | true =>
          rw [hfb] at HCF
          have HFB := Lib.hid hfb
          clear hfb
          by_cases h12 : 12 < us.length
          · have q2 : (12 : Int) < (us.length : Int) := by omega
            have HB : Hid (fewL l = false) := by
              show fewL l = false
              unfold fewL
              rw [HBD.out (by rw [HF.out]; show (_ && decide (us.length ≤ 12)) = false; rw [decide_eq_false (show ¬ us.length ≤ 12 by omega), Bool.and_false])]
              rfl
            clear h12
            go_wp2_with fail
            refine HCF.out.mono ?_
            rintro e w5 ⟨rfl, hx5⟩
            have HX5 := Lib.hid (HXR.out.trans hx5)
            have c2 := (hx5.cell b1).trans c2
            have b1 := Nat.lt_of_lt_of_le b1 hx5.size
            clear hx5 HCF HXR
            go_wp2_with fail
            exact bodyPost_ret (v := .bool false) (by simp [results, Try.results19, go_sem]) rfl ⟨by rw [HB.out], HX5.out⟩
          · have q2 : ¬ (12 : Int) < (us.length : Int) := by omega
            have HK : Hid ((l.take (k + 1)).all fewA = true) := by
              show _ = true
              rw [HT.out, HALL.out, HF.out]
              show (true && (fewB us && decide (us.length ≤ 12))) = true
              rw [HFB.out, decide_eq_true (by omega)]
              rfl
            clear h12
            go_wp2_with fail
            refine HCF.out.mono ?_
            rintro e w5 ⟨rfl, hx5⟩
            have HX5 := Lib.hid (HXR.out.trans hx5)
            have c2 := (hx5.cell b1).trans c2
            have b1 := Nat.lt_of_lt_of_le b1 hx5.size
            clear hx5 HCF HXR
            go_wp2_with fail
            go_roundw
            case rel => exact ⟨k + 1, hkl, hk40, by go_num, HK.out, HX5.out⟩
            case measure => simp [intOf]; omega
      · have r2 : ¬ (k : Int) < 40 := by omega
        obtain rfl : k = 40 := by omega
        have q : ¬ (l.length : Int) ≤ 40 := by omega
        have HB : Hid (fewL l = false) := by
          show fewL l = false
          unfold fewL
          rw [decide_eq_false (show ¬ l.length ≤ 40 by omega), Bool.and_false]
        go_wp2
        exact bodyPost_ret (v := .bool false) (by simp [results, Try.results19, go_sem]) rfl ⟨by rw [HB.out], HXR.out⟩
    · obtain rfl : k = l.length := by omega
      have r1 : ¬ (l.length : Int) < (l.length : Int) := by omega
      have q : (l.length : Int) ≤ 40 := by omega
      have HB : Hid (fewL l = true) := by
        show fewL l = true
        unfold fewL
        rw [List.take_of_length_le hk4, decide_eq_true hk4, Bool.and_true]
        have h := HALL.out
        rwa [List.take_length] at h
      go_wp2
      exact bodyPost_ret (v := .bool true) (by simp [results, Try.results19, go_sem]) rfl ⟨by rw [HB.out], HXR.out⟩

end Go.Proofs.Ytgaffbdcpkbdhaa
end

section
/- Walks: the zero Store. -/
namespace Go.Proofs
open Go.RowKit Go.Maps Go.Sort Go.Shelf
set_option maxHeartbeats 2000000 in
set_option maxRecDepth 100000 in
theorem Ytgaffbdcpkbdhaa.versions_nil (l : Int) (w : World) : Calls Try.prog 12 #[.agg #[.map none, .int .i64 l]] w fun e w' => e = .returned (.slice none 0 0) ∧ Below w.heap.size w w' := by
  refine (callsIn_wide (n := 6)).1 ?_
  obtain ⟨W0, hW0⟩ : ∃ W0, W0 = w.alloc (.cells #[.map none, .int .i64 l] 31) := ⟨_, rfl⟩
  have hb0 : Below w.heap.size w W0 := by rw [hW0]; exact (Below.refl _ w).alloc (Nat.le_refl _) _
  have hseq : SeqGives Fence.wide 2 Try.prog 50 #[.pointer (some ⟨W0.heap.size, 0, none⟩)] encZ (fun ss : List Int => ss = []) 0 (W0.alloc (.cells #[.map none] 29)) :=
    AnyZI.keys_gives_nil (ρ := Ytgaffbdcpkbdhaa.keysV_ren) { Ytgaffbdcpkbdhaa.keysV with } Fence.wide _ trivial rfl W0.heap.size _ (by simp) (by simp)
  have cK : ∀ mb W, CallsIn Fence.wide 5 Try.prog 32 #[.map mb] W fun e w' => e = .returned (.func (.func 50) #[] #[.pointer (some ⟨W.heap.size, 0, none⟩)]) ∧ w' = W.alloc (.cells #[.map mb] 29) := fun mb W => AnyZI.keys_in Ytgaffbdcpkbdhaa.keysV Fence.wide 5 trivial rfl mb W
  have cS := AnyZI.sorted_in Ytgaffbdcpkbdhaa.sortedV Fence.wide 5 trivial trivial trivial trivial rfl (by omega) (Ytgaffbdcpkbdhaa.sortsV _) (enters_of Try.func34 (by kernel_rfl) rfl) 50 #[.pointer (some ⟨W0.heap.size, 0, none⟩)] trivial (enters_of Try.func50 (by kernel_rfl) rfl) _ 0 (Nat.zero_le _) (by omega) _ hseq
  change CallsIn _ _ Try.prog 31 _ _ _ at cS
  have HW0 := Lib.hid hW0
  clear hW0
  have hfK : Fence.wide.fn 32 := trivial
  have hfS : Fence.wide.fn 31 := trivial
  refine callsIn_of_wp Try.func12 rfl trivial ?_ rfl
  simp only [Try.ntmps12, List.size_toArray, List.length_cons, List.length_nil, Nat.reduceAdd, Nat.reduceSub, Array.replicate_succ, Array.replicate_zero, List.push_toArray, List.append_toArray, List.nil_append, List.cons_append]
  gi_wp2_with (first
    | (gi_at_call 32; rw [← HW0.out]; refine (cK _ _).mono ?_; rintro e w' ⟨rfl, rfl⟩)
    | (gi_at_call 31; refine cS.mono ?_; rintro e w' ⟨v, ss, rfl, rfl, hrow, hnil, hb⟩; obtain rfl : v = .slice none 0 0 := hnil.2 rfl))
  go_ret
  exact ⟨rfl, (hb0.trans ((Below.refl _ W0).alloc (Nat.le_refl _) _ |>.mono hb0.size)).trans (hb.mono (by have := hb0.size; simp; omega))⟩
end Go.Proofs
namespace Go.Proofs.Ytgaffbdcpkbdhaa
open Go.RowKit Go.Sort Go.ChangeMaps Go.WideShapes
set_option maxHeartbeats 2000000 in
set_option maxRecDepth 100000 in
theorem snClone_nil (w : World) : Calls Try.prog 33 #[.map none] w fun e w' => e = .returned (.map none) ∧ w' = w := by
  have hq := fun w => run_eql_map_nil_sl (P := Try.prog) w 29 3 87 none Try.underlying29
  go_enter Try.func33, Try.ntmps33
  go_wp2
  go_ret
  exact ⟨rfl, rfl⟩
set_option maxHeartbeats 2000000 in
set_option maxRecDepth 100000 in
theorem snAt_nil (n l : Int) (hw : (Lit.int .i64 n).wf = true) (w : World) : Calls Try.prog 14 #[.agg #[.map none, .int .i64 l], .int .i64 n] w fun e w' => e = .returned (.tuple #[.agg #[.map none], .int .i64 31]) ∧ Ext w w' := by
  have h1 : ∀ u, (Instr.lookup 29 (.map none) (.int .i64 n) true).run Try.prog u = .ok (.tuple #[.agg #[.map none, .int .i64 0], .bool false]) u := fun u => by
    have h := Maps.look_nil (w := u) true keyedI Try.underlying29 (zeroVer u) (keyI hw)
    simpa using h
  go_enter Try.func14, Try.ntmps14
  go_wp2
  exact bodyPost_ret (v := .tuple #[.agg #[.map none], .int .i64 31]) (by simp [results, Try.results14, go_sem]) rfl ⟨rfl, (((Ext.refl w).alloc _).alloc _).alloc _⟩
set_option maxHeartbeats 4000000 in
set_option maxRecDepth 100000 in
theorem snCollect_nil (w : World) : Calls Try.prog 13 #[.agg #[.map none, .int .i64 0]] w fun e w' => e = .returned (.tuple #[.agg #[.map none, .int .i64 0], .slice none 0 0]) ∧ Below w.heap.size w w' := by
  obtain ⟨W0, hW0⟩ : ∃ W0, W0 = (w.alloc (.cells #[.map none, .int .i64 0] 31)).alloc (.cells #[.map none, .int .i64 0] 31) := ⟨_, rfl⟩
  have hr1 : Row W0 w.heap.size 31 [.map none, .int .i64 0] := by rw [hW0]; exact (Row.new w 31 _).alloc _
  have hr2 : Row W0 (w.heap.size + 1) 31 [.map none, .int .i64 0] := by
    have h := Row.new (w.alloc (.cells #[.map none, .int .i64 0] 31)) 31 [.map none, .int .i64 0]
    rw [World.size_alloc] at h
    rw [hW0]; exact h
  have hx0 : Ext w W0 := by rw [hW0]; exact ((Ext.refl w).alloc _).alloc _
  have hz0 : w.heap.size + 1 < W0.heap.size := hr2.lt
  have HR1 := Lib.hid hr1
  have HR2 := Lib.hid hr2
  have HX0 := Lib.hid hx0
  have HKU : Hid (∀ U, Below W0.heap.size W0 U → U.cell? ⟨w.heap.size, 0, none⟩ = some (.map none) ∧ U.cell? ⟨w.heap.size, 1, none⟩ = some (.int .i64 0)) := fun U hb => ⟨(HR1.out.up hb).cell 0, (HR1.out.up hb).cell 1⟩
  clear hr1 hr2 hx0
  go_enter Try.func13, Try.ntmps13
  go_upto_region 1 with (fail)
  rw [← hW0]
  clear hW0
  go_cut [4] from 8 to 13 (fun r wx => ∃ (b4 : Nat), r = .pointer (some ⟨b4, 0, none⟩) ∧ Row wx b4 31 [.map none, .int .i64 0] ∧ W0.heap.size ≤ b4 ∧ Below W0.heap.size W0 wx)
  case first =>
    refine wp_region_held_drew (S := (fun w' => w'.cell? ⟨w.heap.size, 0, none⟩ = some (.map none) ∧ w'.cell? ⟨w.heap.size, 1, none⟩ = some (.int .i64 0))) (by kernel_rfl) (HKU.out W0 (Below.refl _ _)) (fun hHeld => ?_)
    obtain ⟨U0, hV0⟩ : ∃ V, V = W0.drew := ⟨_, rfl⟩
    have HV : Hid (Below W0.heap.size W0 U0) := by show Below _ _ _; rw [hV0]; exact ((Ext.refl W0).drew).below
    rw [← hV0]
    clear hV0
    have hHeld0 := HKU.out U0 HV.out
    refine takeOp (i := 0) (v := ?_) (some 8) rfl rfl (by kernel_rfl) (by kernel_rfl) (by kernel_rfl) (fun _ _ _ h => h) (Or.inl ⟨by rfl, ?_⟩) (by assumption) ?_
    rotate_left 1
    · (intro w0 hSw; (try dsimp only at hSw); go_simp; try (with_reducible rfl))
    try simp only [Act.put]
    try simp only [List.setIfInBounds_toArray]
    try simp only [List.set_cons_succ]
    try simp only [List.set_cons_zero]
    refine takeOp (i := 1) (v := ?_) (some 9) rfl rfl (by kernel_rfl) (by kernel_rfl) (by kernel_rfl) (fun _ _ _ h => h) (Or.inl ⟨by rfl, ?_⟩) (by assumption) ?_
    rotate_left 1
    · (intro w0 hSw; (try dsimp only at hSw); go_simp; try (with_reducible rfl))
    try simp only [Act.put]
    try simp only [List.setIfInBounds_toArray]
    try simp only [List.set_cons_succ]
    try simp only [List.set_cons_zero]
    refine takeOp (i := 3) (v := ?_) (some 11) rfl rfl (by kernel_rfl) (by kernel_rfl) (by kernel_rfl) (fun _ _ _ h => h) (Or.inl ⟨by rfl, ?_⟩) (by assumption) ?_
    rotate_left 1
    · (intro w0 hSw; (try dsimp only at hSw); go_simp; try (with_reducible rfl))
    try simp only [Act.put]
    try simp only [List.setIfInBounds_toArray]
    try simp only [List.set_cons_succ]
    try simp only [List.set_cons_zero]
    refine takeOp (i := 4) (v := ?_) (some 12) rfl rfl (by kernel_rfl) (by kernel_rfl) (by kernel_rfl) (fun _ _ _ h => h) (Or.inl ⟨by rfl, ?_⟩) (by assumption) ?_
    rotate_left 1
    · (intro w0 hSw; (try dsimp only at hSw); go_simp; try (with_reducible rfl))
    try simp only [Act.put]
    try simp only [List.setIfInBounds_toArray]
    try simp only [List.set_cons_succ]
    try simp only [List.set_cons_zero]
    refine wpAnyH_ready (rs := [2, 6]) (by kernel_rfl) (by simp) ?_
    refine (AllReadyH.cons rfl (fun K hK => ?_) (AllReadyH.cons rfl (fun K hK => ?_) AllReadyH.nil))
    · go_simp
      refine (snClone_nil U0).mono ?_
      rintro e U9 ⟨rfl, rfl⟩
      go_wp2_with fail
      refine hK.out _ _ (HKU.out _ HV.out) (fun hHeld => ?_)
      clear hK K
      try simp only [Act.put]
      try simp only [List.setIfInBounds_toArray]
      try simp only [List.set_cons_succ]
      try simp only [List.set_cons_zero]
      refine takeOp (i := 5) (v := ?_) (some 13) rfl rfl (by kernel_rfl) (by kernel_rfl) (by kernel_rfl) (fun _ _ _ h => h) (Or.inl ⟨by rfl, ?_⟩) (by assumption) ?_
      rotate_left 1
      · (intro w0 hSw; (try dsimp only at hSw); go_simp; try (with_reducible rfl))
      try simp only [Act.put]
      try simp only [List.setIfInBounds_toArray]
      try simp only [List.set_cons_succ]
      try simp only [List.set_cons_zero]
      refine wpAnyH_ready (rs := [6]) (by kernel_rfl) (by simp) ?_
      refine (AllReadyH.cons rfl (fun K hK => ?_) AllReadyH.nil)
      go_simp
      obtain ⟨U1, hV⟩ : ∃ V', V' = U9.alloc (.cells #[.map none, .int .i64 0] 31) := ⟨_, rfl⟩
      rw [← hV]
      have hx : Ext U9 U1 := by rw [hV]; exact (Ext.refl U9).alloc _
      have HM : Hid (Row U1 U9.heap.size 31 [.map none, .int .i64 0]) := by show Row _ _ _ _; rw [hV]; exact Row.new U9 31 _
      have HLO : Hid (W0.heap.size ≤ U9.heap.size) := HV.out.size
      have HV := Lib.hid (Below.then HV.out hx.below HV.out.size)
      clear hx hV
      refine hK.out _ _ (HKU.out _ HV.out) (fun hHeld => ?_)
      clear hK K
      try simp only [Act.put]
      try simp only [List.setIfInBounds_toArray]
      try simp only [List.set_cons_succ]
      try simp only [List.set_cons_zero]
      refine wpAnyH_ready (rs := [7]) (by kernel_rfl) (by simp) ?_
      refine (AllReadyH.cons rfl (fun K hK => ?_) AllReadyH.nil)
      have m0 := HM.out.cell 0
      have m1 := HM.out.cell 1
      have m2 := HM.out.frozen 0
      have m3 := HM.out.frozen 1
      have m4 := HM.out.lt
      simp only [List.getElem?_cons_zero, List.getElem?_cons_succ] at m0 m1
      go_simp
      obtain ⟨U2, hV⟩ : ∃ V', V' = (U1.setCell ⟨U9.heap.size, 0, none⟩ (.map none)).setCell ⟨U9.heap.size, 1, none⟩ (.int .i64 0) := ⟨_, rfl⟩
      rw [← hV]
      have HM : Hid (Row U2 U9.heap.size 31 [.map none, .int .i64 0]) := by show Row _ _ _ _; rw [hV]; exact HM.out.set2 _ _
      have HV : Hid (Below W0.heap.size W0 U2) := by show Below _ _ _; rw [hV]; exact (HV.out.setCell (by show W0.heap.size ≤ U9.heap.size; exact HLO.out) _).setCell (by show W0.heap.size ≤ U9.heap.size; exact HLO.out) _
      clear hV m0 m1 m2 m3 m4
      refine hK.out _ _ (HKU.out _ HV.out) (fun hHeld => ?_)
      clear hK K
      try simp only [Act.put]
      try simp only [List.setIfInBounds_toArray]
      try simp only [List.set_cons_succ]
      try simp only [List.set_cons_zero]
      refine wpAnyH_done (by kernel_rfl) ?_ _
      go_wp2_with fail
      go_meet
      case rel => exact ⟨U9.heap.size, rfl, HM.out, HLO.out, HV.out⟩
    · go_simp
      obtain ⟨U1, hV⟩ : ∃ V', V' = U0.alloc (.cells #[.map none, .int .i64 0] 31) := ⟨_, rfl⟩
      rw [← hV]
      have hx : Ext U0 U1 := by rw [hV]; exact (Ext.refl U0).alloc _
      have HM : Hid (Row U1 U0.heap.size 31 [.map none, .int .i64 0]) := by show Row _ _ _ _; rw [hV]; exact Row.new U0 31 _
      have HLO : Hid (W0.heap.size ≤ U0.heap.size) := HV.out.size
      have HV := Lib.hid (Below.then HV.out hx.below HV.out.size)
      clear hx hV
      refine hK.out _ _ (HKU.out _ HV.out) (fun hHeld => ?_)
      clear hK K
      try simp only [Act.put]
      try simp only [List.setIfInBounds_toArray]
      try simp only [List.set_cons_succ]
      try simp only [List.set_cons_zero]
      refine wpAnyH_ready (rs := [2]) (by kernel_rfl) (by simp) ?_
      refine (AllReadyH.cons rfl (fun K hK => ?_) AllReadyH.nil)
      go_simp
      refine (snClone_nil U1).mono ?_
      rintro e U9 ⟨rfl, rfl⟩
      go_wp2_with fail
      refine hK.out _ _ (HKU.out _ HV.out) (fun hHeld => ?_)
      clear hK K
      try simp only [Act.put]
      try simp only [List.setIfInBounds_toArray]
      try simp only [List.set_cons_succ]
      try simp only [List.set_cons_zero]
      refine takeOp (i := 5) (v := ?_) (some 13) rfl rfl (by kernel_rfl) (by kernel_rfl) (by kernel_rfl) (fun _ _ _ h => h) (Or.inl ⟨by rfl, ?_⟩) (by assumption) ?_
      rotate_left 1
      · (intro w0 hSw; (try dsimp only at hSw); go_simp; try (with_reducible rfl))
      try simp only [Act.put]
      try simp only [List.setIfInBounds_toArray]
      try simp only [List.set_cons_succ]
      try simp only [List.set_cons_zero]
      refine wpAnyH_ready (rs := [7]) (by kernel_rfl) (by simp) ?_
      refine (AllReadyH.cons rfl (fun K hK => ?_) AllReadyH.nil)
      have m0 := HM.out.cell 0
      have m1 := HM.out.cell 1
      have m2 := HM.out.frozen 0
      have m3 := HM.out.frozen 1
      have m4 := HM.out.lt
      simp only [List.getElem?_cons_zero, List.getElem?_cons_succ] at m0 m1
      go_simp
      obtain ⟨U2, hV⟩ : ∃ V', V' = (U9.setCell ⟨U0.heap.size, 0, none⟩ (.map none)).setCell ⟨U0.heap.size, 1, none⟩ (.int .i64 0) := ⟨_, rfl⟩
      rw [← hV]
      have HM : Hid (Row U2 U0.heap.size 31 [.map none, .int .i64 0]) := by show Row _ _ _ _; rw [hV]; exact HM.out.set2 _ _
      have HV : Hid (Below W0.heap.size W0 U2) := by show Below _ _ _; rw [hV]; exact (HV.out.setCell (by show W0.heap.size ≤ U0.heap.size; exact HLO.out) _).setCell (by show W0.heap.size ≤ U0.heap.size; exact HLO.out) _
      clear hV m0 m1 m2 m3 m4
      refine hK.out _ _ (HKU.out _ HV.out) (fun hHeld => ?_)
      clear hK K
      try simp only [Act.put]
      try simp only [List.setIfInBounds_toArray]
      try simp only [List.set_cons_succ]
      try simp only [List.set_cons_zero]
      refine wpAnyH_done (by kernel_rfl) ?_ _
      go_wp2_with fail
      go_meet
      case rel => exact ⟨U0.heap.size, rfl, HM.out, HLO.out, HV.out⟩
  case rest =>
    obtain ⟨b4, rfl, hr4, hlo, hbc⟩ := hcut
    have hrg := run_range_nilMap (P := Try.prog) wc 29 3 87 Try.underlying29
    have hnx : ∀ ty, (Instr.next (.pointer (some ⟨wc.heap.size, 0, none⟩)) false ty).run Try.prog (wc.alloc (.mapIter none 0 #[] 0)) = _ := fun ty => run_next_nilMap _ ty 0 0 #[]
    have HSRT := Lib.hid (fun W => AnyM.slices_Sort_int_none sortV none 0 W)
    have k0 : wc.cell? ⟨w.heap.size, 0, none⟩ = some (.map none) := (HR1.out.up hbc).cell 0
    have k1 := (HR1.out.up hbc).lt
    have HR4 := Lib.hid (hr4.alloc (.mapIter none 0 #[] 0))
    have HRG := Lib.hid ((HR2.out.up hbc).alloc (.mapIter none 0 #[] 0))
    obtain ⟨W5, hW5⟩ : ∃ W5, W5 = wc.alloc (.mapIter none 0 #[] 0) := ⟨_, rfl⟩
    have HB5 : Hid (Below w.heap.size w W5) := by show Below _ _ _; rw [hW5]; exact Below.then HX0.out.below (hbc.alloc hbc.size _) HX0.out.size
    rw [← hW5] at hrg HR4 HRG
    have hnx : ∀ ty, (Instr.next (.pointer (some ⟨wc.heap.size, 0, none⟩)) false ty).run Try.prog W5 = .ok (.tuple #[.bool false]) W5 := fun ty => by rw [hW5]; exact hnx ty
    clear hW5 hr4 hbc
    go_wp2_with fail
    refine wp_loop_rounds 1 ?_
    rw [rounds_succ]
    clear k0 hrg
    have j0 : W5.cell? ⟨b4, 0, none⟩ = some (.map none) := HR4.out.cell 0
    have j1 : W5.cell? ⟨b4, 1, none⟩ = some (.int .i64 0) := HR4.out.cell 1
    have j2 := HR4.out.lt
    have j3 : W5.cell? ⟨w.heap.size + 1, 0, none⟩ = some (.map none) := HRG.out.cell 0
    have j4 : W5.cell? ⟨w.heap.size + 1, 1, none⟩ = some (.int .i64 0) := HRG.out.cell 1
    have j5 := HRG.out.lt
    have j6 := HRG.out.frozen 0
    have j7 := HRG.out.frozen 1
    go_wp2_with fail
    refine (HSRT.out W5).mono ?_
    rintro e w2 ⟨rfl, rfl⟩
    go_wp2_with fail
    obtain ⟨W9, hW9⟩ : ∃ W9, W9 = (w2.setCell ⟨w.heap.size + 1, 0, none⟩ (.map none)).setCell ⟨w.heap.size + 1, 1, none⟩ (.int .i64 0) := ⟨_, rfl⟩
    rw [← hW9]
    have q := HRG.out.set2 (.map none) (.int .i64 0)
    rw [← hW9] at q
    have c0 := q.cell 0
    have c1 := q.cell 1
    have hb9 : Below w.heap.size w W9 := by
      rw [hW9]
      exact (HB5.out.setCell (by show w.heap.size ≤ w.heap.size + 1; omega) _).setCell (by show w.heap.size ≤ w.heap.size + 1; omega) _
    exact bodyPost_ret (v := .tuple #[.agg #[.map none, .int .i64 0], .slice none 0 0]) (by simp [results, Try.results13, go_sem, c0, c1]) rfl ⟨rfl, hb9⟩

end Go.Proofs.Ytgaffbdcpkbdhaa
end

section
/- Walk: the laws' awake (chapter 16). -/
namespace Go.Proofs.Ytgaffbdcpkbdhaa
open Go.RowKit Go.Sort Go.ChangeMaps Go.WideShapes

def sR : ByteArray := ⟨#[114]⟩
def schR : Sch := [(sR, [1])]
def rowR : RL.R := [⟨1, 3, ⟨#[]⟩⟩]
def cont0 : Cont := fun _ => []
theorem errS_R : errS schR = 0 := by decide +kernel
theorem errS_nil : errS [] = 0 := rfl
theorem apply_R : applyF schR cont0 0 [⟨false, sR, rowR⟩] = (0, updC cont0 sR [rowR], 1) := by
  have h1 : checkF schR sR rowR = 0 := by decide +kernel
  have h2 : stepU schR cont0 ⟨false, sR, rowR⟩ = (0, updC cont0 sR [rowR], true) := by
    unfold stepU
    rw [if_pos h1]
    rfl
  unfold applyF
  rw [h2]
  rfl
theorem apply_none (S : Sch) (F : Cont) : applyF S F 0 [] = (0, F, 0) := rfl
theorem rows_R : rowsF schR (updC cont0 sR [rowR]) = 1 := by decide +kernel
theorem schs_one {w : World} {b1 b2 : Nat} {nm : ByteArray} (h1 : Row w b1 3 [.int .i64 1]) (h2 : Row w b2 73 [.string nm, .slice (some ⟨b1, 0, none⟩) 1 1]) : SchsM w.heap.size w (some ⟨b2, 0, none⟩) [(nm, [1])] := fun _ => ⟨b2, 0, rfl, h2.lt, fun i hi => by
  have hi0 : i = 0 := by simp at hi; exact hi
  subst hi0
  exact ⟨some ⟨b1, 0, none⟩, 1, h2.cell 0, h2.cell 1, h1.sl⟩⟩

theorem StM.setBox {S : Sch} {w : World} {m : Value} {V : List Ver} {g : Nat} (h : StM (fun b => b ≠ g) S w m V) (u v : Value) : StM (fun b => b ≠ g) S ((w.setCell ⟨g, 0, none⟩ u).setCell ⟨g, 1, none⟩ v) m V :=
  (h.keep (Stay.set (fun e => e rfl) 0 u)).keep (Stay.set (fun e => e rfl) 1 v)

set_option maxHeartbeats 8000000 in
set_option maxRecDepth 100000 in
theorem l16awake_any (w : World) : Calls Try.prog 8 #[] w fun e w' => e = .returned (.bool true) ∧ Below w.heap.size w w' := by
  obtain ⟨W1, hW1⟩ : ∃ W1, W1 = (w.alloc (.cells #[.int .i64 1] 3)).alloc (.cells #[.string ⟨#[114]⟩, .slice (some ⟨w.heap.size, 0, none⟩) 1 1] 73) := ⟨_, rfl⟩
  have hx1 : Ext w W1 := by rw [hW1]; exact ((Ext.refl w).alloc _).alloc _
  have r1 : Row W1 w.heap.size 3 [.int .i64 1] := by rw [hW1]; exact (Row.new w 3 _).alloc _
  have r2 : Row W1 (w.heap.size + 1) 73 [.string ⟨#[114]⟩, .slice (some ⟨w.heap.size, 0, none⟩) 1 1] := by
    have h := Row.new (w.alloc (.cells #[.int .i64 1] 3)) 73 [.string ⟨#[114]⟩, .slice (some ⟨w.heap.size, 0, none⟩) 1 1]
    rw [World.size_alloc] at h
    rw [hW1]; exact h
  have HN := Lib.hid (ctNew_any (fun _ => True) (some ⟨w.heap.size + 1, 0, none⟩) 1 schR W1 (fun _ _ => trivial) (schs_one r1 r2) (fun p hp => by simp [schR] at hp; subst hp; exact ⟨by decide, by decide⟩) (by decide))
  have HX1 := Lib.hid hx1
  clear hx1 r1 r2
  go_enter Try.func8, Try.ntmps8
  go_wp2_with fail
  rw [← hW1]
  clear hW1
  refine HN.out.mono ?_
  rintro e w1 ⟨h1, -, hb1⟩
  obtain ⟨m1, rfl, hdb⟩ := h1 errS_R
  obtain ⟨bd, rfl⟩ := hdb.form
  obtain ⟨W2, hW2⟩ : ∃ W2, W2 = w1.alloc (.cells #[.map (some bd)] 25) := ⟨_, rfl⟩
  have hx2 : Ext w1 W2 := by rw [hW2]; exact (Ext.refl w1).alloc _
  have HB2 := Lib.hid (Below.then (Below.then HX1.out.below hb1 HX1.out.size) hx2.below (Nat.le_trans HX1.out.size hb1.size))
  have hr2 : Row W2 w1.heap.size 25 [.map (some bd)] := by rw [hW2]; exact Row.new w1 25 _
  have k0 : W2.cell? ⟨w1.heap.size, 0, none⟩ = some (.map (some bd)) := hr2.cell 0
  have k1 := hr2.lt
  have HSN := Lib.hid (snNew_ok (P := fun _ => True) (S := schR) (m := .map (some bd)) (F := cont0) 5 (by decide) (by decide) W2 (hdb.up hx2.below) (fun _ _ => trivial))
  have HW2 := Lib.hid hW2
  clear h1 hb1 hdb hx2 hr2 hW2 HN
  go_upto_region 2 with (fail)
  rw [← HW2.out]
  clear HW2
  go_wp2_with fail
  refine HSN.out.mono ?_
  rintro e w3 ⟨m3, rfl, hst3, hb3⟩
  obtain ⟨b3, rfl⟩ := hst3.form
  obtain ⟨W4, hW4⟩ : ∃ W4, W4 = w3.alloc (.cells #[.map (some b3), .int .i64 5] 31) := ⟨_, rfl⟩
  obtain ⟨g, hg⟩ : ∃ g, g = w3.heap.size := ⟨_, rfl⟩
  have hx4 : Ext w3 W4 := by rw [hW4]; exact (Ext.refl w3).alloc _
  have hr4 : Row W4 g 31 [.map (some b3), .int .i64 5] := by rw [hW4, hg]; exact Row.new w3 31 _
  have HB4 := Lib.hid (Below.then (Below.then HB2.out hb3 HB2.out.size) hx4.below (Nat.le_trans HB2.out.size hb3.size))
  have HS4 : Hid (StM (fun b => b ≠ g) schR W4 (.map (some b3)) [⟨5, cont0, 0⟩]) := (hst3.weak (P' := fun b => b ≠ g) fun b hb _ => by show b ≠ g; omega).up hx4.below
  have hgw : w.heap.size ≤ g := by rw [hg]; exact Nat.le_trans HB2.out.size hb3.size
  have HR4 := Lib.hid hr4
  have HW4 := Lib.hid hW4
  have HG := Lib.hid hg
  clear hst3 hb3 hx4 hr4 hW4 hg HSN k0 k1
  go_upto_region 3 with (fail)
  rw [← HW4.out, ← HG.out]
  clear HW4 HG
  have k2 : W4.cell? ⟨g, 0, none⟩ = some (.map (some b3)) := HR4.out.cell 0
  have k3 : W4.cell? ⟨g, 1, none⟩ = some (.int .i64 5) := HR4.out.cell 1
  have k4 := HR4.out.lt
  obtain ⟨W5, hW5⟩ : ∃ W5, W5 = (W4.alloc (.cells #[.int .i64 1, .int .i64 3, .string ⟨#[]⟩] 75)).alloc (.cells #[.bool false, .string ⟨#[114]⟩, .slice (some ⟨W4.heap.size, 0, none⟩) 1 1] 56) := ⟨_, rfl⟩
  have hx5 : Ext W4 W5 := by rw [hW5]; exact ((Ext.refl W4).alloc _).alloc _
  have q1 : Row W5 W4.heap.size 75 (rcells rowR) := by rw [hW5]; exact (Row.new W4 75 (rcells rowR)).alloc _
  have q2 : Row W5 (W4.heap.size + 1) 56 [.bool false, .string ⟨#[114]⟩, .slice (some ⟨W4.heap.size, 0, none⟩) 1 1] := by
    have h := Row.new (W4.alloc (.cells #[.int .i64 1, .int .i64 3, .string ⟨#[]⟩] 75)) 56 [.bool false, .string ⟨#[114]⟩, .slice (some ⟨W4.heap.size, 0, none⟩) 1 1]
    rw [World.size_alloc] at h
    rw [hW5]; exact h
  have HCM := Lib.hid (snCommit_any (P := fun b => b ≠ g) (HS4.out.up hx5.below) (fun b hb => by have := hx5.size; show b ≠ g; omega) (x := ⟨5, cont0, 0⟩) (by simp) rfl (by decide) (by decide) (by decide) (some ⟨W4.heap.size + 1, 0, none⟩) 1 [⟨false, sR, rowR⟩] (fun _ => ⟨_, 0, rfl, q2.lt, fun i hi => by
    have hi0 : i = 0 := by simp at hi; exact hi
    subst hi0
    exact ⟨some ⟨W4.heap.size, 0, none⟩, 1, q2.cell 0, q2.cell 1, q2.cell 2, fun _ => ⟨_, 0, rfl, q1.lt, fun j u hu => by rw [Nat.zero_add]; exact (q1.cell j).trans hu⟩⟩⟩)
    (fun u hu => by simp at hu; subst hu; exact ⟨by decide, by decide, fun v hv => by simp [rowR] at hv; subst hv; decide⟩) (by decide))
  have HB5 := Lib.hid (Below.then HB4.out hx5.below HB4.out.size)
  have HR5 := Lib.hid (HR4.out.up hx5.below)
  clear hx5 q1 q2
  go_wp2_with fail
  rw [← hW5]
  clear hW5 k2 k3
  refine HCM.out.mono ?_
  rintro e w6 ⟨h6, -, hb6⟩
  obtain ⟨m6, rfl, hst6⟩ := h6 (by show (applyF schR cont0 0 [⟨false, sR, rowR⟩]).1 = 0; rw [apply_R])
  have e6 : putV [⟨5, cont0, 0⟩] ⟨(5 : Int) + 1, (applyF schR cont0 0 [⟨false, sR, rowR⟩]).2.1, 0⟩ = [⟨5, cont0, 0⟩, ⟨6, updC cont0 sR [rowR], 0⟩] := by rw [apply_R]; rfl
  rw [e6] at hst6
  obtain ⟨F1, hF1⟩ : ∃ F1, F1 = updC cont0 sR [rowR] := ⟨_, rfl⟩
  rw [← hF1] at hst6
  have HF1 := Lib.hid hF1
  obtain ⟨b6, rfl⟩ := hst6.form
  have q6 := HR5.out.up hb6
  have j0 : w6.cell? ⟨g, 0, none⟩ = some (.map (some b3)) := q6.cell 0
  have j1 : w6.cell? ⟨g, 1, none⟩ = some (.int .i64 5) := q6.cell 1
  have j2 := q6.frozen 0
  have j3 := q6.frozen 1
  have j4 := q6.lt
  obtain ⟨W7, hW7⟩ : ∃ W, W = (w6.setCell ⟨g, 0, none⟩ (.map (some b6))).setCell ⟨g, 1, none⟩ (.int .i64 6) := ⟨_, rfl⟩
  have HR7 : Hid (Row W7 g 31 [.map (some b6), .int .i64 6]) := by show Row _ _ _ _; rw [hW7]; exact q6.set2 _ _
  have HS7 : Hid (StM (fun b => b ≠ g) schR W7 (.map (some b6)) [⟨5, cont0, 0⟩, ⟨6, F1, 0⟩]) := by show StM _ _ _ _ _; rw [hW7]; exact StM.setBox hst6 _ _
  have HB7 : Hid (Below w.heap.size w W7) := by show Below _ _ _; rw [hW7]; exact ((Below.then HB5.out hb6 HB5.out.size).setCell hgw _).setCell hgw _
  have HW7 := Lib.hid hW7
  clear h6 hb6 hst6 q6 hW7 e6 hF1 HCM k4
  go_upto_region 4 with (fail)
  rw [← HW7.out]
  clear HW7 j0 j1 j2 j3 j4
  have k2 : W7.cell? ⟨g, 0, none⟩ = some (.map (some b6)) := HR7.out.cell 0
  have k3 : W7.cell? ⟨g, 1, none⟩ = some (.int .i64 6) := HR7.out.cell 1
  have k4 := HR7.out.lt
  have HCM := Lib.hid (snCommit_any (P := fun b => b ≠ g) HS7.out (fun b hb => by show b ≠ g; omega) (x := ⟨6, F1, 0⟩) (by simp) rfl (show (2 : Nat) < 64 by decide) (show (0 : Int) ≤ 6 ∧ (6 : Int) ≤ 1000000000000000000 by decide) (by decide) none 0 [] (fun h => absurd rfl h) (fun u hu => by cases hu) (by decide))
  go_wp2_with fail
  clear k2 k3
  refine HCM.out.mono ?_
  rintro e w8 ⟨h8, -, hb8⟩
  obtain ⟨m8, rfl, hst8⟩ := h8 rfl
  have e8 : putV [⟨5, cont0, 0⟩, ⟨6, F1, 0⟩] ⟨(6 : Int) + 1, (applyF schR F1 0 []).2.1, 0⟩ = [⟨5, cont0, 0⟩, ⟨6, F1, 0⟩, ⟨7, F1, 0⟩] := rfl
  rw [e8] at hst8
  obtain ⟨b8, rfl⟩ := hst8.form
  have q8 := HR7.out.up hb8
  have j0 : w8.cell? ⟨g, 0, none⟩ = some (.map (some b6)) := q8.cell 0
  have j1 : w8.cell? ⟨g, 1, none⟩ = some (.int .i64 6) := q8.cell 1
  have j2 := q8.frozen 0
  have j3 := q8.frozen 1
  have j4 := q8.lt
  obtain ⟨W9, hW9⟩ : ∃ W, W = (w8.setCell ⟨g, 0, none⟩ (.map (some b8))).setCell ⟨g, 1, none⟩ (.int .i64 7) := ⟨_, rfl⟩
  have HR9 : Hid (Row W9 g 31 [.map (some b8), .int .i64 7]) := by show Row _ _ _ _; rw [hW9]; exact q8.set2 _ _
  have HS9 : Hid (StM (fun b => b ≠ g) schR W9 (.map (some b8)) [⟨5, cont0, 0⟩, ⟨6, F1, 0⟩, ⟨7, F1, 0⟩]) := by show StM _ _ _ _ _; rw [hW9]; exact StM.setBox hst8 _ _
  have HB9 : Hid (Below w.heap.size w W9) := by show Below _ _ _; rw [hW9]; exact ((Below.then HB7.out hb8 HB7.out.size).setCell hgw _).setCell hgw _
  have HW9 := Lib.hid hW9
  clear h8 hb8 hst8 q8 hW9 e8 HCM k4
  go_upto_region 5 with (fail)
  rw [← HW9.out]
  clear HW9 j0 j1 j2 j3 j4
  have k2 : W9.cell? ⟨g, 0, none⟩ = some (.map (some b8)) := HR9.out.cell 0
  have k3 : W9.cell? ⟨g, 1, none⟩ = some (.int .i64 7) := HR9.out.cell 1
  have k4 := HR9.out.lt
  have HPI := Lib.hid (snPin_some (P := fun b => b ≠ g) (l := 7) HS9.out (fun b hb => by show b ≠ g; omega) (show (3 : Nat) ≤ 1000 by decide) (x := ⟨5, cont0, 0⟩) (by simp) ⟨by decide, by decide⟩)
  go_wp2_with fail
  clear k2 k3
  refine HPI.out.mono ?_
  rintro e w10 ⟨m10, rfl, hst10, hb10⟩
  have e10 : putV [⟨5, cont0, 0⟩, ⟨6, F1, 0⟩, ⟨7, F1, 0⟩] ⟨5, cont0, (0 : Int) + 1⟩ = [⟨5, cont0, 1⟩, ⟨6, F1, 0⟩, ⟨7, F1, 0⟩] := rfl
  rw [e10] at hst10
  obtain ⟨b10, rfl⟩ := hst10.form
  have q10 := HR9.out.up hb10
  have j0 : w10.cell? ⟨g, 0, none⟩ = some (.map (some b8)) := q10.cell 0
  have j1 : w10.cell? ⟨g, 1, none⟩ = some (.int .i64 7) := q10.cell 1
  have j2 := q10.frozen 0
  have j3 := q10.frozen 1
  have j4 := q10.lt
  obtain ⟨W11, hW11⟩ : ∃ W, W = (w10.setCell ⟨g, 0, none⟩ (.map (some b10))).setCell ⟨g, 1, none⟩ (.int .i64 7) := ⟨_, rfl⟩
  have HR11 : Hid (Row W11 g 31 [.map (some b10), .int .i64 7]) := by show Row _ _ _ _; rw [hW11]; exact q10.set2 _ _
  have HS11 : Hid (StM (fun b => b ≠ g) schR W11 (.map (some b10)) [⟨5, cont0, 1⟩, ⟨6, F1, 0⟩, ⟨7, F1, 0⟩]) := by show StM _ _ _ _ _; rw [hW11]; exact StM.setBox hst10 _ _
  have HB11 : Hid (Below w.heap.size w W11) := by show Below _ _ _; rw [hW11]; exact ((Below.then HB9.out hb10 HB9.out.size).setCell hgw _).setCell hgw _
  have HW11 := Lib.hid hW11
  clear hb10 hst10 q10 hW11 e10 HPI k4
  go_upto_region 6 with (fail)
  rw [← HW11.out]
  clear HW11 j0 j1 j2 j3 j4
  have k2 : W11.cell? ⟨g, 0, none⟩ = some (.map (some b10)) := HR11.out.cell 0
  have k3 : W11.cell? ⟨g, 1, none⟩ = some (.int .i64 7) := HR11.out.cell 1
  have k4 := HR11.out.lt
  have HCO := Lib.hid (snCollect_any (P := fun b => b ≠ g) (l := 7) HS11.out (fun b hb => by show b ≠ g; omega) (show (3 : Nat) ≤ 1000 by decide))
  go_wp2_with fail
  clear k2 k3
  refine HCO.out.mono ?_
  rintro e w12 ⟨m12, AG, CG, rfl, hst12, hgo12, hb12⟩
  have e12 : ([⟨5, cont0, 1⟩, ⟨6, F1, 0⟩, ⟨7, F1, 0⟩] : List Ver).filter (fun x => !goneB 7 x) = [⟨5, cont0, 1⟩, ⟨7, F1, 0⟩] := rfl
  have e13 : ([⟨5, cont0, 1⟩, ⟨6, F1, 0⟩, ⟨7, F1, 0⟩] : List Ver).filter (goneB 7) = [⟨6, F1, 0⟩] := rfl
  rw [e12] at hst12
  rw [e13] at hgo12 ⊢
  obtain ⟨b12, rfl⟩ := hst12.form
  have q12 := HR11.out.up hb12
  have j0 : w12.cell? ⟨g, 0, none⟩ = some (.map (some b10)) := q12.cell 0
  have j1 : w12.cell? ⟨g, 1, none⟩ = some (.int .i64 7) := q12.cell 1
  have j2 := q12.frozen 0
  have j3 := q12.frozen 1
  have j4 := q12.lt
  obtain ⟨W13, hW13⟩ : ∃ W, W = (w12.setCell ⟨g, 0, none⟩ (.map (some b12))).setCell ⟨g, 1, none⟩ (.int .i64 7) := ⟨_, rfl⟩
  have HR13 : Hid (Row W13 g 31 [.map (some b12), .int .i64 7]) := by show Row _ _ _ _; rw [hW13]; exact q12.set2 _ _
  have HS13 : Hid (StM (fun b => b ≠ g) schR W13 (.map (some b12)) [⟨5, cont0, 1⟩, ⟨7, F1, 0⟩]) := by show StM _ _ _ _ _; rw [hW13]; exact StM.setBox hst12 _ _
  have HB13 : Hid (Below w.heap.size w W13) := by show Below _ _ _; rw [hW13]; exact ((Below.then HB11.out hb12 HB11.out.size).setCell hgw _).setCell hgw _
  have HW13 := Lib.hid hW13
  have hgl : ¬ W11.heap.size ≤ g := by omega
  have HGB : Hid (SlIP (fun b => W11.heap.size ≤ b) W13 AG [6]) := by
    show SlIP _ _ _ _
    rw [hW13]
    exact (hgo12.keep (Stay.set hgl 0 _)).keep (Stay.set hgl 1 _)
  clear hb12 hst12 q12 e12 e13 HCO k4 hgo12 hgl hW13
  go_upto_region 7 with (fail)
  rw [← HW13.out]
  clear HW13 j0 j1 j2 j3 j4
  have k2 : W13.cell? ⟨g, 0, none⟩ = some (.map (some b12)) := HR13.out.cell 0
  have k3 : W13.cell? ⟨g, 1, none⟩ = some (.int .i64 7) := HR13.out.cell 1
  have k4 := HR13.out.lt
  have HAT := Lib.hid (snAt_some (P := fun b => b ≠ g) (l := 7) HS13.out (x := ⟨7, F1, 0⟩) (by simp))
  go_wp2_with fail
  clear k2 k3
  refine HAT.out.mono ?_
  rintro e w14 ⟨d, rfl, hdb, hx14⟩
  obtain ⟨b14, rfl⟩ := hdb.form
  obtain ⟨W15, hW15⟩ : ∃ W15, W15 = w14.alloc (.cells #[.map (some b14)] 25) := ⟨_, rfl⟩
  have hx15 : Ext w14 W15 := by rw [hW15]; exact (Ext.refl w14).alloc _
  have hr15 : Row W15 w14.heap.size 25 [.map (some b14)] := by rw [hW15]; exact Row.new w14 25 _
  have HDB := Lib.hid ((hdb.up hx14.below).up hx15.below)
  have hb1315 : Below W13.heap.size W13 W15 := Below.then hx14.below hx15.below hx14.size
  have HR15 := Lib.hid (HR13.out.up hb1315)
  have HS15 := Lib.hid (HS13.out.up hb1315)
  have HG15 := Lib.hid (HGB.out.keep (Stay.of hb1315))
  have HB15 := Lib.hid (Below.then HB13.out hb1315 HB13.out.size)
  have HRD := Lib.hid hr15
  have HW15 := Lib.hid hW15
  clear hdb hx14 hx15 hr15 hb1315 hW15 HAT k4
  go_upto_region 8 with (fail)
  rw [← HW15.out]
  clear HW15
  have HSA := Lib.hid (fun W (hb : Below W15.heap.size W15 W) (B : Option Addr) (C : Nat) (h : SlI .i64 W.heap.size W B [6]) => r16Same_any AG B CG C [6] [6] W ((HG15.out.keep (Stay.of hb)).sl) h (by decide) (by decide))
  go_wp2_with fail
  obtain ⟨W16, hW16⟩ : ∃ W, W = W15.alloc (.cells #[.int .i64 6] 3) := ⟨_, rfl⟩
  rw [← hW16]
  have hx16 : Ext W15 W16 := by rw [hW16]; exact (Ext.refl W15).alloc _
  have hr16 : Row W16 W15.heap.size 3 [.int .i64 6] := by rw [hW16]; exact Row.new W15 3 _
  refine (HSA.out W16 hx16.below _ 1 hr16.sl).mono ?_
  rintro e w17 ⟨rfl, hx17⟩
  have hx := hx16.trans hx17
  have HR17 := Lib.hid (HR15.out.up hx.below)
  have HS17 := Lib.hid (HS15.out.up hx.below)
  have HB17 := Lib.hid (Below.then HB15.out hx.below HB15.out.size)
  have HRD17 := Lib.hid (HRD.out.up hx.below)
  have HDB17 := Lib.hid (HDB.out.up hx.below)
  have HV := Lib.hid (snVersions_any (l := 7) HS17.out (show (2 : Nat) ≤ 1000 by decide))
  clear hW16 hx16 hr16 hx17 hx HSA HR15 HS15 HB15 HRD HDB HG15
  have k2 : w17.cell? ⟨g, 0, none⟩ = some (.map (some b12)) := HR17.out.cell 0
  have k3 : w17.cell? ⟨g, 1, none⟩ = some (.int .i64 7) := HR17.out.cell 1
  have k4 := HR17.out.lt
  go_wp2_with fail
  clear k2 k3
  refine HV.out.mono ?_
  rintro e w18 ⟨v, rfl, hrow, hb18⟩
  obtain ⟨VA, VC, rfl, -, -, hsv⟩ := Sl.of_own hrow
  have HSV : Hid (SlI .i64 w18.heap.size w18 VA [5, 7]) := hsv
  simp only [List.map_cons, List.map_nil, List.length_cons, List.length_nil, Nat.zero_add, Nat.reduceAdd]
  have HRD18 := Lib.hid (HRD17.out.up hb18)
  have HDB18 := Lib.hid (HDB17.out.up hb18)
  have HB18 := Lib.hid (Below.then HB17.out hb18 HB17.out.size)
  clear hrow hsv hb18 HV HR17 HS17 HB17 HRD17 HDB17 k4
  go_wp2_with fail
  obtain ⟨W19, hW19⟩ : ∃ W, W = w18.alloc (.cells #[.int .i64 5, .int .i64 7] 3) := ⟨_, rfl⟩
  rw [← hW19]
  have hx19 : Ext w18 W19 := by rw [hW19]; exact (Ext.refl w18).alloc _
  have hr19 : Row W19 w18.heap.size 3 [.int .i64 5, .int .i64 7] := by rw [hW19]; exact Row.new w18 3 _
  refine (r16Same_any VA _ VC 2 [5, 7] [5, 7] W19 ((Sl.ext HSV.out (Nat.le_refl _) hx19).more hx19.size) hr19.sl (by decide) (by decide)).mono ?_
  rintro e w20 ⟨rfl, hx20⟩
  have hx := hx19.trans hx20
  have HRD20 := HRD18.out.up hx.below
  have HCR := Lib.hid (ctRows_any w20 (HDB18.out.up hx.below) (by simp [schR]) (by simp [schR]))
  have HB20 := Lib.hid (Below.then HB18.out hx.below HB18.out.size)
  have k1 : w20.cell? ⟨w14.heap.size, 0, none⟩ = some (.map (some b14)) := HRD20.cell 0
  have k4 := HRD20.lt
  have hre : rowsF schR F1 = 1 := by rw [HF1.out]; exact rows_R
  rw [hre] at HCR
  clear hW19 hx19 hr19 hx20 hx HRD18 HDB18 HB18 HSV HRD20 hre HF1
  go_wp2_with fail
  refine HCR.out.mono ?_
  rintro e w21 ⟨rfl, hb21⟩
  have HB21 := Lib.hid (Below.then HB20.out hb21 HB20.out.size)
  clear hb21 HB20 HCR k1 k4
  go_wp2_with fail
  go_ret
  exact ⟨rfl, HB21.out⟩

end Go.Proofs.Ytgaffbdcpkbdhaa
end

section
/- The operations of a store in one form each. -/
namespace Go.Proofs.Ytgaffbdcpkbdhaa
open Go.RowKit Go.Sort Go.ChangeMaps Go.WideShapes

def findV (V : List Ver) (n : Int) : Option Ver := V.find? fun x => decide (x.num = n)
theorem findV_some {V : List Ver} {n : Int} {x : Ver} (h : findV V n = some x) : x ∈ V ∧ x.num = n := ⟨List.mem_of_find?_eq_some h, by have := List.find?_some h; simpa using this⟩
theorem findV_none {V : List Ver} {n : Int} (h : findV V n = none) : ∀ x ∈ V, x.num ≠ n := fun x hx => by have := List.find?_eq_none.1 h x hx; simpa using this
def pinsV (V : List Ver) (n : Int) : Int := match findV V n with | none => 0 | some x => x.pins
def pinR (V : List Ver) (n : Int) : Int × List Ver := match findV V n with | none => (31, V) | some x => (0, putV V ⟨x.num, x.db, x.pins + 1⟩)
def unpinR (V : List Ver) (n : Int) : Int × List Ver := match findV V n with | none => (31, V) | some x => if x.pins = 0 then (17, V) else (0, putV V ⟨x.num, x.db, x.pins - 1⟩)
/-- The database of a version. -/
def dbV (V : List Ver) (n : Int) : Cont := match findV V n with | none => cont0 | some x => x.db
/-- What a commit answers: the error, the versions, the latest. -/
def commitR (S : Sch) (V : List Ver) (l : Int) (us : List Upd) : Int × List Ver × Int :=
  if (applyF S (dbV V l) 0 us).1 = 0 then (0, putV V ⟨l + 1, (applyF S (dbV V l) 0 us).2.1, 0⟩, l + 1) else ((applyF S (dbV V l) 0 us).1, V, l)
/-- A store that the laws may have. -/
structure Good (V : List Ver) (l : Int) (B : Nat) : Prop where
  has : ∃ x ∈ V, x.num = l
  all : ∀ x ∈ V, x.num ≤ l ∧ 0 ≤ x.num ∧ 0 ≤ x.pins ∧ x.pins ≤ B
  len : V.length ≤ B + 1
  low : 0 ≤ l
  high : l ≤ B + 300
theorem Good.more {V : List Ver} {l : Int} {B B' : Nat} (h : Good V l B) (hB : B ≤ B') : Good V l B' :=
  ⟨h.has, fun x hx => by obtain ⟨a, b, c, d⟩ := h.all x hx; exact ⟨a, b, c, by omega⟩, by have := h.len; omega, h.low, by have := h.high; omega⟩
theorem Good.find {V : List Ver} {l : Int} {B : Nat} (h : Good V l B) : ∃ x, findV V l = some x ∧ x ∈ V ∧ x.num = l := by
  cases hf : findV V l with
  | none => obtain ⟨x, hx, e⟩ := h.has; exact absurd e (findV_none hf x hx)
  | some x => exact ⟨x, rfl, findV_some hf⟩
theorem Good.one {n : Int} {F : Cont} (h0 : 0 ≤ n) (h1 : n ≤ 300) : Good [⟨n, F, 0⟩] n 0 :=
  ⟨⟨_, List.mem_singleton.2 rfl, rfl⟩, fun x hx => by rw [List.mem_singleton.1 hx]; exact ⟨Int.le_refl _, h0, Int.le_refl _, Int.le_refl _⟩, Nat.le_refl _, h0, by omega⟩
theorem Good.put {V : List Ver} {l : Int} {B : Nat} (h : Good V l B) (hp : V.Pairwise (fun x y => x.num < y.num)) {n : Int} {F : Cont} {p : Int} (hn : 0 ≤ n) (hnl : n ≤ l) (hin : ∃ x ∈ V, x.num = n) (h0 : 0 ≤ p) (hpB : p ≤ B + 1) : Good (putV V ⟨n, F, p⟩) l (B + 1) := by
  have hany : (V.any fun x => x.num == n) = true := by
    obtain ⟨x, hx, e⟩ := hin
    exact List.any_eq_true.2 ⟨x, hx, by simp [e]⟩
  refine ⟨?_, fun x hx => ?_, ?_, h.low, by have := h.high; omega⟩
  · obtain ⟨x, hx, e⟩ := h.has
    by_cases e2 : n = l
    · exact ⟨_, (mem_putV _ hp _).2 (.inl rfl), e2⟩
    · exact ⟨x, (mem_putV _ hp _).2 (.inr ⟨hx, fun e3 => e2 (e3.symm.trans e)⟩), e⟩
  · rcases (mem_putV _ hp x).1 hx with rfl | ⟨hx, _⟩
    · exact ⟨hnl, hn, h0, by show p ≤ _; omega⟩
    · obtain ⟨a, b, c, d⟩ := h.all x hx
      exact ⟨a, b, c, by omega⟩
  · rw [putV_len _ hp, hany]
    have := h.len
    show V.length ≤ _
    omega
theorem Good.pin {V : List Ver} {l : Int} {B : Nat} (h : Good V l B) (hp : V.Pairwise (fun x y => x.num < y.num)) (n : Int) : Good (pinR V n).2 l (B + 1) := by
  unfold pinR
  cases hf : findV V n with
  | none => exact h.more (by omega)
  | some x =>
    obtain ⟨hx, e⟩ := findV_some hf
    obtain ⟨a, b, c, d⟩ := h.all x hx
    exact h.put hp b a ⟨x, hx, rfl⟩ (by omega) (by omega)
theorem Good.unpin {V : List Ver} {l : Int} {B : Nat} (h : Good V l B) (hp : V.Pairwise (fun x y => x.num < y.num)) (n : Int) : Good (unpinR V n).2 l (B + 1) := by
  unfold unpinR
  cases hf : findV V n with
  | none => exact h.more (by omega)
  | some x =>
    obtain ⟨hx, e⟩ := findV_some hf
    obtain ⟨a, b, c, d⟩ := h.all x hx
    show Good (if x.pins = 0 then (17, V) else _).2 l (B + 1)
    split
    · exact h.more (by omega)
    · exact h.put hp b a ⟨x, hx, rfl⟩ (by omega) (by omega)
theorem Good.commit {V : List Ver} {l : Int} {B : Nat} (h : Good V l B) (hp : V.Pairwise (fun x y => x.num < y.num)) (S : Sch) (us : List Upd) : Good (commitR S V l us).2.1 (commitR S V l us).2.2 (B + 1) := by
  unfold commitR
  split
  · refine ⟨⟨_, (mem_putV _ hp _).2 (.inl rfl), rfl⟩, fun x hx => ?_, ?_, by have := h.low; show 0 ≤ l + 1; omega, by have := h.high; show l + 1 ≤ _; omega⟩
    · rcases (mem_putV _ hp x).1 hx with rfl | ⟨hx, _⟩
      · exact ⟨Int.le_refl _, by have := h.low; show 0 ≤ l + 1; omega, Int.le_refl _, by show (0 : Int) ≤ _; omega⟩
      · obtain ⟨a, b, c, d⟩ := h.all x hx
        exact ⟨by show x.num ≤ l + 1; omega, b, c, by omega⟩
    · show (putV V _).length ≤ _
      rw [putV_len _ hp]
      have := h.len
      split <;> omega
  · exact h.more (by omega)
theorem Good.gone {V : List Ver} {l : Int} {B : Nat} (h : Good V l B) : Good (V.filter fun x => !goneB l x) l (B + 1) := by
  refine ⟨?_, fun x hx => ?_, Nat.le_trans (List.length_filter_le _ _) (by have := h.len; omega), h.low, by have := h.high; omega⟩
  · obtain ⟨x, hx, e⟩ := h.has
    refine ⟨x, List.mem_filter.2 ⟨hx, ?_⟩, e⟩
    unfold goneB
    rw [decide_eq_false (show ¬ x.num ≠ l from fun k => k e), Bool.and_false]
    rfl
  · obtain ⟨a, b, c, d⟩ := h.all x (List.mem_filter.1 hx).1
    exact ⟨a, b, c, by omega⟩
theorem StM.asc {P : Nat → Prop} {S : Sch} {w : World} {m : Value} {V : List Ver} (h : StM P S w m V) : V.Pairwise (fun x y => x.num < y.num) := by
  obtain ⟨_, _, _, _, _, _, _, _, h6⟩ := h
  exact h6

section
variable {P : Nat → Prop} {S : Sch} {m : Value} {l n : Int} {V : List Ver} {w : World} {B : Nat}
theorem snPins_all (h : StM P S w m V) (hw : (Lit.int .i64 n).wf = true) : Calls Try.prog 18 #[.agg #[m, .int .i64 l], .int .i64 n] w fun e w' => e = .returned (.int .i64 (pinsV V n)) ∧ Ext w w' := by
  unfold pinsV
  cases hf : findV V n with
  | none => exact snPins_none h hw (findV_none hf)
  | some x =>
    obtain ⟨hx, rfl⟩ := findV_some hf
    exact snPins_some h hx
def AtPost (P : Nat → Prop) (S : Sch) (V : List Ver) (n : Int) (w : World) (e : Ending) (w' : World) : Prop :=
  ((findV V n = none) → e = .returned (.tuple #[.agg #[.map none], .int .i64 31])) ∧ (∀ x, findV V n = some x → ∃ d, e = .returned (.tuple #[.agg #[.map (some d)], .int .i64 0]) ∧ DbM P S w (.map (some d)) x.db) ∧ Ext w w'
theorem snAt_all (h : StM P S w m V) (hw : (Lit.int .i64 n).wf = true) : Calls Try.prog 14 #[.agg #[m, .int .i64 l], .int .i64 n] w (AtPost P S V n w) := by
  cases hf : findV V n with
  | none => exact (snAt_none h hw (findV_none hf)).mono fun e w' hh => ⟨fun _ => hh.1, fun x hx => (by rw [hf] at hx; cases hx), hh.2⟩
  | some x =>
    obtain ⟨hx, rfl⟩ := findV_some hf
    refine (snAt_some h hx).mono fun e w' hh => ?_
    obtain ⟨d, e1, hd, hx'⟩ := hh
    obtain ⟨bd, rfl⟩ := hd.form
    refine ⟨fun hn => (by rw [hf] at hn; cases hn), fun y hy => ?_, hx'⟩
    rw [hf] at hy
    cases hy
    exact ⟨bd, e1, hd⟩
def StPost (P : Nat → Prop) (S : Sch) (m : Value) (l : Int) (r : Int × List Ver) (w : World) (e : Ending) (w' : World) : Prop :=
  ∃ m', e = .returned (.tuple #[.agg #[.map (some m'), .int .i64 l], .int .i64 r.1]) ∧ (r.1 ≠ 0 → .map (some m') = m) ∧ StM P S w' (.map (some m')) r.2 ∧ Below w.heap.size w w'
theorem snPin_all (h : StM P S w m V) (hPn : ∀ b, w.heap.size ≤ b → P b) (hg : Good V l B) (hB : B ≤ 500) (hw : (Lit.int .i64 n).wf = true) : Calls Try.prog 16 #[.agg #[m, .int .i64 l], .int .i64 n] w (StPost P S m l (pinR V n) w) := by
  have hlen := hg.len
  unfold pinR
  cases hf : findV V n with
  | none =>
    obtain ⟨b, rfl⟩ := h.form
    exact (snPin_none h hw (findV_none hf)).mono fun e w' hh => ⟨b, hh.1, fun _ => rfl, h.up hh.2.below, hh.2.below⟩
  | some x =>
    obtain ⟨hx, rfl⟩ := findV_some hf
    obtain ⟨a, b, c, d⟩ := hg.all x hx
    refine (snPin_some h hPn (by omega) hx ⟨by omega, by omega⟩).mono fun e w' hh => ?_
    obtain ⟨m', e1, hs, hb⟩ := hh
    obtain ⟨bd, rfl⟩ := hs.form
    exact ⟨bd, e1, fun h0 => absurd rfl h0, hs, hb⟩
theorem snUnpin_all (h : StM P S w m V) (hPn : ∀ b, w.heap.size ≤ b → P b) (hg : Good V l B) (hB : B ≤ 500) (hw : (Lit.int .i64 n).wf = true) : Calls Try.prog 17 #[.agg #[m, .int .i64 l], .int .i64 n] w (StPost P S m l (unpinR V n) w) := by
  have hlen := hg.len
  unfold unpinR
  cases hf : findV V n with
  | none =>
    obtain ⟨b, rfl⟩ := h.form
    exact (snUnpin_none h hw (findV_none hf)).mono fun e w' hh => ⟨b, hh.1, fun _ => rfl, h.up hh.2.below, hh.2.below⟩
  | some x =>
    obtain ⟨hx, rfl⟩ := findV_some hf
    obtain ⟨a, b, c, d⟩ := hg.all x hx
    by_cases h0 : x.pins = 0
    · obtain ⟨b, rfl⟩ := h.form
      show Calls _ _ _ _ (StPost P S _ l (if x.pins = 0 then (17, V) else _) w)
      rw [if_pos h0]
      exact (snUnpin_zero h hx h0).mono fun e w' hh => ⟨b, hh.1, fun _ => rfl, h.up hh.2.below, hh.2.below⟩
    · show Calls _ _ _ _ (StPost P S _ l (if x.pins = 0 then (17, V) else _) w)
      rw [if_neg h0]
      refine (snUnpin_some h hPn (by omega) hx ⟨by omega, by omega⟩).mono fun e w' hh => ?_
      obtain ⟨m', e1, hs, hb⟩ := hh
      obtain ⟨bd, rfl⟩ := hs.form
      exact ⟨bd, e1, fun h0 => absurd rfl h0, hs, hb⟩
def CommitPost (P : Nat → Prop) (S : Sch) (m : Value) (r : Int × List Ver × Int) (w : World) (e : Ending) (w' : World) : Prop :=
  ∃ m' n', e = .returned (.tuple #[.agg #[.map (some m'), .int .i64 r.2.2], .int .i64 n', .int .i64 r.1]) ∧ (n' = if r.1 = 0 then r.2.2 else 0) ∧ (r.1 ≠ 0 → .map (some m') = m) ∧ StM P S w' (.map (some m')) r.2.1 ∧ Below w.heap.size w w'
theorem snCommit_all (h : StM P S w m V) (hPn : ∀ b, w.heap.size ≤ b → P b) (hg : Good V l B) (hB : B ≤ 500) (h64 : V.length < 64) (hSl : S.length ≤ 1000000) (A : Option Addr) (C : Nat) (us : List Upd) (hU : UpdsM w.heap.size w A us) (hok : ∀ u ∈ us, UpdOk u) (hul : us.length ≤ 1000000) :
    Calls Try.prog 11 #[.agg #[m, .int .i64 l], .slice A us.length C] w (CommitPost P S m (commitR S V l us) w) := by
  obtain ⟨x, hf, hx, hxl⟩ := hg.find
  have hdb : dbV V l = x.db := by unfold dbV; rw [hf]
  have hlo := hg.low
  have hhi := hg.high
  have hb' : (B : Int) + 300 ≤ 1000000000000000000 := by omega
  refine (snCommit_any h hPn hx hxl h64 ⟨hlo, by omega⟩ hSl A C us hU hok hul).mono fun e w' hh => ?_
  obtain ⟨h1, h2, h3⟩ := hh
  unfold commitR
  rw [hdb]
  by_cases h0 : (applyF S x.db 0 us).1 = 0
  · obtain ⟨m', e1, hs⟩ := h1 h0
    obtain ⟨bd, rfl⟩ := hs.form
    rw [if_pos h0]
    exact ⟨bd, _, e1, rfl, fun hh => absurd rfl hh, hs, h3⟩
  · have e1 := h2 h0
    obtain ⟨b, rfl⟩ := h.form
    rw [if_neg h0]
    exact ⟨b, 0, e1, (if_neg h0).symm, fun _ => rfl, h.up h3, h3⟩
end
end Go.Proofs.Ytgaffbdcpkbdhaa
end

section
/- Lists of updates as cells; appends of whole lists (updates, versions of the reference, batches). -/
namespace Go.Proofs.Ytgaffbdcpkbdhaa
open Go.RowKit Go.Sort Go.ChangeMaps Go.WideShapes

theorem updInfo : (Try.prog.info? 56).map (fun i => (i.zero, i.size, i.bytes)) = some (some (.agg #[.bool false, .string ⟨#[]⟩, .slice none 0 0]), 3, 48) := by kernel_rfl
theorem r16verInfo : (Try.prog.info? 103).map (fun i => (i.zero, i.size, i.bytes)) = some (some (.agg #[.int .i64 0, .int .i64 0, .int .i64 0]), 3, 24) := by kernel_rfl
theorem updsInfo : (Try.prog.info? 49).map (fun i => (i.zero, i.size, i.bytes)) = some (some (.slice none 0 0), 1, 24) := by kernel_rfl

set_option maxRecDepth 4000 in
theorem runXUpd {w : World} (ty : TypeId) (base : Nat) (v : Value) (n : Nat) (xs : List Value) (hown : w.ownsRow base 56 3 v n xs)
    (A : Option Addr) (m C : Nat) (news : List Value) (hl : news.length = m * 3) (hz : Sl w.heap.size w A news) (h1 : ∀ u ∈ news, u.oneCell' = true) (hn : n + m ≤ 1000000) (hbase : base ≤ w.heap.size) :
    ∃ v' w', (Builtin.append_ #[49, 49] ty #[v, .slice A m C]).run Try.prog w = .ok v' w' ∧ w'.ownsRow base 56 3 v' (n + m) (xs ++ news) ∧ w.grownBy w' v.ownBlock ∧ (∀ b, v'.ownBlock = some b → v.ownBlock = some b ∨ b = w.heap.size) := by
  obtain ⟨i0, hi0, hz0, hz1, hz2⟩ := info_parts updInfo
  rcases A with _ | ad
  · have hy : m = 0 := by
      rcases Nat.eq_zero_or_pos m with h | h
      · exact h
      · obtain ⟨b, o, e', hb, hc⟩ := hz (fun h0 => by rw [h0] at hl; simp only [List.length_nil] at hl; omega)
        cases e'
    subst hy
    obtain rfl : news = [] := List.eq_nil_of_length_eq_zero (by rw [hl, Nat.zero_mul])
    exact ⟨v, w, run_append_none (P := Try.prog) w base 49 ty 56 i0 3 Try.underlying49 hi0 v n xs hown C, by simpa using hown, ⟨rfl, rfl, rfl, Nat.le_refl _, fun _ _ _ => rfl⟩, fun b hb => .inl hb⟩
  · have hcell : ∀ j u, news[j]? = some u → w.cell? (ad.add j) = some u := fun j u hu => by
      obtain ⟨b, o, e', hb, hc⟩ := hz (by intro h0; rw [h0] at hu; simp at hu)
      injection e' with e'
      subst e'
      rw [Addr.add_lit]
      exact hc j u hu
    obtain ⟨v', w', hrun, k2, k3, _, k5⟩ := run_append_own_at (P := Try.prog) w base 49 ty 56 i0 _ 3 48 Try.underlying49 hi0 hz0 hz1 hz2 rfl (by decide) v n xs hown ad m C news hl hcell h1 (by simp only [maxLen]; omega) (by omega) hbase
    exact ⟨v', w', hrun, k2, k3, fun b hb => by
      rcases k5 with k5 | k5
      · exact .inl (by rw [← k5]; exact hb)
      · rw [k5] at hb; injection hb with hb; exact .inr hb.symm⟩
/-- append(l, more...). -/
theorem appXUpd {w : World} {ops : Array Oper} {rest : List Oper} {o : Oper} {a : Act} {Q : Exit → Act → World → Prop} (hgd : o.guard = none) (s x : Operand)
    (ho : o.op = .call { callee := .builtin .append, args := #[s, x], argTypes := #[49, 49] })
    (base : Nat) (v : Value) (n : Nat) (xs : List Value) (hs0 : a.eval s = v) (hown : w.ownsRow base 56 3 v n xs)
    (A : Option Addr) (m C : Nat) (news : List Value) (hx : a.eval x = .slice A m C) (hl : news.length = m * 3) (hz : Sl w.heap.size w A news) (h1 : ∀ u ∈ news, u.oneCell' = true)
    (hn : n + m ≤ 1000000) (hbase : base ≤ w.heap.size)
    (h : ∀ v' w', w'.ownsRow base 56 3 v' (n + m) (xs ++ news) → w.grownBy w' v.ownBlock → (∀ b, v'.ownBlock = some b → v.ownBlock = some b ∨ b = w.heap.size) → wpList Try.prog ops Q rest (a.put o.dst v') w') : wpList Try.prog ops Q (o :: rest) a w := by
  refine wpList_plain hgd fun K hK => ?_
  obtain ⟨v', w', hrun, k2, k3, k4⟩ := runXUpd o.type base v n xs hown A m C news hl hz h1 hn hbase
  unfold Oper.wp execOp
  simp only [ho, resolve, invoke, builtin, Sem.run_bind, Sem.run_pure, Result.andThen_ok, List.map_toArray, List.map_cons, List.map_nil, hs0, hx, hrun]
  exact hK _ _ (h v' w' k2 k3 k4)
/-- The same at a step of a drawn region. -/
theorem stepXUpd {w : World} {ops : Array Oper} {o : Oper} {a : Act} {K : Act → World → Prop} {Q : Exit → Act → World → Prop} {E : Prop} (hgd : o.guard = none) (s x : Operand)
    (ho : o.op = .call { callee := .builtin .append, args := #[s, x], argTypes := #[49, 49] })
    (base : Nat) (v : Value) (n : Nat) (xs : List Value) (hs0 : a.eval s = v) (hown : w.ownsRow base 56 3 v n xs)
    (A : Option Addr) (m C : Nat) (news : List Value) (hx : a.eval x = .slice A m C) (hl : news.length = m * 3) (hz : Sl w.heap.size w A news) (h1 : ∀ u ∈ news, u.oneCell' = true)
    (hn : n + m ≤ 1000000) (hbase : base ≤ w.heap.size)
    (h : ∀ v' w', w'.ownsRow base 56 3 v' (n + m) (xs ++ news) → w.grownBy w' v.ownBlock → (∀ b, v'.ownBlock = some b → v.ownBlock = some b ∨ b = w.heap.size) → K (a.put o.dst v') w') :
    if Region.wanted o (yielded ops a.tmps) = true then Oper.wp Try.prog o a w K Q else E := by
  obtain ⟨v', w', hrun, k2, k3, k4⟩ := runXUpd o.type base v n xs hown A m C news hl hz h1 hn hbase
  have hw : Region.wanted o (yielded ops a.tmps) = true := by unfold Region.wanted; rw [hgd]
  rw [if_pos hw]
  unfold Oper.wp execOp
  simp only [ho, resolve, invoke, builtin, Sem.run_bind, Sem.run_pure, Result.andThen_ok, List.map_toArray, List.map_cons, List.map_nil, hs0, hx, hrun]
  exact h v' w' k2 k3 k4
set_option maxRecDepth 4000 in
theorem runXVer {w : World} (ty : TypeId) (base : Nat) (v : Value) (n : Nat) (xs : List Value) (hown : w.ownsRow base 103 3 v n xs)
    (A : Option Addr) (m C : Nat) (news : List Value) (hl : news.length = m * 3) (hz : Sl w.heap.size w A news) (h1 : ∀ u ∈ news, u.oneCell' = true) (hn : n + m ≤ 1000000) (hbase : base ≤ w.heap.size) :
    ∃ v' w', (Builtin.append_ #[63, 63] ty #[v, .slice A m C]).run Try.prog w = .ok v' w' ∧ w'.ownsRow base 103 3 v' (n + m) (xs ++ news) ∧ w.grownBy w' v.ownBlock ∧ (∀ b, v'.ownBlock = some b → v.ownBlock = some b ∨ b = w.heap.size) := by
  obtain ⟨i0, hi0, hz0, hz1, hz2⟩ := info_parts r16verInfo
  rcases A with _ | ad
  · have hy : m = 0 := by
      rcases Nat.eq_zero_or_pos m with h | h
      · exact h
      · obtain ⟨b, o, e', hb, hc⟩ := hz (fun h0 => by rw [h0] at hl; simp only [List.length_nil] at hl; omega)
        cases e'
    subst hy
    obtain rfl : news = [] := List.eq_nil_of_length_eq_zero (by rw [hl, Nat.zero_mul])
    exact ⟨v, w, run_append_none (P := Try.prog) w base 63 ty 103 i0 3 Try.underlying63 hi0 v n xs hown C, by simpa using hown, ⟨rfl, rfl, rfl, Nat.le_refl _, fun _ _ _ => rfl⟩, fun b hb => .inl hb⟩
  · have hcell : ∀ j u, news[j]? = some u → w.cell? (ad.add j) = some u := fun j u hu => by
      obtain ⟨b, o, e', hb, hc⟩ := hz (by intro h0; rw [h0] at hu; simp at hu)
      injection e' with e'
      subst e'
      rw [Addr.add_lit]
      exact hc j u hu
    obtain ⟨v', w', hrun, k2, k3, _, k5⟩ := run_append_own_at (P := Try.prog) w base 63 ty 103 i0 _ 3 24 Try.underlying63 hi0 hz0 hz1 hz2 rfl (by decide) v n xs hown ad m C news hl hcell h1 (by simp only [maxLen]; omega) (by omega) hbase
    exact ⟨v', w', hrun, k2, k3, fun b hb => by
      rcases k5 with k5 | k5
      · exact .inl (by rw [← k5]; exact hb)
      · rw [k5] at hb; injection hb with hb; exact .inr hb.symm⟩
/-- append(l, more...). -/
theorem appXVer {w : World} {ops : Array Oper} {rest : List Oper} {o : Oper} {a : Act} {Q : Exit → Act → World → Prop} (hgd : o.guard = none) (s x : Operand)
    (ho : o.op = .call { callee := .builtin .append, args := #[s, x], argTypes := #[63, 63] })
    (base : Nat) (v : Value) (n : Nat) (xs : List Value) (hs0 : a.eval s = v) (hown : w.ownsRow base 103 3 v n xs)
    (A : Option Addr) (m C : Nat) (news : List Value) (hx : a.eval x = .slice A m C) (hl : news.length = m * 3) (hz : Sl w.heap.size w A news) (h1 : ∀ u ∈ news, u.oneCell' = true)
    (hn : n + m ≤ 1000000) (hbase : base ≤ w.heap.size)
    (h : ∀ v' w', w'.ownsRow base 103 3 v' (n + m) (xs ++ news) → w.grownBy w' v.ownBlock → (∀ b, v'.ownBlock = some b → v.ownBlock = some b ∨ b = w.heap.size) → wpList Try.prog ops Q rest (a.put o.dst v') w') : wpList Try.prog ops Q (o :: rest) a w := by
  refine wpList_plain hgd fun K hK => ?_
  obtain ⟨v', w', hrun, k2, k3, k4⟩ := runXVer o.type base v n xs hown A m C news hl hz h1 hn hbase
  unfold Oper.wp execOp
  simp only [ho, resolve, invoke, builtin, Sem.run_bind, Sem.run_pure, Result.andThen_ok, List.map_toArray, List.map_cons, List.map_nil, hs0, hx, hrun]
  exact hK _ _ (h v' w' k2 k3 k4)
/-- The same at a step of a drawn region. -/
theorem stepXVer {w : World} {ops : Array Oper} {o : Oper} {a : Act} {K : Act → World → Prop} {Q : Exit → Act → World → Prop} {E : Prop} (hgd : o.guard = none) (s x : Operand)
    (ho : o.op = .call { callee := .builtin .append, args := #[s, x], argTypes := #[63, 63] })
    (base : Nat) (v : Value) (n : Nat) (xs : List Value) (hs0 : a.eval s = v) (hown : w.ownsRow base 103 3 v n xs)
    (A : Option Addr) (m C : Nat) (news : List Value) (hx : a.eval x = .slice A m C) (hl : news.length = m * 3) (hz : Sl w.heap.size w A news) (h1 : ∀ u ∈ news, u.oneCell' = true)
    (hn : n + m ≤ 1000000) (hbase : base ≤ w.heap.size)
    (h : ∀ v' w', w'.ownsRow base 103 3 v' (n + m) (xs ++ news) → w.grownBy w' v.ownBlock → (∀ b, v'.ownBlock = some b → v.ownBlock = some b ∨ b = w.heap.size) → K (a.put o.dst v') w') :
    if Region.wanted o (yielded ops a.tmps) = true then Oper.wp Try.prog o a w K Q else E := by
  obtain ⟨v', w', hrun, k2, k3, k4⟩ := runXVer o.type base v n xs hown A m C news hl hz h1 hn hbase
  have hw : Region.wanted o (yielded ops a.tmps) = true := by unfold Region.wanted; rw [hgd]
  rw [if_pos hw]
  unfold Oper.wp execOp
  simp only [ho, resolve, invoke, builtin, Sem.run_bind, Sem.run_pure, Result.andThen_ok, List.map_toArray, List.map_cons, List.map_nil, hs0, hx, hrun]
  exact h v' w' k2 k3 k4
set_option maxRecDepth 4000 in
theorem runXBat {w : World} (ty : TypeId) (base : Nat) (v : Value) (n : Nat) (xs : List Value) (hown : w.ownsRow base 49 1 v n xs)
    (A : Option Addr) (m C : Nat) (news : List Value) (hl : news.length = m * 1) (hz : Sl w.heap.size w A news) (h1 : ∀ u ∈ news, u.oneCell' = true) (hn : n + m ≤ 1000000) (hbase : base ≤ w.heap.size) :
    ∃ v' w', (Builtin.append_ #[64, 64] ty #[v, .slice A m C]).run Try.prog w = .ok v' w' ∧ w'.ownsRow base 49 1 v' (n + m) (xs ++ news) ∧ w.grownBy w' v.ownBlock ∧ (∀ b, v'.ownBlock = some b → v.ownBlock = some b ∨ b = w.heap.size) := by
  obtain ⟨i0, hi0, hz0, hz1, hz2⟩ := info_parts updsInfo
  rcases A with _ | ad
  · have hy : m = 0 := by
      rcases Nat.eq_zero_or_pos m with h | h
      · exact h
      · obtain ⟨b, o, e', hb, hc⟩ := hz (fun h0 => by rw [h0] at hl; simp only [List.length_nil] at hl; omega)
        cases e'
    subst hy
    obtain rfl : news = [] := List.eq_nil_of_length_eq_zero (by rw [hl, Nat.zero_mul])
    exact ⟨v, w, run_append_none (P := Try.prog) w base 64 ty 49 i0 1 Try.underlying64 hi0 v n xs hown C, by simpa using hown, ⟨rfl, rfl, rfl, Nat.le_refl _, fun _ _ _ => rfl⟩, fun b hb => .inl hb⟩
  · have hcell : ∀ j u, news[j]? = some u → w.cell? (ad.add j) = some u := fun j u hu => by
      obtain ⟨b, o, e', hb, hc⟩ := hz (by intro h0; rw [h0] at hu; simp at hu)
      injection e' with e'
      subst e'
      rw [Addr.add_lit]
      exact hc j u hu
    obtain ⟨v', w', hrun, k2, k3, _, k5⟩ := run_append_own_at (P := Try.prog) w base 64 ty 49 i0 _ 1 24 Try.underlying64 hi0 hz0 hz1 hz2 rfl (by decide) v n xs hown ad m C news hl hcell h1 (by simp only [maxLen]; omega) (by omega) hbase
    exact ⟨v', w', hrun, k2, k3, fun b hb => by
      rcases k5 with k5 | k5
      · exact .inl (by rw [← k5]; exact hb)
      · rw [k5] at hb; injection hb with hb; exact .inr hb.symm⟩
/-- append(l, more...). -/
theorem appXBat {w : World} {ops : Array Oper} {rest : List Oper} {o : Oper} {a : Act} {Q : Exit → Act → World → Prop} (hgd : o.guard = none) (s x : Operand)
    (ho : o.op = .call { callee := .builtin .append, args := #[s, x], argTypes := #[64, 64] })
    (base : Nat) (v : Value) (n : Nat) (xs : List Value) (hs0 : a.eval s = v) (hown : w.ownsRow base 49 1 v n xs)
    (A : Option Addr) (m C : Nat) (news : List Value) (hx : a.eval x = .slice A m C) (hl : news.length = m * 1) (hz : Sl w.heap.size w A news) (h1 : ∀ u ∈ news, u.oneCell' = true)
    (hn : n + m ≤ 1000000) (hbase : base ≤ w.heap.size)
    (h : ∀ v' w', w'.ownsRow base 49 1 v' (n + m) (xs ++ news) → w.grownBy w' v.ownBlock → (∀ b, v'.ownBlock = some b → v.ownBlock = some b ∨ b = w.heap.size) → wpList Try.prog ops Q rest (a.put o.dst v') w') : wpList Try.prog ops Q (o :: rest) a w := by
  refine wpList_plain hgd fun K hK => ?_
  obtain ⟨v', w', hrun, k2, k3, k4⟩ := runXBat o.type base v n xs hown A m C news hl hz h1 hn hbase
  unfold Oper.wp execOp
  simp only [ho, resolve, invoke, builtin, Sem.run_bind, Sem.run_pure, Result.andThen_ok, List.map_toArray, List.map_cons, List.map_nil, hs0, hx, hrun]
  exact hK _ _ (h v' w' k2 k3 k4)
/-- The same at a step of a drawn region. -/
theorem stepXBat {w : World} {ops : Array Oper} {o : Oper} {a : Act} {K : Act → World → Prop} {Q : Exit → Act → World → Prop} {E : Prop} (hgd : o.guard = none) (s x : Operand)
    (ho : o.op = .call { callee := .builtin .append, args := #[s, x], argTypes := #[64, 64] })
    (base : Nat) (v : Value) (n : Nat) (xs : List Value) (hs0 : a.eval s = v) (hown : w.ownsRow base 49 1 v n xs)
    (A : Option Addr) (m C : Nat) (news : List Value) (hx : a.eval x = .slice A m C) (hl : news.length = m * 1) (hz : Sl w.heap.size w A news) (h1 : ∀ u ∈ news, u.oneCell' = true)
    (hn : n + m ≤ 1000000) (hbase : base ≤ w.heap.size)
    (h : ∀ v' w', w'.ownsRow base 49 1 v' (n + m) (xs ++ news) → w.grownBy w' v.ownBlock → (∀ b, v'.ownBlock = some b → v.ownBlock = some b ∨ b = w.heap.size) → K (a.put o.dst v') w') :
    if Region.wanted o (yielded ops a.tmps) = true then Oper.wp Try.prog o a w K Q else E := by
  obtain ⟨v', w', hrun, k2, k3, k4⟩ := runXBat o.type base v n xs hown A m C news hl hz h1 hn hbase
  have hw : Region.wanted o (yielded ops a.tmps) = true := by unfold Region.wanted; rw [hgd]
  rw [if_pos hw]
  unfold Oper.wp execOp
  simp only [ho, resolve, invoke, builtin, Sem.run_bind, Sem.run_pure, Result.andThen_ok, List.map_toArray, List.map_cons, List.map_nil, hs0, hx, hrun]
  exact h v' w' k2 k3 k4

/-- The cells of a list of updates. -/
structure UpdCs (B : Nat) (w : World) (us : List Upd) (cs : List Value) : Prop where
  len : cs.length = us.length * 3
  one : ∀ u ∈ cs, u.oneCell' = true
  at_ : ∀ i (h : i < us.length), ∃ RA RC, cs[i * 3]? = some (.bool us[i].del) ∧ cs[i * 3 + 1]? = some (.string us[i].rel) ∧ cs[i * 3 + 2]? = some (.slice RA us[i].row.length RC) ∧ SlR B w RA us[i].row
theorem UpdCs.nil {B : Nat} {w : World} : UpdCs B w [] [] := ⟨rfl, fun u hu => (by cases hu), fun i hi => absurd hi (Nat.not_lt_zero _)⟩
theorem UpdCs.below {B C : Nat} {w w' : World} {us : List Upd} {cs : List Value} (h : UpdCs B w us cs) (hb : Below C w w') (hC : B ≤ C) : UpdCs B w' us cs :=
  ⟨h.len, h.one, fun i hi => by obtain ⟨RA, RC, a, b, c, d⟩ := h.at_ i hi; exact ⟨RA, RC, a, b, c, d.below hb hC⟩⟩
theorem UpdCs.more {B B' : Nat} {w : World} {us : List Upd} {cs : List Value} (h : UpdCs B w us cs) (hB : B ≤ B') : UpdCs B' w us cs :=
  ⟨h.len, h.one, fun i hi => by obtain ⟨RA, RC, a, b, c, d⟩ := h.at_ i hi; exact ⟨RA, RC, a, b, c, d.more hB⟩⟩
theorem UpdCs.append {B : Nat} {w : World} {us vs : List Upd} {cs ds : List Value} (h : UpdCs B w us cs) (k : UpdCs B w vs ds) : UpdCs B w (us ++ vs) (cs ++ ds) := by
  refine ⟨by rw [List.length_append, List.length_append, h.len, k.len, Nat.add_mul], fun u hu => ?_, fun i hi => ?_⟩
  · rcases List.mem_append.1 hu with hu | hu
    · exact h.one u hu
    · exact k.one u hu
  · by_cases hiu : i < us.length
    · obtain ⟨RA, RC, a, b, c, d⟩ := h.at_ i hiu
      have hl := h.len
      refine ⟨RA, RC, ?_, ?_, ?_, ?_⟩
      · rw [List.getElem?_append_left (by omega), List.getElem_append_left hiu]; exact a
      · rw [List.getElem?_append_left (by omega), List.getElem_append_left hiu]; exact b
      · rw [List.getElem?_append_left (by omega), List.getElem_append_left hiu]; exact c
      · rw [List.getElem_append_left hiu]; exact d
    · rw [List.length_append] at hi
      obtain ⟨RA, RC, a, b, c, d⟩ := k.at_ (i - us.length) (by omega)
      have hl := h.len
      have e0 : i * 3 - cs.length = (i - us.length) * 3 := by omega
      have e1 : i * 3 + 1 - cs.length = (i - us.length) * 3 + 1 := by omega
      have e2 : i * 3 + 2 - cs.length = (i - us.length) * 3 + 2 := by omega
      have hge : us.length ≤ i := by omega
      refine ⟨RA, RC, ?_, ?_, ?_, ?_⟩
      · rw [List.getElem?_append_right (by omega), e0, List.getElem_append_right hge]; exact a
      · rw [List.getElem?_append_right (by omega), e1, List.getElem_append_right hge]; exact b
      · rw [List.getElem?_append_right (by omega), e2, List.getElem_append_right hge]; exact c
      · rw [List.getElem_append_right hge]; exact d
theorem UpdCs.one1 {B : Nat} {w : World} (u : Upd) (RA : Option Addr) (RC : Nat) (h : SlR B w RA u.row) : UpdCs B w [u] [.bool u.del, .string u.rel, .slice RA u.row.length RC] := by
  refine ⟨rfl, fun x hx => ?_, fun i hi => ?_⟩
  · simp at hx
    rcases hx with rfl | rfl | rfl <;> rfl
  · obtain rfl : i = 0 := by simp at hi; exact hi
    exact ⟨RA, RC, rfl, rfl, rfl, h⟩
theorem UpdsM.cs {B : Nat} {w : World} {A : Option Addr} {us : List Upd} (h : UpdsM B w A us) : ∃ cs, UpdCs B w us cs ∧ Sl B w A cs := by
  by_cases hne : us = []
  · subst hne
    exact ⟨[], UpdCs.nil, fun h => absurd rfl h⟩
  obtain ⟨b, o, rfl, hb, hc⟩ := h hne
  refine ⟨(List.range (us.length * 3)).map fun j => (w.cell? ⟨b, o + j, none⟩).getD (.bool false), ⟨by simp, fun u hu => ?_, fun i hi => ?_⟩, fun _ => ⟨b, o, rfl, hb, fun j u hu => ?_⟩⟩
  · obtain ⟨j, hj, rfl⟩ := List.mem_map.1 hu
    have hj := List.mem_range.1 hj
    obtain ⟨RA, RC, c0, c1, c2, -⟩ := hc (j / 3) (by omega)
    have hr : j % 3 = 0 ∨ j % 3 = 1 ∨ j % 3 = 2 := by omega
    rcases hr with hr | hr | hr
    · rw [show o + j = o + j / 3 * 3 by omega, c0]; rfl
    · rw [show o + j = o + j / 3 * 3 + 1 by omega, c1]; rfl
    · rw [show o + j = o + j / 3 * 3 + 2 by omega, c2]; rfl
  · obtain ⟨RA, RC, c0, c1, c2, c3⟩ := hc i hi
    refine ⟨RA, RC, ?_, ?_, ?_, c3⟩
    · rw [List.getElem?_map, List.getElem?_range (by omega), Option.map_some, c0]; rfl
    · rw [List.getElem?_map, List.getElem?_range (by omega), Option.map_some, show o + (i * 3 + 1) = o + i * 3 + 1 by omega, c1]; rfl
    · rw [List.getElem?_map, List.getElem?_range (by omega), Option.map_some, show o + (i * 3 + 2) = o + i * 3 + 2 by omega, c2]; rfl
  · rw [List.getElem?_map] at hu
    have hj : j < us.length * 3 := by
      rcases Nat.lt_or_ge j (us.length * 3) with h | h
      · exact h
      · rw [List.getElem?_eq_none (by simpa using h)] at hu; cases hu
    rw [List.getElem?_range hj] at hu
    simp only [Option.map_some, Option.some.injEq] at hu
    subst hu
    obtain ⟨RA, RC, c0, c1, c2, -⟩ := hc (j / 3) (by omega)
    have hr : j % 3 = 0 ∨ j % 3 = 1 ∨ j % 3 = 2 := by omega
    rcases hr with hr | hr | hr
    · rw [show o + j = o + j / 3 * 3 by omega, c0]; rfl
    · rw [show o + j = o + j / 3 * 3 + 1 by omega, c1]; rfl
    · rw [show o + j = o + j / 3 * 3 + 2 by omega, c2]; rfl
theorem UpdsM.of_cs {B : Nat} {w : World} {A : Option Addr} {us : List Upd} {cs : List Value} (h : UpdCs B w us cs) (hs : Sl B w A cs) : UpdsM B w A us := fun hn => by
  have hpos : 0 < us.length := List.length_pos_iff.2 hn
  have hl := h.len
  obtain ⟨b, o, rfl, hb, hc⟩ := hs (fun h0 => by rw [h0] at hl; simp only [List.length_nil] at hl; omega)
  exact ⟨b, o, rfl, hb, fun i hi => by
    obtain ⟨RA, RC, c0, c1, c2, c3⟩ := h.at_ i hi
    exact ⟨RA, RC, hc _ _ c0, by rw [Nat.add_assoc]; exact hc _ _ c1, by rw [Nat.add_assoc]; exact hc _ _ c2, c3⟩⟩
/-- A list of updates that a call made. -/
theorem own_updsM {w : World} {base : Nat} {v : Value} {n : Nat} {us : List Upd} {cs : List Value} (h : w.ownsRow base 56 3 v n cs) (hc : UpdCs w.heap.size w us cs) :
    ∃ A C, v = .slice A us.length C ∧ us.length ≤ C ∧ C ≤ 9223372036854775807 ∧ UpdsM w.heap.size w A us := by
  have hn : n = us.length := by have h1 := h.1; have h2 := hc.len; omega
  subst hn
  obtain ⟨A, C, e, h1, h2, h3⟩ := own_cut h (by decide)
  refine ⟨A, C, e, h1, h2, UpdsM.of_cs hc (fun hne => ?_)⟩
  obtain ⟨b, rfl, hb, hc⟩ := h3 hne
  exact ⟨b, 0, rfl, hb, fun i u hu => by rw [Nat.zero_add]; exact hc i u hu⟩
theorem own_new (w : World) (base : Nat) (T : TypeId) (size : Nat) (u : List Value) (hu : u.length = size) (hb : base ≤ w.heap.size) : (w.alloc (.cells u.toArray T)).ownsRow base T size (.slice (some ⟨w.heap.size, 0, none⟩) 1 1) 1 u :=
  ⟨by rw [hu, Nat.one_mul], .inr ⟨w.heap.size, 1, u.toArray, rfl, hb, Row.new w T u, Nat.le_refl _, by simp [maxLen], by simp [hu], by simp [hu, List.take_of_length_le]⟩⟩

end Go.Proofs.Ytgaffbdcpkbdhaa
end

section
/- Further words for the laws of chapter 16. -/
namespace Go.Proofs.Ytgaffbdcpkbdhaa
open Go.RowKit Go.Sort Go.ChangeMaps Go.WideShapes

-- snapshot.New of the zero database
set_option maxHeartbeats 2000000 in
set_option maxRecDepth 100000 in
theorem snNew_low (n : Int) (hn : 0 ≤ n) (hw : (Lit.int .i64 n).wf = true) (w : World) :
    Calls Try.prog 10 #[.int .i64 n, .agg #[.map none]] w fun e w' => ∃ m', e = .returned (.tuple #[.agg #[.map (some m'), .int .i64 n], .int .i64 0]) ∧ Below w.heap.size w w' := by
  have hmm := fun u => run_makeMap (P := Try.prog) 29 u
  obtain ⟨W0, hW0⟩ : ∃ W0, W0 = ((w.alloc (.cells #[.map none] 25)).alloc (.cells #[.map none, .int .i64 0] 31)).alloc (.map #[] 0) := ⟨_, rfl⟩
  have hr2 : Row W0 (w.heap.size + 1) 31 [.map none, .int .i64 0] := by
    have h := (Row.new (w.alloc (.cells #[.map none] 25)) 31 [.map none, .int .i64 0]).alloc (.map #[] 0)
    rw [World.size_alloc] at h
    rw [hW0]; exact h
  have hx0 : Ext w W0 := by rw [hW0]; exact (((Ext.refl w).alloc _).alloc _).alloc _
  have hr1 : Row W0 w.heap.size 25 [.map none] := by rw [hW0]; exact ((Row.new w 25 _).alloc _).alloc _
  have ho : W0.ownsMap Try.prog 3 heldR (w.heap.size + 1 + 1) 0 (.map []) := by
    have h := World.ownsMap_made ((w.alloc (.cells #[.map none] 25)).alloc (.cells #[.map none, .int .i64 0] 31)) Try.prog 3 heldR
    rw [World.size_alloc, World.size_alloc] at h
    rw [hW0]; exact h
  have HO := Lib.hid ho
  have HR2 := Lib.hid hr2
  have HX0 := Lib.hid hx0
  have HW := Lib.hid hw
  have k9 : W0.cell? ⟨w.heap.size, 0, none⟩ = some (.map none) := hr1.cell 0
  have z9 := hr1.lt
  clear ho hr2 hx0 hw hr1
  go_enter Try.func10, Try.ntmps10
  go_wp2_with
    (rw [← hW0]
     refine insertOwn rfl _ _ _ 29 rfl 3 87 keyedI Try.underlying29 (w.heap.size + 1 + 1) 0 (.map []) rfl HO.out (by decide) _ _ (litI n) rfl rfl (keyI HW.out) ?_
     intro w2 hown2 hg2
     have q2 := HR2.out.grown hg2 (by intro e; injection e with e; omega)
     have k0 : w2.cell? ⟨w.heap.size + 1, 0, none⟩ = some (.map none) := q2.cell 0
     have k1 : w2.cell? ⟨w.heap.size + 1, 1, none⟩ = some (.int .i64 0) := q2.cell 1
     have k2 := q2.frozen 0
     have k3 := q2.frozen 1
     have HQ2 := Lib.hid q2
     have HO2 := Lib.hid hown2
     have HB2 : Hid (Below w.heap.size w w2) := HX0.out.below.grown hg2 HX0.out.size (fun k hk => by injection hk with hk; omega)
     clear q2 hown2 hg2 hmm)
  obtain ⟨W3, hW3⟩ : ∃ W3, W3 = (w2.setCell ⟨w.heap.size + 1, 0, none⟩ (.map (some (w.heap.size + 1 + 1)))).setCell ⟨w.heap.size + 1, 1, none⟩ (.int .i64 n) := ⟨_, rfl⟩
  rw [← hW3]
  have q := HQ2.out.set2 (.map (some (w.heap.size + 1 + 1))) (.int .i64 n)
  rw [← hW3] at q
  have c0 := q.cell 0
  have c1 := q.cell 1
  have hb3 : Below w.heap.size w W3 := by
    rw [hW3]
    exact (HB2.out.setCell (by show w.heap.size ≤ w.heap.size + 1; omega) _).setCell (by show w.heap.size ≤ w.heap.size + 1; omega) _
  exact bodyPost_ret (v := .tuple #[.agg #[.map (some (w.heap.size + 1 + 1)), .int .i64 n], .int .i64 0]) (by simp [results, Try.results10, go_sem, c0, c1]) rfl ⟨_, rfl, hb3⟩

theorem SchsM.below {B C : Nat} {w w' : World} {A : Option Addr} {X : Sch} (h : SchsM B w A X) (hb : Below C w w') (hC : B ≤ C) : SchsM B w' A X := fun hn => by
  obtain ⟨b, o, e, hlt, hc⟩ := h hn
  exact ⟨b, o, e, hlt, fun i hi => by
    obtain ⟨KA, KC, g0, g1, g2⟩ := hc i hi
    have hb' : b < C := Nat.lt_of_lt_of_le hlt hC
    exact ⟨KA, KC, (hb.cell hb').trans g0, (hb.cell hb').trans g1, Sl.below g2 hb hC⟩⟩
theorem SchsM.more {B B' : Nat} {w : World} {A : Option Addr} {X : Sch} (h : SchsM B w A X) (hB : B ≤ B') : SchsM B' w A X := fun hn => by
  obtain ⟨b, o, e, hlt, hc⟩ := h hn
  exact ⟨b, o, e, Nat.lt_of_lt_of_le hlt hB, fun i hi => by
    obtain ⟨KA, KC, g0, g1, g2⟩ := hc i hi
    exact ⟨KA, KC, g0, g1, Sl.more g2 hB⟩⟩
theorem errSchs_ok : ∀ (X : Sch) (seen : List ByteArray), errSchs seen X = 0 → (∀ p ∈ X, nameF p.1 = true ∧ memB p.1 seen = false ∧ p.2.length ≤ 6) ∧ (X.map Prod.fst).Nodup
  | [], _, _ => ⟨fun p hp => (by cases hp), List.nodup_nil⟩
  | p :: t, seen, h => by
    unfold errSchs at h
    split at h
    · rename_i h0
      obtain ⟨h1, h2⟩ := errSchs_ok t _ h
      have hp : nameF p.1 = true ∧ memB p.1 seen = false ∧ p.2.length ≤ 6 := by
        unfold errSch at h0
        split at h0
        · cases h0
        · rename_i k1
          split at h0
          · cases h0
          · rename_i k2
            split at h0
            · cases h0
            · rename_i k3
              exact ⟨by simpa using k1, by simpa using k2, by omega⟩
      have hsub : ∀ q ∈ t, q.1 ≠ p.1 ∧ memB q.1 seen = false := fun q hq => by
        obtain ⟨_, g, _⟩ := h1 q hq
        refine ⟨fun e => ?_, ?_⟩
        · rw [e] at g
          exact absurd (List.mem_append.2 (.inr (List.mem_singleton.2 rfl))) (memB_no g)
        · cases hm : memB q.1 seen
          · rfl
          · exact absurd (List.mem_append.2 (.inl (memB_iff.1 hm))) (memB_no g)
      refine ⟨fun q hq => ?_, ?_⟩
      · rcases List.mem_cons.1 hq with rfl | hq
        · exact hp
        · exact ⟨(h1 q hq).1, (hsub q hq).2, (h1 q hq).2.2⟩
      · rw [List.map_cons, List.nodup_cons]
        refine ⟨fun hm => ?_, h2⟩
        obtain ⟨q, hq, e⟩ := List.mem_map.1 hm
        exact (hsub q hq).1 e
    · rename_i h0
      exact absurd h h0
/-- Schemas that New takes. -/
theorem errS_ok {X : Sch} (h : errS X = 0) : X.length ≤ 16 ∧ (∀ p ∈ X, nameF p.1 = true ∧ p.2.length ≤ 6) ∧ (X.map Prod.fst).Nodup := by
  unfold errS at h
  split at h
  · cases h
  · obtain ⟨h1, h2⟩ := errSchs_ok X [] h
    exact ⟨by omega, fun p hp => ⟨(h1 p hp).1, (h1 p hp).2.2⟩, h2⟩
theorem nameF_nil : nameF ⟨#[]⟩ = false := by rfl
theorem check_nil {X : Sch} (h : ∀ p ∈ X, nameF p.1 = true) (x : RL.R) : checkF X ⟨#[]⟩ x = 7 := by
  unfold checkF
  rw [List.find?_eq_none.2 fun p hp => by
    intro e
    have e : p.1 = ⟨#[]⟩ := by simpa using e
    have := h p hp
    rw [e, nameF_nil] at this
    cases this]
theorem apply_bad {X : Sch} (h : ∀ p ∈ X, nameF p.1 = true) (F : Cont) (us : List Upd) : applyF X F 0 (⟨false, ⟨#[]⟩, []⟩ :: us) = (7, F, 0) := by
  have hs : stepU X F ⟨false, ⟨#[]⟩, []⟩ = (7, F, false) := by
    unfold stepU
    have := check_nil h []
    show (if checkF X ⟨#[]⟩ [] = 0 then _ else (checkF X ⟨#[]⟩ [], F, false)) = _
    rw [this]
    rfl
  unfold applyF
  rw [hs]
  rfl
theorem commit_bad {X : Sch} (h : ∀ p ∈ X, nameF p.1 = true) (V : List Ver) (l : Int) (us : List Upd) : commitR X V l (⟨false, ⟨#[]⟩, []⟩ :: us) = (7, V, l) := by
  unfold commitR
  rw [apply_bad h]
  rfl
theorem commit_pins {X : Sch} {V : List Ver} {l : Int} {us : List Upd} (hp : V.Pairwise (fun x y => x.num < y.num)) (h : ∀ x ∈ V, x.pins = 0) : ∀ x ∈ (commitR X V l us).2.1, x.pins = 0 := fun x hx => by
  unfold commitR at hx
  split at hx
  · rcases (mem_putV _ hp x).1 hx with rfl | ⟨hx, _⟩
    · rfl
    · exact h x hx
  · exact h x hx
theorem unpin_pins {V : List Ver} (h : ∀ x ∈ V, x.pins = 0) (n : Int) : (unpinR V n).1 ≠ 0 := by
  unfold unpinR
  cases hf : findV V n with
  | none => exact fun h => (by cases h)
  | some x =>
    show (if x.pins = 0 then ((17 : Int), V) else _).1 ≠ 0
    rw [if_pos (h x (findV_some hf).1)]
    exact fun h => (by cases h)

/-- Versions, read. -/
theorem snVersions_sl {P : Nat → Prop} {S : Sch} {m : Value} {l : Int} {V : List Ver} {w : World} (h : StM P S w m V) (hV : V.length ≤ 1000) :
    Calls Try.prog 12 #[.agg #[m, .int .i64 l]] w fun e w' => ∃ A C, e = .returned (.slice A V.length C) ∧ SlI .i64 w'.heap.size w' A (V.map (·.num)) ∧ Below w.heap.size w w' := by
  refine (snVersions_any h hV).mono ?_
  rintro e w' ⟨v, rfl, hrow, hb⟩
  obtain ⟨A, C, rfl, -, -, hs⟩ := Sl.of_own hrow
  refine ⟨A, C, ?_, hs, hb⟩
  rw [List.length_map, List.length_map]
theorem r16Same_refl (A B : Option Addr) (C D n : Nat) (xs : List Int) (w : World) (hn : xs.length = n) (hA : SlI .i64 w.heap.size w A xs) (hB : SlI .i64 w.heap.size w B xs) (hl : n ≤ 1000000) :
    Calls Try.prog 20 #[.slice A n C, .slice B n D] w fun e w' => e = .returned (.bool true) ∧ Ext w w' := by
  subst hn
  have h := r16Same_any A B C D xs xs w hA hB hl hl
  rwa [decide_eq_true (show xs = xs from rfl)] at h

end Go.Proofs.Ytgaffbdcpkbdhaa
end

section
/- Words and plain facts for the law SnapshotKeeps. -/
namespace Go.Proofs.Ytgaffbdcpkbdhaa
open Go.RowKit Go.Sort Go.ChangeMaps Go.WideShapes

/-- A version that is pinned, with this database. -/
def PinV (V : List Ver) (v : Int) (F : Cont) : Prop := ∃ x ∈ V, x.num = v ∧ 1 ≤ x.pins ∧ x.db = F
theorem PinV.pin {V : List Ver} {v : Int} {F : Cont} (h : PinV V v F) (hp : V.Pairwise (fun x y => x.num < y.num)) (n : Int) : PinV (pinR V n).2 v F := by
  obtain ⟨x, hx, e1, e2, e3⟩ := h
  unfold pinR
  cases hf : findV V n with
  | none => exact ⟨x, hx, e1, e2, e3⟩
  | some y =>
    obtain ⟨hy, e4⟩ := findV_some hf
    show PinV (putV V ⟨y.num, y.db, y.pins + 1⟩) v F
    by_cases e : x.num = y.num
    · have := num_inj hp hx hy e
      subst this
      exact ⟨_, (mem_putV _ hp _).2 (.inl rfl), e1, by show 1 ≤ x.pins + 1; omega, e3⟩
    · exact ⟨x, (mem_putV _ hp _).2 (.inr ⟨hx, e⟩), e1, e2, e3⟩
theorem PinV.unpin {V : List Ver} {v : Int} {F : Cont} (h : PinV V v F) (hp : V.Pairwise (fun x y => x.num < y.num)) {n : Int} (hn : n ≠ v) : PinV (unpinR V n).2 v F := by
  obtain ⟨x, hx, e1, e2, e3⟩ := h
  unfold unpinR
  cases hf : findV V n with
  | none => exact ⟨x, hx, e1, e2, e3⟩
  | some y =>
    obtain ⟨hy, e4⟩ := findV_some hf
    show PinV (if y.pins = 0 then ((17 : Int), V) else (0, putV V ⟨y.num, y.db, y.pins - 1⟩)).2 v F
    split
    · exact ⟨x, hx, e1, e2, e3⟩
    · exact ⟨x, (mem_putV _ hp _).2 (.inr ⟨hx, fun e => hn (by rw [← e4, ← e1]; exact e.symm)⟩), e1, e2, e3⟩
theorem PinV.commit {V : List Ver} {v l : Int} {F : Cont} {B : Nat} (h : PinV V v F) (hg : Good V l B) (hp : V.Pairwise (fun x y => x.num < y.num)) (S : Sch) (us : List Upd) : PinV (commitR S V l us).2.1 v F := by
  obtain ⟨x, hx, e1, e2, e3⟩ := h
  unfold commitR
  split
  · have := (hg.all x hx).1
    exact ⟨x, (mem_putV _ hp _).2 (.inr ⟨hx, by show x.num ≠ l + 1; omega⟩), e1, e2, e3⟩
  · exact ⟨x, hx, e1, e2, e3⟩
theorem PinV.gone {V : List Ver} {v l : Int} {F : Cont} (h : PinV V v F) : PinV (V.filter fun x => !goneB l x) v F := by
  obtain ⟨x, hx, e1, e2, e3⟩ := h
  refine ⟨x, List.mem_filter.2 ⟨hx, ?_⟩, e1, e2, e3⟩
  unfold goneB
  rw [decide_eq_false (show ¬ x.pins = 0 by omega), Bool.false_and]
  rfl
theorem PinV.first {V : List Ver} {l : Int} {x : Ver} {B : Nat} (hg : Good V l B) (hp : V.Pairwise (fun x y => x.num < y.num)) (hf : findV V l = some x) : pinR V l = (0, putV V ⟨x.num, x.db, x.pins + 1⟩) ∧ PinV (pinR V l).2 l x.db := by
  obtain ⟨hx, e⟩ := findV_some hf
  obtain ⟨_, _, c, _⟩ := hg.all x hx
  have h1 : pinR V l = (0, putV V ⟨x.num, x.db, x.pins + 1⟩) := by unfold pinR; rw [hf]
  exact ⟨h1, by rw [h1]; exact ⟨_, (mem_putV _ hp _).2 (.inl rfl), e, by show 1 ≤ x.pins + 1; omega, rfl⟩⟩
theorem PinV.find {V : List Ver} {v : Int} {F : Cont} (h : PinV V v F) (hp : V.Pairwise (fun x y => x.num < y.num)) : ∃ x, findV V v = some x ∧ x.db = F := by
  obtain ⟨x, hx, e1, e2, e3⟩ := h
  cases hf : findV V v with
  | none => exact absurd e1 (findV_none hf x hx)
  | some y =>
    obtain ⟨hy, e4⟩ := findV_some hf
    have := num_inj hp hx hy (e1.trans e4.symm)
    subst this
    exact ⟨_, rfl, e3⟩
theorem gone_again (V : List Ver) (l : Int) : ((V.filter fun x => !goneB l x).filter (goneB l)) = [] ∧ ((V.filter fun x => !goneB l x).filter fun x => !goneB l x) = V.filter fun x => !goneB l x := by
  refine ⟨List.filter_eq_nil_iff.2 fun x hx => ?_, List.filter_eq_self.2 fun x hx => (List.mem_filter.1 hx).2⟩
  have := (List.mem_filter.1 hx).2
  intro h
  rw [h] at this
  cases this
theorem sameC_refl (S : Sch) (F : Cont) : sameC S F F = true := List.all_eq_true.2 fun _p _ => decide_eq_true rfl

/-- What holds of the boxes g (the store) and h (the pinned database). -/
def KeepI (X : Sch) (g h : Nat) (B : Nat) (pinned : Bool) (v : Int) (w wx : World) : Prop :=
  ∃ (b : Nat) (l : Int) (V : List Ver) (mp : Value), Row wx g 31 [.map (some b), .int .i64 l] ∧ Row wx h 25 [mp] ∧ StM (fun b => b ≠ g ∧ b ≠ h) X wx (.map (some b)) V ∧ Good V l B ∧
    (pinned = true → ∃ F, PinV V v F ∧ DbM (fun b => b ≠ g ∧ b ≠ h) X wx mp F) ∧ Below w.heap.size w wx
theorem KeepI.up {X : Sch} {g h B : Nat} {p : Bool} {v : Int} {w wx wy : World} (k : KeepI X g h B p v w wx) (hb : Below wx.heap.size wx wy) : KeepI X g h B p v w wy := by
  obtain ⟨b, l, V, mp, h1, h2, h3, h4, h5, h6⟩ := k
  exact ⟨b, l, V, mp, h1.up hb, h2.up hb, h3.up hb, h4, fun hp => by obtain ⟨F, a, c⟩ := h5 hp; exact ⟨F, a, c.up hb⟩, Below.then h6 hb h6.size⟩
/-- A store put into its box. -/
theorem KeepI.put {X : Sch} {g h B : Nat} {p : Bool} {v : Int} {w wy : World} {u0 u1 : Value} {mp : Value} {b : Nat} {l : Int} {V : List Ver} (hgh : g ≠ h) (hgw : w.heap.size ≤ g) (h1 : Row wy g 31 [u0, u1]) (h2 : Row wy h 25 [mp]) (h3 : StM (fun b => b ≠ g ∧ b ≠ h) X wy (.map (some b)) V) (h4 : Good V l B)
    (h5 : p = true → ∃ F, PinV V v F ∧ DbM (fun b => b ≠ g ∧ b ≠ h) X wy mp F) (h6 : Below w.heap.size w wy) : KeepI X g h B p v w ((wy.setCell ⟨g, 0, none⟩ (.map (some b))).setCell ⟨g, 1, none⟩ (.int .i64 l)) := by
  have hs : Stay (fun b => b ≠ g ∧ b ≠ h) wy ((wy.setCell ⟨g, 0, none⟩ (.map (some b))).setCell ⟨g, 1, none⟩ (.int .i64 l)) := (Stay.set (fun e => e.1 rfl) 0 _).trans (Stay.set (fun e => e.1 rfl) 1 _)
  exact ⟨b, l, V, mp, h1.set2 _ _, (h2.far (show h ≠ g by omega) _).far (show h ≠ g by omega) _, h3.keep hs, h4, fun hp => by obtain ⟨F, a, c⟩ := h5 hp; exact ⟨F, a, c.keep hs⟩, (h6.setCell hgw _).setCell hgw _⟩

end Go.Proofs.Ytgaffbdcpkbdhaa
end

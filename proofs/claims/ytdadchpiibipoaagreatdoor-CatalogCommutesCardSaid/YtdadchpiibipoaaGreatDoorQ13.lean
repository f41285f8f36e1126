/- Parts of the proof, merged: C51, C53, F15, F18. -/
import Derived.Test.YtdadchpiibipoaaGreatDoorQ12
import Derived.Test.YtdadchpiibipoaaGreatDoorQ11
import Derived.Test.YtdadchpiibipoaaGreatDoorRows
import Derived.Test.YtdadchpiibipoaaGreatDoorQ5
import Derived.ProofKit
import Derived.OpenShut
import Derived.ShutString
import Derived.ChangeOld
import Derived.ChangeSame
import Derived.Lib.SmallJoins
import Derived.Deep.Slices
import Derived.Deep.Fields
import Derived.Test.YtdadchpiibipoaaGreatDoorQ3
import Derived.HandedShaped
import Derived.Lib.LaidU8
import Derived.Shelf.Vars
import Derived.MakeChecks
import Derived.ChangeMaps5

set_option maxRecDepth 100000
namespace Go.Proofs.YtdadchpiibipoaaGreatDoor
section
open Go.RowKit Go.Sort Go.ChangeMaps Go.WideShapes

structure RowCs (B : Nat) (w : World) (X : List RL.R) (hs : List Value) : Prop where
  len : hs.length = X.length
  one : ∀ u ∈ hs, u.oneCell' = true
  at_ : ∀ i (h : i < X.length), ∃ RA RC, hs[i]? = some (.slice RA X[i].length RC) ∧ SlR B w RA X[i]
section
variable {B : Nat} {w w' : World} {X Y : List RL.R} {hs ks : List Value}
theorem RowCs.nil : RowCs B w [] [] := ⟨rfl, fun u hu => (by cases hu), fun i hi => absurd hi (Nat.not_lt_zero _)⟩
theorem RowCs.one1 {x : RL.R} {RA : Option Addr} {RC : Nat} (h : SlR B w RA x) : RowCs B w [x] [.slice RA x.length RC] := by
  refine ⟨rfl, fun u hu => by rw [List.mem_singleton.1 hu]; rfl, fun i hi => ?_⟩
  obtain rfl : i = 0 := by simpa using hi
  exact ⟨RA, RC, rfl, h⟩
theorem RowCs.append (h : RowCs B w X hs) (k : RowCs B w Y ks) : RowCs B w (X ++ Y) (hs ++ ks) := by
  refine ⟨by rw [List.length_append, List.length_append, h.len, k.len], fun u hu => ?_, fun i hi => ?_⟩
  · rcases List.mem_append.1 hu with hu | hu
    · exact h.one u hu
    · exact k.one u hu
  · have hl := h.len
    by_cases hlt : i < X.length
    · obtain ⟨RA, RC, a, b⟩ := h.at_ i hlt
      refine ⟨RA, RC, ?_, ?_⟩
      · rw [List.getElem?_append_left (by omega), List.getElem_append_left hlt]; exact a
      · rw [List.getElem_append_left hlt]; exact b
    · rw [List.length_append] at hi
      obtain ⟨RA, RC, a, b⟩ := k.at_ (i - X.length) (by omega)
      refine ⟨RA, RC, ?_, ?_⟩
      · rw [List.getElem?_append_right (by omega), List.getElem_append_right (by omega), hl]; exact a
      · rw [List.getElem_append_right (by omega)]; exact b
theorem RowCs.take (h : RowCs B w X hs) (n : Nat) : RowCs B w (X.take n) (hs.take n) := by
  refine ⟨by rw [List.length_take, List.length_take, h.len], fun u hu => h.one u (List.mem_of_mem_take hu), fun i hi => ?_⟩
  rw [List.length_take] at hi
  obtain ⟨RA, RC, a, b⟩ := h.at_ i (by omega)
  exact ⟨RA, RC, by rw [List.getElem?_take_of_lt (by omega), List.getElem_take]; exact a, by rw [List.getElem_take]; exact b⟩
theorem RowCs.drop (h : RowCs B w X hs) (n : Nat) : RowCs B w (X.drop n) (hs.drop n) := by
  refine ⟨by rw [List.length_drop, List.length_drop, h.len], fun u hu => h.one u (List.mem_of_mem_drop hu), fun i hi => ?_⟩
  rw [List.length_drop] at hi
  obtain ⟨RA, RC, a, b⟩ := h.at_ (n + i) (by omega)
  exact ⟨RA, RC, by rw [List.getElem?_drop, List.getElem_drop]; exact a, by rw [List.getElem_drop]; exact b⟩
theorem RowCs.up (h : RowCs w.heap.size w X hs) (hb : Below w.heap.size w w') : RowCs w'.heap.size w' X hs :=
  ⟨h.len, h.one, fun i hi => by obtain ⟨RA, RC, a, b⟩ := h.at_ i hi; exact ⟨RA, RC, a, (Sl.below b hb (Nat.le_refl _)).more hb.size⟩⟩
end

def contR (X : List RL.R) (x : RL.R) (j : Nat) : Bool := match X[j]? with
  | some a => decide (RL.cmpR a x < 0)
  | none => false
theorem contR_end {X : List RL.R} {x : RL.R} {j : Nat} (h : ¬ j < X.length) : contR X x j = false := by
  unfold contR; rw [List.getElem?_eq_none (by omega)]
theorem contR_at {X : List RL.R} {x : RL.R} {j : Nat} (h : j < X.length) : contR X x j = decide (RL.cmpR X[j] x < 0) := by
  unfold contR; rw [List.getElem?_eq_getElem h]
theorem ss_ins {X : List RL.R} (h : RL.SS X) {x : RL.R} (hn : x ∉ X) {j : Nat} (hlt : ∀ t (ht : t < X.length), t < j → RL.cmpR X[t] x < 0) (hge : contR X x j = false) : RL.SS (X.take j ++ [x] ++ X.drop j) := by
  have hbig : ∀ t (ht : t < X.length), j ≤ t → RL.cmpR x X[t] < 0 := fun t ht hjt => by
    have hj : j < X.length := by omega
    rw [contR_at hj] at hge
    have hge := of_decide_eq_false hge
    have hne : RL.cmpR X[j] x ≠ 0 := fun e => hn (by
      rw [← (RL.tot_cmpR.z _ _).1 e]
      exact List.getElem_mem hj)
    have hlt2 : RL.cmpR x X[j] < 0 := by have := RL.tot_cmpR.sw X[j] x; omega
    rcases Nat.lt_or_ge j t with h3 | h3
    · exact RL.tot_cmpR.tr _ _ _ hlt2 (List.pairwise_iff_getElem.1 h j t hj ht h3)
    · obtain rfl : t = j := by omega
      exact hlt2
  have hsm : ∀ a ∈ X.take j, RL.cmpR a x < 0 := fun a ha => by
    obtain ⟨t, ht, rfl⟩ := List.getElem_of_mem ha
    rw [List.length_take] at ht
    rw [List.getElem_take]
    exact hlt t (by omega) (by omega)
  have hbg : ∀ b ∈ X.drop j, RL.cmpR x b < 0 := fun b hb => by
    obtain ⟨t, ht, rfl⟩ := List.getElem_of_mem hb
    rw [List.length_drop] at ht
    rw [List.getElem_drop]
    exact hbig (j + t) (by omega) (by omega)
  show List.Pairwise _ _
  rw [List.append_assoc, List.pairwise_append]
  refine ⟨List.Pairwise.sublist (List.take_sublist _ _) h, ?_, fun a ha b hb => ?_⟩
  · rw [List.singleton_append, List.pairwise_cons]
    exact ⟨hbg, List.Pairwise.sublist (List.drop_sublist _ _) h⟩
  · rw [List.singleton_append] at hb
    rcases List.mem_cons.1 hb with rfl | hb
    · exact hsm a ha
    · exact RL.tot_cmpR.tr _ _ _ (hsm a ha) (hbg b hb)
def RowsIn (Fs : List Fact) (nm : ByteArray) (X : List RL.R) : Prop := RL.SS X ∧ ∀ x, x ∈ X ↔ (nm, x) ∈ Fs
theorem RowsIn.eq {F : Cont} {Fs : List Fact} (h : RelF F Fs) {nm : ByteArray} {X : List RL.R} (k : RowsIn Fs nm X) : X = F nm :=
  RL.SS.ext k.1 (h.2.1 nm) fun x => (k.2 x).trans (h.2.2 nm x).symm
theorem RowsIn.skip {Fs : List Fact} {nm : ByteArray} {X : List RL.R} {f : Fact} (k : RowsIn Fs nm X) (h : f.1 ≠ nm) : RowsIn (Fs ++ [f]) nm X :=
  ⟨k.1, fun x => by
    rw [k.2 x, List.mem_append, List.mem_singleton]
    exact ⟨Or.inl, fun e => e.elim id fun e => absurd (by rw [← e]) h⟩⟩
theorem RowsIn.ins {Fs : List Fact} {nm : ByteArray} {X : List RL.R} {x : RL.R} (k : RowsIn Fs nm X) (hn : (nm, x) ∉ Fs) {j : Nat} (hlt : ∀ t (ht : t < X.length), t < j → RL.cmpR X[t] x < 0) (hge : contR X x j = false) : RowsIn (Fs ++ [(nm, x)]) nm (X.take j ++ [x] ++ X.drop j) := by
  refine ⟨ss_ins k.1 (fun h => hn ((k.2 x).1 h)) hlt hge, fun y => ?_⟩
  have e : y ∈ X ↔ y ∈ X.take j ∨ y ∈ X.drop j := by rw [← List.mem_append, List.take_append_drop]
  rw [List.mem_append, List.mem_append, List.mem_singleton, List.mem_append, List.mem_singleton, ← k.2 y, e]
  constructor
  · rintro ((h | h) | h)
    · exact .inl (.inl h)
    · exact .inr (by rw [h])
    · exact .inl (.inr h)
  · rintro ((h | h) | h)
    · exact .inl (.inl h)
    · exact .inr h
    · injection h with h1 h2; exact .inl (.inr h2)

set_option maxHeartbeats 8000000 in
theorem r08Rows_any (sv : Value) (FA : Option Addr) (FC : Nat) (F : Cont) (Fs : List Fact) (nm : ByteArray) (w : World) (hR : RelF F Fs) (hF : FactsM w.heap.size w FA Fs) (hFl : Fs.length ≤ 1000) (hFr : ∀ f ∈ Fs, f.2.length ≤ 1000000) :
    Calls Tryz.prog 15 #[.agg #[sv, .slice FA Fs.length FC], .string nm] w fun e w' => ∃ A C, ∃ hs : List Value, e = .returned (.slice A (F nm).length C) ∧ RowCs w'.heap.size w' (F nm) hs ∧ Sl w'.heap.size w' A hs ∧ Below w.heap.size w w' := by
  obtain ⟨W0, hW0⟩ : ∃ W, W = w.alloc (.cells #[sv, .slice FA Fs.length FC] 31) := ⟨_, rfl⟩
  have hx0 : Ext w W0 := by rw [hW0]; exact (Ext.refl w).alloc _
  have HR0 : Hid (Row W0 w.heap.size 31 [sv, .slice FA Fs.length FC]) := by show Row _ _ _ _; rw [hW0]; exact Row.new w _ _
  have HB0 := Lib.hid hx0.below
  have HZ0 : Hid (W0.heap.size = w.heap.size + 1) := by show _ = _; rw [hW0]; simp
  have HREL := Lib.hid hR
  have HFM := Lib.hid hF
  have HFR := Lib.hid hFr
  obtain ⟨g, hg⟩ : ∃ g, g = w.heap.size := ⟨_, rfl⟩
  have HG : Hid (g = w.heap.size) := hg
  rw [← hg] at HR0
  clear hF hx0 hR hFr
  go_enter Tryz.func15, Tryz.ntmps15
  go_upto_region 1 with (fail)
  rw [← hW0, ← hg]
  clear hW0 hg
  go_wp2_with fail
  go_loopw [5, 6] (fun v i wx => ∃ (k : Nat) (X : List RL.R) (hs : List Value), k ≤ Fs.length ∧ i = .int .i64 k ∧ wx.ownsRow (g + 1) 42 1 v X.length hs ∧ RowCs w.heap.size w X hs ∧ RowsIn (Fs.take k) nm X ∧ (∀ x ∈ X, x.length ≤ 1000000) ∧ X.length ≤ k ∧ Below (g + 1) W0 wx) (fun _ i _ => Fs.length - (intOf i).toNat)
  case atStart => exact ⟨0, [], [], Nat.zero_le _, rfl, own_nil _ _ _ _, RowCs.nil, ⟨List.Pairwise.nil, fun x => by simp⟩, fun x hx => (by cases hx), Nat.zero_le _, Below.refl _ _⟩
  case round =>
    obtain ⟨k, X, hs, hk, rfl, hown, hcs, hin, hxl, hxk, hbr⟩ := hrel
    obtain ⟨wo, hwo⟩ : ∃ wo, wo = wr := ⟨_, rfl⟩
    subst hwo
    obtain ⟨VA, VC, rfl, hvc, hsl⟩ := Sl.of_own_n hown
    have HO := Lib.hid hown
    have HCS := Lib.hid hcs
    have HIN := Lib.hid hin
    have HXL := Lib.hid hxl
    have HBR := Lib.hid hbr
    have HSL := Lib.hid hsl
    have HR := Lib.hid (HR0.out.below hbr (Nat.lt_succ_self _))
    have HHL : Hid (hs.length = X.length) := hcs.len
    have c0 : wo.cell? ⟨g, 1, none⟩ = some (.slice FA Fs.length FC) := HR.out.cell 1
    have z0 := HR.out.lt
    clear hown hcs hin hxl hbr hsl
    by_cases hkl : k < Fs.length
    · obtain ⟨ab, ao, rfl, hab, hac⟩ := HFM.out (by intro h0; rw [h0] at hkl; simp at hkl)
      obtain ⟨RA, RC, d0, d1, hrow⟩ := hac k hkl
      have HBW : Hid (Below w.heap.size w wo) := HB0.out.trans (HBR.out.mono (by have := HG.out; omega))
      have HD0 := Lib.hid d0
      have HD1 := Lib.hid d1
      have HROW := Lib.hid hrow
      have HDK : Hid (∀ V, Below (g + 1) W0 V → V.cell? ⟨g, 1, none⟩ = some (.slice (some ⟨ab, ao, none⟩) Fs.length FC) ∧ V.cell? ⟨ab, ao + k * 2 + 1, none⟩ = some (.slice RA Fs[k].2.length RC) ∧ g < V.heap.size ∧ ab < V.heap.size) := fun V hb => by
        have hbw : Below w.heap.size w V := HB0.out.trans (hb.mono (by have := HG.out; omega))
        have hr := HR0.out.below hb (Nat.lt_succ_self _)
        exact ⟨hr.cell 1, cell_below hbw HD1.out, hr.lt, Nat.lt_of_lt_of_le hab hbw.size⟩
      have d0 := cell_below HBW.out d0
      have d1 := cell_below HBW.out d1
      have hab2 : ab < wo.heap.size := Nat.lt_of_lt_of_le hab HBW.out.size
      have HRL : Hid (Fs[k].2.length ≤ 1000000) := HFR.out _ (List.getElem_mem hkl)
      have HTK : Hid (Fs.take (k + 1) = Fs.take k ++ [(Fs[k].1, Fs[k].2)]) := List.take_succ_eq_append_getElem hkl
      have HNI : Hid ((Fs[k].1, Fs[k].2) ∉ Fs.take k) := by
        have h3 := HREL.out.1
        rw [← List.take_append_drop (k + 1) Fs, List.take_succ_eq_append_getElem hkl, List.append_assoc, List.nodup_append] at h3
        intro hm
        exact h3.2.2 _ hm _ (List.mem_append_left _ (List.mem_singleton.2 rfl)) rfl
      have hse := strEq_str Fs[k].1 nm
      clear hac hrow HD0
      generalize Fs[k].1 = sn at d0 hse HTK HNI
      generalize Fs[k].2 = x at d1 HDK HROW HRL HTK HNI HD1
      have g1 : (0 : Int) ≤ (k : Int) := by omega
      have g2 : (k : Int) < (Fs.length : Int) := by omega
      have hw1 : IntKind.i64.wrap ((k : Int) + 1) = ((k + 1 : Nat) : Int) := by rw [IntWalk.i64_in _ (by omega)]; omega
      by_cases hsn : sn = nm
      rotate_left
      · rw [decide_eq_false hsn] at hse
        have HIN2 : Hid (RowsIn (Fs.take (k + 1)) nm X) := by show RowsIn _ _ _; rw [HTK.out]; exact HIN.out.skip hsn
        have HKL := Lib.hid hkl
        have HXK := Lib.hid hxk
        clear hsn
        go_wp2_with fail
        go_roundw
        case rel => exact ⟨k + 1, X, hs, HKL.out, by go_num, HO.out, HCS.out, HIN2.out, HXL.out, Nat.le_succ_of_le HXK.out, HBR.out⟩
        case measure => have := HKL.out; simp [intOf]; omega
      subst hsn
      rw [decide_eq_true rfl] at hse
      have HSE := Lib.hid hse
      have HKL := Lib.hid hkl
      go_wp2_with fail
      clear hse
      go_loopw [7] (fun c wx => ∃ j : Nat, j ≤ X.length ∧ c = .int .i64 j ∧ (∀ t (ht : t < X.length), t < j → RL.cmpR X[t] x < 0) ∧ Ext wo wx) (fun c _ => X.length - (intOf c).toNat)
      case atStart => exact ⟨0, Nat.zero_le _, rfl, fun t _ ht => absurd ht (Nat.not_lt_zero _), Ext.refl _⟩
      case round =>
        obtain ⟨j, hj, rfl, hall, hx⟩ := hrel
        have HALL := Lib.hid hall
        have HX := Lib.hid hx
        have hzz := hx.size
        have c0 := (hx.cell z0).trans c0
        have d1 := (hx.cell hab2).trans d1
        clear hall hx
        go_upto_region 7 with (fail)
        go_cut [40] from 24 to 40 (fun q wx => q = .bool (contR X x j) ∧ Ext wr wx)
        case first =>
          by_cases hjl : j < X.length
          · obtain ⟨vb, vo, rfl, hvb, e0⟩ := HSL.out.at_ (k := j) (by rw [HHL.out]; exact hjl)
            obtain ⟨YA, YC, y0, hy⟩ := HCS.out.at_ j hjl
            have e1 : hs[j]'(by rw [HHL.out]; exact hjl) = .slice YA X[j].length YC := (List.getElem?_eq_some_iff.1 y0).2
            rw [e1] at e0
            have e0 := (HX.out.cell hvb).trans e0
            have hq := contR_at (x := x) hjl
            have HQ := Lib.hid hq
            have HLS : Hid (∀ V, Ext wr V → Calls Tryz.prog 40 #[.slice YA X[j].length YC, .slice RA x.length RC] V fun e w' => e = .returned (.bool (decide (RL.cmpR X[j] x < 0))) ∧ Ext V w') := fun V hv => by
              have hbw : Below w.heap.size w V := HBW.out.trans (((HX.out.trans hv).below).mono HBW.out.size)
              exact r08Less_any YA RA YC RC X[j] x V (Sl.more (Sl.below hy hbw (Nat.le_refl _)) hbw.size) (Sl.more (Sl.below HROW.out hbw (Nat.le_refl _)) hbw.size) (HXL.out _ (List.getElem_mem hjl)) HRL.out
            have p0 : (0 : Int) ≤ (j : Int) := by omega
            have p1 : (j : Int) < (X.length : Int) := by omega
            have p2 : vb < wr.heap.size := by omega
            have p3 : ab < wr.heap.size := by omega
            have p4 : g < wr.heap.size := by omega
            have p5 : decide ((j : Int) < (X.length : Int)) = true := decide_eq_true p1
            clear hq hy y0 e1
            generalize X[j] = a at e0 HQ HLS
            refine wp_region_held_drew (S := (fun w' => w'.cell? ⟨g, 1, none⟩ = some (.slice (some ⟨ab, ao, none⟩) Fs.length FC) ∧ w'.cell? ⟨ab, ao + k * 2 + 1, none⟩ = some (.slice RA x.length RC) ∧ w'.cell? ⟨vb, vo + j, none⟩ = some (.slice YA a.length YC))) (by kernel_rfl) ⟨c0, d1, e0⟩ (fun hHeld => ?_)
            refine takeOp (i := 0) (v := ?_) (some 24) rfl rfl (by kernel_rfl) (by kernel_rfl) (by kernel_rfl) (fun _ _ _ h => h) (Or.inl ⟨by rfl, ?_⟩) (by assumption) ?_
            rotate_left 1
            · (intro w0 hSw; (try dsimp only at hSw); go_simp; try (with_reducible rfl))
            try simp only [Act.put, List.setIfInBounds_toArray, List.set_cons_succ, List.set_cons_zero]
            refine takeOp (i := 1) (v := ?_) (some 25) rfl rfl (by kernel_rfl) (by kernel_rfl) (by kernel_rfl) (fun _ _ _ h => h) (Or.inl ⟨by rfl, ?_⟩) (by assumption) ?_
            rotate_left 1
            · (intro w0 hSw; (try dsimp only at hSw); go_simp; try (with_reducible rfl))
            try simp only [Act.put, List.setIfInBounds_toArray, List.set_cons_succ, List.set_cons_zero]
            refine takeOp (i := 2) (v := ?_) (some 26) rfl rfl (by kernel_rfl) (by kernel_rfl) (by kernel_rfl) (fun _ _ _ h => h) (Or.inl ⟨by rfl, ?_⟩) (by assumption) ?_
            rotate_left 1
            · (intro w0 hSw; (try dsimp only at hSw); go_simp; try (with_reducible rfl))
            try simp only [Act.put, List.setIfInBounds_toArray, List.set_cons_succ, List.set_cons_zero]
            refine takeOp (i := 3) (v := ?_) (some 27) rfl rfl (by kernel_rfl) (by kernel_rfl) (by kernel_rfl) (fun _ _ _ h => h) (Or.inl ⟨by rfl, ?_⟩) (by assumption) ?_
            rotate_left 1
            · (intro w0 hSw; (try dsimp only at hSw); go_simp; try (with_reducible rfl))
            try simp only [Act.put, List.setIfInBounds_toArray, List.set_cons_succ, List.set_cons_zero]
            refine takeOp (i := 4) (v := ?_) (some 28) rfl rfl (by kernel_rfl) (by kernel_rfl) (by kernel_rfl) (fun _ _ _ h => h) (Or.inl ⟨by rfl, ?_⟩) (by assumption) ?_
            rotate_left 1
            · (intro w0 hSw; (try dsimp only at hSw); go_simp; try (with_reducible rfl))
            try simp only [Act.put, List.setIfInBounds_toArray, List.set_cons_succ, List.set_cons_zero]
            refine takeOp (i := 5) (v := ?_) (some 29) rfl rfl (by kernel_rfl) (by kernel_rfl) (by kernel_rfl) (fun _ _ _ h => h) (Or.inl ⟨by rfl, ?_⟩) (by assumption) ?_
            rotate_left 1
            · (intro w0 hSw; (try dsimp only at hSw); go_simp; try (with_reducible rfl))
            try simp only [Act.put, List.setIfInBounds_toArray, List.set_cons_succ, List.set_cons_zero]
            refine takeOp (i := 6) (v := ?_) (some 30) rfl rfl (by kernel_rfl) (by kernel_rfl) (by kernel_rfl) (fun _ _ _ h => h) (Or.inl ⟨by rfl, ?_⟩) (by assumption) ?_
            rotate_left 1
            · (intro w0 hSw; (try dsimp only at hSw); go_simp; try (with_reducible rfl))
            try simp only [Act.put, List.setIfInBounds_toArray, List.set_cons_succ, List.set_cons_zero]
            refine takeOp (i := 7) (v := ?_) (some 31) rfl rfl (by kernel_rfl) (by kernel_rfl) (by kernel_rfl) (fun _ _ _ h => h) (Or.inl ⟨by rfl, ?_⟩) (by assumption) ?_
            rotate_left 1
            · (intro w0 hSw; (try dsimp only at hSw); go_simp; try (with_reducible rfl))
            try simp only [Act.put, List.setIfInBounds_toArray, List.set_cons_succ, List.set_cons_zero]
            refine takeOp (i := 8) (v := ?_) (some 32) rfl rfl (by kernel_rfl) (by kernel_rfl) (by kernel_rfl) (fun _ _ _ h => h) (Or.inl ⟨by rfl, ?_⟩) (by assumption) ?_
            rotate_left 1
            · (intro w0 hSw; (try dsimp only at hSw); go_simp; try (with_reducible rfl))
            try simp only [Act.put, List.setIfInBounds_toArray, List.set_cons_succ, List.set_cons_zero]
            refine takeOp (i := 9) (v := ?_) (some 33) rfl rfl (by kernel_rfl) (by kernel_rfl) (by kernel_rfl) (fun _ _ _ h => h) (Or.inl ⟨by rfl, ?_⟩) (by assumption) ?_
            rotate_left 1
            · (intro w0 hSw; (try dsimp only at hSw); go_simp; try (with_reducible rfl))
            try simp only [Act.put, List.setIfInBounds_toArray, List.set_cons_succ, List.set_cons_zero]
            refine takeOp (i := 10) (v := ?_) (some 34) rfl rfl (by kernel_rfl) (by kernel_rfl) (by kernel_rfl) (fun _ _ _ h => h) (Or.inl ⟨by rfl, ?_⟩) (by assumption) ?_
            rotate_left 1
            · (intro w0 hSw; (try dsimp only at hSw); go_simp; try (with_reducible rfl))
            try simp only [Act.put, List.setIfInBounds_toArray, List.set_cons_succ, List.set_cons_zero]
            refine takeOp (i := 11) (v := ?_) (some 35) rfl rfl (by kernel_rfl) (by kernel_rfl) (by kernel_rfl) (fun _ _ _ h => h) (Or.inl ⟨by rfl, ?_⟩) (by assumption) ?_
            rotate_left 1
            · (intro w0 hSw; (try dsimp only at hSw); go_simp; try (with_reducible rfl))
            try simp only [Act.put, List.setIfInBounds_toArray, List.set_cons_succ, List.set_cons_zero]
            refine takeOp (i := 12) (v := ?_) (some 36) rfl rfl (by kernel_rfl) (by kernel_rfl) (by kernel_rfl) (fun _ _ _ h => h) (Or.inl ⟨by rfl, ?_⟩) (by assumption) ?_
            rotate_left 1
            · (intro w0 hSw; (try dsimp only at hSw); go_simp; try (with_reducible rfl))
            try simp only [Act.put, List.setIfInBounds_toArray, List.set_cons_succ, List.set_cons_zero]
            refine takeOp (i := 13) (v := ?_) (some 37) rfl rfl (by kernel_rfl) (by kernel_rfl) (by kernel_rfl) (fun _ _ _ h => h) (Or.inl ⟨by rfl, ?_⟩) (by assumption) ?_
            rotate_left 1
            · (intro w0 hSw; (try dsimp only at hSw); go_simp; try (with_reducible rfl))
            try simp only [Act.put, List.setIfInBounds_toArray, List.set_cons_succ, List.set_cons_zero]
            refine takeOp (i := 14) (v := ?_) (some 38) rfl rfl (by kernel_rfl) (by kernel_rfl) (by kernel_rfl) (fun _ _ _ h => h) (Or.inl ⟨by rfl, ?_⟩) (by assumption) ?_
            rotate_left 1
            · (intro w0 hSw; (try dsimp only at hSw); go_simp; try (with_reducible rfl))
            try simp only [Act.put, List.setIfInBounds_toArray, List.set_cons_succ, List.set_cons_zero]
            refine wpAnyH_ready (rs := [15]) (by kernel_rfl) (by simp) ?_
            refine AllReadyH.cons rfl (fun K hK => ?_) AllReadyH.nil
            go_simp
            refine (HLS.out wr.drew (Ext.refl _).drew).mono ?_
            rintro e V ⟨rfl, hxV⟩
            have hxV : Ext wr V := (Ext.refl wr).drew.trans hxV
            have HKK : Hid (V.cell? ⟨g, 1, none⟩ = some (.slice (some ⟨ab, ao, none⟩) Fs.length FC) ∧ V.cell? ⟨ab, ao + k * 2 + 1, none⟩ = some (.slice RA x.length RC) ∧ V.cell? ⟨vb, vo + j, none⟩ = some (.slice YA a.length YC)) := ⟨(hxV.cell p4).trans c0, (hxV.cell p3).trans d1, (hxV.cell p2).trans e0⟩
            have HXV := Lib.hid hxV
            clear hxV
            go_wp2_with fail
            refine hK.out _ _ HKK.out (fun hHeld => ?_)
            clear hK K
            try simp only [Act.put, List.setIfInBounds_toArray, List.set_cons_succ, List.set_cons_zero]
            refine takeOp (i := 16) (v := ?_) (some 40) rfl rfl (by kernel_rfl) (by kernel_rfl) (by kernel_rfl) (fun _ _ _ h => h) (Or.inl ⟨by rfl, ?_⟩) (by assumption) ?_
            rotate_left 1
            · (intro w0 hSw; (try dsimp only at hSw); go_simp; try (with_reducible rfl))
            try simp only [Act.put, List.setIfInBounds_toArray, List.set_cons_succ, List.set_cons_zero]
            refine wpAnyH_done (by kernel_rfl) ?_ _
            go_wp2_with fail
            go_meet
            case rel => exact ⟨by rw [HQ.out], HXV.out⟩
          · have HQ := Lib.hid (contR_end (x := x) hjl)
            have p1 : ¬ (j : Int) < (X.length : Int) := by omega
            have p5 : decide ((j : Int) < (X.length : Int)) = false := decide_eq_false p1
            refine wp_region_held_drew (S := (fun _ => True)) (by kernel_rfl) trivial (fun hHeld => ?_)
            refine takeOp (i := 0) (v := ?_) (some 24) rfl rfl (by kernel_rfl) (by kernel_rfl) (by kernel_rfl) (fun _ _ _ h => h) (Or.inl ⟨by rfl, ?_⟩) (by assumption) ?_
            rotate_left 1
            · (intro w0 hSw; (try dsimp only at hSw); go_simp; try (with_reducible rfl))
            try simp only [Act.put, List.setIfInBounds_toArray, List.set_cons_succ, List.set_cons_zero]
            refine takeOp (i := 1) (v := ?_) (some 25) rfl rfl (by kernel_rfl) (by kernel_rfl) (by kernel_rfl) (fun _ _ _ h => h) (Or.inl ⟨by rfl, ?_⟩) (by assumption) ?_
            rotate_left 1
            · (intro w0 hSw; (try dsimp only at hSw); go_simp; try (with_reducible rfl))
            try simp only [Act.put, List.setIfInBounds_toArray, List.set_cons_succ, List.set_cons_zero]
            refine takeOp (i := 2) (v := ?_) (some 26) rfl rfl (by kernel_rfl) (by kernel_rfl) (by kernel_rfl) (fun _ _ _ h => h) (Or.inl ⟨by rfl, ?_⟩) (by assumption) ?_
            rotate_left 1
            · (intro w0 hSw; (try dsimp only at hSw); go_simp; try (with_reducible rfl))
            try simp only [Act.put, List.setIfInBounds_toArray, List.set_cons_succ, List.set_cons_zero]
            refine takeOp (i := 3) (v := ?_) (some 27) rfl rfl (by kernel_rfl) (by kernel_rfl) (by kernel_rfl) (fun _ _ _ h => h) (Or.inl ⟨by rfl, ?_⟩) (by assumption) ?_
            rotate_left 1
            · (intro w0 hSw; (try dsimp only at hSw); go_simp; try (with_reducible rfl))
            try simp only [Act.put, List.setIfInBounds_toArray, List.set_cons_succ, List.set_cons_zero]
            refine takeOp (i := 4) (v := ?_) (some 28) rfl rfl (by kernel_rfl) (by kernel_rfl) (by kernel_rfl) (fun _ _ _ h => h) (Or.inl ⟨by rfl, ?_⟩) (by assumption) ?_
            rotate_left 1
            · (intro w0 hSw; (try dsimp only at hSw); go_simp; try (with_reducible rfl))
            try simp only [Act.put, List.setIfInBounds_toArray, List.set_cons_succ, List.set_cons_zero]
            refine takeOp (i := 5) (v := undef) (some 29) rfl rfl (by kernel_rfl) (by kernel_rfl) (by kernel_rfl) (fun _ _ _ h => h) (Or.inr ⟨by rfl, rfl⟩) (by assumption) ?_
            try simp only [Act.put, List.setIfInBounds_toArray, List.set_cons_succ, List.set_cons_zero]
            refine takeOp (i := 6) (v := undef) (some 30) rfl rfl (by kernel_rfl) (by kernel_rfl) (by kernel_rfl) (fun _ _ _ h => h) (Or.inr ⟨by rfl, rfl⟩) (by assumption) ?_
            try simp only [Act.put, List.setIfInBounds_toArray, List.set_cons_succ, List.set_cons_zero]
            refine takeOp (i := 7) (v := undef) (some 31) rfl rfl (by kernel_rfl) (by kernel_rfl) (by kernel_rfl) (fun _ _ _ h => h) (Or.inr ⟨by rfl, rfl⟩) (by assumption) ?_
            try simp only [Act.put, List.setIfInBounds_toArray, List.set_cons_succ, List.set_cons_zero]
            refine takeOp (i := 8) (v := undef) (some 32) rfl rfl (by kernel_rfl) (by kernel_rfl) (by kernel_rfl) (fun _ _ _ h => h) (Or.inr ⟨by rfl, rfl⟩) (by assumption) ?_
            try simp only [Act.put, List.setIfInBounds_toArray, List.set_cons_succ, List.set_cons_zero]
            refine takeOp (i := 9) (v := undef) (some 33) rfl rfl (by kernel_rfl) (by kernel_rfl) (by kernel_rfl) (fun _ _ _ h => h) (Or.inr ⟨by rfl, rfl⟩) (by assumption) ?_
            try simp only [Act.put, List.setIfInBounds_toArray, List.set_cons_succ, List.set_cons_zero]
            refine takeOp (i := 10) (v := undef) (some 34) rfl rfl (by kernel_rfl) (by kernel_rfl) (by kernel_rfl) (fun _ _ _ h => h) (Or.inr ⟨by rfl, rfl⟩) (by assumption) ?_
            try simp only [Act.put, List.setIfInBounds_toArray, List.set_cons_succ, List.set_cons_zero]
            refine takeOp (i := 11) (v := undef) (some 35) rfl rfl (by kernel_rfl) (by kernel_rfl) (by kernel_rfl) (fun _ _ _ h => h) (Or.inr ⟨by rfl, rfl⟩) (by assumption) ?_
            try simp only [Act.put, List.setIfInBounds_toArray, List.set_cons_succ, List.set_cons_zero]
            refine takeOp (i := 12) (v := undef) (some 36) rfl rfl (by kernel_rfl) (by kernel_rfl) (by kernel_rfl) (fun _ _ _ h => h) (Or.inr ⟨by rfl, rfl⟩) (by assumption) ?_
            try simp only [Act.put, List.setIfInBounds_toArray, List.set_cons_succ, List.set_cons_zero]
            refine takeOp (i := 13) (v := undef) (some 37) rfl rfl (by kernel_rfl) (by kernel_rfl) (by kernel_rfl) (fun _ _ _ h => h) (Or.inr ⟨by rfl, rfl⟩) (by assumption) ?_
            try simp only [Act.put, List.setIfInBounds_toArray, List.set_cons_succ, List.set_cons_zero]
            refine takeOp (i := 14) (v := undef) (some 38) rfl rfl (by kernel_rfl) (by kernel_rfl) (by kernel_rfl) (fun _ _ _ h => h) (Or.inr ⟨by rfl, rfl⟩) (by assumption) ?_
            try simp only [Act.put, List.setIfInBounds_toArray, List.set_cons_succ, List.set_cons_zero]
            refine takeOp (i := 15) (v := undef) (some 39) rfl rfl (by kernel_rfl) (by kernel_rfl) (by kernel_rfl) (fun _ _ _ h => h) (Or.inr ⟨by rfl, rfl⟩) (by assumption) ?_
            try simp only [Act.put, List.setIfInBounds_toArray, List.set_cons_succ, List.set_cons_zero]
            refine takeOp (i := 16) (v := ?_) (some 40) rfl rfl (by kernel_rfl) (by kernel_rfl) (by kernel_rfl) (fun _ _ _ h => h) (Or.inl ⟨by rfl, ?_⟩) (by assumption) ?_
            rotate_left 1
            · (intro w0 hSw; (try dsimp only at hSw); go_simp; try (with_reducible rfl))
            try simp only [Act.put, List.setIfInBounds_toArray, List.set_cons_succ, List.set_cons_zero]
            refine wpAnyH_done (by kernel_rfl) ?_ _
            go_wp2_with fail
            go_meet
            case rel => exact ⟨by rw [HQ.out], (Ext.refl _).drew⟩
        case rest =>
        obtain ⟨rfl, hx1⟩ := hcut
        generalize wc = w1 at *
        have HX1 := Lib.hid (HX.out.trans hx1)
        cases hcn : contR X x j with
        | true =>
          have hjl : j < X.length := by
            rcases Nat.lt_or_ge j X.length with h | h
            · exact h
            · rw [contR_end (by omega)] at hcn; cases hcn
          have HAJ : Hid (RL.cmpR X[j] x < 0) := by
            rw [contR_at hjl] at hcn
            exact Lib.hid (of_decide_eq_true hcn)
          have hw2 : IntKind.i64.wrap ((j : Int) + 1) = ((j + 1 : Nat) : Int) := by rw [IntWalk.i64_in _ (by omega)]; omega
          clear hcn
          go_wp2_with fail
          go_roundw
          case rel => exact ⟨j + 1, hjl, by go_num, fun t ht htj => by
            rcases Nat.lt_or_ge t j with h | h
            · exact HALL.out t ht h
            · obtain rfl : t = j := by omega
              exact HAJ.out, HX1.out⟩
          case measure => simp [intOf]; omega
        | false =>
          have HNN : Hid (RowsIn (Fs.take (k + 1)) sn (X.take j ++ [x] ++ X.drop j)) := by show RowsIn _ _ _; rw [HTK.out]; exact HIN.out.ins HNI.out HALL.out hcn
          have hz1 := hx1.size
          have hsh := slHead VA X.length VC j (by omega)
          have hst := slTail VA X.length VC j hj
          obtain ⟨TA, hTA⟩ : ∃ TA, TA = tailA VA j VC := ⟨_, rfl⟩
          rw [← hTA] at hst
          have hsl1 := Sl.more (Sl.ext HSL.out (Nat.le_refl _) HX1.out) HX1.out.size
          have HHD : Hid (Sl w1.heap.size w1 VA (hs.take j)) := hsl1.takeN j
          have HTL : Hid (Sl w1.heap.size w1 TA (hs.drop j)) := by show Sl _ _ _ _; rw [hTA]; exact hsl1.tailN (by rw [HHL.out]; exact hvc) j
          have HB1 := Lib.hid (HBR.out.trans (HX1.out.below.mono (by omega)))
          have HL1 : Hid ((hs.take j).length = j * 1) := by show _ = _; rw [List.length_take, HHL.out]; omega
          have HL2 : Hid ((hs.drop j).length = (X.length - j) * 1) := by show _ = _; rw [List.length_drop, HHL.out]; omega
          have HCA : Hid (RowCs w.heap.size w (X.take j ++ [x] ++ X.drop j) (hs.take j ++ [.slice RA x.length RC] ++ hs.drop j)) := ((HCS.out.take j).append (RowCs.one1 HROW.out)).append (HCS.out.drop j)
          have HC1 : Hid (∀ u ∈ hs.take j, u.oneCell' = true) := fun u hu => HCS.out.one u (List.mem_of_mem_take hu)
          have HC2 : Hid (∀ u ∈ hs.drop j, u.oneCell' = true) := fun u hu => HCS.out.one u (List.mem_of_mem_drop hu)
          have HXM : Hid (∀ y ∈ X.take j ++ [x] ++ X.drop j, y.length ≤ 1000000) := fun y hy => by
            rcases List.mem_append.1 hy with hy | hy
            · rcases List.mem_append.1 hy with hy | hy
              · exact HXL.out y (List.mem_of_mem_take hy)
              · rw [List.mem_singleton.1 hy]; exact HRL.out
            · exact HXL.out y (List.mem_of_mem_drop hy)
          generalize hs.take j = h1s at *
          generalize hs.drop j = h2s at *
          have hgz : g + 1 ≤ w1.heap.size := by omega
          clear hTA hsl1 hcn hx1 HALL HSL HX HX1
          have HE0 := Lib.hid (own_emptyF w1 (g + 1) 42 1 hgz)
          have HX2 : Hid (Ext w1 (w1.alloc (.cells #[] 42))) := (Ext.refl w1).alloc _
          have HB2 : Hid (Below (g + 1) W0 (w1.alloc (.cells #[] 42))) := HB1.out.trans (HX2.out.below.mono hgz)
          have HS2 := Lib.hid (Sl.more (Sl.ext HHD.out (Nat.le_refl _) HX2.out) HX2.out.size)
          have HTK2 : Hid (∀ V, Below w1.heap.size w1 V → Sl V.heap.size V TA h2s) := fun V hb => Sl.more (Sl.below HTL.out hb (Nat.le_refl _)) hb.size
          clear c0 d1 d0 hab2 z0
          go_wp2_with (first
            | (at_builtin; refine appXRowN rfl (.tmp 43) (.tmp 46) rfl (g + 1) (.slice (some ⟨w1.heap.size, 0, none⟩) 0 0) 0 [] rfl HE0.out VA j VC h1s rfl HL1.out HS2.out HC1.out (by omega) (by simp; omega) ?_
               intro v2 w2 hown2 hg2 hat2
               have hb2 := HB2.out.grown hg2 (by simp; omega) (fun q hq => own_base HE0.out hq)
               have hbn : Below w1.heap.size w1 w2 := HX2.out.below.grown hg2 (by simp) (fun q hq => by simp [Value.ownBlock] at hq; omega)
               have HBN := Lib.hid hbn
               obtain ⟨c0, d1, z0, hab2⟩ := HDK.out w2 hb2
               have hgz2 : g + 1 ≤ w2.heap.size := z0
               have HO2 := Lib.hid (hown2.alloc (.cells #[.slice RA x.length RC] 42))
               have HB2' := Lib.hid (hb2.alloc hgz2 (.cells #[.slice RA x.length RC] 42))
               have HV2 : Hid (∀ q, v2.ownBlock = some q → w1.heap.size ≤ q) := fun q hq => by
                 rcases hat2 q hq with h | h
                 · simp [Value.ownBlock] at h; omega
                 · rw [h]; simp
               have HS3 : Hid (Sl (w2.alloc (.cells #[.slice RA x.length RC] 42)).heap.size (w2.alloc (.cells #[.slice RA x.length RC] 42)) (some ⟨w2.heap.size, 0, none⟩) [.slice RA x.length RC]) := (Row.new w2 42 [.slice RA x.length RC]).sl
               have HBN2 : Hid (Below w1.heap.size w1 (w2.alloc (.cells #[.slice RA x.length RC] 42))) := hbn.alloc hbn.size _
               clear hown2 hg2 hat2 hb2 hbn)
            | (at_builtin; refine appXRowN rfl (.tmp 48) (.tmp 55) rfl (g + 1) v2 (0 + j) ([] ++ h1s) rfl HO2.out (some ⟨w2.heap.size, 0, none⟩) 1 1 [.slice RA x.length RC] rfl rfl HS3.out (fun u hu => by rw [List.mem_singleton.1 hu]; rfl) (by omega) (by simp; omega) ?_
               intro v3 w3 hown3 hg3 hat3
               have HO3 := Lib.hid hown3
               have hb3 := HB2'.out.grown hg3 (by simp; omega) (fun q hq => own_base HO2.out hq)
               have hbn3 := HBN2.out.grown hg3 (by have := HBN.out.size; simp; omega) HV2.out
               have HB3 := Lib.hid hb3
               have HBN3 := Lib.hid hbn3
               have hgz3 : g + 1 ≤ w3.heap.size := (HDK.out w3 hb3).2.2.1
               clear hown3 hg3 hb3 hbn3 hat3)
            | (at_builtin; refine appXRowN rfl (.tmp 57) (.tmp 60) rfl (g + 1) v3 (0 + j + 1) ([] ++ h1s ++ [.slice RA x.length RC]) rfl HO3.out TA (X.length - j) (VC - j) h2s rfl HL2.out (HTK2.out w3 HBN3.out) HC2.out (by omega) hgz3 ?_
               intro v4 w4 hown4 hg4 hat4
               have HO4 := Lib.hid hown4
               have HB4 := Lib.hid (HB3.out.grown hg4 hgz3 (fun q hq => own_base HO3.out hq))
               clear hown4 hg4 hat4)
            | fail)
          have HO5 : Hid (w4.ownsRow (g + 1) 42 1 v4 (X.take j ++ [x] ++ X.drop j).length (h1s ++ [.slice RA x.length RC] ++ h2s)) := by
            have h := HO4.out
            rw [List.nil_append, show 0 + j + 1 + (X.length - j) = (X.take j ++ [x] ++ X.drop j).length by simp; omega] at h
            exact h
          go_roundw
          case rel => exact ⟨k + 1, _, _, HKL.out, by go_num, HO5.out, HCA.out, HNN.out, HXM.out, by simp; omega, HB4.out⟩
          case measure => have := HKL.out; simp [intOf]; omega
    · obtain rfl : k = Fs.length := by omega
      rw [List.take_length] at HIN
      have HEQ := Lib.hid (HIN.out.eq HREL.out)
      have g2 : ¬ (Fs.length : Int) < (Fs.length : Int) := by omega
      go_wp2_with fail
      go_ret
      have hbw : Below w.heap.size w wo := HB0.out.trans (HBR.out.mono (by have := HG.out; omega))
      refine ⟨VA, ⟨VC, by rw [← HEQ.out]; first | done | rfl⟩, hs, ?_, HSL.out, hbw⟩
      rw [← HEQ.out]
      exact HCS.out.up hbw
end
section
open Go.RowKit

def FNames (S : Sch) (Fs : List Fact) : Prop := ∀ f ∈ Fs, f.1 ∈ S.map Prod.fst
theorem FNames.step {S : Sch} {Fs : List Fact} (h : FNames S Fs) {u : Upd} (hc : checkF S u.rel u.row = 0) : FNames S (refU Fs u).1 := by
  unfold refU
  split
  · split
    · exact fun f hf => h f (List.mem_filter.1 hf).1
    · intro f hf
      rcases List.mem_append.1 hf with hf | hf
      · exact h f hf
      · rw [List.mem_singleton.1 hf]
        obtain ⟨ks, hks, -⟩ := checkF_zero hc
        exact List.mem_map.2 ⟨_, hks, rfl⟩
  · exact h
theorem foldl_names (S : Sch) : ∀ (us : List Upd) (d : Cont × List Fact), FNames S d.2 → FNames S (us.foldl (madeS S) d).2
  | [], d, h => h
  | u :: us, d, h => by
    refine foldl_names S us _ ?_
    unfold madeS
    split
    · rename_i hs
      exact h.step (step_check hs)
    · exact h
theorem made_names (S : Sch) (us : List Upd) : FNames S (madeF S us).2 := foldl_names S us (fun _ => [], []) fun f hf => (by cases hf)
theorem foldl_rows (S : Sch) (n : Nat) : ∀ (us : List Upd) (d : Cont × List Fact), (∀ u ∈ us, u.row.length ≤ n) → (∀ f ∈ d.2, f.2.length ≤ n) → ∀ f ∈ (us.foldl (madeS S) d).2, f.2.length ≤ n
  | [], d, _, h => h
  | u :: us, d, hu, h => by
    refine foldl_rows S n us _ (fun v hv => hu v (List.mem_cons_of_mem _ hv)) ?_
    unfold madeS
    split
    · exact refU_rows h (hu u List.mem_cons_self)
    · exact h
theorem made_rows (S : Sch) (n : Nat) (us : List Upd) (hu : ∀ u ∈ us, u.row.length ≤ n) : ∀ f ∈ (madeF S us).2, f.2.length ≤ n := foldl_rows S n us (fun _ => [], []) hu fun f hf => (by cases hf)
theorem SlRsP.shrink {P : Nat → Prop} {B C : Nat} {w : World} {A : Option Addr} {X : List RL.R} (h : SlRsP P B w A X) (hP : ∀ b, P b → b < C) : SlRsP P C w A X := fun hn => by
  obtain ⟨b, o, e, hb, hp, hs, hH, hc⟩ := h hn
  refine ⟨b, o, e, hP b hp, hp, hs, ⟨hH.1, fun i u y h1 h2 => ?_⟩, hc⟩
  obtain ⟨A', C', g1, g2, g3, g4, g5⟩ := hH.2 i u y h1 h2
  refine ⟨A', C', g1, g2, g3, fun hne => ?_, g5⟩
  obtain ⟨b', o', e', hb', hc'⟩ := g4 hne
  exact ⟨b', o', e', hP b' (g5 (fun h0 => hne (by rw [h0]; rfl)) _ e'), hc'⟩
theorem nameF_size {s : ByteArray} (h : nameF s = true) : s.size ≤ 16 := by
  unfold nameF at h
  simp only [Bool.and_eq_true, decide_eq_true_eq] at h
  omega
end
section
open Go.ChangeShapes Go.WideShapes Go.ChangeAt Go.RowKit Go.Joins Go.Deep

theorem cell_addr {w : World} {a : Addr} {v : Value} (h : w.cell? a = some v) : a = ⟨a.block, a.off, none⟩ ∧ a.block < w.heap.size := by
  obtain ⟨b, o, s⟩ := a
  unfold World.cell? at h
  simp only at h
  cases hh : w.heap[b]? with
  | none => rw [hh] at h; cases h
  | some ob =>
    have hlt : b < w.heap.size := by
      rcases Nat.lt_or_ge b w.heap.size with h1 | h1
      · exact h1
      · rw [Array.getElem?_eq_none h1] at hh; cases hh
    refine ⟨?_, hlt⟩
    rw [hh] at h
    cases ob with
    | cells c _ _ =>
      cases s with
      | none => rfl
      | some s => simp at h
    | _ => simp at h

theorem add_addr (b o i : Nat) : (Addr.add ⟨b, o, none⟩ i) = ⟨b, o + i, none⟩ := by
  unfold Addr.add
  split
  · next h => subst h; rfl
  · rfl

theorem rcells_div (y : RL.R) (i : Nat) (u : Value) (h : (rcells y)[i]? = some u) : ∃ v, y[i / 3]? = some v ∧ (vcells v)[i % 3]? = some u := by
  have hl : i < (rcells y).length := (List.getElem?_eq_some_iff.1 h).1
  rw [rcells_length] at hl
  have hq : i / 3 < y.length := by omega
  refine ⟨y[i / 3], List.getElem?_eq_getElem hq, ?_⟩
  obtain ⟨g0, g1, g2⟩ := rcells_get y (i / 3) _ (List.getElem?_eq_getElem hq)
  have hi : i = i / 3 * 3 + i % 3 := by omega
  have hr : i % 3 = 0 ∨ i % 3 = 1 ∨ i % 3 = 2 := by omega
  rcases hr with hr | hr | hr
  · rw [hr, Nat.add_zero] at hi; rw [hr]; rw [hi, g0] at h; exact h
  · rw [hr] at hi; rw [hr]; rw [hi, g1] at h; exact h
  · rw [hr] at hi; rw [hr]; rw [hi, g2] at h; exact h

section
variable {H : Type} {enc : TypeId × Value → H} {W : World} {n : Nat} {x : DataW H × List MemPlace}

theorem cells_TValue : Tryz.prog.cellsOf 82 = 3 := by kernel_rfl
theorem cells_TRow : Tryz.prog.cellsOf 42 = 1 := by kernel_rfl

theorem open_value {cs : List Value} (h : DataW.trod enc Tryz.prog W 0 (fun _ => true) true n 82 cs = some x) :
    ∃ v : RL.V, cs = vcells v ∧ v.str.size ≤ 9223372036854775807 := by
  obtain ⟨ys, n', _, _, hlen, hyl, hf⟩ := DataW.trod_struct Tryz.underlying82 h
  rw [cells_TValue] at hlen
  match cs, hlen with
  | [c0, c1, c2], _ =>
    match ys, hyl with
    | [y0, y1, y2], _ =>
      have h0 := hf 0 _ rfl
      have h1 := hf 1 _ rfl
      have h2 := hf 2 _ rfl
      obtain ⟨a0, e0, _, _⟩ := DataW.trod_int (k := .i64) (by kernel_rfl) h0
      obtain ⟨a1, e1, _, _⟩ := DataW.trod_int (k := .i64) (by kernel_rfl) h1
      obtain ⟨a2, e2, _, hz⟩ := DataW.trod_string (by kernel_rfl) h2
      have q0 : List.take (Tryz.prog.cellsOf 3) (List.drop 0 [c0, c1, c2]) = [.int .i64 a0] := e0
      have q1 : List.take (Tryz.prog.cellsOf 2) (List.drop 1 [c0, c1, c2]) = [.int .i64 a1] := e1
      have q2 : List.take (Tryz.prog.cellsOf 9) (List.drop 2 [c0, c1, c2]) = [.string a2] := e2
      rw [show Tryz.prog.cellsOf 3 = 1 by kernel_rfl] at q0
      rw [show Tryz.prog.cellsOf 2 = 1 by kernel_rfl] at q1
      rw [show Tryz.prog.cellsOf 9 = 1 by kernel_rfl] at q2
      simp at q0 q1 q2
      subst q0 q1 q2
      exact ⟨⟨a0, a1, a2⟩, rfl, hz⟩

theorem open_row {cs : List Value} (h : DataW.trod enc Tryz.prog W 0 (fun _ => true) true n 42 cs = some x) :
    ∃ A C y, cs = [.slice A y.length C] ∧ SlR W.heap.size W A y ∧ y.length ≤ C ∧ C ≤ 9223372036854775807 ∧ BigW y := by
  rcases open_slice Tryz.underlying42 h with ⟨hcs, _⟩ | ⟨a, len, cap, m, n', D, Pl, hcs, _, hl, hm, hmm, _, hel⟩
  · exact ⟨none, 0, [], hcs, SlR.nil, Nat.le_refl _, by simp, by simp [BigW]⟩
  · rw [cells_TValue] at hel
    simp only [if_true] at hmm
    subst hmm
    have hch : ∀ i, i < len → ∃ v : RL.V, (∀ j, j < 3 → W.cell? (a.add (i * 3 + j)) = (vcells v)[j]?) ∧ v.str.size ≤ 9223372036854775807 := by
      intro i hi
      obtain ⟨cs', h1, h2⟩ := hel i (by omega)
      obtain ⟨v, rfl, hv⟩ := open_value h2
      obtain ⟨_, _, h3⟩ := World.cells?_some h1
      refine ⟨v, fun j hj => ?_, hv⟩
      rw [← Go.Deep.add_add]
      exact h3 j hj
    haveI : Inhabited RL.V := ⟨⟨0, 0, ByteArray.empty⟩⟩
    obtain ⟨f, hf⟩ := choose_lt hch
    refine ⟨some a, m, (List.range len).map f, by simpa using hcs, fun hne => ?_, by simpa using hl, hm, by simp only [List.length_map, List.length_range]; exact Nat.le_trans hl hm, ?_⟩
    · have hpos : 0 < len := by
        rcases Nat.eq_zero_or_pos len with h0 | h0
        · subst h0; exact absurd rfl hne
        · exact h0
      have h0 := (hf 0 hpos).1 0 (by omega)
      rw [show a.add (0 * 3 + 0) = a by unfold Addr.add; simp] at h0
      obtain ⟨ha, hb⟩ := cell_addr (h0.trans rfl)
      refine ⟨a.block, a.off, by rw [← ha], hb, fun i u hu => ?_⟩
      obtain ⟨v, hv, hvu⟩ := rcells_div _ _ _ hu
      rw [List.getElem?_map] at hv
      have hq : i / 3 < len := by
        rcases Nat.lt_or_ge (i / 3) len with h | h
        · exact h
        · rw [List.getElem?_eq_none (by simpa using h)] at hv; simp at hv
      rw [List.getElem?_range hq] at hv
      simp at hv
      subst hv
      have h1 := (hf _ hq).1 (i % 3) (by omega)
      rw [show i / 3 * 3 + i % 3 = i by omega, ha, add_addr] at h1
      rw [h1]
      exact hvu
    · intro v hv
      rw [List.mem_map] at hv
      obtain ⟨i, hi, rfl⟩ := hv
      exact (hf i (by simpa using hi)).2

theorem sl_open {k : IntKind} {w : World} {a : Addr} {zs : List Int} {len : Nat} (hl : len ≤ zs.length) (hcell : ∀ i, i < zs.length → w.cell? (a.add i) = some (.int k (zs.getD i 0))) :
    SlI k w.heap.size w (some a) (zs.take len) := by
  intro hne
  have hpos : 0 < (zs.take len).length := by
    rcases Nat.eq_zero_or_pos (zs.take len).length with h | h
    · exact absurd (by rw [List.eq_nil_of_length_eq_zero h]; rfl) hne
    · exact h
  rw [List.length_take] at hpos
  have h0 := hcell 0 (by omega)
  rw [show a.add 0 = a by unfold Addr.add; simp] at h0
  obtain ⟨ha, hb⟩ := cell_addr h0
  refine ⟨a.block, a.off, by rw [← ha], hb, fun i u hu => ?_⟩
  rw [List.getElem?_map] at hu
  cases hz : (zs.take len)[i]? with
  | none => rw [hz] at hu; simp at hu
  | some z =>
    rw [hz] at hu
    simp at hu
    subst hu
    obtain ⟨hi, hzi⟩ := List.getElem?_eq_some_iff.1 hz
    rw [List.length_take] at hi
    have h1 := hcell i (by omega)
    rw [ha, add_addr] at h1
    rw [h1]
    simp at hzi
    simp [show i < zs.length by omega, hzi]

theorem open_cols {cs : List Value} (h : DataW.trod enc Tryz.prog W 0 (fun _ => true) true n 36 cs = some x) :
    ∃ A c zs, cs = [.slice A zs.length c] ∧ SlI .i64 W.heap.size W A zs ∧ zs.length ≤ 9223372036854775807 := by
  rcases open_ints Tryz.underlying36 Tryz.underlying3 (by kernel_rfl) h with ⟨hcs, _⟩ | ⟨a, len, cap, zs, hcs, _, hl, hm, hz, _, hcell, hwz⟩
  · exact ⟨none, 0, [], hcs, Sl.nil, by simp⟩
  · simp at hz
    have hlz : len ≤ zs.length := by omega
    have hm' : cap ≤ 9223372036854775807 := hm
    refine ⟨some a, cap, zs.take len, ?_, sl_open hlz hcell, ?_⟩
    · rw [List.length_take, Nat.min_eq_left hlz]; exact hcs
    · rw [List.length_take]; omega

theorem cells_TSchema : Tryz.prog.cellsOf 62 = 2 := by kernel_rfl
theorem cells_TUpd : Tryz.prog.cellsOf 53 = 3 := by kernel_rfl
theorem open_schema {cs : List Value} (h : DataW.trod enc Tryz.prog W 0 (fun _ => true) true n 62 cs = some x) :
    ∃ (s : ByteArray) (ks : List Int) (KA : Option Addr) (KC : Nat), cs = [.string s, .slice KA ks.length KC] ∧ SlI .i64 W.heap.size W KA ks ∧ s.size ≤ 9223372036854775807 ∧ ks.length ≤ 9223372036854775807 := by
  obtain ⟨ys, n', _, _, hlen, hyl, hf⟩ := DataW.trod_struct Tryz.underlying62 h
  rw [cells_TSchema] at hlen
  match cs, hlen with
  | [c0, c1], _ =>
    match ys, hyl with
    | [y0, y1], _ =>
      have h0 := hf 0 _ rfl
      have h1 := hf 1 _ rfl
      obtain ⟨a0, e0, _, hz⟩ := DataW.trod_string (by kernel_rfl) h0
      obtain ⟨KA, KC, ks, e1, hs, hk⟩ := open_cols h1
      have q0 : List.take (Tryz.prog.cellsOf 9) (List.drop 0 [c0, c1]) = [.string a0] := e0
      have q1 : List.take (Tryz.prog.cellsOf 36) (List.drop 1 [c0, c1]) = [.slice KA ks.length KC] := e1
      rw [show Tryz.prog.cellsOf 9 = 1 by kernel_rfl] at q0
      rw [show Tryz.prog.cellsOf 36 = 1 by kernel_rfl] at q1
      simp at q0 q1
      subst q0 q1
      exact ⟨a0, ks, KA, KC, rfl, hs, hz, hk⟩

theorem open_schemas {cs : List Value} (h : DataW.trod enc Tryz.prog W 0 (fun _ => true) true n 22 cs = some x) :
    ∃ A C X, cs = [.slice A X.length C] ∧ SchsM W.heap.size W A X ∧ SchsOk X ∧ X.length ≤ C ∧ C ≤ 9223372036854775807 := by
  rcases open_slice Tryz.underlying22 h with ⟨hcs, _⟩ | ⟨a, len, cap, m, n', D, Pl, hcs, _, hl, hm, hmm, hx, hel⟩
  · exact ⟨none, 0, [], hcs, fun h => absurd rfl h, fun p hp => (by cases hp), Nat.le_refl _, by simp⟩
  · rw [cells_TSchema] at hel
    simp only [if_true] at hmm
    subst hmm
    have hm' : m ≤ 9223372036854775807 := hm
    have hch : ∀ i, i < len → ∃ t : ByteArray × List Int, ∃ KA KC, W.cell? (a.add (i * 2)) = some (.string t.1) ∧ W.cell? (a.add (i * 2 + 1)) = some (.slice KA t.2.length KC) ∧ SlI .i64 W.heap.size W KA t.2 ∧ t.1.size ≤ 9223372036854775807 ∧ t.2.length ≤ 9223372036854775807 := by
      intro i hi
      obtain ⟨cs', h1, h2⟩ := hel i (by omega)
      obtain ⟨s, ks, KA, KC, rfl, hs, hz, hk⟩ := open_schema h2
      obtain ⟨_, _, h3⟩ := World.cells?_some h1
      refine ⟨(s, ks), KA, KC, ?_, ?_, hs, hz, hk⟩
      · have := h3 0 (by omega)
        rw [Go.Deep.add_add] at this
        exact this
      · have := h3 1 (by omega)
        rw [Go.Deep.add_add] at this
        exact this
    haveI : Inhabited (ByteArray × List Int) := ⟨⟨ByteArray.empty, []⟩⟩
    obtain ⟨f, hf⟩ := choose_lt hch
    refine ⟨some a, m, (List.range len).map f, by simpa using hcs, fun hne => ?_, ?_, by simpa using hl, hm'⟩
    · have hpos : 0 < len := by
        rcases Nat.eq_zero_or_pos len with h0 | h0
        · subst h0; exact absurd rfl hne
        · exact h0
      obtain ⟨_, _, h0, _⟩ := hf 0 hpos
      rw [show a.add (0 * 2) = a by unfold Addr.add; simp] at h0
      obtain ⟨ha, hb⟩ := cell_addr h0
      refine ⟨a.block, a.off, by rw [← ha], hb, fun i hi => ?_⟩
      have hi' : i < len := by simpa using hi
      obtain ⟨KA, KC, g0, g1, g2, _⟩ := hf i hi'
      rw [ha, add_addr] at g0 g1
      refine ⟨KA, KC, ?_, ?_, ?_⟩
      · simpa using g0
      · rw [← Nat.add_assoc] at g1
        simpa using g1
      · simpa using g2
    · intro p hp
      rw [List.mem_map] at hp
      obtain ⟨i, hi, rfl⟩ := hp
      obtain ⟨_, _, _, _, _, g⟩ := hf i (by simpa using hi)
      exact g

theorem open_upd {cs : List Value} (h : DataW.trod enc Tryz.prog W 0 (fun _ => true) true n 53 cs = some x) :
    ∃ (u : Upd) (RA : Option Addr) (RC : Nat), cs = [.bool u.del, .string u.rel, .slice RA u.row.length RC] ∧ SlR W.heap.size W RA u.row ∧ u.rel.size ≤ 9223372036854775807 ∧ u.row.length ≤ 9223372036854775807 ∧ BigW u.row := by
  obtain ⟨ys, n', _, _, hlen, hyl, hf⟩ := DataW.trod_struct Tryz.underlying53 h
  rw [cells_TUpd] at hlen
  match cs, hlen with
  | [c0, c1, c2], _ =>
    match ys, hyl with
    | [y0, y1, y2], _ =>
      have h0 := hf 0 _ rfl
      have h1 := hf 1 _ rfl
      have h2 := hf 2 _ rfl
      obtain ⟨a0, e0, _⟩ := DataW.trod_bool (by kernel_rfl) h0
      obtain ⟨a1, e1, _, hz⟩ := DataW.trod_string (by kernel_rfl) h1
      obtain ⟨RA, RC, y, e2, hs, hk, hk2, hbr⟩ := open_row h2
      have q0 : List.take (Tryz.prog.cellsOf 4) (List.drop 0 [c0, c1, c2]) = [.bool a0] := e0
      have q1 : List.take (Tryz.prog.cellsOf 9) (List.drop 1 [c0, c1, c2]) = [.string a1] := e1
      have q2 : List.take (Tryz.prog.cellsOf 42) (List.drop 2 [c0, c1, c2]) = [.slice RA y.length RC] := e2
      rw [show Tryz.prog.cellsOf 4 = 1 by kernel_rfl] at q0
      rw [show Tryz.prog.cellsOf 9 = 1 by kernel_rfl] at q1
      rw [cells_TRow] at q2
      simp at q0 q1 q2
      subst q0 q1 q2
      exact ⟨⟨a0, a1, y⟩, RA, RC, rfl, hs, hz, Nat.le_trans hk hk2, hbr⟩

theorem open_upds {cs : List Value} (h : DataW.trod enc Tryz.prog W 0 (fun _ => true) true n 23 cs = some x) :
    ∃ A C X, cs = [.slice A X.length C] ∧ UpdsM W.heap.size W A X ∧ (∀ u ∈ X, u.rel.size ≤ 9223372036854775807 ∧ u.row.length ≤ 9223372036854775807 ∧ BigW u.row) ∧ X.length ≤ C ∧ C ≤ 9223372036854775807 := by
  rcases open_slice Tryz.underlying23 h with ⟨hcs, _⟩ | ⟨a, len, cap, m, n', D, Pl, hcs, _, hl, hm, hmm, hx, hel⟩
  · exact ⟨none, 0, [], hcs, fun h => absurd rfl h, fun p hp => (by cases hp), Nat.le_refl _, by simp⟩
  · rw [cells_TUpd] at hel
    simp only [if_true] at hmm
    subst hmm
    have hm' : m ≤ 9223372036854775807 := hm
    have hch : ∀ i, i < len → ∃ t : Upd, ∃ RA RC, W.cell? (a.add (i * 3)) = some (.bool t.del) ∧ W.cell? (a.add (i * 3 + 1)) = some (.string t.rel) ∧ W.cell? (a.add (i * 3 + 2)) = some (.slice RA t.row.length RC) ∧ SlR W.heap.size W RA t.row ∧ t.rel.size ≤ 9223372036854775807 ∧ t.row.length ≤ 9223372036854775807 ∧ BigW t.row := by
      intro i hi
      obtain ⟨cs', h1, h2⟩ := hel i (by omega)
      obtain ⟨u, RA, RC, rfl, hs, g⟩ := open_upd h2
      obtain ⟨_, _, h3⟩ := World.cells?_some h1
      refine ⟨u, RA, RC, ?_, ?_, ?_, hs, g⟩
      · have := h3 0 (by omega)
        rw [Go.Deep.add_add] at this
        exact this
      · have := h3 1 (by omega)
        rw [Go.Deep.add_add] at this
        exact this
      · have := h3 2 (by omega)
        rw [Go.Deep.add_add] at this
        exact this
    haveI : Inhabited Upd := ⟨⟨false, ByteArray.empty, []⟩⟩
    obtain ⟨f, hf⟩ := choose_lt hch
    refine ⟨some a, m, (List.range len).map f, by simpa using hcs, fun hne => ?_, ?_, by simpa using hl, hm'⟩
    · have hpos : 0 < len := by
        rcases Nat.eq_zero_or_pos len with h0 | h0
        · subst h0; exact absurd rfl hne
        · exact h0
      obtain ⟨_, _, h0, _⟩ := hf 0 hpos
      rw [show a.add (0 * 3) = a by unfold Addr.add; simp] at h0
      obtain ⟨ha, hb⟩ := cell_addr h0
      refine ⟨a.block, a.off, by rw [← ha], hb, fun i hi => ?_⟩
      have hi' : i < len := by simpa using hi
      obtain ⟨RA, RC, g0, g1, g2, g3, _⟩ := hf i hi'
      rw [ha, add_addr] at g0 g1 g2
      rw [← Nat.add_assoc] at g1 g2
      refine ⟨RA, RC, ?_, ?_, ?_, ?_⟩
      · simpa using g0
      · simpa using g1
      · simpa using g2
      · simpa using g3
    · intro p hp
      rw [List.mem_map] at hp
      obtain ⟨i, hi, rfl⟩ := hp
      obtain ⟨_, _, _, _, _, _, g⟩ := hf i (by simpa using hi)
      exact g

end
end
section
open Go Go.ChangeShapes Go.WideShapes Go.ChangeAt Go.RowKit Go.Joins

theorem wrap_shaped {H : Type} {enc : TypeId × Value → H} {a : Assume} {C : Checked} {os : Os} {f : FuncId} {fn : Func} {s : ChangeSpec} {conds : List PathCond} {apart fresh handsOn again : Bool} {X : World → Array Value → Prop}
    (hX : ∀ (w w' : World) (args : Array Value), w.heap = w'.heap → X w args → X w' args)
    (own : ownKnob C.prog.godebug = none) (started : os.Started) (noInit : C.prog.inits.idxOf? f = none) (hfn : C.prog.funcs[f]? = some fn)
    (witness : ∃ (w : World) (tape : Tape) (i : Input), w.os = os ∧ (w.forCall tape i).Shaped C.prog ∧ i.vars = [] ∧ Input.okWide C.prog (w.forCall tape i) .any w.heap.size f i ∧
      ((s.pre enc C.prog fn conds apart (w.forCall tape i).memory i.args ∧ X (w.forCall tape i).memory i.args) ∧ sizedMet enc C.prog fn (OpenSpec.ofChange s) apart (w.forCall tape i).memory i.args) ∧ a.holds C.prog (lone (Frame.enter C.prog f i.args .normal) [] (w.forCall tape i)))
    (contract : ∀ (W : World) (base : Nat) (args : Array Value) (ds gs : List (DataW H)) (before : List MemPlace),
      (∀ (j : Nat) t v, fn.params[j]? = some t → args[j]? = some v → Value.okWide C.prog W .any base t v) →
      DataW.Whole enc C.prog fn.params.toList s.vars apart W args.toList ds gs before →
      conds.all (PathCond.test C.prog ⟨fn.params.toList, ds, s.plain.varTypes C.prog, gs⟩) = true →
      (DataW.weightsEach C.prog (fn.params.toList ++ s.plain.varTypes C.prog) (ds ++ gs)).all (· ≤ reachBytes) = true → X W args → W.ShapedOpen C.prog →
      a.holds C.prog (lone (Frame.enter C.prog f args .normal) [] W) →
      Calls C.prog f args W fun e W' => ∃ v, e = .returned v ∧ s.post enc C.prog fn apart fresh handsOn again W args v W') :
    ReturnsInHanded a C os f .any (fun w args => (s.pre enc C.prog fn conds apart w args ∧ X w args) ∧ sizedMet enc C.prog fn (OpenSpec.ofChange s) apart w args) (s.post enc C.prog fn apart fresh handsOn again) := by
  refine returnsInHanded_of_calls own started noInit witness ?_
  intro w tape i _ hsh _ hok hpre hholds
  obtain ⟨_, _, _, fn', hfn', _, _, _, _, hval⟩ := hok
  have e : fn' = fn := Option.some.inj (hfn'.symm.trans hfn)
  subst e
  obtain ⟨⟨⟨ds, gs, before, hw, hc⟩, hx⟩, hz⟩ := hpre
  have hw' := DataW.Whole.of_heap (w' := w.forCall tape i) (by rfl) hw
  refine (contract (w.forCall tape i) w.heap.size i.args ds gs before hval hw' hc (hz.weights hw) (hX _ _ _ (by rfl) hx) hsh hholds).mono fun e W' ⟨v, he, hp⟩ => ?_
  subst he
  exact ChangeSpec.post_blind hp

def laidL : List (String × DataW Unit) := [("math/bits.deBruijn32tab", Rows.laid_math_bits_deBruijn32tab), ("math/bits.deBruijn64tab", Rows.laid_math_bits_deBruijn64tab), ("internal/strconv.uint64pow10", Rows.laid_internal_strconv_uint64pow10), ("unicode/utf8.acceptRanges", Rows.laid_unicode_utf8_acceptRanges), ("strconv.ErrRange", Rows.laid_strconv_ErrRange), ("strconv.ErrSyntax", Rows.laid_strconv_ErrSyntax), ("unicode/utf8.first", Rows.laid_unicode_utf8_first)]

theorem laid_plain : (laidL.all fun x => x.2.handleName?.isNone) = true := by kernel_rfl

theorem iface_of_reads {P : Program} {w : World} {n : String} {g : Nat} {t : TypeId} {ms : Array (String × TypeId)} {nm : String} {d : DataW Unit} (h : Lib.VarReads P w n (.iface nm d)) (hg : P.globalNamed n = some g) (ht : (P.globals[g]?).map (·.type) = some t) (hu : P.underlying t = some (.interface ms)) :
    ∃ u v, w.cell? ⟨g, 0, none⟩ = some (.iface u v) := by
  obtain ⟨g', t', cs, fuel, p, h1, h2, h3, h4⟩ := h
  obtain rfl := Option.some.inj (hg.symm.trans h1)
  obtain rfl := Option.some.inj (ht.symm.trans h2)
  cases fuel with
  | zero => simp [DataW.trod] at h4
  | succ fuel =>
    have h0 : w.cell? ⟨g, 0, none⟩ = cs[0]? := by simpa using World.var?_cell hg h3 0
    obtain ⟨l⟩ := cs
    simp only [DataW.trod, hu] at h4
    split at h4 <;> simp_all

open Go.ChangeMaps in
theorem tabs_of {W : World} (h : laidMetH Tryz.prog laidL W) (hsh : W.ShapedOpen Tryz.prog) : Tabs W where
  pow := by
    rw [Go.MakeChecks.laidMetH_plain _ _ _ laid_plain] at h
    obtain ⟨g, t, cs, fuel, p, h1, h2, h3, h4⟩ := Lib.laidMet.reads h (n := "internal/strconv.uint64pow10") (d := Rows.laid_internal_strconv_uint64pow10) (by simp [laidL])
    obtain rfl := Option.some.inj (h1.symm.trans (show Tryz.prog.globalNamed "internal/strconv.uint64pow10" = some 1 by kernel_rfl))
    obtain rfl := Option.some.inj (h2.symm.trans (show (Tryz.prog.globals[1]?).map (·.type) = some 186 by kernel_rfl))
    unfold Lib.TabIs
    rw [h3, ← Lib.cells_of_tab (k := .u64) (n := 20) (e := 167) (zs := Lib.pow10Tab) Tryz.underlying186 (by kernel_rfl) (by kernel_rfl) (by kernel_rfl) (show DataW.trod (fun _ => ()) Tryz.prog W 0 (fun _ => true) false fuel 186 cs.toList = some (Lib.tabData .u64 Lib.pow10Tab, p) from h4.trans (congrArg (fun d => some (d, p)) (show Rows.laid_internal_strconv_uint64pow10 = Lib.tabData .u64 Lib.pow10Tab by kernel_rfl)))]
  maxl := by
    have := Go.Proofs.cell_of_shapedOpen_int (g := 0) (zero := #[.int .i64 0]) (t := 3) (k := .i64) hsh (of_decide_eq_true (by kernel_rfl)) (by kernel_rfl) rfl (by kernel_rfl) (by kernel_rfl) Tryz.underlying3
    exact this
  maxs := by
    have := Go.Proofs.cell_of_shapedOpen_int (g := 0) (zero := #[.int .i64 0]) (t := 3) (k := .i64) hsh (of_decide_eq_true (by kernel_rfl)) (by kernel_rfl) rfl (by kernel_rfl) (by kernel_rfl) Tryz.underlying3
    exact this
  rng := by
    rw [Go.MakeChecks.laidMetH_plain _ _ _ laid_plain] at h
    obtain ⟨u, v, hc⟩ := iface_of_reads (g := 7) (t := 91) (Lib.laidMet.reads h (n := "strconv.ErrRange") (d := Rows.laid_strconv_ErrRange) (by simp [laidL])) (by kernel_rfl) (by kernel_rfl) Tryz.underlying91
    exact ⟨_, hc, .inr ⟨u, v, rfl⟩⟩
end
end Go.Proofs.YtdadchpiibipoaaGreatDoor

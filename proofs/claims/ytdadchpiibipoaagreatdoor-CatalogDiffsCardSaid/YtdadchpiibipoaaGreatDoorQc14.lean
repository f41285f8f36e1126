/- Parts of the proof, merged: C51, C53, C56, C61. -/
import Derived.Test.YtdadchpiibipoaaGreatDoorQc13
import Derived.Test.YtdadchpiibipoaaGreatDoorQc12
import Derived.Test.YtdadchpiibipoaaGreatDoorQc7
import Derived.Test.YtdadchpiibipoaaGreatDoorQc6
import Derived.Test.YtdadchpiibipoaaGreatDoorQc5

set_option maxRecDepth 100000
namespace Go.Proofs.YtdadchpiibipoaaGreatDoor
section
open Go.RowKit Go.Sort Go.ChangeMaps Go.WideShapes

structure RowCs (B : Nat) (w : World) (X : List RL.R) (hs : List Value) : Prop where
  len : hs.length = X.length
  one : ∀ u ∈ hs, u.oneCell' = true
  at_ : ∀ i (h : i < X.length), ∃ RA RC, hs[i]? = some (.slice RA X[i].length RC) ∧ SlR B w RA X[i]
section
variable {B : Nat} {w w' : World} {X Y : List RL.R} {hs ks : List Value}
theorem RowCs.nil : RowCs B w [] [] := ⟨rfl, fun u hu => (by cases hu), fun i hi => absurd hi (Nat.not_lt_zero _)⟩
theorem RowCs.one1 {x : RL.R} {RA : Option Addr} {RC : Nat} (h : SlR B w RA x) : RowCs B w [x] [.slice RA x.length RC] := by
  refine ⟨rfl, fun u hu => by rw [List.mem_singleton.1 hu]; rfl, fun i hi => ?_⟩
  obtain rfl : i = 0 := by simpa using hi
  exact ⟨RA, RC, rfl, h⟩
theorem RowCs.append (h : RowCs B w X hs) (k : RowCs B w Y ks) : RowCs B w (X ++ Y) (hs ++ ks) := by
  refine ⟨by rw [List.length_append, List.length_append, h.len, k.len], fun u hu => ?_, fun i hi => ?_⟩
  · rcases List.mem_append.1 hu with hu | hu
    · exact h.one u hu
    · exact k.one u hu
  · have hl := h.len
    by_cases hlt : i < X.length
    · obtain ⟨RA, RC, a, b⟩ := h.at_ i hlt
      refine ⟨RA, RC, ?_, ?_⟩
      · rw [List.getElem?_append_left (by omega), List.getElem_append_left hlt]; exact a
      · rw [List.getElem_append_left hlt]; exact b
    · rw [List.length_append] at hi
      obtain ⟨RA, RC, a, b⟩ := k.at_ (i - X.length) (by omega)
      refine ⟨RA, RC, ?_, ?_⟩
      · rw [List.getElem?_append_right (by omega), List.getElem_append_right (by omega), hl]; exact a
      · rw [List.getElem_append_right (by omega)]; exact b
theorem RowCs.take (h : RowCs B w X hs) (n : Nat) : RowCs B w (X.take n) (hs.take n) := by
  refine ⟨by rw [List.length_take, List.length_take, h.len], fun u hu => h.one u (List.mem_of_mem_take hu), fun i hi => ?_⟩
  rw [List.length_take] at hi
  obtain ⟨RA, RC, a, b⟩ := h.at_ i (by omega)
  exact ⟨RA, RC, by rw [List.getElem?_take_of_lt (by omega), List.getElem_take]; exact a, by rw [List.getElem_take]; exact b⟩
theorem RowCs.drop (h : RowCs B w X hs) (n : Nat) : RowCs B w (X.drop n) (hs.drop n) := by
  refine ⟨by rw [List.length_drop, List.length_drop, h.len], fun u hu => h.one u (List.mem_of_mem_drop hu), fun i hi => ?_⟩
  rw [List.length_drop] at hi
  obtain ⟨RA, RC, a, b⟩ := h.at_ (n + i) (by omega)
  exact ⟨RA, RC, by rw [List.getElem?_drop, List.getElem_drop]; exact a, by rw [List.getElem_drop]; exact b⟩
end

def contR (X : List RL.R) (x : RL.R) (j : Nat) : Bool := match X[j]? with
  | some a => decide (RL.cmpR a x < 0)
  | none => false
theorem contR_end {X : List RL.R} {x : RL.R} {j : Nat} (h : ¬ j < X.length) : contR X x j = false := by
  unfold contR; rw [List.getElem?_eq_none (by omega)]
theorem contR_at {X : List RL.R} {x : RL.R} {j : Nat} (h : j < X.length) : contR X x j = decide (RL.cmpR X[j] x < 0) := by
  unfold contR; rw [List.getElem?_eq_getElem h]
theorem ss_ins {X : List RL.R} (h : RL.SS X) {x : RL.R} (hn : x ∉ X) {j : Nat} (hlt : ∀ t (ht : t < X.length), t < j → RL.cmpR X[t] x < 0) (hge : contR X x j = false) : RL.SS (X.take j ++ [x] ++ X.drop j) := by
  have hbig : ∀ t (ht : t < X.length), j ≤ t → RL.cmpR x X[t] < 0 := fun t ht hjt => by
    have hj : j < X.length := by omega
    rw [contR_at hj] at hge
    have hge := of_decide_eq_false hge
    have hne : RL.cmpR X[j] x ≠ 0 := fun e => hn (by
      rw [← (RL.tot_cmpR.z _ _).1 e]
      exact List.getElem_mem hj)
    have hlt2 : RL.cmpR x X[j] < 0 := by have := RL.tot_cmpR.sw X[j] x; omega
    rcases Nat.lt_or_ge j t with h3 | h3
    · exact RL.tot_cmpR.tr _ _ _ hlt2 (List.pairwise_iff_getElem.1 h j t hj ht h3)
    · obtain rfl : t = j := by omega
      exact hlt2
  have hsm : ∀ a ∈ X.take j, RL.cmpR a x < 0 := fun a ha => by
    obtain ⟨t, ht, rfl⟩ := List.getElem_of_mem ha
    rw [List.length_take] at ht
    rw [List.getElem_take]
    exact hlt t (by omega) (by omega)
  have hbg : ∀ b ∈ X.drop j, RL.cmpR x b < 0 := fun b hb => by
    obtain ⟨t, ht, rfl⟩ := List.getElem_of_mem hb
    rw [List.length_drop] at ht
    rw [List.getElem_drop]
    exact hbig (j + t) (by omega) (by omega)
  show List.Pairwise _ _
  rw [List.append_assoc, List.pairwise_append]
  refine ⟨List.Pairwise.sublist (List.take_sublist _ _) h, ?_, fun a ha b hb => ?_⟩
  · rw [List.singleton_append, List.pairwise_cons]
    exact ⟨hbg, List.Pairwise.sublist (List.drop_sublist _ _) h⟩
  · rw [List.singleton_append] at hb
    rcases List.mem_cons.1 hb with rfl | hb
    · exact hsm a ha
    · exact RL.tot_cmpR.tr _ _ _ (hsm a ha) (hbg b hb)
def RowsIn (Fs : List Fact) (nm : ByteArray) (X : List RL.R) : Prop := RL.SS X ∧ ∀ x, x ∈ X ↔ (nm, x) ∈ Fs
theorem RowsIn.eq {F : Cont} {Fs : List Fact} (h : RelF F Fs) {nm : ByteArray} {X : List RL.R} (k : RowsIn Fs nm X) : X = F nm :=
  RL.SS.ext k.1 (h.2.1 nm) fun x => (k.2 x).trans (h.2.2 nm x).symm
theorem RowsIn.skip {Fs : List Fact} {nm : ByteArray} {X : List RL.R} {f : Fact} (k : RowsIn Fs nm X) (h : f.1 ≠ nm) : RowsIn (Fs ++ [f]) nm X :=
  ⟨k.1, fun x => by
    rw [k.2 x, List.mem_append, List.mem_singleton]
    exact ⟨Or.inl, fun e => e.elim id fun e => absurd (by rw [← e]) h⟩⟩
theorem RowsIn.ins {Fs : List Fact} {nm : ByteArray} {X : List RL.R} {x : RL.R} (k : RowsIn Fs nm X) (hn : (nm, x) ∉ Fs) {j : Nat} (hlt : ∀ t (ht : t < X.length), t < j → RL.cmpR X[t] x < 0) (hge : contR X x j = false) : RowsIn (Fs ++ [(nm, x)]) nm (X.take j ++ [x] ++ X.drop j) := by
  refine ⟨ss_ins k.1 (fun h => hn ((k.2 x).1 h)) hlt hge, fun y => ?_⟩
  have e : y ∈ X ↔ y ∈ X.take j ∨ y ∈ X.drop j := by rw [← List.mem_append, List.take_append_drop]
  rw [List.mem_append, List.mem_append, List.mem_singleton, List.mem_append, List.mem_singleton, ← k.2 y, e]
  constructor
  · rintro ((h | h) | h)
    · exact .inl (.inl h)
    · exact .inr (by rw [h])
    · exact .inl (.inr h)
  · rintro ((h | h) | h)
    · exact .inl (.inl h)
    · exact .inr h
    · injection h with h1 h2; exact .inl (.inr h2)

set_option maxHeartbeats 8000000 in
theorem r08Rows_at (B : Nat) (sv : Value) (FA : Option Addr) (FC : Nat) (F : Cont) (Fs : List Fact) (nm : ByteArray) (w : World) (hR : RelF F Fs) (hB : B ≤ w.heap.size) (hF : FactsM B w FA Fs) (hFl : Fs.length ≤ 1000) (hFr : ∀ f ∈ Fs, f.2.length ≤ 1000000) :
    Calls Tryz.prog 15 #[.agg #[sv, .slice FA Fs.length FC], .string nm] w fun e w' => ∃ A C, e = .returned (.slice A (F nm).length C) ∧ ∃ hs : List Value, RowCs B w (F nm) hs ∧ w'.ownsRow (w.heap.size + 1) 42 1 (.slice A (F nm).length C) (F nm).length hs ∧ Below w.heap.size w w' := by
  obtain ⟨W0, hW0⟩ : ∃ W, W = w.alloc (.cells #[sv, .slice FA Fs.length FC] 31) := ⟨_, rfl⟩
  have hx0 : Ext w W0 := by rw [hW0]; exact (Ext.refl w).alloc _
  have HR0 : Hid (Row W0 w.heap.size 31 [sv, .slice FA Fs.length FC]) := by show Row _ _ _ _; rw [hW0]; exact Row.new w _ _
  have HB0 := Lib.hid hx0.below
  have HZ0 : Hid (W0.heap.size = w.heap.size + 1) := by show _ = _; rw [hW0]; simp
  have HREL := Lib.hid hR
  have HBL : Hid (B ≤ w.heap.size) := hB
  have HFM := Lib.hid hF
  have HFR := Lib.hid hFr
  obtain ⟨g, hg⟩ : ∃ g, g = w.heap.size := ⟨_, rfl⟩
  have HG : Hid (g = w.heap.size) := hg
  rw [← hg] at HR0
  clear hF hx0 hR hFr hB
  go_enter Tryz.func15, Tryz.ntmps15
  go_upto_region 1 with (fail)
  rw [← hW0, ← hg]
  clear hW0 hg
  go_wp2_with fail
  go_loopw [5, 6] (fun v i wx => ∃ (k : Nat) (X : List RL.R) (hs : List Value), k ≤ Fs.length ∧ i = .int .i64 k ∧ wx.ownsRow (g + 1) 42 1 v X.length hs ∧ RowCs B w X hs ∧ RowsIn (Fs.take k) nm X ∧ (∀ x ∈ X, x.length ≤ 1000000) ∧ X.length ≤ k ∧ Below (g + 1) W0 wx) (fun _ i _ => Fs.length - (intOf i).toNat)
  case atStart => exact ⟨0, [], [], Nat.zero_le _, rfl, own_nil _ _ _ _, RowCs.nil, ⟨List.Pairwise.nil, fun x => by simp⟩, fun x hx => (by cases hx), Nat.zero_le _, Below.refl _ _⟩
  case round =>
    obtain ⟨k, X, hs, hk, rfl, hown, hcs, hin, hxl, hxk, hbr⟩ := hrel
    obtain ⟨wo, hwo⟩ : ∃ wo, wo = wr := ⟨_, rfl⟩
    subst hwo
    obtain ⟨VA, VC, rfl, hvc, hsl⟩ := Sl.of_own_n hown
    have HO := Lib.hid hown
    have HCS := Lib.hid hcs
    have HIN := Lib.hid hin
    have HXL := Lib.hid hxl
    have HBR := Lib.hid hbr
    have HSL := Lib.hid hsl
    have HR := Lib.hid (HR0.out.below hbr (Nat.lt_succ_self _))
    have HHL : Hid (hs.length = X.length) := hcs.len
    have c0 : wo.cell? ⟨g, 1, none⟩ = some (.slice FA Fs.length FC) := HR.out.cell 1
    have z0 := HR.out.lt
    clear hown hcs hin hxl hbr hsl
    by_cases hkl : k < Fs.length
    · obtain ⟨ab, ao, rfl, hab, hac⟩ := HFM.out (by intro h0; rw [h0] at hkl; simp at hkl)
      obtain ⟨RA, RC, d0, d1, hrow⟩ := hac k hkl
      have hab := Nat.lt_of_lt_of_le hab HBL.out
      have HBW : Hid (Below w.heap.size w wo) := HB0.out.trans (HBR.out.mono (by have := HG.out; omega))
      have HD0 := Lib.hid d0
      have HD1 := Lib.hid d1
      have HROW := Lib.hid hrow
      have HDK : Hid (∀ V, Below (g + 1) W0 V → V.cell? ⟨g, 1, none⟩ = some (.slice (some ⟨ab, ao, none⟩) Fs.length FC) ∧ V.cell? ⟨ab, ao + k * 2 + 1, none⟩ = some (.slice RA Fs[k].2.length RC) ∧ g < V.heap.size ∧ ab < V.heap.size) := fun V hb => by
        have hbw : Below w.heap.size w V := HB0.out.trans (hb.mono (by have := HG.out; omega))
        have hr := HR0.out.below hb (Nat.lt_succ_self _)
        exact ⟨hr.cell 1, cell_below hbw HD1.out, hr.lt, Nat.lt_of_lt_of_le hab hbw.size⟩
      have d0 := cell_below HBW.out d0
      have d1 := cell_below HBW.out d1
      have hab2 : ab < wo.heap.size := Nat.lt_of_lt_of_le hab HBW.out.size
      have HRL : Hid (Fs[k].2.length ≤ 1000000) := HFR.out _ (List.getElem_mem hkl)
      have HTK : Hid (Fs.take (k + 1) = Fs.take k ++ [(Fs[k].1, Fs[k].2)]) := List.take_succ_eq_append_getElem hkl
      have HNI : Hid ((Fs[k].1, Fs[k].2) ∉ Fs.take k) := by
        have h3 := HREL.out.1
        rw [← List.take_append_drop (k + 1) Fs, List.take_succ_eq_append_getElem hkl, List.append_assoc, List.nodup_append] at h3
        intro hm
        exact h3.2.2 _ hm _ (List.mem_append_left _ (List.mem_singleton.2 rfl)) rfl
      have hse := strEq_str Fs[k].1 nm
      clear hac hrow HD0
      generalize Fs[k].1 = sn at d0 hse HTK HNI
      generalize Fs[k].2 = x at d1 HDK HROW HRL HTK HNI HD1
      have g1 : (0 : Int) ≤ (k : Int) := by omega
      have g2 : (k : Int) < (Fs.length : Int) := by omega
      have hw1 : IntKind.i64.wrap ((k : Int) + 1) = ((k + 1 : Nat) : Int) := by rw [IntWalk.i64_in _ (by omega)]; omega
      by_cases hsn : sn = nm
      rotate_left
      · rw [decide_eq_false hsn] at hse
        have HIN2 : Hid (RowsIn (Fs.take (k + 1)) nm X) := by show RowsIn _ _ _; rw [HTK.out]; exact HIN.out.skip hsn
        have HKL := Lib.hid hkl
        have HXK := Lib.hid hxk
        clear hsn
        go_wp2_with fail
        go_roundw
        case rel => exact ⟨k + 1, X, hs, HKL.out, by go_num, HO.out, HCS.out, HIN2.out, HXL.out, Nat.le_succ_of_le HXK.out, HBR.out⟩
        case measure => have := HKL.out; simp [intOf]; omega
      subst hsn
      rw [decide_eq_true rfl] at hse
      have HSE := Lib.hid hse
      have HKL := Lib.hid hkl
      go_wp2_with fail
      clear hse
      go_loopw [7] (fun c wx => ∃ j : Nat, j ≤ X.length ∧ c = .int .i64 j ∧ (∀ t (ht : t < X.length), t < j → RL.cmpR X[t] x < 0) ∧ Ext wo wx) (fun c _ => X.length - (intOf c).toNat)
      case atStart => exact ⟨0, Nat.zero_le _, rfl, fun t _ ht => absurd ht (Nat.not_lt_zero _), Ext.refl _⟩
      case round =>
        obtain ⟨j, hj, rfl, hall, hx⟩ := hrel
        have HALL := Lib.hid hall
        have HX := Lib.hid hx
        have hzz := hx.size
        have c0 := (hx.cell z0).trans c0
        have d1 := (hx.cell hab2).trans d1
        clear hall hx
        go_upto_region 7 with (fail)
        go_cut [40] from 24 to 40 (fun q wx => q = .bool (contR X x j) ∧ Ext wr wx)
        case first =>
          by_cases hjl : j < X.length
          · obtain ⟨vb, vo, rfl, hvb, e0⟩ := HSL.out.at_ (k := j) (by rw [HHL.out]; exact hjl)
            obtain ⟨YA, YC, y0, hy⟩ := HCS.out.at_ j hjl
            have e1 : hs[j]'(by rw [HHL.out]; exact hjl) = .slice YA X[j].length YC := (List.getElem?_eq_some_iff.1 y0).2
            rw [e1] at e0
            have e0 := (HX.out.cell hvb).trans e0
            have hq := contR_at (x := x) hjl
            have HQ := Lib.hid hq
            have HLS : Hid (∀ V, Ext wr V → Calls Tryz.prog 40 #[.slice YA X[j].length YC, .slice RA x.length RC] V fun e w' => e = .returned (.bool (decide (RL.cmpR X[j] x < 0))) ∧ Ext V w') := fun V hv => by
              have hbw : Below w.heap.size w V := HBW.out.trans (((HX.out.trans hv).below).mono HBW.out.size)
              exact r08Less_any YA RA YC RC X[j] x V (Sl.more (Sl.below hy hbw HBL.out) (Nat.le_trans HBL.out hbw.size)) (Sl.more (Sl.below HROW.out hbw HBL.out) (Nat.le_trans HBL.out hbw.size)) (HXL.out _ (List.getElem_mem hjl)) HRL.out
            have p0 : (0 : Int) ≤ (j : Int) := by omega
            have p1 : (j : Int) < (X.length : Int) := by omega
            have p2 : vb < wr.heap.size := by omega
            have p3 : ab < wr.heap.size := by omega
            have p4 : g < wr.heap.size := by omega
            have p5 : decide ((j : Int) < (X.length : Int)) = true := decide_eq_true p1
            clear hq hy y0 e1
            generalize X[j] = a at e0 HQ HLS
            refine wp_region_held_drew (S := (fun w' => w'.cell? ⟨g, 1, none⟩ = some (.slice (some ⟨ab, ao, none⟩) Fs.length FC) ∧ w'.cell? ⟨ab, ao + k * 2 + 1, none⟩ = some (.slice RA x.length RC) ∧ w'.cell? ⟨vb, vo + j, none⟩ = some (.slice YA a.length YC))) (by kernel_rfl) ⟨c0, d1, e0⟩ (fun hHeld => ?_)
            refine takeOp (i := 0) (v := ?_) (some 24) rfl rfl (by kernel_rfl) (by kernel_rfl) (by kernel_rfl) (fun _ _ _ h => h) (Or.inl ⟨by rfl, ?_⟩) (by assumption) ?_
            rotate_left 1
            · (intro w0 hSw; (try dsimp only at hSw); go_simp; try (with_reducible rfl))
            try simp only [Act.put, List.setIfInBounds_toArray, List.set_cons_succ, List.set_cons_zero]
            refine takeOp (i := 1) (v := ?_) (some 25) rfl rfl (by kernel_rfl) (by kernel_rfl) (by kernel_rfl) (fun _ _ _ h => h) (Or.inl ⟨by rfl, ?_⟩) (by assumption) ?_
            rotate_left 1
            · (intro w0 hSw; (try dsimp only at hSw); go_simp; try (with_reducible rfl))
            try simp only [Act.put, List.setIfInBounds_toArray, List.set_cons_succ, List.set_cons_zero]
            refine takeOp (i := 2) (v := ?_) (some 26) rfl rfl (by kernel_rfl) (by kernel_rfl) (by kernel_rfl) (fun _ _ _ h => h) (Or.inl ⟨by rfl, ?_⟩) (by assumption) ?_
            rotate_left 1
            · (intro w0 hSw; (try dsimp only at hSw); go_simp; try (with_reducible rfl))
            try simp only [Act.put, List.setIfInBounds_toArray, List.set_cons_succ, List.set_cons_zero]
            refine takeOp (i := 3) (v := ?_) (some 27) rfl rfl (by kernel_rfl) (by kernel_rfl) (by kernel_rfl) (fun _ _ _ h => h) (Or.inl ⟨by rfl, ?_⟩) (by assumption) ?_
            rotate_left 1
            · (intro w0 hSw; (try dsimp only at hSw); go_simp; try (with_reducible rfl))
            try simp only [Act.put, List.setIfInBounds_toArray, List.set_cons_succ, List.set_cons_zero]
            refine takeOp (i := 4) (v := ?_) (some 28) rfl rfl (by kernel_rfl) (by kernel_rfl) (by kernel_rfl) (fun _ _ _ h => h) (Or.inl ⟨by rfl, ?_⟩) (by assumption) ?_
            rotate_left 1
            · (intro w0 hSw; (try dsimp only at hSw); go_simp; try (with_reducible rfl))
            try simp only [Act.put, List.setIfInBounds_toArray, List.set_cons_succ, List.set_cons_zero]
            refine takeOp (i := 5) (v := ?_) (some 29) rfl rfl (by kernel_rfl) (by kernel_rfl) (by kernel_rfl) (fun _ _ _ h => h) (Or.inl ⟨by rfl, ?_⟩) (by assumption) ?_
            rotate_left 1
            · (intro w0 hSw; (try dsimp only at hSw); go_simp; try (with_reducible rfl))
            try simp only [Act.put, List.setIfInBounds_toArray, List.set_cons_succ, List.set_cons_zero]
            refine takeOp (i := 6) (v := ?_) (some 30) rfl rfl (by kernel_rfl) (by kernel_rfl) (by kernel_rfl) (fun _ _ _ h => h) (Or.inl ⟨by rfl, ?_⟩) (by assumption) ?_
            rotate_left 1
            · (intro w0 hSw; (try dsimp only at hSw); go_simp; try (with_reducible rfl))
            try simp only [Act.put, List.setIfInBounds_toArray, List.set_cons_succ, List.set_cons_zero]
            refine takeOp (i := 7) (v := ?_) (some 31) rfl rfl (by kernel_rfl) (by kernel_rfl) (by kernel_rfl) (fun _ _ _ h => h) (Or.inl ⟨by rfl, ?_⟩) (by assumption) ?_
            rotate_left 1
            · (intro w0 hSw; (try dsimp only at hSw); go_simp; try (with_reducible rfl))
            try simp only [Act.put, List.setIfInBounds_toArray, List.set_cons_succ, List.set_cons_zero]
            refine takeOp (i := 8) (v := ?_) (some 32) rfl rfl (by kernel_rfl) (by kernel_rfl) (by kernel_rfl) (fun _ _ _ h => h) (Or.inl ⟨by rfl, ?_⟩) (by assumption) ?_
            rotate_left 1
            · (intro w0 hSw; (try dsimp only at hSw); go_simp; try (with_reducible rfl))
            try simp only [Act.put, List.setIfInBounds_toArray, List.set_cons_succ, List.set_cons_zero]
            refine takeOp (i := 9) (v := ?_) (some 33) rfl rfl (by kernel_rfl) (by kernel_rfl) (by kernel_rfl) (fun _ _ _ h => h) (Or.inl ⟨by rfl, ?_⟩) (by assumption) ?_
            rotate_left 1
            · (intro w0 hSw; (try dsimp only at hSw); go_simp; try (with_reducible rfl))
            try simp only [Act.put, List.setIfInBounds_toArray, List.set_cons_succ, List.set_cons_zero]
            refine takeOp (i := 10) (v := ?_) (some 34) rfl rfl (by kernel_rfl) (by kernel_rfl) (by kernel_rfl) (fun _ _ _ h => h) (Or.inl ⟨by rfl, ?_⟩) (by assumption) ?_
            rotate_left 1
            · (intro w0 hSw; (try dsimp only at hSw); go_simp; try (with_reducible rfl))
            try simp only [Act.put, List.setIfInBounds_toArray, List.set_cons_succ, List.set_cons_zero]
            refine takeOp (i := 11) (v := ?_) (some 35) rfl rfl (by kernel_rfl) (by kernel_rfl) (by kernel_rfl) (fun _ _ _ h => h) (Or.inl ⟨by rfl, ?_⟩) (by assumption) ?_
            rotate_left 1
            · (intro w0 hSw; (try dsimp only at hSw); go_simp; try (with_reducible rfl))
            try simp only [Act.put, List.setIfInBounds_toArray, List.set_cons_succ, List.set_cons_zero]
            refine takeOp (i := 12) (v := ?_) (some 36) rfl rfl (by kernel_rfl) (by kernel_rfl) (by kernel_rfl) (fun _ _ _ h => h) (Or.inl ⟨by rfl, ?_⟩) (by assumption) ?_
            rotate_left 1
            · (intro w0 hSw; (try dsimp only at hSw); go_simp; try (with_reducible rfl))
            try simp only [Act.put, List.setIfInBounds_toArray, List.set_cons_succ, List.set_cons_zero]
            refine takeOp (i := 13) (v := ?_) (some 37) rfl rfl (by kernel_rfl) (by kernel_rfl) (by kernel_rfl) (fun _ _ _ h => h) (Or.inl ⟨by rfl, ?_⟩) (by assumption) ?_
            rotate_left 1
            · (intro w0 hSw; (try dsimp only at hSw); go_simp; try (with_reducible rfl))
            try simp only [Act.put, List.setIfInBounds_toArray, List.set_cons_succ, List.set_cons_zero]
            refine takeOp (i := 14) (v := ?_) (some 38) rfl rfl (by kernel_rfl) (by kernel_rfl) (by kernel_rfl) (fun _ _ _ h => h) (Or.inl ⟨by rfl, ?_⟩) (by assumption) ?_
            rotate_left 1
            · (intro w0 hSw; (try dsimp only at hSw); go_simp; try (with_reducible rfl))
            try simp only [Act.put, List.setIfInBounds_toArray, List.set_cons_succ, List.set_cons_zero]
            refine wpAnyH_ready (rs := [15]) (by kernel_rfl) (by simp) ?_
            refine AllReadyH.cons rfl (fun K hK => ?_) AllReadyH.nil
            go_simp
            refine (HLS.out wr.drew (Ext.refl _).drew).mono ?_
            rintro e V ⟨rfl, hxV⟩
            have hxV : Ext wr V := (Ext.refl wr).drew.trans hxV
            have HKK : Hid (V.cell? ⟨g, 1, none⟩ = some (.slice (some ⟨ab, ao, none⟩) Fs.length FC) ∧ V.cell? ⟨ab, ao + k * 2 + 1, none⟩ = some (.slice RA x.length RC) ∧ V.cell? ⟨vb, vo + j, none⟩ = some (.slice YA a.length YC)) := ⟨(hxV.cell p4).trans c0, (hxV.cell p3).trans d1, (hxV.cell p2).trans e0⟩
            have HXV := Lib.hid hxV
            clear hxV
            go_wp2_with fail
            refine hK.out _ _ HKK.out (fun hHeld => ?_)
            clear hK K
            try simp only [Act.put, List.setIfInBounds_toArray, List.set_cons_succ, List.set_cons_zero]
            refine takeOp (i := 16) (v := ?_) (some 40) rfl rfl (by kernel_rfl) (by kernel_rfl) (by kernel_rfl) (fun _ _ _ h => h) (Or.inl ⟨by rfl, ?_⟩) (by assumption) ?_
            rotate_left 1
            · (intro w0 hSw; (try dsimp only at hSw); go_simp; try (with_reducible rfl))
            try simp only [Act.put, List.setIfInBounds_toArray, List.set_cons_succ, List.set_cons_zero]
            refine wpAnyH_done (by kernel_rfl) ?_ _
            go_wp2_with fail
            go_meet
            case rel => exact ⟨by rw [HQ.out], HXV.out⟩
          · have HQ := Lib.hid (contR_end (x := x) hjl)
            have p1 : ¬ (j : Int) < (X.length : Int) := by omega
            have p5 : decide ((j : Int) < (X.length : Int)) = false := decide_eq_false p1
            refine wp_region_held_drew (S := (fun _ => True)) (by kernel_rfl) trivial (fun hHeld => ?_)
            refine takeOp (i := 0) (v := ?_) (some 24) rfl rfl (by kernel_rfl) (by kernel_rfl) (by kernel_rfl) (fun _ _ _ h => h) (Or.inl ⟨by rfl, ?_⟩) (by assumption) ?_
            rotate_left 1
            · (intro w0 hSw; (try dsimp only at hSw); go_simp; try (with_reducible rfl))
            try simp only [Act.put, List.setIfInBounds_toArray, List.set_cons_succ, List.set_cons_zero]
            refine takeOp (i := 1) (v := ?_) (some 25) rfl rfl (by kernel_rfl) (by kernel_rfl) (by kernel_rfl) (fun _ _ _ h => h) (Or.inl ⟨by rfl, ?_⟩) (by assumption) ?_
            rotate_left 1
            · (intro w0 hSw; (try dsimp only at hSw); go_simp; try (with_reducible rfl))
            try simp only [Act.put, List.setIfInBounds_toArray, List.set_cons_succ, List.set_cons_zero]
            refine takeOp (i := 2) (v := ?_) (some 26) rfl rfl (by kernel_rfl) (by kernel_rfl) (by kernel_rfl) (fun _ _ _ h => h) (Or.inl ⟨by rfl, ?_⟩) (by assumption) ?_
            rotate_left 1
            · (intro w0 hSw; (try dsimp only at hSw); go_simp; try (with_reducible rfl))
            try simp only [Act.put, List.setIfInBounds_toArray, List.set_cons_succ, List.set_cons_zero]
            refine takeOp (i := 3) (v := ?_) (some 27) rfl rfl (by kernel_rfl) (by kernel_rfl) (by kernel_rfl) (fun _ _ _ h => h) (Or.inl ⟨by rfl, ?_⟩) (by assumption) ?_
            rotate_left 1
            · (intro w0 hSw; (try dsimp only at hSw); go_simp; try (with_reducible rfl))
            try simp only [Act.put, List.setIfInBounds_toArray, List.set_cons_succ, List.set_cons_zero]
            refine takeOp (i := 4) (v := ?_) (some 28) rfl rfl (by kernel_rfl) (by kernel_rfl) (by kernel_rfl) (fun _ _ _ h => h) (Or.inl ⟨by rfl, ?_⟩) (by assumption) ?_
            rotate_left 1
            · (intro w0 hSw; (try dsimp only at hSw); go_simp; try (with_reducible rfl))
            try simp only [Act.put, List.setIfInBounds_toArray, List.set_cons_succ, List.set_cons_zero]
            refine takeOp (i := 5) (v := undef) (some 29) rfl rfl (by kernel_rfl) (by kernel_rfl) (by kernel_rfl) (fun _ _ _ h => h) (Or.inr ⟨by rfl, rfl⟩) (by assumption) ?_
            try simp only [Act.put, List.setIfInBounds_toArray, List.set_cons_succ, List.set_cons_zero]
            refine takeOp (i := 6) (v := undef) (some 30) rfl rfl (by kernel_rfl) (by kernel_rfl) (by kernel_rfl) (fun _ _ _ h => h) (Or.inr ⟨by rfl, rfl⟩) (by assumption) ?_
            try simp only [Act.put, List.setIfInBounds_toArray, List.set_cons_succ, List.set_cons_zero]
            refine takeOp (i := 7) (v := undef) (some 31) rfl rfl (by kernel_rfl) (by kernel_rfl) (by kernel_rfl) (fun _ _ _ h => h) (Or.inr ⟨by rfl, rfl⟩) (by assumption) ?_
            try simp only [Act.put, List.setIfInBounds_toArray, List.set_cons_succ, List.set_cons_zero]
            refine takeOp (i := 8) (v := undef) (some 32) rfl rfl (by kernel_rfl) (by kernel_rfl) (by kernel_rfl) (fun _ _ _ h => h) (Or.inr ⟨by rfl, rfl⟩) (by assumption) ?_
            try simp only [Act.put, List.setIfInBounds_toArray, List.set_cons_succ, List.set_cons_zero]
            refine takeOp (i := 9) (v := undef) (some 33) rfl rfl (by kernel_rfl) (by kernel_rfl) (by kernel_rfl) (fun _ _ _ h => h) (Or.inr ⟨by rfl, rfl⟩) (by assumption) ?_
            try simp only [Act.put, List.setIfInBounds_toArray, List.set_cons_succ, List.set_cons_zero]
            refine takeOp (i := 10) (v := undef) (some 34) rfl rfl (by kernel_rfl) (by kernel_rfl) (by kernel_rfl) (fun _ _ _ h => h) (Or.inr ⟨by rfl, rfl⟩) (by assumption) ?_
            try simp only [Act.put, List.setIfInBounds_toArray, List.set_cons_succ, List.set_cons_zero]
            refine takeOp (i := 11) (v := undef) (some 35) rfl rfl (by kernel_rfl) (by kernel_rfl) (by kernel_rfl) (fun _ _ _ h => h) (Or.inr ⟨by rfl, rfl⟩) (by assumption) ?_
            try simp only [Act.put, List.setIfInBounds_toArray, List.set_cons_succ, List.set_cons_zero]
            refine takeOp (i := 12) (v := undef) (some 36) rfl rfl (by kernel_rfl) (by kernel_rfl) (by kernel_rfl) (fun _ _ _ h => h) (Or.inr ⟨by rfl, rfl⟩) (by assumption) ?_
            try simp only [Act.put, List.setIfInBounds_toArray, List.set_cons_succ, List.set_cons_zero]
            refine takeOp (i := 13) (v := undef) (some 37) rfl rfl (by kernel_rfl) (by kernel_rfl) (by kernel_rfl) (fun _ _ _ h => h) (Or.inr ⟨by rfl, rfl⟩) (by assumption) ?_
            try simp only [Act.put, List.setIfInBounds_toArray, List.set_cons_succ, List.set_cons_zero]
            refine takeOp (i := 14) (v := undef) (some 38) rfl rfl (by kernel_rfl) (by kernel_rfl) (by kernel_rfl) (fun _ _ _ h => h) (Or.inr ⟨by rfl, rfl⟩) (by assumption) ?_
            try simp only [Act.put, List.setIfInBounds_toArray, List.set_cons_succ, List.set_cons_zero]
            refine takeOp (i := 15) (v := undef) (some 39) rfl rfl (by kernel_rfl) (by kernel_rfl) (by kernel_rfl) (fun _ _ _ h => h) (Or.inr ⟨by rfl, rfl⟩) (by assumption) ?_
            try simp only [Act.put, List.setIfInBounds_toArray, List.set_cons_succ, List.set_cons_zero]
            refine takeOp (i := 16) (v := ?_) (some 40) rfl rfl (by kernel_rfl) (by kernel_rfl) (by kernel_rfl) (fun _ _ _ h => h) (Or.inl ⟨by rfl, ?_⟩) (by assumption) ?_
            rotate_left 1
            · (intro w0 hSw; (try dsimp only at hSw); go_simp; try (with_reducible rfl))
            try simp only [Act.put, List.setIfInBounds_toArray, List.set_cons_succ, List.set_cons_zero]
            refine wpAnyH_done (by kernel_rfl) ?_ _
            go_wp2_with fail
            go_meet
            case rel => exact ⟨by rw [HQ.out], (Ext.refl _).drew⟩
        case rest =>
        obtain ⟨rfl, hx1⟩ := hcut
        generalize wc = w1 at *
        have HX1 := Lib.hid (HX.out.trans hx1)
        cases hcn : contR X x j with
        | true =>
          have hjl : j < X.length := by
            rcases Nat.lt_or_ge j X.length with h | h
            · exact h
            · rw [contR_end (by omega)] at hcn; cases hcn
          have HAJ : Hid (RL.cmpR X[j] x < 0) := by
            rw [contR_at hjl] at hcn
            exact Lib.hid (of_decide_eq_true hcn)
          have hw2 : IntKind.i64.wrap ((j : Int) + 1) = ((j + 1 : Nat) : Int) := by rw [IntWalk.i64_in _ (by omega)]; omega
          clear hcn
          go_wp2_with fail
          go_roundw
          case rel => exact ⟨j + 1, hjl, by go_num, fun t ht htj => by
            rcases Nat.lt_or_ge t j with h | h
            · exact HALL.out t ht h
            · obtain rfl : t = j := by omega
              exact HAJ.out, HX1.out⟩
          case measure => simp [intOf]; omega
        | false =>
          have HNN : Hid (RowsIn (Fs.take (k + 1)) sn (X.take j ++ [x] ++ X.drop j)) := by show RowsIn _ _ _; rw [HTK.out]; exact HIN.out.ins HNI.out HALL.out hcn
          have hz1 := hx1.size
          have hsh := slHead VA X.length VC j (by omega)
          have hst := slTail VA X.length VC j hj
          obtain ⟨TA, hTA⟩ : ∃ TA, TA = tailA VA j VC := ⟨_, rfl⟩
          rw [← hTA] at hst
          have hsl1 := Sl.more (Sl.ext HSL.out (Nat.le_refl _) HX1.out) HX1.out.size
          have HHD : Hid (Sl w1.heap.size w1 VA (hs.take j)) := hsl1.takeN j
          have HTL : Hid (Sl w1.heap.size w1 TA (hs.drop j)) := by show Sl _ _ _ _; rw [hTA]; exact hsl1.tailN (by rw [HHL.out]; exact hvc) j
          have HB1 := Lib.hid (HBR.out.trans (HX1.out.below.mono (by omega)))
          have HL1 : Hid ((hs.take j).length = j * 1) := by show _ = _; rw [List.length_take, HHL.out]; omega
          have HL2 : Hid ((hs.drop j).length = (X.length - j) * 1) := by show _ = _; rw [List.length_drop, HHL.out]; omega
          have HCA : Hid (RowCs B w (X.take j ++ [x] ++ X.drop j) (hs.take j ++ [.slice RA x.length RC] ++ hs.drop j)) := ((HCS.out.take j).append (RowCs.one1 HROW.out)).append (HCS.out.drop j)
          have HC1 : Hid (∀ u ∈ hs.take j, u.oneCell' = true) := fun u hu => HCS.out.one u (List.mem_of_mem_take hu)
          have HC2 : Hid (∀ u ∈ hs.drop j, u.oneCell' = true) := fun u hu => HCS.out.one u (List.mem_of_mem_drop hu)
          have HXM : Hid (∀ y ∈ X.take j ++ [x] ++ X.drop j, y.length ≤ 1000000) := fun y hy => by
            rcases List.mem_append.1 hy with hy | hy
            · rcases List.mem_append.1 hy with hy | hy
              · exact HXL.out y (List.mem_of_mem_take hy)
              · rw [List.mem_singleton.1 hy]; exact HRL.out
            · exact HXL.out y (List.mem_of_mem_drop hy)
          generalize hs.take j = h1s at *
          generalize hs.drop j = h2s at *
          have hgz : g + 1 ≤ w1.heap.size := by omega
          clear hTA hsl1 hcn hx1 HALL HSL HX HX1
          have HE0 := Lib.hid (own_emptyF w1 (g + 1) 42 1 hgz)
          have HX2 : Hid (Ext w1 (w1.alloc (.cells #[] 42))) := (Ext.refl w1).alloc _
          have HB2 : Hid (Below (g + 1) W0 (w1.alloc (.cells #[] 42))) := HB1.out.trans (HX2.out.below.mono hgz)
          have HS2 := Lib.hid (Sl.more (Sl.ext HHD.out (Nat.le_refl _) HX2.out) HX2.out.size)
          have HTK2 : Hid (∀ V, Below w1.heap.size w1 V → Sl V.heap.size V TA h2s) := fun V hb => Sl.more (Sl.below HTL.out hb (Nat.le_refl _)) hb.size
          clear c0 d1 d0 hab2 z0
          go_wp2_with (first
            | (at_builtin; refine appXRowN rfl (.tmp 43) (.tmp 46) rfl (g + 1) (.slice (some ⟨w1.heap.size, 0, none⟩) 0 0) 0 [] rfl HE0.out VA j VC h1s rfl HL1.out HS2.out HC1.out (by omega) (by simp; omega) ?_
               intro v2 w2 hown2 hg2 hat2
               have hb2 := HB2.out.grown hg2 (by simp; omega) (fun q hq => own_base HE0.out hq)
               have hbn : Below w1.heap.size w1 w2 := HX2.out.below.grown hg2 (by simp) (fun q hq => by simp [Value.ownBlock] at hq; omega)
               have HBN := Lib.hid hbn
               obtain ⟨c0, d1, z0, hab2⟩ := HDK.out w2 hb2
               have hgz2 : g + 1 ≤ w2.heap.size := z0
               have HO2 := Lib.hid (hown2.alloc (.cells #[.slice RA x.length RC] 42))
               have HB2' := Lib.hid (hb2.alloc hgz2 (.cells #[.slice RA x.length RC] 42))
               have HV2 : Hid (∀ q, v2.ownBlock = some q → w1.heap.size ≤ q) := fun q hq => by
                 rcases hat2 q hq with h | h
                 · simp [Value.ownBlock] at h; omega
                 · rw [h]; simp
               have HS3 : Hid (Sl (w2.alloc (.cells #[.slice RA x.length RC] 42)).heap.size (w2.alloc (.cells #[.slice RA x.length RC] 42)) (some ⟨w2.heap.size, 0, none⟩) [.slice RA x.length RC]) := (Row.new w2 42 [.slice RA x.length RC]).sl
               have HBN2 : Hid (Below w1.heap.size w1 (w2.alloc (.cells #[.slice RA x.length RC] 42))) := hbn.alloc hbn.size _
               clear hown2 hg2 hat2 hb2 hbn)
            | (at_builtin; refine appXRowN rfl (.tmp 48) (.tmp 55) rfl (g + 1) v2 (0 + j) ([] ++ h1s) rfl HO2.out (some ⟨w2.heap.size, 0, none⟩) 1 1 [.slice RA x.length RC] rfl rfl HS3.out (fun u hu => by rw [List.mem_singleton.1 hu]; rfl) (by omega) (by simp; omega) ?_
               intro v3 w3 hown3 hg3 hat3
               have HO3 := Lib.hid hown3
               have hb3 := HB2'.out.grown hg3 (by simp; omega) (fun q hq => own_base HO2.out hq)
               have hbn3 := HBN2.out.grown hg3 (by have := HBN.out.size; simp; omega) HV2.out
               have HB3 := Lib.hid hb3
               have HBN3 := Lib.hid hbn3
               have hgz3 : g + 1 ≤ w3.heap.size := (HDK.out w3 hb3).2.2.1
               clear hown3 hg3 hb3 hbn3 hat3)
            | (at_builtin; refine appXRowN rfl (.tmp 57) (.tmp 60) rfl (g + 1) v3 (0 + j + 1) ([] ++ h1s ++ [.slice RA x.length RC]) rfl HO3.out TA (X.length - j) (VC - j) h2s rfl HL2.out (HTK2.out w3 HBN3.out) HC2.out (by omega) hgz3 ?_
               intro v4 w4 hown4 hg4 hat4
               have HO4 := Lib.hid hown4
               have HB4 := Lib.hid (HB3.out.grown hg4 hgz3 (fun q hq => own_base HO3.out hq))
               clear hown4 hg4 hat4)
            | fail)
          have HO5 : Hid (w4.ownsRow (g + 1) 42 1 v4 (X.take j ++ [x] ++ X.drop j).length (h1s ++ [.slice RA x.length RC] ++ h2s)) := by
            have h := HO4.out
            rw [List.nil_append, show 0 + j + 1 + (X.length - j) = (X.take j ++ [x] ++ X.drop j).length by simp; omega] at h
            exact h
          go_roundw
          case rel => exact ⟨k + 1, _, _, HKL.out, by go_num, HO5.out, HCA.out, HNN.out, HXM.out, by simp; omega, HB4.out⟩
          case measure => have := HKL.out; simp [intOf]; omega
    · obtain rfl : k = Fs.length := by omega
      rw [List.take_length] at HIN
      have HEQ := Lib.hid (HIN.out.eq HREL.out)
      have g2 : ¬ (Fs.length : Int) < (Fs.length : Int) := by omega
      go_wp2_with fail
      go_ret
      have hbw : Below w.heap.size w wo := HB0.out.trans (HBR.out.mono (by have := HG.out; omega))
      have HCS2 : Hid (RowCs B w (F nm) hs) := by show RowCs _ _ _ _; rw [← HEQ.out]; exact HCS.out
      have HO2 : Hid (wo.ownsRow (w.heap.size + 1) 42 1 (.slice VA (F nm).length VC) (F nm).length hs) := by show World.ownsRow _ _ _ _ _ _ _; rw [← HEQ.out, ← HG.out]; exact HO.out
      rw [HEQ.out]
      exact ⟨VA, VC, rfl, hs, HCS2.out, HO2.out, hbw⟩
end
section
open Go.RowKit

theorem foldl_rows (S : Sch) (n : Nat) : ∀ (us : List Upd) (d : Cont × List Fact), (∀ u ∈ us, u.row.length ≤ n) → (∀ f ∈ d.2, f.2.length ≤ n) → ∀ f ∈ (us.foldl (madeS S) d).2, f.2.length ≤ n
  | [], d, _, h => h
  | u :: us, d, hu, h => by
    refine foldl_rows S n us _ (fun v hv => hu v (List.mem_cons_of_mem _ hv)) ?_
    unfold madeS
    split
    · exact refU_rows h (hu u List.mem_cons_self)
    · exact h
theorem made_rows (S : Sch) (n : Nat) (us : List Upd) (hu : ∀ u ∈ us, u.row.length ≤ n) : ∀ f ∈ (madeF S us).2, f.2.length ≤ n := foldl_rows S n us (fun _ => [], []) hu fun f hf => (by cases hf)
theorem nameF_size {s : ByteArray} (h : nameF s = true) : s.size ≤ 16 := by
  unfold nameF at h
  simp only [Bool.and_eq_true, decide_eq_true_eq] at h
  omega
end
section
open Go.RowKit Go.Sort Go.ChangeMaps Go.WideShapes

theorem made_contOk (S : Sch) (us : List Upd) : ContOk S (madeF S us).1 := by
  have key : ∀ (us : List Upd) (d : Cont × List Fact), ContOk S d.1 → ContOk S (us.foldl (madeS S) d).1 := fun us => by
    induction us with
    | nil => exact fun d h => h
    | cons u us ih =>
      intro d h
      refine ih _ ?_
      unfold madeS
      split
      · exact h.step u
      · exact h
  exact key us (fun _ => [], []) ContOk.zero
theorem made_vals (S : Sch) (Q : RL.V → Prop) (us : List Upd) (hu : ∀ u ∈ us, ∀ v ∈ u.row, Q v) : ∀ f ∈ (madeF S us).2, ∀ v ∈ f.2, Q v := by
  have key : ∀ (us : List Upd) (d : Cont × List Fact), (∀ u ∈ us, ∀ v ∈ u.row, Q v) → (∀ f ∈ d.2, ∀ v ∈ f.2, Q v) → ∀ f ∈ (us.foldl (madeS S) d).2, ∀ v ∈ f.2, Q v := fun us => by
    induction us with
    | nil => exact fun d _ h => h
    | cons u us ih =>
      intro d hu h
      refine ih _ (fun v hv => hu v (List.mem_cons_of_mem _ hv)) ?_
      unfold madeS
      split
      · unfold refU
        split
        · split
          · exact fun f hf => h f (List.mem_filter.1 hf).1
          · intro f hf
            rcases List.mem_append.1 hf with hf | hf
            · exact h f hf
            · rw [List.mem_singleton.1 hf]; exact hu u List.mem_cons_self
        · exact h
      · exact h
  exact key us (fun _ => [], []) hu fun f hf => (by cases hf)
end
section
open Go.RowKit Go.Sort Go.ChangeMaps Go.WideShapes

def DiffPostN (S : Sch) (F G : Cont) (w : World) (e : Ending) (w' : World) : Prop :=
  ∃ A C ns, e = .returned (.tuple #[.slice A (diffF ns F G).length C, .int .i64 0]) ∧ NamesOf S ns ∧ UpdsM w'.heap.size w' A (diffF ns F G) ∧ Below w.heap.size w w'

set_option maxHeartbeats 16000000 in
theorem ctDiffN_any {P P' : Nat → Prop} {S : Sch} {m m' : Value} {F G : Cont} (w : World) (hd : DbM P S w m F) (hd' : DbM P' S w m' G) (hnd : (S.map Prod.fst).Nodup) (hSl : S.length ≤ 16) (hsz : ∀ p ∈ S, p.1.size ≤ 9223372036854775807) :
    Calls Tryz.prog 36 #[.agg #[m], .agg #[m']] w (DiffPostN S F G w) := by
  have HDU := Lib.hid (fun (V : World) (hb : Below w.heap.size w V) => hd.up hb)
  have HDU' := Lib.hid (fun (V : World) (hb : Below w.heap.size w V) => hd'.up hb)
  obtain ⟨b, D, rfl, -, hown, hent⟩ := hd.ents
  obtain ⟨b', D', rfl, -, hown', hent'⟩ := hd'.ents
  have HENT := Lib.hid hent
  have HENT' := Lib.hid hent'
  have HOW := Lib.hid hown
  have HOW' := Lib.hid hown'
  obtain ⟨W0, hW0⟩ : ∃ W0, W0 = (w.alloc (.cells #[.map (some b)] 28)).alloc (.cells #[.map (some b')] 28) := ⟨_, rfl⟩
  have hx0 : Ext w W0 := by rw [hW0]; exact ((Ext.refl w).alloc _).alloc _
  have HR1 : Hid (Row W0 w.heap.size 28 [.map (some b)]) := by show Row _ _ _ _; rw [hW0]; exact (Row.new w 28 _).alloc _
  have HR2 : Hid (Row W0 (w.heap.size + 1) 28 [.map (some b')]) := by
    show Row _ _ _ _; rw [hW0]
    have h := Row.new (w.alloc (.cells #[.map (some b)] 28)) 28 [.map (some b')]
    simp only [World.size_alloc] at h
    exact h
  have HX0 := Lib.hid hx0
  have HSS0 := Lib.hid (ctSameSchemas_any W0 (HDU.out W0 hx0.below) (HDU'.out W0 hx0.below) hnd)
  have HND := Lib.hid hnd
  have HSZ := Lib.hid hsz
  have HW0 := Lib.hid hW0
  have k0 : W0.cell? ⟨w.heap.size, 0, none⟩ = some (.map (some b)) := HR1.out.cell 0
  have k1 := HR1.out.lt
  have k2 : W0.cell? ⟨w.heap.size + 1, 0, none⟩ = some (.map (some b')) := HR2.out.cell 0
  have k3 := HR2.out.lt
  clear hd hd' hown hown' hent hent' hx0 hnd hsz hW0
  go_enter Tryz.func36, Tryz.ntmps36
  go_upto_region 1 with (fail)
  rw [← HW0.out]
  clear HW0
  go_wp2_with fail
  clear k0 k1 k2 k3
  refine HSS0.out.mono ?_
  rintro e w1 ⟨rfl, hb1⟩
  have HB1 := Lib.hid (Below.then HX0.out.below hb1 HX0.out.size)
  have k0 : w1.cell? ⟨w.heap.size, 0, none⟩ = some (.map (some b)) := (HR1.out.up hb1).cell 0
  have k1 := (HR1.out.up hb1).lt
  have HNM := Lib.hid (ctNames2_any (HDU.out w1 HB1.out) HND.out (Nat.le_trans hSl (by decide)))
  have HR11 := Lib.hid (HR1.out.up hb1)
  have HR21 := Lib.hid (HR2.out.up hb1)
  clear hb1 HSS0 HX0 HR1 HR2
  go_wp2_with fail
  clear k0 k1
  refine HNM.out.mono ?_
  rintro e W1 ⟨A1, C1, ns, rfl, hnmo, hsn, -, hb2⟩
  have hperm := hnmo.1
  have HNO := Lib.hid hnmo
  clear hnmo
  have HPERM := Lib.hid hperm
  have HSN1 := Lib.hid hsn
  have HBW1 := Lib.hid (Below.then HB1.out hb2 HB1.out.size)
  have HR12 := Lib.hid (HR11.out.up hb2)
  have HR22 := Lib.hid (HR21.out.up hb2)
  have hnl : ns.length ≤ 16 := by have := hperm.length_eq; rw [List.length_map] at this; omega
  have HML : Hid (∀ s ∈ ns, (F s).length ≤ 4096 ∧ (G s).length ≤ 4096) := fun s hs => by
    obtain ⟨p, hp, rfl⟩ := List.mem_map.1 (hperm.mem_iff.1 hs)
    obtain ⟨_, _, KA, KC, A, C, _, _, _, _, _, _, hro⟩ := HENT.out.2.2 p hp
    obtain ⟨_, _, KA, KC, A, C, _, _, _, _, _, _, hro'⟩ := HENT'.out.2.2 p hp
    exact ⟨hro.many, hro'.many⟩
  obtain ⟨B, hB⟩ : ∃ B, B = W1.heap.size := ⟨_, rfl⟩
  have HBE := Lib.hid hB
  clear hperm hsn hb2 hB HNM HB1 HR11 HR21
  go_wp2_with fail
  go_loopw [6, 26] (fun vo c wx => ∃ (k : Nat) (cs : List Value), k ≤ ns.length ∧ c = .int .i64 k ∧ wx.ownsRow B 53 3 vo (diffF (ns.take k) F G).length cs ∧ UpdN vo wx (diffF (ns.take k) F G) cs ∧ Below B W1 wx) (fun _ c _ => ns.length - (intOf c).toNat)
  case atStart => exact ⟨0, [], Nat.zero_le _, rfl, own_nil _ _ _ _, UpdN.nil, Below.refl _ _⟩
  case round =>
    obtain ⟨k, cs1, hk, rfl, ho, hu, hbr⟩ := hrel
    obtain ⟨vi, hvi⟩ : ∃ v, v = u6 := ⟨_, rfl⟩
    subst hvi
    have HOK := Lib.hid ho
    have HUK := Lib.hid hu
    have HBK := Lib.hid hbr
    clear ho hu hbr
    have HBWK : Hid (Below w.heap.size w wr) := Below.then HBW1.out (by have := HBK.out; rw [HBE.out] at this; exact this) HBW1.out.size
    by_cases hkl : k < ns.length
    rotate_left
    · obtain rfl : k = ns.length := by omega
      have r1 : ¬ (ns.length : Int) < (ns.length : Int) := by omega
      rw [List.take_length] at HOK HUK
      obtain ⟨A, C, rfl, -, -, hM⟩ := own_updsM HOK.out HUK.out.cs
      have HM := Lib.hid hM
      obtain ⟨U, hU⟩ : ∃ U, U = diffF ns F G := ⟨_, rfl⟩
      rw [← hU] at HM ⊢
      have HUE := Lib.hid hU
      clear hM hU HOK HUK
      go_wp2_with fail
      exact bodyPost_ret (v := .tuple #[.slice A U.length C, .int .i64 0]) (by simp [results, Tryz.results36, go_sem]) rfl (by rw [HUE.out]; exact ⟨A, C, ns, rfl, HNO.out, by have := HM.out; rw [HUE.out] at this; exact this, HBWK.out⟩)
    have r0 : (0 : Int) ≤ (k : Int) := by omega
    have r1 : (k : Int) < (ns.length : Int) := by omega
    have r3 : IntKind.i64.wrap ((k : Int) + 1) = ((k + 1 : Nat) : Int) := by rw [IntWalk.i64_in _ (by omega)]; omega
    have HSTEP := Lib.hid (diffF_snoc ns F G k hkl)
    obtain ⟨p, hp, hpn⟩ := List.mem_map.1 (HPERM.out.mem_iff.1 (List.getElem_mem hkl))
    have hpn : p.1 = ns[k] := hpn
    obtain ⟨valF, hvF, KF, KCF, AF, CF, rfl, hk6, -, hxc, hxm, hsl, hro⟩ := HENT.out.2.2 p hp
    obtain ⟨valG, hvG, KG, KCG, AG, CG, rfl, -, -, hyc, hym, hsl', hro'⟩ := HENT'.out.2.2 p hp
    have hszp := HSZ.out p hp
    obtain ⟨nb, no, rfl, hnb, hnc⟩ := HSN1.out (by intro h0; have := congrArg List.length h0; simp only [List.length_map, List.length_nil] at this; omega)
    have c0 : W1.cell? ⟨nb, no + k, none⟩ = some (.string ns[k]) := hnc k _ (by rw [List.getElem?_map, List.getElem?_eq_getElem hkl]; rfl)
    have c0 := (HBK.out.cell (p := ⟨nb, no + k, none⟩) (by rw [HBE.out]; exact hnb)).trans c0
    have c1 : nb < wr.heap.size := Nat.lt_of_lt_of_le hnb HBK.out.size
    rw [hpn] at hvF hvG hxc hyc hsl hsl' hro hro' hszp
    have HPL : Hid ((diffF (ns.take k) F G).length ≤ 16 * 8192) := by
      have h1 := diffF_le2 (ns.take k) (F := F) (G := G) fun s hs => HML.out s (List.mem_of_mem_take hs)
      have h2 : (ns.take k).length ≤ 16 := by rw [List.length_take]; omega
      show _ ≤ _
      omega
    generalize ns[k] = nm at *
    obtain ⟨X, hX⟩ : ∃ X, X = F nm := ⟨_, rfl⟩
    obtain ⟨Y, hY⟩ : ∃ Y, Y = G nm := ⟨_, rfl⟩
    rw [← hX] at hvF hxc hsl hro
    rw [← hY] at hvG hyc hsl' hro'
    rw [← hX, ← hY] at HSTEP
    obtain ⟨kn, hkn⟩ : ∃ kn, kn = p.2.length := ⟨_, rfl⟩
    rw [← hkn] at hvF hvG hro hro' hk6
    have HLKF : Hid (∀ V, Below w.heap.size w V → (Instr.lookup 26 (.map (some b)) (.string nm) false).run Tryz.prog V = .ok (.agg #[.slice KF kn KCF, .int .i64 (kn : Nat), .slice AF X.length CF]) V) := fun V hb => (look_yes keyedS Tryz.underlying26 zeroEnt (map_up HOW.out hb) (keyS hszp) hvF).2
    have HLKG : Hid (∀ V, Below w.heap.size w V → (Instr.lookup 26 (.map (some b')) (.string nm) false).run Tryz.prog V = .ok (.agg #[.slice KG kn KCG, .int .i64 (kn : Nat), .slice AG Y.length CG]) V) := fun V hb => (look_yes keyedS Tryz.underlying26 zeroEnt (map_up HOW'.out hb) (keyS hszp) hvG).2
    have HXR : Hid (∀ V, Below w.heap.size w V → SlRsP (fun _ => True) V.heap.size V AF X) := fun V hb => ((hsl.below hb (Nat.le_refl _)).more hb.size).weak fun _ _ _ => trivial
    have HYR : Hid (∀ V, Below w.heap.size w V → SlRsP (fun _ => True) V.heap.size V AG Y) := fun V hb => ((hsl'.below hb (Nat.le_refl _)).more hb.size).weak fun _ _ _ => trivial
    have HXO := Lib.hid hro
    have HYO := Lib.hid hro'
    have HXC : Hid (X.length ≤ CF ∧ CF ≤ 9223372036854775807) := ⟨hxc, hxm⟩
    have HYC : Hid (Y.length ≤ CG ∧ CG ≤ 9223372036854775807) := ⟨hyc, hym⟩
    have HK6 : Hid (kn ≤ 6) := hk6
    obtain ⟨wk, hwk⟩ : ∃ W, W = wr := ⟨_, rfl⟩
    subst hwk
    have HSS : Hid (∀ W, Below wk.heap.size wk W → W.cell? ⟨w.heap.size, 0, none⟩ = some (.map (some b)) ∧ W.cell? ⟨w.heap.size + 1, 0, none⟩ = some (.map (some b')) ∧ (Instr.lookup 26 (.map (some b)) (.string nm) false).run Tryz.prog W = .ok (.agg #[.slice KF kn KCF, .int .i64 (kn : Nat), .slice AF X.length CF]) W ∧ (Instr.lookup 26 (.map (some b')) (.string nm) false).run Tryz.prog W = .ok (.agg #[.slice KG kn KCG, .int .i64 (kn : Nat), .slice AG Y.length CG]) W) := fun W hb => by
      have h := Below.then HBWK.out hb HBWK.out.size
      have hk1 := HBK.out
      rw [HBE.out] at hk1
      have h1 := Below.then hk1 hb hk1.size
      exact ⟨(HR12.out.up h1).cell 0, (HR22.out.up h1).cell 0, HLKF.out W h, HLKG.out W h⟩
    clear hp hpn hvF hvG hk6 hxc hxm hyc hym hsl hsl' hro hro' hszp hnb hnc hX hY hkn HLKF HLKG HML
    have hfF := fun u => fieldEnt1 (.slice KF kn KCF) (.int .i64 (kn : Nat)) (.slice AF X.length CF) u
    have hfG := fun u => fieldEnt1 (.slice KG kn KCG) (.int .i64 (kn : Nat)) (.slice AG Y.length CG) u
    go_upto_region 7 with (fail)
    clear c0 c1
    go_cut [9, 10] from 30 to 39 (fun vp vq wx => ∃ gA gB, vp = .pointer (some ⟨gA, 0, none⟩) ∧ vq = .pointer (some ⟨gB, 0, none⟩) ∧ wk.heap.size ≤ gA ∧ wk.heap.size ≤ gB ∧ Row wx gA 56 [.int .i64 (kn : Nat), .slice AF X.length CF] ∧ Row wx gB 56 [.int .i64 (kn : Nat), .slice AG Y.length CG] ∧ Below wk.heap.size wk wx)
    case first =>
      refine wp_region_held_drew (S := (fun w' => w'.cell? ⟨w.heap.size, 0, none⟩ = some (.map (some b)) ∧ w'.cell? ⟨w.heap.size + 1, 0, none⟩ = some (.map (some b')) ∧ (Instr.lookup 26 (.map (some b)) (.string nm) false).run Tryz.prog w' = .ok (.agg #[.slice KF kn KCF, .int .i64 (kn : Nat), .slice AF X.length CF]) w' ∧ (Instr.lookup 26 (.map (some b')) (.string nm) false).run Tryz.prog w' = .ok (.agg #[.slice KG kn KCG, .int .i64 (kn : Nat), .slice AG Y.length CG]) w')) (by kernel_rfl) (HSS.out wk.drew (Below.refl _ _).drew) (fun hHeld => ?_)
      obtain ⟨V0, hV0⟩ : ∃ V, V = wk.drew := ⟨_, rfl⟩
      have HV : Hid (Below wk.heap.size wk V0) := by show Below _ _ _; rw [hV0]; exact ((Ext.refl wk).drew).below
      rw [← hV0]
      clear hV0
      have hHeld0 : V0.cell? ⟨w.heap.size, 0, none⟩ = some (.map (some b)) ∧ V0.cell? ⟨w.heap.size + 1, 0, none⟩ = some (.map (some b')) ∧ (Instr.lookup 26 (.map (some b)) (.string nm) false).run Tryz.prog V0 = .ok (.agg #[.slice KF kn KCF, .int .i64 (kn : Nat), .slice AF X.length CF]) V0 ∧ (Instr.lookup 26 (.map (some b')) (.string nm) false).run Tryz.prog V0 = .ok (.agg #[.slice KG kn KCG, .int .i64 (kn : Nat), .slice AG Y.length CG]) V0 := HSS.out V0 HV.out
      refine takeOp (i := 0) (v := ?_) (some 30) rfl rfl (by kernel_rfl) (by kernel_rfl) (by kernel_rfl) (fun _ _ _ h => h) (Or.inl ⟨by rfl, ?_⟩) (by assumption) ?_
      rotate_left 1
      · (intro w0 hSw; (try dsimp only at hSw); go_simp; try (with_reducible rfl))
      try simp only [Act.put, List.setIfInBounds_toArray, List.set_cons_succ, List.set_cons_zero]
      refine takeOp (i := 1) (v := ?_) (some 31) rfl rfl (by kernel_rfl) (by kernel_rfl) (by kernel_rfl) (fun _ _ _ h => h) (Or.inl ⟨by rfl, ?_⟩) (by assumption) ?_
      rotate_left 1
      · (intro w0 hSw; (try dsimp only at hSw); go_simp; try (with_reducible rfl))
      try simp only [Act.put, List.setIfInBounds_toArray, List.set_cons_succ, List.set_cons_zero]
      refine takeOp (i := 2) (v := ?_) (some 32) rfl rfl (by kernel_rfl) (by kernel_rfl) (by kernel_rfl) (fun _ _ _ h => h) (Or.inl ⟨by rfl, ?_⟩) (by assumption) ?_
      rotate_left 1
      · (intro w0 hSw; (try dsimp only at hSw); go_simp; try (with_reducible rfl))
      try simp only [Act.put, List.setIfInBounds_toArray, List.set_cons_succ, List.set_cons_zero]
      refine takeOp (i := 3) (v := ?_) (some 33) rfl rfl (by kernel_rfl) (by kernel_rfl) (by kernel_rfl) (fun _ _ _ h => h) (Or.inl ⟨by rfl, ?_⟩) (by assumption) ?_
      rotate_left 1
      · (intro w0 hSw; (try dsimp only at hSw); go_simp; try (with_reducible rfl))
      try simp only [Act.put, List.setIfInBounds_toArray, List.set_cons_succ, List.set_cons_zero]
      refine takeOp (i := 4) (v := ?_) (some 34) rfl rfl (by kernel_rfl) (by kernel_rfl) (by kernel_rfl) (fun _ _ _ h => h) (Or.inl ⟨by rfl, ?_⟩) (by assumption) ?_
      rotate_left 1
      · (intro w0 hSw; (try dsimp only at hSw); go_simp; try (with_reducible rfl))
      try simp only [Act.put, List.setIfInBounds_toArray, List.set_cons_succ, List.set_cons_zero]
      refine takeOp (i := 5) (v := ?_) (some 35) rfl rfl (by kernel_rfl) (by kernel_rfl) (by kernel_rfl) (fun _ _ _ h => h) (Or.inl ⟨by rfl, ?_⟩) (by assumption) ?_
      rotate_left 1
      · (intro w0 hSw; (try dsimp only at hSw); go_simp; try (with_reducible rfl))
      try simp only [Act.put, List.setIfInBounds_toArray, List.set_cons_succ, List.set_cons_zero]
      refine takeOp (i := 6) (v := ?_) (some 36) rfl rfl (by kernel_rfl) (by kernel_rfl) (by kernel_rfl) (fun _ _ _ h => h) (Or.inl ⟨by rfl, ?_⟩) (by assumption) ?_
      rotate_left 1
      · (intro w0 hSw; (try dsimp only at hSw); go_simp; try (with_reducible rfl))
      try simp only [Act.put, List.setIfInBounds_toArray, List.set_cons_succ, List.set_cons_zero]
      refine takeOp (i := 7) (v := ?_) (some 37) rfl rfl (by kernel_rfl) (by kernel_rfl) (by kernel_rfl) (fun _ _ _ h => h) (Or.inl ⟨by rfl, ?_⟩) (by assumption) ?_
      rotate_left 1
      · (intro w0 hSw; (try dsimp only at hSw); go_simp; try (with_reducible rfl))
      try simp only [Act.put, List.setIfInBounds_toArray, List.set_cons_succ, List.set_cons_zero]
      refine takeOp (i := 8) (v := ?_) (some 38) rfl rfl (by kernel_rfl) (by kernel_rfl) (by kernel_rfl) (fun _ _ _ h => h) (Or.inl ⟨by rfl, ?_⟩) (by assumption) ?_
      rotate_left 1
      · (intro w0 hSw; (try dsimp only at hSw); go_simp; try (with_reducible rfl))
      try simp only [Act.put, List.setIfInBounds_toArray, List.set_cons_succ, List.set_cons_zero]
      refine takeOp (i := 9) (v := ?_) (some 39) rfl rfl (by kernel_rfl) (by kernel_rfl) (by kernel_rfl) (fun _ _ _ h => h) (Or.inl ⟨by rfl, ?_⟩) (by assumption) ?_
      rotate_left 1
      · (intro w0 hSw; (try dsimp only at hSw); go_simp; try (with_reducible rfl))
      try simp only [Act.put, List.setIfInBounds_toArray, List.set_cons_succ, List.set_cons_zero]
      refine wpAnyH_ready (rs := [10, 11]) (by kernel_rfl) (by simp) ?_
      refine (AllReadyH.cons rfl (fun K hK => ?_) (AllReadyH.cons rfl (fun K hK => ?_) AllReadyH.nil))
      · go_simp
        obtain ⟨V1, hV⟩ : ∃ V', V' = V0.alloc (.cells #[.int .i64 0, .slice none 0 0] 56) := ⟨_, rfl⟩
        rw [← hV]
        have hx : Ext V0 V1 := by rw [hV]; exact (Ext.refl V0).alloc _
        have HGA : Hid (Row V1 V0.heap.size 56 [.int .i64 0, .slice none 0 0]) := by show Row _ _ _ _; rw [hV]; exact Row.new V0 56 _
        have HZA := Lib.hid HV.out.size
        have HV := Lib.hid (Below.then HV.out hx.below HV.out.size)
        clear hx hV
        refine hK.out _ _ (HSS.out V1 HV.out) (fun hHeld => ?_)
        clear hK K
        try simp only [Act.put, List.setIfInBounds_toArray, List.set_cons_succ, List.set_cons_zero]
        refine wpAnyH_ready (rs := [11]) (by kernel_rfl) (by simp) ?_
        refine (AllReadyH.cons rfl (fun K hK => ?_) AllReadyH.nil)
        go_simp
        obtain ⟨V2, hV⟩ : ∃ V', V' = V1.alloc (.cells #[.int .i64 0, .slice none 0 0] 56) := ⟨_, rfl⟩
        rw [← hV]
        have hx : Ext V1 V2 := by rw [hV]; exact (Ext.refl V1).alloc _
        have HGB : Hid (Row V2 V1.heap.size 56 [.int .i64 0, .slice none 0 0]) := by show Row _ _ _ _; rw [hV]; exact Row.new V1 56 _
        have HZB := Lib.hid HV.out.size
        have HNE : Hid (V0.heap.size ≠ V1.heap.size) := by have := HGA.out.lt; show _ ≠ _; omega
        have HGA := Lib.hid (HGA.out.up hx.below)
        have HV := Lib.hid (Below.then HV.out hx.below HV.out.size)
        clear hx hV
        refine hK.out _ _ (HSS.out V2 HV.out) (fun hHeld => ?_)
        clear hK K
        try simp only [Act.put, List.setIfInBounds_toArray, List.set_cons_succ, List.set_cons_zero]
        refine wpAnyH_ready (rs := [12]) (by kernel_rfl) (by simp) ?_
        refine (AllReadyH.cons rfl (fun K hK => ?_) AllReadyH.nil)
        have m0 : V2.cell? ⟨V0.heap.size, 0, none⟩ = some (.int .i64 0) := HGA.out.cell 0
        have m1 : V2.cell? ⟨V0.heap.size, 1, none⟩ = some (.slice none 0 0) := HGA.out.cell 1
        have m2 := HGA.out.frozen 0
        have m3 := HGA.out.frozen 1
        have m4 := HGA.out.lt
        go_simp
        obtain ⟨V3, hV⟩ : ∃ V', V' = (V2.setCell ⟨V0.heap.size, 0, none⟩ (.int .i64 (kn : Nat))).setCell ⟨V0.heap.size, 1, none⟩ (.slice AF X.length CF) := ⟨_, rfl⟩
        rw [← hV]
        have HGA : Hid (Row V3 V0.heap.size 56 [.int .i64 (kn : Nat), (.slice AF X.length CF)]) := by show Row _ _ _ _; rw [hV]; exact HGA.out.set2 _ _
        have HGB : Hid (Row V3 V1.heap.size 56 [.int .i64 0, .slice none 0 0]) := by show Row _ _ _ _; rw [hV]; exact (HGB.out.far (fun e => HNE.out e.symm) _).far (fun e => HNE.out e.symm) _
        have HV : Hid (Below wk.heap.size wk V3) := by show Below _ _ _; rw [hV]; exact (HV.out.setCell HZA.out _).setCell HZA.out _
        clear m0 m1 m2 m3 m4 hV
        refine hK.out _ _ (HSS.out V3 HV.out) (fun hHeld => ?_)
        clear hK K
        try simp only [Act.put, List.setIfInBounds_toArray, List.set_cons_succ, List.set_cons_zero]
        refine wpAnyH_ready (rs := [13]) (by kernel_rfl) (by simp) ?_
        refine (AllReadyH.cons rfl (fun K hK => ?_) AllReadyH.nil)
        have m0 : V3.cell? ⟨V1.heap.size, 0, none⟩ = some (.int .i64 0) := HGB.out.cell 0
        have m1 : V3.cell? ⟨V1.heap.size, 1, none⟩ = some (.slice none 0 0) := HGB.out.cell 1
        have m2 := HGB.out.frozen 0
        have m3 := HGB.out.frozen 1
        have m4 := HGB.out.lt
        go_simp
        obtain ⟨V4, hV⟩ : ∃ V', V' = (V3.setCell ⟨V1.heap.size, 0, none⟩ (.int .i64 (kn : Nat))).setCell ⟨V1.heap.size, 1, none⟩ (.slice AG Y.length CG) := ⟨_, rfl⟩
        rw [← hV]
        have HGB : Hid (Row V4 V1.heap.size 56 [.int .i64 (kn : Nat), (.slice AG Y.length CG)]) := by show Row _ _ _ _; rw [hV]; exact HGB.out.set2 _ _
        have HGA : Hid (Row V4 V0.heap.size 56 [.int .i64 (kn : Nat), (.slice AF X.length CF)]) := by show Row _ _ _ _; rw [hV]; exact (HGA.out.far (fun e => HNE.out e) _).far (fun e => HNE.out e) _
        have HV : Hid (Below wk.heap.size wk V4) := by show Below _ _ _; rw [hV]; exact (HV.out.setCell HZB.out _).setCell HZB.out _
        clear m0 m1 m2 m3 m4 hV
        refine hK.out _ _ (HSS.out V4 HV.out) (fun hHeld => ?_)
        clear hK K
        try simp only [Act.put, List.setIfInBounds_toArray, List.set_cons_succ, List.set_cons_zero]
        refine wpAnyH_done (by kernel_rfl) ?_ _
        go_wp2_with fail
        go_meet
        case rel => exact ⟨V0.heap.size, V1.heap.size, rfl, rfl, HZA.out, HZB.out, HGA.out, HGB.out, HV.out⟩
      · go_simp
        obtain ⟨V1, hV⟩ : ∃ V', V' = V0.alloc (.cells #[.int .i64 0, .slice none 0 0] 56) := ⟨_, rfl⟩
        rw [← hV]
        have hx : Ext V0 V1 := by rw [hV]; exact (Ext.refl V0).alloc _
        have HGB : Hid (Row V1 V0.heap.size 56 [.int .i64 0, .slice none 0 0]) := by show Row _ _ _ _; rw [hV]; exact Row.new V0 56 _
        have HZB := Lib.hid HV.out.size
        have HV := Lib.hid (Below.then HV.out hx.below HV.out.size)
        clear hx hV
        refine hK.out _ _ (HSS.out V1 HV.out) (fun hHeld => ?_)
        clear hK K
        try simp only [Act.put, List.setIfInBounds_toArray, List.set_cons_succ, List.set_cons_zero]
        refine wpAnyH_ready (rs := [10]) (by kernel_rfl) (by simp) ?_
        refine (AllReadyH.cons rfl (fun K hK => ?_) AllReadyH.nil)
        go_simp
        obtain ⟨V2, hV⟩ : ∃ V', V' = V1.alloc (.cells #[.int .i64 0, .slice none 0 0] 56) := ⟨_, rfl⟩
        rw [← hV]
        have hx : Ext V1 V2 := by rw [hV]; exact (Ext.refl V1).alloc _
        have HGA : Hid (Row V2 V1.heap.size 56 [.int .i64 0, .slice none 0 0]) := by show Row _ _ _ _; rw [hV]; exact Row.new V1 56 _
        have HZA := Lib.hid HV.out.size
        have HNE : Hid (V1.heap.size ≠ V0.heap.size) := by have := HGB.out.lt; show _ ≠ _; omega
        have HGB := Lib.hid (HGB.out.up hx.below)
        have HV := Lib.hid (Below.then HV.out hx.below HV.out.size)
        clear hx hV
        refine hK.out _ _ (HSS.out V2 HV.out) (fun hHeld => ?_)
        clear hK K
        try simp only [Act.put, List.setIfInBounds_toArray, List.set_cons_succ, List.set_cons_zero]
        refine wpAnyH_ready (rs := [12]) (by kernel_rfl) (by simp) ?_
        refine (AllReadyH.cons rfl (fun K hK => ?_) AllReadyH.nil)
        have m0 : V2.cell? ⟨V1.heap.size, 0, none⟩ = some (.int .i64 0) := HGA.out.cell 0
        have m1 : V2.cell? ⟨V1.heap.size, 1, none⟩ = some (.slice none 0 0) := HGA.out.cell 1
        have m2 := HGA.out.frozen 0
        have m3 := HGA.out.frozen 1
        have m4 := HGA.out.lt
        go_simp
        obtain ⟨V3, hV⟩ : ∃ V', V' = (V2.setCell ⟨V1.heap.size, 0, none⟩ (.int .i64 (kn : Nat))).setCell ⟨V1.heap.size, 1, none⟩ (.slice AF X.length CF) := ⟨_, rfl⟩
        rw [← hV]
        have HGA : Hid (Row V3 V1.heap.size 56 [.int .i64 (kn : Nat), (.slice AF X.length CF)]) := by show Row _ _ _ _; rw [hV]; exact HGA.out.set2 _ _
        have HGB : Hid (Row V3 V0.heap.size 56 [.int .i64 0, .slice none 0 0]) := by show Row _ _ _ _; rw [hV]; exact (HGB.out.far (fun e => HNE.out e.symm) _).far (fun e => HNE.out e.symm) _
        have HV : Hid (Below wk.heap.size wk V3) := by show Below _ _ _; rw [hV]; exact (HV.out.setCell HZA.out _).setCell HZA.out _
        clear m0 m1 m2 m3 m4 hV
        refine hK.out _ _ (HSS.out V3 HV.out) (fun hHeld => ?_)
        clear hK K
        try simp only [Act.put, List.setIfInBounds_toArray, List.set_cons_succ, List.set_cons_zero]
        refine wpAnyH_ready (rs := [13]) (by kernel_rfl) (by simp) ?_
        refine (AllReadyH.cons rfl (fun K hK => ?_) AllReadyH.nil)
        have m0 : V3.cell? ⟨V0.heap.size, 0, none⟩ = some (.int .i64 0) := HGB.out.cell 0
        have m1 : V3.cell? ⟨V0.heap.size, 1, none⟩ = some (.slice none 0 0) := HGB.out.cell 1
        have m2 := HGB.out.frozen 0
        have m3 := HGB.out.frozen 1
        have m4 := HGB.out.lt
        go_simp
        obtain ⟨V4, hV⟩ : ∃ V', V' = (V3.setCell ⟨V0.heap.size, 0, none⟩ (.int .i64 (kn : Nat))).setCell ⟨V0.heap.size, 1, none⟩ (.slice AG Y.length CG) := ⟨_, rfl⟩
        rw [← hV]
        have HGB : Hid (Row V4 V0.heap.size 56 [.int .i64 (kn : Nat), (.slice AG Y.length CG)]) := by show Row _ _ _ _; rw [hV]; exact HGB.out.set2 _ _
        have HGA : Hid (Row V4 V1.heap.size 56 [.int .i64 (kn : Nat), (.slice AF X.length CF)]) := by show Row _ _ _ _; rw [hV]; exact (HGA.out.far (fun e => HNE.out e) _).far (fun e => HNE.out e) _
        have HV : Hid (Below wk.heap.size wk V4) := by show Below _ _ _; rw [hV]; exact (HV.out.setCell HZB.out _).setCell HZB.out _
        clear m0 m1 m2 m3 m4 hV
        refine hK.out _ _ (HSS.out V4 HV.out) (fun hHeld => ?_)
        clear hK K
        try simp only [Act.put, List.setIfInBounds_toArray, List.set_cons_succ, List.set_cons_zero]
        refine wpAnyH_done (by kernel_rfl) ?_ _
        go_wp2_with fail
        go_meet
        case rel => exact ⟨V1.heap.size, V0.heap.size, rfl, rfl, HZA.out, HZB.out, HGA.out, HGB.out, HV.out⟩
    case rest =>
    clear hfF hfG
    obtain ⟨gA, gB, rfl, rfl, hzA, hzB, hgA, hgB, hbc⟩ := hcut
    obtain ⟨pre, hpre⟩ : ∃ pre, pre = diffF (ns.take k) F G := ⟨_, rfl⟩
    rw [← hpre] at HOK HUK HSTEP HPL
    have HO0 := Lib.hid (own_keep HOK.out hbc)
    have HU0 := Lib.hid (HUK.out.up hbc)
    have HBc := Lib.hid (Below.then HBWK.out hbc HBWK.out.size)
    have hkB : B ≤ wk.heap.size := by have h1 := HBK.out.size; have h2 := HBE.out; omega
    have HB0 := Lib.hid (Below.then HBK.out hbc hkB)
    have HOLT : Hid (∀ x, vi.ownBlock = some x → x < wk.heap.size) := own_lt HOK.out
    have HGA := Lib.hid hgA
    have HGB := Lib.hid hgB
    have HZA := Lib.hid hzA
    have HZB := Lib.hid hzB
    have HMN := Lib.hid (rlMinus_P (fun _ => True) (kn : Nat) AF AG CF CG X Y wc (HXR.out wc HBc.out) (HYR.out wc HBc.out) (fun _ _ => trivial) (HXO.out.rs (by have := HK6.out; omega)) (HYO.out.rs (by have := HK6.out; omega)) (Nat.le_trans HXO.out.many (by decide)) (Nat.le_trans HYO.out.many (by decide)) HXO.out.ss HYO.out.ss HYC.out.1 HYC.out.2)
    have k0 : wc.cell? ⟨gA, 0, none⟩ = some (.int .i64 (kn : Nat)) := hgA.cell 0
    have k1 : wc.cell? ⟨gA, 1, none⟩ = some (.slice AF X.length CF) := hgA.cell 1
    have k2 := hgA.lt
    have k3 : wc.cell? ⟨gB, 0, none⟩ = some (.int .i64 (kn : Nat)) := hgB.cell 0
    have k4 : wc.cell? ⟨gB, 1, none⟩ = some (.slice AG Y.length CG) := hgB.cell 1
    have k5 := hgB.lt
    clear hgA hgB hbc hzA hzB hpre HSS HOK HUK HBK HBWK
    go_wp2_with fail
    clear k0 k1 k2 k3 k4 k5
    refine HMN.out.mono ?_
    rintro e w4 ⟨_, rfl, ⟨A4, C4, rfl, -, -, hs4⟩, hb4⟩
    rw [min_eq] at hs4 ⊢
    obtain ⟨DX, hDX⟩ : ∃ DX, DX = minF X Y := ⟨_, rfl⟩
    have hDXl : DX.length ≤ 4096 := by rw [hDX]; exact Nat.le_trans (List.length_filter_le _ _) HXO.out.many
    have hDXo : RsOk DX := by rw [hDX]; exact fun x hx => (HXO.out.rs (by have := HK6.out; omega)) x (List.mem_filter.1 hx).1
    rw [← hDX] at hs4 ⊢
    have HDX := Lib.hid hDX
    obtain ⟨g11, hg11⟩ : ∃ g, g = w4.heap.size := ⟨_, rfl⟩
    obtain ⟨W5, hW5⟩ : ∃ W, W = w4.alloc (.cells #[.int .i64 (kn : Nat), .slice A4 DX.length C4] 56) := ⟨_, rfl⟩
    have hx5 : Ext w4 W5 := by rw [hW5]; exact (Ext.refl w4).alloc _
    have hr5 : Row W5 g11 56 [.int .i64 (kn : Nat), .slice A4 DX.length C4] := by rw [hW5, hg11]; exact Row.new w4 56 _
    have HBc5 := Lib.hid (Below.then hb4 hx5.below hb4.size)
    have HRW := Lib.hid (rlRows_any (kn : Nat) A4 C4 DX W5 (hs4.sl.up hx5) hDXo (by omega))
    have k0 : W5.cell? ⟨g11, 0, none⟩ = some (.int .i64 (kn : Nat)) := hr5.cell 0
    have k1 : W5.cell? ⟨g11, 1, none⟩ = some (.slice A4 DX.length C4) := hr5.cell 1
    have k2 := hr5.lt
    have HW5 := Lib.hid hW5
    have HG11 := Lib.hid hg11
    clear hs4 hb4 hg11 hW5 hx5 hr5 hDX hDXo HMN
    go_upto_region 9 with (fail)
    rw [← HW5.out, ← HG11.out]
    clear HW5 HG11
    go_wp2_with fail
    clear k0 k1 k2
    refine HRW.out.mono ?_
    rintro e w6 ⟨g12, rfl, hmr, hb6⟩
    have HBc6 := Lib.hid (Below.then HBc5.out hb6 HBc5.out.size)
    have HM1 := Lib.hid hmr
    have HM1L : Hid (∀ x, vi.ownBlock = some x → x < W5.heap.size) := fun x hx => by have h1 := HOLT.out x hx; have h2 := HBc5.out.size; have h3 := HZA.out; have h4 := HGA.out.lt; omega
    have HM1N : Hid (vi.ownBlock ≠ some g12) := fun h => by have := HM1L.out _ h; have := hmr.base; omega
    have HM1B : Hid (DX.length ≤ 4096) := hDXl
    have HO1 := Lib.hid (own_keep HO0.out HBc6.out)
    have HU1 := Lib.hid (HU0.out.up HBc6.out)
    have hcB : B ≤ wc.heap.size := by have h1 := HB0.out.size; have h2 := HBE.out; omega
    have HB1 := Lib.hid (Below.then HB0.out HBc6.out hcB)
    have HGA1 := Lib.hid (HGA.out.up HBc6.out)
    have HGB1 := Lib.hid (HGB.out.up HBc6.out)
    have HBw1 := Lib.hid (Below.then HBc.out HBc6.out HBc.out.size)
    clear hb6 hmr hDXl HRW HO0 HU0 HB0 HBc5
    go_wp2_with fail
    go_loopw [6, 49] (fun vo c wx => ∃ (j : Nat) (cs : List Value), j ≤ DX.length ∧ c = .int .i64 j ∧ wx.ownsRow B 53 3 vo (pre ++ (DX.take j).map fun x => (⟨true, nm, x⟩ : Upd)).length cs ∧ UpdN vo wx (pre ++ (DX.take j).map fun x => (⟨true, nm, x⟩ : Upd)) cs ∧ (∀ b, vo.ownBlock = some b → vi.ownBlock = some b ∨ w6.heap.size ≤ b) ∧ Stay (fun b => vi.ownBlock ≠ some b) w6 wx ∧ Below B W1 wx) (fun _ c _ => DX.length - (intOf c).toNat)
    case atStart => exact ⟨0, cs1, Nat.zero_le _, rfl, by rw [List.take_zero, List.map_nil, List.append_nil]; exact HO1.out, by rw [List.take_zero, List.map_nil, List.append_nil]; exact HU1.out, fun b h => .inl h, stay_self _ _, HB1.out⟩
    case round =>
      obtain ⟨j, cs, hj, rfl, ho, hu, hav, hst, hbr⟩ := hrel
      have HOR := Lib.hid ho
      have HUR := Lib.hid hu
      have HAV := Lib.hid hav
      have HSTR := Lib.hid hst
      have HBRR := Lib.hid hbr
      clear ho hu hav hst hbr
      by_cases hjl : j < DX.length
      · have hDB : DX.length ≤ 4096 := HM1B.out
        have q0 : (0 : Int) ≤ (j : Int) := by omega
        have q1 : (j : Int) < (DX.length : Int) := by omega
        have q3 : IntKind.i64.wrap ((j : Int) + 1) = ((j + 1 : Nat) : Int) := by rw [IntWalk.i64_in _ (by omega)]; omega
        obtain ⟨A', C', hc0, hsr, hfar⟩ := HM1.out.get hjl
        have hgne : vi.ownBlock ≠ some g12 := HM1N.out
        have e0 : wr.cell? ⟨g12, j, none⟩ = some (.slice A' DX[j].length C') := (World.cell?_of_block (HSTR.out.2 g12 HM1.out.lt hgne)).trans hc0
        have e1 : g12 < wr.heap.size := Nat.lt_of_lt_of_le HM1.out.lt HSTR.out.1
        have HSR : Hid (SlR wr.heap.size wr A' DX[j] ∧ (DX[j] ≠ [] → ∀ ad, A' = some ad → u6.ownBlock ≠ some ad.block)) := by
          have hne : DX[j] ≠ [] → ∀ ad, A' = some ad → vi.ownBlock ≠ some ad.block := fun h ad ha h0 => by
            have h1 := hfar h ad ha
            have h2 := HM1L.out _ h0
            omega
          refine ⟨fun hc => ?_, fun h ad ha h0 => ?_⟩
          · obtain ⟨b', o', ea, hb', hcell⟩ := hsr hc
            have hx : DX[j] ≠ [] := fun h0 => hc (by rw [h0]; rfl)
            exact ⟨b', o', ea, Nat.lt_of_lt_of_le hb' HSTR.out.1, fun i u hi => (World.cell?_of_block (HSTR.out.2 b' hb' (hne hx _ ea))).trans (hcell i u hi)⟩
          · rcases HAV.out _ h0 with h1 | h1
            · exact hne h ad ha h1
            · have := hsr.ltB h ad ha
              omega
        have HTK : Hid ((DX.take (j + 1)).map (fun x => (⟨true, nm, x⟩ : Upd)) = (DX.take j).map (fun x => (⟨true, nm, x⟩ : Upd)) ++ [⟨true, nm, DX[j]⟩]) := by
          show _ = _
          rw [List.take_succ_eq_append_getElem hjl, List.map_append, List.map_singleton]
        have HLE : Hid ((pre ++ (DX.take j).map fun x => (⟨true, nm, x⟩ : Upd)).length + 1 ≤ 1000000) := by
          have h1 := HPL.out
          have h2 := HM1B.out
          show _ ≤ _
          rw [List.length_append, List.length_map, List.length_take]
          omega
        clear hc0 hsr hfar hgne hDB
        generalize DX[j] = x at *
        obtain ⟨us, hus⟩ : ∃ us, us = pre ++ (DX.take j).map fun x => (⟨true, nm, x⟩ : Upd) := ⟨_, rfl⟩
        have HUS := Lib.hid hus.symm
        rw [← hus] at HOR HUR HLE
        clear hus
        obtain ⟨W2, hW2⟩ : ∃ W2, W2 = wr.alloc (.cells #[.bool true, .string nm, .slice A' x.length C'] 53) := ⟨_, rfl⟩
        have hx2 : Ext wr W2 := by rw [hW2]; exact (Ext.refl wr).alloc _
        have hr2 : Row W2 wr.heap.size 53 [.bool true, .string nm, .slice A' x.length C'] := by rw [hW2]; exact Row.new wr _ _
        have HSN : Hid (Sl W2.heap.size W2 (some ⟨wr.heap.size, 0, none⟩) [.bool true, .string nm, .slice A' x.length C']) := hr2.sl
        have HO2 := Lib.hid (own_keep HOR.out hx2.below)
        have HU2 := Lib.hid ((HUR.out.up hx2.below).snoc (del := true) (nm := nm) (RC := C') ((HSR.out.1.below hx2.below (Nat.le_refl _)).more hx2.size) HSR.out.2)
        have HST2 := Lib.hid (HSTR.out.trans (Stay.of hx2.below))
        have HB2 := Lib.hid (Below.then HBRR.out hx2.below (by have h1 := HBE.out; have h2 := HBRR.out.size; omega))
        have hbz : B ≤ W2.heap.size := by have h1 := HBE.out; have h2 := HB2.out.size; omega
        have hz2 : w6.heap.size ≤ W2.heap.size := HST2.out.1
        have HW2 := Lib.hid hW2
        clear hx2 hr2 hW2 HOR HUR HSR
        go_wp2_with (first
          | (at_builtin; rw [← HW2.out]; refine appXUpd rfl (.tmp 53) (.tmp 57) rfl B u6 us.length cs rfl HO2.out (some ⟨wr.heap.size, 0, none⟩) 1 1 [.bool true, .string nm, .slice A' x.length C'] rfl rfl HSN.out (by simp [Value.oneCell']) HLE.out hbz ?_; intro v5 w5 hown hg hat)
          | fail)
        have HO5 := Lib.hid hown
        have HU5 := Lib.hid (HU2.out.grow hg hat)
        have HAV5 : Hid (∀ b, v5.ownBlock = some b → vi.ownBlock = some b ∨ w6.heap.size ≤ b) := fun b h => by
          rcases hat b h with h1 | h1
          · exact HAV.out b h1
          · right; omega
        have HST5 : Hid (Stay (fun b => vi.ownBlock ≠ some b) w6 w5) := ⟨Nat.le_trans HST2.out.1 hg.size, fun b hb hp => (hg.block b (Nat.lt_of_lt_of_le hb HST2.out.1) (fun e => by
          rcases HAV.out b e.symm with h1 | h1
          · exact hp h1
          · omega)).trans (HST2.out.2 b hb hp)⟩
        have HB5 : Hid (Below B W1 w5) := by
          have h := HB2.out.grown hg hbz (fun k hk => own_base HO2.out hk)
          exact h
        clear hown hg hat HO2 HU2 HST2 HB2 HSN HW2 e0 e1
        go_wp2_with fail
        go_roundw
        case rel =>
          refine ⟨j + 1, cs ++ [.bool true, .string nm, .slice A' x.length C'], hjl, by go_num, ?_, ?_, HAV5.out, HST5.out, HB5.out⟩
          · rw [HTK.out, ← List.append_assoc, HUS.out, List.length_append]; exact HO5.out
          · rw [HTK.out, ← List.append_assoc, HUS.out]; exact HU5.out
        case measure => simp [intOf]; omega
      · obtain rfl : j = DX.length := by omega
        have q1 : ¬ (DX.length : Int) < (DX.length : Int) := by omega
        rw [List.take_length] at HOR HUR
        obtain ⟨pre2, hpre2⟩ : ∃ l, l = pre ++ DX.map fun x => (⟨true, nm, x⟩ : Upd) := ⟨_, rfl⟩
        rw [← hpre2] at HOR HUR
        have HBwr : Hid (Below w.heap.size w wr) := Below.then HBW1.out (by have := HBRR.out; rw [HBE.out] at this; exact this) HBW1.out.size
        have HOLT2 : Hid (∀ x, u6.ownBlock = some x → x < wr.heap.size) := own_lt HOR.out
        have hgane : vi.ownBlock ≠ some gA := fun h => by have := HOLT.out _ h; have := HZA.out; omega
        have hgbne : vi.ownBlock ≠ some gB := fun h => by have := HOLT.out _ h; have := HZB.out; omega
        have HGA2 : Hid (Row wr gA 56 [.int .i64 (kn : Nat), .slice AF X.length CF]) := (HSTR.out.2 gA HGA1.out.lt hgane).trans HGA1.out
        have HGB2 : Hid (Row wr gB 56 [.int .i64 (kn : Nat), .slice AG Y.length CG]) := (HSTR.out.2 gB HGB1.out.lt hgbne).trans HGB1.out
        have HMN2 := Lib.hid (rlMinus_P (fun _ => True) (kn : Nat) AG AF CG CF Y X wr (HYR.out wr HBwr.out) (HXR.out wr HBwr.out) (fun _ _ => trivial) (HYO.out.rs (by have := HK6.out; omega)) (HXO.out.rs (by have := HK6.out; omega)) (Nat.le_trans HYO.out.many (by decide)) (Nat.le_trans HXO.out.many (by decide)) HYO.out.ss HXO.out.ss HXC.out.1 HXC.out.2)
        have k0 : wr.cell? ⟨gA, 0, none⟩ = some (.int .i64 (kn : Nat)) := HGA2.out.cell 0
        have k1 : wr.cell? ⟨gA, 1, none⟩ = some (.slice AF X.length CF) := HGA2.out.cell 1
        have k2 := HGA2.out.lt
        have k3 : wr.cell? ⟨gB, 0, none⟩ = some (.int .i64 (kn : Nat)) := HGB2.out.cell 0
        have k4 : wr.cell? ⟨gB, 1, none⟩ = some (.slice AG Y.length CG) := HGB2.out.cell 1
        have k5 := HGB2.out.lt
        have HP2 : Hid (pre2.length ≤ 16 * 8192 + 4096) := by
          have h1 := HPL.out
          have h2 := HM1B.out
          show _ ≤ _
          rw [hpre2, List.length_append, List.length_map]
          omega
        have HPRE2 := Lib.hid hpre2
        obtain ⟨wj, hwj⟩ : ∃ W, W = wr := ⟨_, rfl⟩
        obtain ⟨vj, hvj⟩ : ∃ v, v = u6 := ⟨_, rfl⟩
        subst hwj hvj
        clear hpre2 hgane hgbne HAV HSTR HM1 HM1L HM1N HO1 HU1 HB1 HBw1 HGA1 HGB1 HGA HGB HBc HBc6 HPL
        have HPL := HP2
        go_wp2_with fail
        clear k0 k1 k2 k3 k4 k5
        refine HMN2.out.mono ?_
        rintro e w7 ⟨_, rfl, ⟨A7, C7, rfl, -, -, hs7⟩, hb7⟩
        rw [min_eq] at hs7 ⊢
        obtain ⟨DY, hDY⟩ : ∃ DY, DY = minF Y X := ⟨_, rfl⟩
        have hDYl : DY.length ≤ 4096 := by rw [hDY]; exact Nat.le_trans (List.length_filter_le _ _) HYO.out.many
        have hDYo : RsOk DY := by rw [hDY]; exact fun x hx => (HYO.out.rs (by have := HK6.out; omega)) x (List.mem_filter.1 hx).1
        rw [← hDY] at hs7 ⊢
        have HDY := Lib.hid hDY
        obtain ⟨g15, hg15⟩ : ∃ g, g = w7.heap.size := ⟨_, rfl⟩
        obtain ⟨W8, hW8⟩ : ∃ W, W = w7.alloc (.cells #[.int .i64 (kn : Nat), .slice A7 DY.length C7] 56) := ⟨_, rfl⟩
        have hx8 : Ext w7 W8 := by rw [hW8]; exact (Ext.refl w7).alloc _
        have hr8 : Row W8 g15 56 [.int .i64 (kn : Nat), .slice A7 DY.length C7] := by rw [hW8, hg15]; exact Row.new w7 56 _
        have HBj8 := Lib.hid (Below.then hb7 hx8.below hb7.size)
        have HRW2 := Lib.hid (rlRows_any (kn : Nat) A7 C7 DY W8 (hs7.sl.up hx8) hDYo (by omega))
        have k0 : W8.cell? ⟨g15, 0, none⟩ = some (.int .i64 (kn : Nat)) := hr8.cell 0
        have k1 : W8.cell? ⟨g15, 1, none⟩ = some (.slice A7 DY.length C7) := hr8.cell 1
        have k2 := hr8.lt
        have HW8 := Lib.hid hW8
        have HG15 := Lib.hid hg15
        clear hs7 hb7 hg15 hW8 hx8 hr8 hDY hDYo HMN2
        go_upto_region 15 with (fail)
        rw [← HW8.out, ← HG15.out]
        clear HW8 HG15
        go_wp2_with fail
        clear k0 k1 k2
        refine HRW2.out.mono ?_
        rintro e w9 ⟨g16, rfl, hmr, hb9⟩
        have HBj9 := Lib.hid (Below.then HBj8.out hb9 HBj8.out.size)
        have HM2 := Lib.hid hmr
        have HM2L : Hid (∀ x, vj.ownBlock = some x → x < W8.heap.size) := fun x hx => by have h1 := HOLT2.out x hx; have h2 := HBj8.out.size; omega
        have HM2N : Hid (vj.ownBlock ≠ some g16) := fun h => by have := HM2L.out _ h; have := hmr.base; omega
        have HM2B : Hid (DY.length ≤ 4096) := hDYl
        have HO2 := Lib.hid (own_keep HOR.out HBj9.out)
        have HU2 := Lib.hid (HUR.out.up HBj9.out)
        have hjB : B ≤ wj.heap.size := by have h1 := HBRR.out.size; have h2 := HBE.out; omega
        have HB2 := Lib.hid (Below.then HBRR.out HBj9.out hjB)
        obtain ⟨cs2, hcs2⟩ : ∃ c, c = cs := ⟨_, rfl⟩
        subst hcs2
        clear hb9 hmr hDYl HRW2 HOR HUR HBRR HBj8 q1
        go_wp2_with fail
        go_loopw [6, 69] (fun vo c wx => ∃ (j : Nat) (cs : List Value), j ≤ DY.length ∧ c = .int .i64 j ∧ wx.ownsRow B 53 3 vo (pre2 ++ (DY.take j).map fun x => (⟨false, nm, x⟩ : Upd)).length cs ∧ UpdN vo wx (pre2 ++ (DY.take j).map fun x => (⟨false, nm, x⟩ : Upd)) cs ∧ (∀ b, vo.ownBlock = some b → vj.ownBlock = some b ∨ w9.heap.size ≤ b) ∧ Stay (fun b => vj.ownBlock ≠ some b) w9 wx ∧ Below B W1 wx) (fun _ c _ => DY.length - (intOf c).toNat)
        case atStart => exact ⟨0, cs2, Nat.zero_le _, rfl, by rw [List.take_zero, List.map_nil, List.append_nil]; exact HO2.out, by rw [List.take_zero, List.map_nil, List.append_nil]; exact HU2.out, fun b h => .inl h, stay_self _ _, HB2.out⟩
        case round =>
          obtain ⟨j, cs, hj, rfl, ho, hu, hav, hst, hbr⟩ := hrel
          have HOR := Lib.hid ho
          have HUR := Lib.hid hu
          have HAV := Lib.hid hav
          have HSTR := Lib.hid hst
          have HBRR := Lib.hid hbr
          clear ho hu hav hst hbr
          by_cases hjl : j < DY.length
          · have hDB : DY.length ≤ 4096 := HM2B.out
            have q0 : (0 : Int) ≤ (j : Int) := by omega
            have q1 : (j : Int) < (DY.length : Int) := by omega
            have q3 : IntKind.i64.wrap ((j : Int) + 1) = ((j + 1 : Nat) : Int) := by rw [IntWalk.i64_in _ (by omega)]; omega
            obtain ⟨A', C', hc0, hsr, hfar⟩ := HM2.out.get hjl
            have hgne : vj.ownBlock ≠ some g16 := HM2N.out
            have e0 : wr.cell? ⟨g16, j, none⟩ = some (.slice A' DY[j].length C') := (World.cell?_of_block (HSTR.out.2 g16 HM2.out.lt hgne)).trans hc0
            have e1 : g16 < wr.heap.size := Nat.lt_of_lt_of_le HM2.out.lt HSTR.out.1
            have HSR : Hid (SlR wr.heap.size wr A' DY[j] ∧ (DY[j] ≠ [] → ∀ ad, A' = some ad → u6.ownBlock ≠ some ad.block)) := by
              have hne : DY[j] ≠ [] → ∀ ad, A' = some ad → vj.ownBlock ≠ some ad.block := fun h ad ha h0 => by
                have h1 := hfar h ad ha
                have h2 := HM2L.out _ h0
                omega
              refine ⟨fun hc => ?_, fun h ad ha h0 => ?_⟩
              · obtain ⟨b', o', ea, hb', hcell⟩ := hsr hc
                have hx : DY[j] ≠ [] := fun h0 => hc (by rw [h0]; rfl)
                exact ⟨b', o', ea, Nat.lt_of_lt_of_le hb' HSTR.out.1, fun i u hi => (World.cell?_of_block (HSTR.out.2 b' hb' (hne hx _ ea))).trans (hcell i u hi)⟩
              · rcases HAV.out _ h0 with h1 | h1
                · exact hne h ad ha h1
                · have := hsr.ltB h ad ha
                  omega
            have HTK : Hid ((DY.take (j + 1)).map (fun x => (⟨false, nm, x⟩ : Upd)) = (DY.take j).map (fun x => (⟨false, nm, x⟩ : Upd)) ++ [⟨false, nm, DY[j]⟩]) := by
              show _ = _
              rw [List.take_succ_eq_append_getElem hjl, List.map_append, List.map_singleton]
            have HLE : Hid ((pre2 ++ (DY.take j).map fun x => (⟨false, nm, x⟩ : Upd)).length + 1 ≤ 1000000) := by
              have h1 := HPL.out
              have h2 := HM2B.out
              show _ ≤ _
              rw [List.length_append, List.length_map, List.length_take]
              omega
            clear hc0 hsr hfar hgne hDB
            generalize DY[j] = x at *
            obtain ⟨us, hus⟩ : ∃ us, us = pre2 ++ (DY.take j).map fun x => (⟨false, nm, x⟩ : Upd) := ⟨_, rfl⟩
            have HUS := Lib.hid hus.symm
            rw [← hus] at HOR HUR HLE
            clear hus
            obtain ⟨W2, hW2⟩ : ∃ W2, W2 = wr.alloc (.cells #[.bool false, .string nm, .slice A' x.length C'] 53) := ⟨_, rfl⟩
            have hx2 : Ext wr W2 := by rw [hW2]; exact (Ext.refl wr).alloc _
            have hr2 : Row W2 wr.heap.size 53 [.bool false, .string nm, .slice A' x.length C'] := by rw [hW2]; exact Row.new wr _ _
            have HSN : Hid (Sl W2.heap.size W2 (some ⟨wr.heap.size, 0, none⟩) [.bool false, .string nm, .slice A' x.length C']) := hr2.sl
            have HO2 := Lib.hid (own_keep HOR.out hx2.below)
            have HU2 := Lib.hid ((HUR.out.up hx2.below).snoc (del := false) (nm := nm) (RC := C') ((HSR.out.1.below hx2.below (Nat.le_refl _)).more hx2.size) HSR.out.2)
            have HST2 := Lib.hid (HSTR.out.trans (Stay.of hx2.below))
            have HB2 := Lib.hid (Below.then HBRR.out hx2.below (by have h1 := HBE.out; have h2 := HBRR.out.size; omega))
            have hbz : B ≤ W2.heap.size := by have h1 := HBE.out; have h2 := HB2.out.size; omega
            have hz2 : w9.heap.size ≤ W2.heap.size := HST2.out.1
            have HW2 := Lib.hid hW2
            clear hx2 hr2 hW2 HOR HUR HSR
            go_wp2_with (first
              | (at_builtin; rw [← HW2.out]; refine appXUpd rfl (.tmp 73) (.tmp 77) rfl B u6 us.length cs rfl HO2.out (some ⟨wr.heap.size, 0, none⟩) 1 1 [.bool false, .string nm, .slice A' x.length C'] rfl rfl HSN.out (by simp [Value.oneCell']) HLE.out hbz ?_; intro v5 w5 hown hg hat)
              | fail)
            have HO5 := Lib.hid hown
            have HU5 := Lib.hid (HU2.out.grow hg hat)
            have HAV5 : Hid (∀ b, v5.ownBlock = some b → vj.ownBlock = some b ∨ w9.heap.size ≤ b) := fun b h => by
              rcases hat b h with h1 | h1
              · exact HAV.out b h1
              · right; omega
            have HST5 : Hid (Stay (fun b => vj.ownBlock ≠ some b) w9 w5) := ⟨Nat.le_trans HST2.out.1 hg.size, fun b hb hp => (hg.block b (Nat.lt_of_lt_of_le hb HST2.out.1) (fun e => by
              rcases HAV.out b e.symm with h1 | h1
              · exact hp h1
              · omega)).trans (HST2.out.2 b hb hp)⟩
            have HB5 : Hid (Below B W1 w5) := by
              have h := HB2.out.grown hg hbz (fun k hk => own_base HO2.out hk)
              exact h
            clear hown hg hat HO2 HU2 HST2 HB2 HSN HW2 e0 e1
            go_wp2_with fail
            go_roundw
            case rel =>
              refine ⟨j + 1, cs ++ [.bool false, .string nm, .slice A' x.length C'], hjl, by go_num, ?_, ?_, HAV5.out, HST5.out, HB5.out⟩
              · rw [HTK.out, ← List.append_assoc, HUS.out, List.length_append]; exact HO5.out
              · rw [HTK.out, ← List.append_assoc, HUS.out]; exact HU5.out
            case measure => simp [intOf]; omega
          · obtain rfl : j = DY.length := by omega
            have q1 : ¬ (DY.length : Int) < (DY.length : Int) := by omega
            rw [List.take_length] at HOR HUR
            rw [HPRE2.out, List.append_assoc, HDX.out, HDY.out] at HOR HUR
            have HOF : Hid (wr.ownsRow B 53 3 u6 (diffF (ns.take (k + 1)) F G).length cs) := by show World.ownsRow _ _ _ _ _ _ _; rw [HSTEP.out]; exact HOR.out
            have HUF : Hid (UpdN u6 wr (diffF (ns.take (k + 1)) F G) cs) := by show UpdN _ _ _ _; rw [HSTEP.out]; exact HUR.out
            clear HOR HUR HAV HSTR HM2 HM2L HM2N
            go_wp2_with fail
            go_roundw
            case rel => exact ⟨k + 1, cs, hkl, by go_num, HOF.out, HUF.out, HBRR.out⟩
            case measure => simp [intOf]; omega
end
end Go.Proofs.YtdadchpiibipoaaGreatDoor

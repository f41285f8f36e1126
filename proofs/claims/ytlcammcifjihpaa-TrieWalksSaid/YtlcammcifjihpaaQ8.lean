/- Parts of the proof, merged: K8, K9, N9, F11. -/
import Derived.Test.YtlcammcifjihpaaQ7
import Derived.Test.YtlcammcifjihpaaQ2
import Derived.Test.YtlcammcifjihpaaQ6
import Derived.Test.YtlcammcifjihpaaRows
import Derived.Test.YtlcammcifjihpaaQ5
import Derived.ProofKit
import Derived.OpenShut
import Derived.ShutString
import Derived.ChangeOld
import Derived.ChangeSame
import Derived.Lib.SmallJoins
import Derived.Deep.Slices
import Derived.Deep.Fields

section
/- Walk: made of chapter 34's laws. -/
namespace Go.Proofs.Ytlcammcifjihpaa
open Go.RowKit Go.Sort

theorem valN_valid (n : Nat) : RL.validV (valN n) = true := by
  unfold valN RL.validV
  split
  · have : (ByteArray.mk #[UInt8.ofNat n]).size = 1 := rfl
    simp [this]
  · have : (ByteArray.mk #[]).size = 0 := rfl
    simp [this]
theorem valN_str (n : Nat) : (valN n).str.size ≤ 1 := by
  unfold valN
  split
  · exact Nat.le_refl _
  · exact Nat.zero_le _
theorem rowN_wrong (n : Nat) (t : List Nat) : wrongF n (rowN n t) = 0 := by
  unfold wrongF
  rw [rowN_len, if_neg (by simp), if_pos]
  unfold rowN
  rw [List.all_eq_true]
  intro v hv
  obtain ⟨k, _, rfl⟩ := List.mem_map.1 hv
  exact valN_valid _
theorem rowsN_err (n : Nat) (X : List (List Nat)) : errF n (X.map (rowN n)) = 0 := errF_zero.2 fun x hx => by
  obtain ⟨t, _, rfl⟩ := List.mem_map.1 hx
  exact rowN_wrong n t
theorem rowsN_ok {n : Nat} (hn : n ≤ 1000000) (X : List (List Nat)) : RsOk (X.map (rowN n)) := fun x hx => by
  obtain ⟨t, _, rfl⟩ := List.mem_map.1 hx
  refine ⟨by rw [rowN_len]; exact hn, fun v hv => ?_⟩
  unfold rowN at hv
  obtain ⟨k, _, rfl⟩ := List.mem_map.1 hv
  have := valN_str (t.getD k 0)
  omega
theorem rowsN_len (n : Nat) (X : List (List Nat)) : ∀ x ∈ X.map (rowN n), x.length = n := fun x hx => by
  obtain ⟨t, _, rfl⟩ := List.mem_map.1 hx
  exact rowN_len n t
theorem ofF_ofF_map (X : List RL.R) (f : RL.R → RL.R) : RL.ofF ((RL.ofF X).map f) = RL.ofF (X.map f) := RL.ofF_eq (RL.SS.of _) fun r => by
  rw [RL.mem_ofF]
  simp only [List.mem_map, RL.mem_ofF]

theorem sl_apart {B : Nat} {w : World} {A : Option Addr} {xs : List Value} {z : Nat} {T : TypeId} {x : Value} (h : Sl B w A xs) (hz : Row w z T [x]) (hx : ∀ u, xs[0]? = some u → u ≠ x) : xs ≠ [] → ∀ ad, A = some ad → ad.block ≠ z := fun hn ad e e2 => by
  obtain ⟨b, o, e', _, hc⟩ := h hn
  rw [e] at e'
  injection e' with e'
  rw [e'] at e2
  simp only at e2
  subst e2
  obtain ⟨u, xs', rfl⟩ := List.exists_cons_of_ne_nil hn
  have h0 := hc 0 u rfl
  rw [hz.cell] at h0
  rcases Nat.eq_zero_or_pos (o + 0) with h1 | h1
  · rw [h1] at h0
    injection h0 with h0
    exact hx u rfl h0.symm
  · rw [List.getElem?_eq_none (by simp; omega)] at h0
    cases h0
theorem Sl.store {B : Nat} {w : World} {A : Option Addr} {xs : List Value} {z : Nat} {T : TypeId} {x : Value} (h : Sl B w A xs) (hz : Row w z T [x]) (hx : ∀ u, xs[0]? = some u → u ≠ x) (u : Value) : Sl B (w.setCell ⟨z, 0, none⟩ u) A xs := fun hn => by
  have hne := sl_apart h hz hx hn
  obtain ⟨b, o, e, hb, hc⟩ := h hn
  refine ⟨b, o, e, hb, fun i u' hu => far_cell (p := ⟨z, 0, none⟩) (q := ⟨b, o + i, none⟩) (fun e2 => hne _ e e2.symm) (hc i u' hu)⟩
theorem rcells_head {y : RL.R} {A : Option Addr} {l C : Nat} : ∀ u, (rcells y)[0]? = some u → u ≠ .slice A l C := fun u hu => by
  cases y with
  | nil => simp [rcells] at hu
  | cons v y => simp [rcells_cons, vcells] at hu; subst hu; intro e; cases e
theorem TrM.store {B : Nat} {w : World} {LA : Option Addr} {d : Nat} {vs : Nat → RL.R} {fs : Nat → List Nat} (h : TrM B w LA d vs fs) {z : Nat} {T : TypeId} {A : Option Addr} {l C : Nat} (hz : Row w z T [.slice A l C]) (u : Value) : TrM B (w.setCell ⟨z, 0, none⟩ u) LA d vs fs := fun k hk => by
  obtain ⟨b, o, VA, VC, FA, FC, h1, h2, h3, h4, h5, h6, h7, h8⟩ := h k hk
  have hbz : z ≠ b := fun e => by
    subst e
    rw [hz.cell] at h3 h4
    have := (List.getElem?_eq_some_iff.1 h3).1
    have := (List.getElem?_eq_some_iff.1 h4).1
    simp at * <;> omega
  exact ⟨b, o, VA, VC, FA, FC, h1, h2, far_cell (p := ⟨z, 0, none⟩) (q := ⟨b, o + k * 2, none⟩) hbz h3, far_cell (p := ⟨z, 0, none⟩) (q := ⟨b, o + k * 2 + 1, none⟩) hbz h4, h5, h6, Sl.store h7 hz rcells_head u, Sl.store h8 hz (fun v hv => by
    cases hf : fs k with
    | nil => rw [hf] at hv; simp at hv
    | cons a l => rw [hf] at hv; simp at hv; subst hv; intro e; cases e) u⟩
theorem OwnRs.store {w : World} {B : Nat} {E : TypeId} {v : Value} {X : List RL.R} (h : OwnRs w B E v X) {z : Nat} {T : TypeId} {A : Option Addr} {l C : Nat} (hz : Row w z T [.slice A l C]) (hzB : z < B) (u : Value) : OwnRs (w.setCell ⟨z, 0, none⟩ u) B E v X := by
  obtain ⟨hs, h1, h2⟩ := h
  refine ⟨hs, own_far h1 (fun e => by have := own_base h1 e; simp only at this; omega) u, fun i hi => ?_⟩
  obtain ⟨A', C', g1, g2, g3, g4, g5⟩ := h2 i hi
  refine ⟨A', C', g1, g2, g3, ?_, g5⟩
  have := Sl.store g4 hz rcells_head u
  unfold SlR
  simpa using this

/-- The rows of the projection. -/
def projRows (ar : Nat) (X : List (List Nat)) (cs : List Int) : List RL.R := RL.ofF ((X.map (rowN (ar % 4))).map (projF · cs))
/-- What made leaves. -/
def MadePost (w : World) (ar : Nat) (X : List (List Nat)) (cs : List Int) (e : Ending) (w' : World) : Prop :=
  (newErr (ar % 4 : Nat) cs ≠ 0 → e = .returned (.tuple #[.agg #[.slice none 0 0], .slice none 0 0, .bool false])) ∧
  (newErr (ar % 4 : Nat) cs = 0 → ∃ LA C VA VC, e = .returned (.tuple #[.agg #[.slice LA cs.length C], .slice VA (projRows ar X cs).length VC, .bool true]) ∧ (projRows ar X cs).length ≤ VC ∧ VC ≤ 9223372036854775807 ∧ TrM w'.heap.size w' LA cs.length (vsF cs.length (projRows ar X cs)) (fsF cs.length (projRows ar X cs)) ∧ SlRs w'.heap.size w' VA (projRows ar X cs)) ∧ Below w.heap.size w w'
theorem MadePost.bad {w : World} {ar : Nat} {X : List (List Nat)} {cs : List Int} {e : Ending} {w' : World} (hne : newErr (ar % 4 : Nat) cs ≠ 0) (he : e = .returned (.tuple #[.agg #[.slice none 0 0], .slice none 0 0, .bool false])) (hb : Below w.heap.size w w') : MadePost w ar X cs e w' :=
  ⟨fun _ => he, fun h0 => absurd h0 hne, hb⟩

set_option maxHeartbeats 8000000 in
set_option maxRecDepth 100000 in
theorem l34made_any (ar : Nat) (A CA : Option Addr) (C CC : Nat) (X : List (List Nat)) (cs : List Int) (w : World) (har : ar < 256) (hX : SlA 3 w.heap.size w A X) (hl : X.length ≤ 1000) (hB : Bytes X) (hcs : SlI .i64 w.heap.size w CA cs) (hcl : cs.length ≤ 32) (hcc : cs.length ≤ CC) (hcm : CC ≤ 9223372036854775807) :
    Calls Try.prog 10 #[.agg #[.int .u8 ar, .slice A X.length C], .slice CA cs.length CC] w (MadePost w ar X cs) := by
  have HCS := Lib.hid hcs
  have HRW := Lib.hid (fun W (h : SlA 3 W.heap.size W A X) => l34Rows_any ar A C X W har h (by omega) hB)
  have HX := Lib.hid hX
  have HP : Hid (∀ P, P = projRows ar X cs → newErr (ar % 4 : Nat) cs = 0 → ∀ e w' LA C VA VC, e = .returned (.tuple #[.agg #[.slice LA cs.length C], .slice VA P.length VC, .bool true]) → P.length ≤ VC → VC ≤ 9223372036854775807 → TrM w'.heap.size w' LA cs.length (vsF cs.length P) (fsF cs.length P) → SlRs w'.heap.size w' VA P → Below w.heap.size w w' → MadePost w ar X cs e w') := fun P hP h0 e w' LA C VA VC h1 h2 h3 h4 h5 h6 => by
    subst hP
    exact ⟨fun h => absurd h0 h, fun _ => ⟨LA, C, VA, VC, h1, h2, h3, h4, h5⟩, h6⟩
  have HBAD : Hid (∀ e w', newErr (ar % 4 : Nat) cs ≠ 0 → e = .returned (.tuple #[.agg #[.slice none 0 0], .slice none 0 0, .bool false]) → Below w.heap.size w w' → MadePost w ar X cs e w') := fun e w' h1 h2 h3 => MadePost.bad h1 h2 h3
  have HPR : Hid (projRows ar X cs = RL.ofF ((X.map (rowN (ar % 4))).map (projF · cs))) := rfl
  clear hcs hX hB
  obtain ⟨n, hn⟩ : ∃ n, n = ar % 4 := ⟨_, rfl⟩
  rw [← hn] at HRW HP HPR HBAD
  have hn3 : n ≤ 3 := by omega
  clear hn
  go_enter Try.func10, Try.ntmps10
  go_wp2_with fail
  refine (HRW.out _ (HX.out.upB (((Ext.refl w).alloc _).alloc _).below)).mono ?_
  rintro e w1 ⟨v, rfl, hown, hb⟩
  have hx0 : Ext w ((w.alloc (.cells #[.int .u8 ar, .slice A X.length C] 24)).alloc (.cells #[.slice none 0 0] 31)) := ((Ext.refl w).alloc _).alloc _
  have hz0 : ((w.alloc (.cells #[.int .u8 ar, .slice A X.length C] 24)).alloc (.cells #[.slice none 0 0] 31)).heap.size = w.heap.size + 2 := by simp
  have hr0 := Row.new (w.alloc (.cells #[.int .u8 ar, .slice A X.length C] 24)) 31 [.slice none 0 0]
  simp only [World.size_alloc] at hr0
  have HR1 := Lib.hid (hr0.up hb)
  have HB1 := Lib.hid (Below.then hx0.below hb hx0.size)
  obtain ⟨VA, VC, rfl, hvc, hvm, hsv⟩ := hown.sl
  rw [List.length_map]
  have HSV := Lib.hid hsv
  have hz1 : w.heap.size + 2 ≤ w1.heap.size := by have := hb.size; omega
  clear hown hb hx0 hz0 hr0 hsv HRW HX
  go_wp2
  go_loopw [9] (fun m wr => ∃ i : Nat, i ≤ cs.length ∧ m = .int .i64 i ∧ Ext w1 wr ∧ (∀ j, j < i → colErr n cs j = 0)) (fun m _ => cs.length - (intOf m).toNat)
  case atStart => exact ⟨0, Nat.zero_le _, rfl, Ext.refl _, fun j hj => absurd hj (by omega)⟩
  case round =>
    obtain ⟨i, hia, rfl, hx, hall⟩ := hrel
    have HX1 := Lib.hid hx
    have HALL := Lib.hid hall
    have hzx := hx.size
    have hr2 := HR1.out.up hx.below
    have HR2 := Lib.hid hr2
    have t0 : wr.cell? ⟨w.heap.size + 1, 0, none⟩ = some (.slice none 0 0) := hr2.cell 0
    have f0 := hr2.frozen 0
    clear hx hall hr2
    by_cases h1 : i < cs.length
    rotate_left
    · obtain rfl : i = cs.length := by omega
      have HN0 := Lib.hid (newErr_zero HALL.out)
      have hcolok := cols_of_zero HALL.out
      have HCO := Lib.hid hcolok
      have HOF := Lib.hid (rlOf_any (n : Int) VA VC (X.map (rowN n)) wr (by omega) (by omega) ((HSV.out.up HX1.out)) (rowsN_ok (by omega) X) (by rw [List.length_map]; omega))
      rw [List.length_map] at HOF
      have HBW := Lib.hid (Below.then HB1.out HX1.out.below (by omega))
      have HSV2 := Lib.hid (HSV.out.up HX1.out)
      clear HALL hcolok HSV HB1
      go_wp2_with fail
      refine HOF.out.mono ?_
      rintro e w2 ⟨h1, -, hb2⟩
      obtain ⟨rv, rfl, RA, RC, rfl, hrc, hrm, hfr⟩ := h1 (rowsN_err n X)
      have hpl : (RL.ofF (X.map (rowN n))).length ≤ 60000 := by have := RL.ofF_length_le (X.map (rowN n)); rw [List.length_map] at this; omega
      have hlen0 : ∀ x ∈ RL.ofF (X.map (rowN n)), (x.length : Int) = (n : Int) := fun x hx => by have := rowsN_len n X x ((RL.mem_ofF _ _).1 hx); omega
      have hok0 : RsOk (RL.ofF (X.map (rowN n))) := (rowsN_ok (show n ≤ 1000000 by omega) X).of_mem (fun y hy => (RL.mem_ofF _ _).1 hy)
      have HB2 := Lib.hid (Below.then HBW.out hb2 HBW.out.size)
      have HSV3 := Lib.hid (HSV2.out.upB hb2)
      have HR3 := Lib.hid (HR2.out.up hb2)
      have HPP : Hid (projRows ar X cs = RL.ofF ((RL.ofF (X.map (rowN n))).map (projF · cs))) := HPR.out.trans (ofF_ofF_map _ _).symm
      have HTN := Lib.hid (fun (W : World) (hb : Below w2.heap.size w2 W) => trNew_any (n : Int) RA CA RC CC (RL.ofF (X.map (rowN n))) cs W (hfr.sl.upB hb) (((HCS.out.below HB2.out (Nat.le_refl _)).more HB2.out.size).keep (fun p hp => hb.cell hp) |>.more hb.size) hok0 hpl hcl hcc hcm hlen0)
      have HR0 := Lib.hid hfr.sl
      generalize (RL.ofF (X.map (rowN n))).length = rl at *
      clear h1 hb2 hfr hok0 hlen0 t0 f0 HOF HR2 HSV2 HBW
      go_wp2_with fail
      refine (HTN.out _ ((Below.refl _ _).alloc (Nat.le_refl _) _)).mono ?_
      rintro e w3 ⟨-, h2, hb3⟩
      obtain ⟨LA, LC, rfl, htr⟩ := h2 HN0.out
      rw [← HPP.out] at htr
      have hb3' := Below.box hb3 (by simp)
      have HB3 := Lib.hid (Below.then HB2.out hb3' HB2.out.size)
      have HSV4 := Lib.hid (HSV3.out.upB hb3')
      have HR4 := Lib.hid (HR3.out.up hb3')
      have HTR := Lib.hid htr
      have hzz3 := HB3.out.size
      have hr4z := HR4.out.lt
      clear h2 hb3 hb3' htr HTN HSV3 HR3 HB2
      obtain ⟨W4, hW4⟩ : ∃ W4, W4 = w3.alloc (.cells #[.slice LA cs.length LC] 31) := ⟨_, rfl⟩
      have hx4 : Ext w3 W4 := by rw [hW4]; exact (Ext.refl w3).alloc _
      have hr5 : Row W4 w3.heap.size 31 [.slice LA cs.length LC] := by rw [hW4]; exact Row.new w3 31 _
      have t1 : W4.cell? ⟨w3.heap.size, 0, none⟩ = some (.slice LA cs.length LC) := hr5.cell 0
      have hz4 := hr5.lt
      have HR5 := Lib.hid hr5
      have HX4 := Lib.hid hx4
      have t0 : W4.cell? ⟨w.heap.size + 1, 0, none⟩ = some (.slice none 0 0) := (HR4.out.up hx4.below).cell 0
      have f0 := (HR4.out.up hx4.below).frozen 0
      have HPC : Hid (∀ W, Ext W4 W → Calls Try.prog 26 #[.slice VA X.length VC, .slice CA cs.length CC] W fun e w' => ∃ v, e = .returned v ∧ OwnRs w' W.heap.size 47 v (projRows ar X cs) ∧ Below W.heap.size W w') := fun W hW => by
        have hxx := HX4.out.trans hW
        have hbb := Below.then HB3.out hxx.below (by omega)
        have h := r34Project_any n VA CA VC CC (X.map (rowN n)) cs W (HSV4.out.up hxx) ((HCS.out.below hbb (Nat.le_refl _)).more hbb.size) (by rw [List.length_map]; omega) (by omega) (rowsN_len n X) (fun c hc => by
          have h := List.all_eq_true.1 HCO.out c hc
          simp only [Bool.and_eq_true, decide_eq_true_eq] at h
          exact h) (by omega)
        rw [List.length_map, ← HPR.out] at h
        exact h
      have HP2 := Lib.hid (HP.out (projRows ar X cs) rfl HN0.out)
      generalize projRows ar X cs = P at *
      clear hr5 hx4
      go_wp2
      rw [← hW4]
      clear hW4
      refine wp_region_held_drew (S := (fun w' => w'.cell? ⟨w3.heap.size, 0, none⟩ = some (.slice LA cs.length LC))) (by kernel_rfl) t1 (fun hHeld => ?_)
      refine takeOp (i := 0) (v := ?_) (some 67) rfl rfl (by kernel_rfl) (by kernel_rfl) (by kernel_rfl) (fun _ _ _ h => h) (Or.inl ⟨by rfl, ?_⟩) (by assumption) ?_
      rotate_left 1
      · (intro w0 hSw; (try dsimp only at hSw); go_simp; try (with_reducible rfl))
      try simp only [Act.put]
      try simp only [List.setIfInBounds_toArray]
      try simp only [List.set_cons_succ]
      try simp only [List.set_cons_zero]
      refine takeOp (i := 1) (v := ?_) (some 68) rfl rfl (by kernel_rfl) (by kernel_rfl) (by kernel_rfl) (fun _ _ _ h => h) (Or.inl ⟨by rfl, ?_⟩) (by assumption) ?_
      rotate_left 1
      · (intro w0 hSw; (try dsimp only at hSw); go_simp; try (with_reducible rfl))
      try simp only [Act.put]
      try simp only [List.setIfInBounds_toArray]
      try simp only [List.set_cons_succ]
      try simp only [List.set_cons_zero]
      refine takeOp (i := 2) (v := ?_) (some 69) rfl rfl (by kernel_rfl) (by kernel_rfl) (by kernel_rfl) (fun _ _ _ h => h) (Or.inl ⟨by rfl, ?_⟩) (by assumption) ?_
      rotate_left 1
      · (intro w0 hSw; (try dsimp only at hSw); go_simp; try (with_reducible rfl))
      try simp only [Act.put]
      try simp only [List.setIfInBounds_toArray]
      try simp only [List.set_cons_succ]
      try simp only [List.set_cons_zero]
      refine takeOp (i := 4) (v := ?_) (some 71) rfl rfl (by kernel_rfl) (by kernel_rfl) (by kernel_rfl) (fun _ _ _ h => h) (Or.inl ⟨by rfl, ?_⟩) (by assumption) ?_
      rotate_left 1
      · (intro w0 hSw; (try dsimp only at hSw); go_simp; try (with_reducible rfl))
      try simp only [Act.put]
      try simp only [List.setIfInBounds_toArray]
      try simp only [List.set_cons_succ]
      try simp only [List.set_cons_zero]
      refine takeOp (i := 5) (v := ?_) (some 72) rfl rfl (by kernel_rfl) (by kernel_rfl) (by kernel_rfl) (fun _ _ _ h => h) (Or.inl ⟨by rfl, ?_⟩) (by assumption) ?_
      rotate_left 1
      · (intro w0 hSw; (try dsimp only at hSw); go_simp; try (with_reducible rfl))
      try simp only [Act.put]
      try simp only [List.setIfInBounds_toArray]
      try simp only [List.set_cons_succ]
      try simp only [List.set_cons_zero]
      refine wpAnyH_ready (rs := [3]) (by kernel_rfl) (by simp) ?_
      refine AllReadyH.cons rfl (fun K hK => ?_) AllReadyH.nil
      go_simp
      refine (HPC.out _ (Ext.refl W4).drew).mono ?_
      rintro e w5 ⟨v, rfl, hown, hb5⟩
      obtain ⟨QA, QC, rfl, hq1, hq2, hq3⟩ := hown.sl
      have HOWN := Lib.hid hown
      have hb5' : Below W4.heap.size W4 w5 := Below.undrew hb5
      have KEEP : w5.cell? ⟨w3.heap.size, 0, none⟩ = some (.slice LA cs.length LC) := (HR5.out.up hb5').cell 0
      have HQ := Lib.hid hq3
      have HB5 := Lib.hid hb5'
      have t5 : w5.cell? ⟨w.heap.size + 1, 0, none⟩ = some (.slice none 0 0) := ((HR4.out.up HX4.out.below).up hb5').cell 0
      have f5 := ((HR4.out.up HX4.out.below).up hb5').frozen 0
      clear hown hb5 hb5' hq3
      go_wp2_with fail
      refine hK.out _ _ KEEP (fun hHeld => ?_)
      clear hK K
      try simp only [Act.put]
      try simp only [List.setIfInBounds_toArray]
      try simp only [List.set_cons_succ]
      try simp only [List.set_cons_zero]
      refine takeOp (i := 6) (v := ?_) (some 73) rfl rfl (by kernel_rfl) (by kernel_rfl) (by kernel_rfl) (fun _ _ _ h => h) (Or.inl ⟨by rfl, ?_⟩) (by assumption) ?_
      rotate_left 1
      · (intro w0 hSw; (try dsimp only at hSw); go_simp; try (with_reducible rfl))
      try simp only [Act.put]
      try simp only [List.setIfInBounds_toArray]
      try simp only [List.set_cons_succ]
      try simp only [List.set_cons_zero]
      refine takeOp (i := 7) (v := ?_) (some 74) rfl rfl (by kernel_rfl) (by kernel_rfl) (by kernel_rfl) (fun _ _ _ h => h) (Or.inl ⟨by rfl, ?_⟩) (by assumption) ?_
      rotate_left 1
      · (intro w0 hSw; (try dsimp only at hSw); go_simp; try (with_reducible rfl))
      try simp only [Act.put]
      try simp only [List.setIfInBounds_toArray]
      try simp only [List.set_cons_succ]
      try simp only [List.set_cons_zero]
      refine takeOp (i := 8) (v := ?_) (some 75) rfl rfl (by kernel_rfl) (by kernel_rfl) (by kernel_rfl) (fun _ _ _ h => h) (Or.inl ⟨by rfl, ?_⟩) (by assumption) ?_
      rotate_left 1
      · (intro w0 hSw; (try dsimp only at hSw); go_simp; try (with_reducible rfl))
      try simp only [Act.put]
      try simp only [List.setIfInBounds_toArray]
      try simp only [List.set_cons_succ]
      try simp only [List.set_cons_zero]
      refine takeOp (i := 9) (v := ?_) (some 76) rfl rfl (by kernel_rfl) (by kernel_rfl) (by kernel_rfl) (fun _ _ _ h => h) (Or.inl ⟨by rfl, ?_⟩) (by assumption) ?_
      rotate_left 1
      · (intro w0 hSw; (try dsimp only at hSw); go_simp; try (with_reducible rfl))
      try simp only [Act.put]
      try simp only [List.setIfInBounds_toArray]
      try simp only [List.set_cons_succ]
      try simp only [List.set_cons_zero]
      refine wpAnyH_ready (rs := [10]) (by kernel_rfl) (by simp) ?_
      refine AllReadyH.cons rfl (fun K hK => ?_) AllReadyH.nil
      go_simp
      have KEEP2 : (w5.setCell ⟨w.heap.size + 1, 0, none⟩ (.slice LA cs.length LC)).cell? ⟨w3.heap.size, 0, none⟩ = some (.slice LA cs.length LC) := far_cell (p := ⟨w.heap.size + 1, 0, none⟩) (q := ⟨w3.heap.size, 0, none⟩) (by show w.heap.size + 1 ≠ w3.heap.size; omega) KEEP
      go_wp2_with fail
      refine hK.out _ _ KEEP2 (fun hHeld => ?_)
      clear hK K
      try simp only [Act.put]
      try simp only [List.setIfInBounds_toArray]
      try simp only [List.set_cons_succ]
      try simp only [List.set_cons_zero]
      refine takeOp (i := 11) (v := ?_) (some 5) rfl rfl (by kernel_rfl) (by kernel_rfl) (by kernel_rfl) (fun _ _ _ h => h) (Or.inl ⟨by rfl, ?_⟩) (by assumption) ?_
      rotate_left 1
      · (intro w0 hSw; (try dsimp only at hSw); go_simp; try (with_reducible rfl))
      try simp only [Act.put]
      try simp only [List.setIfInBounds_toArray]
      try simp only [List.set_cons_succ]
      try simp only [List.set_cons_zero]
      refine takeOp (i := 12) (v := ?_) (some 6) rfl rfl (by kernel_rfl) (by kernel_rfl) (by kernel_rfl) (fun _ _ _ h => h) (Or.inl ⟨by rfl, ?_⟩) (by assumption) ?_
      rotate_left 1
      · (intro w0 hSw; (try dsimp only at hSw); go_simp; try (with_reducible rfl))
      try simp only [Act.put]
      try simp only [List.setIfInBounds_toArray]
      try simp only [List.set_cons_succ]
      try simp only [List.set_cons_zero]
      refine wpAnyH_done (by kernel_rfl) ?_ _
      have hr6 := (HR4.out.up HX4.out.below).up HB5.out
      have z0 := (hr6.set 0 (.slice LA cs.length LC)).cell 0
      simp only [List.set_cons_zero, List.getElem?_cons_zero] at z0
      have hzz5 := HB5.out.size
      have hzz4 := HX4.out.size
      go_wp2
      refine bodyPost_ret (v := .tuple #[.agg #[.slice LA cs.length LC], .slice QA P.length QC, .bool true]) (by simp [results, Try.results10, go_sem, z0]) rfl (HP2.out _ _ _ _ _ _ rfl hq1 hq2 ?_ ?_ ?_)
      · have h1 : TrM w3.heap.size w5 LA cs.length (vsF cs.length P) (fsF cs.length P) := (HTR.out.below (Below.then HX4.out.below HB5.out hzz4) (Nat.le_refl _))
        have h2 := (TrM.store h1 hr6 (.slice LA cs.length LC)).more (B' := (w5.setCell ⟨w.heap.size + 1, 0, none⟩ (.slice LA cs.length LC)).heap.size) (by simp; omega)
        exact h2
      · have h2 := OwnRs.store HOWN.out hr6 (by show w.heap.size + 1 < W4.heap.size; omega) (.slice LA cs.length LC)
        obtain ⟨QA', QC', e2, -, -, hs2⟩ := h2.sl
        injection e2 with e2
        subst e2
        exact hs2
      · exact (Below.then (Below.then HB3.out HX4.out.below hzz3) HB5.out (by omega)).setCell (by simp) _
    obtain ⟨b, o, hCA, hb, d1⟩ := slI_at HCS.out h1
    have d1 := ((Below.then HB1.out HX1.out.below (by omega)).cell (p := ⟨b, o + i, none⟩) hb).trans d1
    have HC : Hid (colErr n cs i = if cs[i] < 0 ∨ (n : Int) ≤ cs[i] then 3 else if cs[i] ∈ cs.take i then 8 else 0) := by
      show _ = _
      unfold colErr
      rw [List.getD_eq_getElem?_getD, List.getElem?_eq_getElem h1]
      rfl
    have z0 := (HR2.out.set 0 (.slice none 0 0)).cell 0
    simp only [List.set_cons_zero, List.getElem?_cons_zero] at z0
    have HBW := Lib.hid (Below.then HB1.out HX1.out.below (by omega))
    by_cases g : cs[i] < 0 ∨ (n : Int) ≤ cs[i]
    · have HE := Lib.hid (newErr_at h1 HALL.out (by rw [HC.out, if_pos g]; omega))
      rw [HC.out, if_pos g] at HE
      subst hCA
      have HCI : Hid (∀ c, c = cs[i] → (c < 0 ∨ (n : Int) ≤ c)) := fun c hc => by rw [hc]; exact g
      clear HC g
      generalize cs[i] = c at *
      have hc := HCI.out c rfl
      clear HCI
      rcases Int.lt_or_le c 0 with g1 | g1
      · have g1' : decide (c < 0) = true := by simpa using g1
        go_wp2
        exact bodyPost_ret (v := .tuple #[.agg #[.slice none 0 0], .slice none 0 0, .bool false]) (by simp [results, Try.results10, go_sem, z0]) rfl (HBAD.out _ _ (by rw [HE.out]; omega) rfl (HBW.out.setCell (by simp) _))
      · have g1' : decide (c < 0) = false := by simp; omega
        have g2' : decide ((n : Int) ≤ c) = true := by simp; omega
        go_wp2
        exact bodyPost_ret (v := .tuple #[.agg #[.slice none 0 0], .slice none 0 0, .bool false]) (by simp [results, Try.results10, go_sem, z0]) rfl (HBAD.out _ _ (by rw [HE.out]; omega) rfl (HBW.out.setCell (by simp) _))
    have HC2 := Lib.hid (HC.out.trans (if_neg g))
    have g1' : decide (cs[i] < 0) = false := by simp; omega
    have g2' : decide ((n : Int) ≤ cs[i]) = false := by simp; omega
    have HIN : Hid (cs[i] ∈ cs.take i ↔ ∃ j, j < i ∧ cs[j]? = some cs[i]) := by
      show _ ↔ _
      rw [List.mem_iff_getElem?]
      constructor
      · rintro ⟨j, hj⟩
        rw [List.getElem?_take] at hj
        split at hj
        · exact ⟨j, by assumption, hj⟩
        · cases hj
      · rintro ⟨j, hj, e⟩
        exact ⟨j, by rw [List.getElem?_take_of_lt hj]; exact e⟩
    have HNE := Lib.hid (fun h => newErr_at h1 HALL.out h)
    have HCJ : Hid (∀ j (hj : j < i), ∃ q, cs[j]? = some q ∧ w.cell? ⟨b, o + j, none⟩ = some (.int .i64 q)) := fun j hj => by
      obtain ⟨b', o', e', _, d'⟩ := slI_at HCS.out (show j < cs.length by omega)
      rw [hCA] at e'
      injection e' with e'
      injection e' with e1 e2 _
      subst e1 e2
      exact ⟨cs[j], List.getElem?_eq_getElem (by omega), d'⟩
    subst hCA
    clear HC g
    generalize cs[i] = c at *
    obtain ⟨wo, hwo⟩ : ∃ wo, wo = wr := ⟨_, rfl⟩
    subst hwo
    have hbz : b < wo.heap.size := by have := HBW.out.size; omega
    go_wp2
    go_loopw [10] (fun m wr => ∃ k : Nat, k ≤ i ∧ m = .int .i64 k ∧ Ext wo wr ∧ (∀ j, j < k → cs[j]? ≠ some c)) (fun m _ => i - (intOf m).toNat)
    case atStart => exact ⟨0, Nat.zero_le _, rfl, Ext.refl _, fun j hj => absurd hj (by omega)⟩
    case round =>
      obtain ⟨k, hki, rfl, hx, hno⟩ := hrel
      have HX2 := Lib.hid hx
      have HNO := Lib.hid hno
      clear hno
      by_cases h2 : k < i
      rotate_left
      · obtain rfl : k = i := by omega
        have HC3 : Hid (colErr n cs k = 0) := by
          show _ = _
          rw [HC2.out, if_neg]
          intro h
          obtain ⟨j, hj, e⟩ := HIN.out.1 h
          exact HNO.out j hj e
        go_wp2
        go_roundw
        case rel => exact ⟨k + 1, by omega, by go_num, HX1.out.trans HX2.out, fun j hj => by
          rcases Nat.lt_or_ge j k with h | h
          · exact HALL.out j h
          · obtain rfl : j = k := by omega
            exact HC3.out⟩
        case measure => simp [intOf]; omega
      obtain ⟨q, hq, d2⟩ := HCJ.out k h2
      have HQ := Lib.hid hq
      have d1 := (hx.cell hbz).trans d1
      have d2 := (Below.then HBW.out hx.below (by have := HBW.out.size; omega)).cell (p := ⟨b, o + k, none⟩) hb |>.trans d2
      have hr3 := HR2.out.up hx.below
      have t0 : wr.cell? ⟨w.heap.size + 1, 0, none⟩ = some (.slice none 0 0) := hr3.cell 0
      have f0 := hr3.frozen 0
      have z0 := (hr3.set 0 (.slice none 0 0)).cell 0
      simp only [List.set_cons_zero, List.getElem?_cons_zero] at z0
      have gk : (k : Int) < (cs.length : Int) := by omega
      have gi : (i : Int) < (cs.length : Int) := by omega
      clear hq hr3 hx
      by_cases hqc : q = c
      · have HE : Hid (newErr n cs ≠ 0) := by
          have h3 : colErr n cs i = 8 := by rw [HC2.out, if_pos (HIN.out.2 ⟨k, h2, by rw [HQ.out, hqc]⟩)]
          show _ ≠ _
          rw [HNE.out (by rw [h3]; omega), h3]
          omega
        have hqb : (q == c) = true := by simpa using hqc
        have HB3 := Lib.hid (Below.then HBW.out HX2.out.below (by have := HBW.out.size; omega))
        clear hqc HNE HIN HC2
        go_wp2
        go_quiet (fail)
        go_wp2
        have z0d : ((wr.drewN nq).setCell ⟨w.heap.size + 1, 0, none⟩ (.slice none 0 0)).cell? ⟨w.heap.size + 1, 0, none⟩ = some (.slice none 0 0) := z0
        exact bodyPost_ret (v := .tuple #[.agg #[.slice none 0 0], .slice none 0 0, .bool false]) (by simp [results, Try.results10, go_sem, z0d]) rfl (HBAD.out _ _ HE.out rfl ((Below.drewN' HB3.out _).setCell (by simp) _))
      · have hqb : (q == c) = false := by simpa using hqc
        have HNO2 : Hid (∀ j, j < k + 1 → cs[j]? ≠ some c) := fun j hj e => by
          rcases Nat.lt_or_ge j k with h | h
          · exact HNO.out j h e
          · obtain rfl : j = k := by omega
            rw [HQ.out] at e
            injection e with e
            exact hqc e
        clear hqc HNE HIN HC2
        go_wp2
        go_quiet (fail)
        go_wp2
        go_roundw
        case rel => exact ⟨k + 1, by omega, by go_num, HX2.out.drewN _, HNO2.out⟩
        case measure => simp [intOf]; omega

end Go.Proofs.Ytlcammcifjihpaa
end

section
/- Walk: awake of chapter 34's laws. -/
namespace Go.Proofs.Ytlcammcifjihpaa
open Go.RowKit Go.Sort

def awX : List (List Nat) := [[1, 2, 0], [1, 4, 0], [3, 2, 0]]
def awP : List RL.R := [[valN 1, valN 2], [valN 1, valN 4], [valN 3, valN 2]]
theorem awP_eq : projRows 2 awX [0, 1] = awP := by kernel_rfl
theorem aw_err : newErr (2 % 4 : Nat) [0, 1] = 0 := by decide
theorem aw_k0 : RL.kids 2 awP [] = [valN 1, valN 3] := by kernel_rfl
theorem aw_k1 : RL.kids 2 awP [valN 1] = [valN 2, valN 4] := by kernel_rfl
theorem aw_s1 : seekX 2 awP (valN 3) (some ([valN 1], 0)) = some ([valN 1], 1) := by kernel_rfl
theorem aw_u1 : upX 2 awP (some ([valN 1], 2)) = some ([], 0) := by kernel_rfl
theorem aw_s2 : seekX 2 awP (valN 2) (some ([], 0)) = some ([], 1) := by kernel_rfl
theorem aw_o1 : openX 2 awP none = some ([], 0) := by kernel_rfl
theorem aw_o2 : openX 2 awP (some ([], 0)) = some ([valN 1], 0) := by kernel_rfl
theorem aw_n1 : nextX 2 awP (some ([valN 1], 1)) = some ([valN 1], 2) := by kernel_rfl
theorem aw_b1 : openB 2 awP none = true := by kernel_rfl
theorem aw_b2 : openB 2 awP (some ([], 0)) = true := by kernel_rfl
theorem aw_on1 : onX 2 awP (some ([valN 1], 1)) = true := by kernel_rfl
theorem aw_on2 : onX 2 awP (some ([valN 1], 2)) = false := by kernel_rfl
theorem aw_on3 : onX 2 awP (some ([], 1)) = true := by kernel_rfl
theorem aw_key : keyV 2 awP (some ([valN 1], 1)) = valN 4 := by kernel_rfl

set_option maxHeartbeats 8000000 in
set_option maxRecDepth 100000 in
theorem l34awake_any (w : World) : Calls Try.prog 9 #[] w fun e w' => e = .returned (.bool true) ∧ Below w.heap.size w w' := by
  have HMD := Lib.hid (fun (A CA : Option Addr) (C CC : Nat) (W : World) (hX : SlA 3 W.heap.size W A awX) (hcs : SlI .i64 W.heap.size W CA [0, 1]) (hcc : 2 ≤ CC) (hcm : CC ≤ 9223372036854775807) => l34made_any 2 A CA C CC awX [0, 1] W (by omega) hX (by decide) (by
    intro t ht k
    have hlt : ∀ t ∈ awX, ∀ x ∈ t, x < 256 := by decide
    rw [List.getD_eq_getElem?_getD]
    cases h : t[k]? with
    | none => simp
    | some x => exact hlt t ht x (List.mem_of_getElem? h)) hcs (by decide) hcc hcm)
  have HE := Lib.hid aw_err
  have HPE := Lib.hid awP_eq
  have HPL : Hid (∀ r ∈ awP, r.length = 2) := by show ∀ r ∈ awP, r.length = 2; decide
  have HPN : Hid (awP.length = 3) := rfl
  go_enter Try.func9, Try.ntmps9
  go_wp2_with fail
  have hr0 := (Row.new w 66 [.int .u8 1, .int .u8 2, .int .u8 0, .int .u8 1, .int .u8 4, .int .u8 0, .int .u8 3, .int .u8 2, .int .u8 0]).alloc (.cells #[.int .i64 0, .int .i64 1] 3)
  have hr1 := Row.new (w.alloc (.cells #[.int .u8 1, .int .u8 2, .int .u8 0, .int .u8 1, .int .u8 4, .int .u8 0, .int .u8 3, .int .u8 2, .int .u8 0] 66)) 3 [.int .i64 0, .int .i64 1]
  simp only [World.size_alloc] at hr1
  refine (HMD.out (some ⟨w.heap.size, 0, none⟩) (some ⟨w.heap.size + 1, 0, none⟩) 3 2 _ ?_ ?_ (by omega) (by omega)).mono ?_
  · intro _
    refine ⟨w.heap.size, 0, rfl, by simp; omega, fun i hi k hk => ?_⟩
    have h3 : i = 0 ∨ i = 1 ∨ i = 2 := by simp [awX] at hi; omega
    have h4 : k = 0 ∨ k = 1 ∨ k = 2 := by omega
    rcases h3 with rfl | rfl | rfl <;> rcases h4 with rfl | rfl | rfl <;> exact hr0.cell _
  · have h := hr1.sl
    simp only [World.size_alloc] at h ⊢
    exact h
  rintro e w1 ⟨-, h2, hb1⟩
  obtain ⟨LA, LC, VA, VC, rfl, -, -, htr, -⟩ := h2 HE.out
  rw [HPE.out] at htr
  have hx0 : Ext w ((w.alloc (.cells #[.int .u8 1, .int .u8 2, .int .u8 0, .int .u8 1, .int .u8 4, .int .u8 0, .int .u8 3, .int .u8 2, .int .u8 0] 66)).alloc (.cells #[.int .i64 0, .int .i64 1] 3)) := ((Ext.refl w).alloc _).alloc _
  have HB1 := Lib.hid (Below.then hx0.below hb1 hx0.size)
  have HTR := Lib.hid htr
  clear hr0 hr1 h2 hb1 htr hx0 HMD HE
  rw [HPE.out, HPN.out]
  have HIT := Lib.hid (fun W => itIter LA 2 LC awP W)
  go_wp2_with fail
  refine (HIT.out _).mono ?_
  rintro e w2 ⟨g, rfl, hg, hit, hb2⟩
  have hb2' : Below w1.heap.size w1 w2 := Below.box hb2 (by simp)
  have hBg : w1.heap.size ≤ g := by simp at hg; omega
  have HB2 := Lib.hid hb2'
  have HT : Hid (∀ W, Below w1.heap.size w1 W → TrM w1.heap.size W LA 2 (vsF 2 awP) (fsF 2 awP)) := fun W hW => HTR.out.below hW (Nat.le_refl _)
  have hP3 : awP.length ≤ 100000 := by decide
  -- the first child
  have HO := Lib.hid (itOpen w1.heap.size g LA 2 LC awP none 0 w2 (HT.out w2 hb2') hb2'.size hit (by omega) hP3 HPL.out)
  rw [aw_b1, aw_o1] at HO
  clear hg hit hb2 hb2' HTR HIT
  go_wp2_with fail
  refine HO.out.mono ?_
  rintro e w3 ⟨rfl, hit, hg3⟩
  have hb3 := Below.then HB2.out (below_of_grown hg3 hBg HB2.out.size) (Nat.le_refl _)
  have HB3 := Lib.hid hb3
  have HO2 := Lib.hid (itOpen w1.heap.size g LA 2 LC awP _ 0 w3 (HT.out w3 hb3) hb3.size hit (by omega) hP3 HPL.out)
  rw [aw_b2, aw_o2] at HO2
  clear hit hg3 hb3 HO
  go_wp2_with fail
  refine HO2.out.mono ?_
  rintro e w4 ⟨rfl, hit, hg4⟩
  have hb4 := Below.then HB3.out (below_of_grown hg4 hBg HB3.out.size) (Nat.le_refl _)
  have HB4 := Lib.hid hb4
  have HI4 := Lib.hid hit
  have HV := Lib.hid (fun (n : Nat) (hn : n < 256) W => l34Value_any n W hn)
  clear hit hg4 hb4 HO2
  go_wp2_with fail
  refine (HV.out 3 (by omega) _).mono ?_
  rintro e w5 ⟨rfl, hb5⟩
  have HB5 := Lib.hid (Below.then HB4.out hb5 HB4.out.size)
  have HS := Lib.hid (itSeek w1.heap.size g LA 2 LC awP _ 0 (valN 3) w5 (HT.out w5 HB5.out) HB5.out.size hBg (HI4.out.up hb5) (by omega) hP3 HPL.out (by omega))
  rw [aw_s1, aw_on1] at HS
  clear hb5 HI4
  go_wp2_with fail
  refine HS.out.mono ?_
  rintro e w6 ⟨s6, rfl, hit, hs6, hg6⟩
  have hb6 := Below.then HB5.out (below_of_grown hg6 hBg HB5.out.size) (Nat.le_refl _)
  have HB6 := Lib.hid hb6
  have HI6 := Lib.hid hit
  have HK := Lib.hid (itKey w1.heap.size g LA 2 LC awP _ s6 w6 (HT.out w6 hb6) hb6.size hit (by omega) hP3 HPL.out)
  rw [aw_on1, aw_key] at HK
  clear hit hg6 hb6 HS
  go_wp2_with fail
  refine HK.out.mono ?_
  rintro e w7 ⟨rfl, hb7⟩
  have HB7 := Lib.hid (Below.then HB6.out hb7 HB6.out.size)
  have HI7 := Lib.hid (HI6.out.up hb7)
  clear hb7 HI6 HK
  go_wp2
  obtain ⟨W8, hW8⟩ : ∃ W8, W8 = w7.alloc (.cells #[.int .i64 (valN 4).kind, .int .i64 (valN 4).int, .string (valN 4).str] 38) := ⟨_, rfl⟩
  have hx8 : Ext w7 W8 := by rw [hW8]; exact (Ext.refl w7).alloc _
  have hr8 : Row W8 w7.heap.size 38 (vcells (valN 4)) := by rw [hW8]; exact Row.new w7 38 (vcells (valN 4))
  have k1 : W8.cell? ⟨w7.heap.size, 0, none⟩ = some (.int .i64 (valN 4).kind) := hr8.cell 0
  have k2 : W8.cell? ⟨w7.heap.size, 1, none⟩ = some (.int .i64 (valN 4).int) := hr8.cell 1
  have k3 : W8.cell? ⟨w7.heap.size, 2, none⟩ = some (.string (valN 4).str) := hr8.cell 2
  have HR8 := Lib.hid hr8
  have hb8 := Below.then HB7.out hx8.below HB7.out.size
  have HB8 := Lib.hid hb8
  have HI8 := Lib.hid (HI7.out.ext hx8)
  have hgz := HI7.out.lt
  rw [← hW8]
  have heq := run_eqV_t (rfl : valN 4 = valN 4)
  have HKK : Hid (∀ W, Row W w7.heap.size 38 (vcells (valN 4)) → W.cell? ⟨w7.heap.size, 0, none⟩ = some (.int .i64 (valN 4).kind) ∧ W.cell? ⟨w7.heap.size, 1, none⟩ = some (.int .i64 (valN 4).int) ∧ W.cell? ⟨w7.heap.size, 2, none⟩ = some (.string (valN 4).str)) := fun W h => ⟨h.cell 0, h.cell 1, h.cell 2⟩
  clear hW8 hx8 hr8 hb8
  refine wp_region_held_drew (S := (fun w' => w'.cell? ⟨w7.heap.size, 0, none⟩ = some (.int .i64 (valN 4).kind) ∧ w'.cell? ⟨w7.heap.size, 1, none⟩ = some (.int .i64 (valN 4).int) ∧ w'.cell? ⟨w7.heap.size, 2, none⟩ = some (.string (valN 4).str))) (by kernel_rfl) ⟨k1, k2, k3⟩ (fun hHeld => ?_)
  refine takeOp (i := 0) (v := ?_) (some 47) rfl rfl (by kernel_rfl) (by kernel_rfl) (by kernel_rfl) (fun _ _ _ h => h) (Or.inl ⟨by rfl, ?_⟩) (by assumption) ?_
  rotate_left 1
  · (intro w0 hSw; (try dsimp only at hSw); go_simp; try (with_reducible rfl))
  try simp only [Act.put]
  try simp only [List.setIfInBounds_toArray]
  try simp only [List.set_cons_succ]
  try simp only [List.set_cons_zero]
  refine takeOp (i := 1) (v := ?_) (some 48) rfl rfl (by kernel_rfl) (by kernel_rfl) (by kernel_rfl) (fun _ _ _ h => h) (Or.inl ⟨by rfl, ?_⟩) (by assumption) ?_
  rotate_left 1
  · (intro w0 hSw; (try dsimp only at hSw); go_simp; try (with_reducible rfl))
  try simp only [Act.put]
  try simp only [List.setIfInBounds_toArray]
  try simp only [List.set_cons_succ]
  try simp only [List.set_cons_zero]
  refine takeOp (i := 2) (v := ?_) (some 49) rfl rfl (by kernel_rfl) (by kernel_rfl) (by kernel_rfl) (fun _ _ _ h => h) (Or.inl ⟨by rfl, ?_⟩) (by assumption) ?_
  rotate_left 1
  · (intro w0 hSw; (try dsimp only at hSw); go_simp; try (with_reducible rfl))
  try simp only [Act.put]
  try simp only [List.setIfInBounds_toArray]
  try simp only [List.set_cons_succ]
  try simp only [List.set_cons_zero]
  refine wpAnyH_ready (rs := [3]) (by kernel_rfl) (by simp) ?_
  refine AllReadyH.cons rfl (fun K hK => ?_) AllReadyH.nil
  go_simp
  refine (HV.out 4 (by omega) _).mono ?_
  rintro e w9 ⟨rfl, hb9⟩
  have hb9' : Below W8.heap.size W8 w9 := Below.undrew hb9
  have HB9 := Lib.hid (Below.then HB8.out hb9' HB8.out.size)
  have HI9 := Lib.hid (HI8.out.up hb9')
  have HR9 := Lib.hid (HR8.out.up hb9')
  have KEEP1 := HKK.out _ HR9.out
  have HN := Lib.hid (itNext w1.heap.size g LA 2 LC awP _ s6 w9 HI9.out hP3)
  rw [aw_n1, aw_on2] at HN
  clear hb9 hb9' HI8 HR8 HB8
  go_wp2_with fail
  refine hK.out _ _ KEEP1 (fun hHeld => ?_)
  clear hK K
  try simp only [Act.put]
  try simp only [List.setIfInBounds_toArray]
  try simp only [List.set_cons_succ]
  try simp only [List.set_cons_zero]
  refine takeOp (i := 4) (v := ?_) (some 51) rfl rfl (by kernel_rfl) (by kernel_rfl) (by kernel_rfl) (fun _ _ _ h => h) (Or.inl ⟨by rfl, ?_⟩) (by assumption) ?_
  rotate_left 1
  · (intro w0 hSw; (try dsimp only at hSw); go_simp; try (with_reducible rfl))
  try simp only [Act.put]
  try simp only [List.setIfInBounds_toArray]
  try simp only [List.set_cons_succ]
  try simp only [List.set_cons_zero]
  refine takeOp (i := 5) (v := ?_) (some 52) rfl rfl (by kernel_rfl) (by kernel_rfl) (by kernel_rfl) (fun _ _ _ h => h) (Or.inl ⟨by rfl, ?_⟩) (by assumption) ?_
  rotate_left 1
  · (intro w0 hSw; (try dsimp only at hSw); go_simp; try (with_reducible rfl))
  try simp only [Act.put]
  try simp only [List.setIfInBounds_toArray]
  try simp only [List.set_cons_succ]
  try simp only [List.set_cons_zero]
  refine takeOp (i := 6) (v := ?_) (some 53) rfl rfl (by kernel_rfl) (by kernel_rfl) (by kernel_rfl) (fun _ _ _ h => h) (Or.inl ⟨by rfl, ?_⟩) (by assumption) ?_
  rotate_left 1
  · (intro w0 hSw; (try dsimp only at hSw); go_simp; try (with_reducible rfl))
  try simp only [Act.put]
  try simp only [List.setIfInBounds_toArray]
  try simp only [List.set_cons_succ]
  try simp only [List.set_cons_zero]
  refine takeOp (i := 7) (v := ?_) (some 54) rfl rfl (by kernel_rfl) (by kernel_rfl) (by kernel_rfl) (fun _ _ _ h => h) (Or.inl ⟨by rfl, ?_⟩) (by assumption) ?_
  rotate_left 1
  · (intro w0 hSw; (try dsimp only at hSw); go_simp; try (with_reducible rfl))
  try simp only [Act.put]
  try simp only [List.setIfInBounds_toArray]
  try simp only [List.set_cons_succ]
  try simp only [List.set_cons_zero]
  refine wpAnyH_ready (rs := [8]) (by kernel_rfl) (by simp) ?_
  refine AllReadyH.cons rfl (fun K hK => ?_) AllReadyH.nil
  go_simp
  refine HN.out.mono ?_
  rintro e w10 ⟨rfl, hit, hg10⟩
  have HB10 := Lib.hid (Below.then HB9.out (below_of_grown hg10 hBg HB9.out.size) (Nat.le_refl _))
  have HR10 := Lib.hid (HR9.out.grown hg10 (fun e => by injection e; omega))
  have KEEP2 := HKK.out _ HR10.out
  have HU := Lib.hid (itUp g LA 2 LC awP _ s6 w10 hit (by omega) HPL.out)
  rw [aw_u1] at HU
  clear hit hg10 HN HI9 HR9 HB9
  go_wp2_with fail
  refine hK.out _ _ KEEP2 (fun hHeld => ?_)
  clear hK K
  try simp only [Act.put]
  try simp only [List.setIfInBounds_toArray]
  try simp only [List.set_cons_succ]
  try simp only [List.set_cons_zero]
  refine takeOp (i := 9) (v := ?_) (some 56) rfl rfl (by kernel_rfl) (by kernel_rfl) (by kernel_rfl) (fun _ _ _ h => h) (Or.inl ⟨by rfl, ?_⟩) (by assumption) ?_
  rotate_left 1
  · (intro w0 hSw; (try dsimp only at hSw); go_simp; try (with_reducible rfl))
  try simp only [Act.put]
  try simp only [List.setIfInBounds_toArray]
  try simp only [List.set_cons_succ]
  try simp only [List.set_cons_zero]
  refine takeOp (i := 10) (v := ?_) (some 57) rfl rfl (by kernel_rfl) (by kernel_rfl) (by kernel_rfl) (fun _ _ _ h => h) (Or.inl ⟨by rfl, ?_⟩) (by assumption) ?_
  rotate_left 1
  · (intro w0 hSw; (try dsimp only at hSw); go_simp; try (with_reducible rfl))
  try simp only [Act.put]
  try simp only [List.setIfInBounds_toArray]
  try simp only [List.set_cons_succ]
  try simp only [List.set_cons_zero]
  refine takeOp (i := 11) (v := ?_) (some 58) rfl rfl (by kernel_rfl) (by kernel_rfl) (by kernel_rfl) (fun _ _ _ h => h) (Or.inl ⟨by rfl, ?_⟩) (by assumption) ?_
  rotate_left 1
  · (intro w0 hSw; (try dsimp only at hSw); go_simp; try (with_reducible rfl))
  try simp only [Act.put]
  try simp only [List.setIfInBounds_toArray]
  try simp only [List.set_cons_succ]
  try simp only [List.set_cons_zero]
  refine takeOp (i := 12) (v := ?_) (some 59) rfl rfl (by kernel_rfl) (by kernel_rfl) (by kernel_rfl) (fun _ _ _ h => h) (Or.inl ⟨by rfl, ?_⟩) (by assumption) ?_
  rotate_left 1
  · (intro w0 hSw; (try dsimp only at hSw); go_simp; try (with_reducible rfl))
  try simp only [Act.put]
  try simp only [List.setIfInBounds_toArray]
  try simp only [List.set_cons_succ]
  try simp only [List.set_cons_zero]
  refine wpAnyH_ready (rs := [13]) (by kernel_rfl) (by simp) ?_
  refine AllReadyH.cons rfl (fun K hK => ?_) AllReadyH.nil
  go_simp
  refine HU.out.mono ?_
  rintro e w11 ⟨rfl, hit, hg11⟩
  have HB11 := Lib.hid (Below.then HB10.out (below_of_grown hg11 hBg HB10.out.size) (Nat.le_refl _))
  have HR11 := Lib.hid (HR10.out.grown hg11 (fun e => by injection e; omega))
  have HI11 := Lib.hid hit
  have KEEP3 := HKK.out _ HR11.out
  clear hit hg11 HU HR10 HB10
  go_wp2_with fail
  refine hK.out _ _ KEEP3 (fun hHeld => ?_)
  clear hK K
  try simp only [Act.put]
  try simp only [List.setIfInBounds_toArray]
  try simp only [List.set_cons_succ]
  try simp only [List.set_cons_zero]
  refine takeOp (i := 14) (v := ?_) (some 61) rfl rfl (by kernel_rfl) (by kernel_rfl) (by kernel_rfl) (fun _ _ _ h => h) (Or.inl ⟨by rfl, ?_⟩) (by assumption) ?_
  rotate_left 1
  · (intro w0 hSw; (try dsimp only at hSw); go_simp; try (with_reducible rfl))
  try simp only [Act.put]
  try simp only [List.setIfInBounds_toArray]
  try simp only [List.set_cons_succ]
  try simp only [List.set_cons_zero]
  refine takeOp (i := 15) (v := ?_) (some 62) rfl rfl (by kernel_rfl) (by kernel_rfl) (by kernel_rfl) (fun _ _ _ h => h) (Or.inl ⟨by rfl, ?_⟩) (by assumption) ?_
  rotate_left 1
  · (intro w0 hSw; (try dsimp only at hSw); go_simp; try (with_reducible rfl))
  try simp only [Act.put]
  try simp only [List.setIfInBounds_toArray]
  try simp only [List.set_cons_succ]
  try simp only [List.set_cons_zero]
  refine takeOp (i := 16) (v := ?_) (some 63) rfl rfl (by kernel_rfl) (by kernel_rfl) (by kernel_rfl) (fun _ _ _ h => h) (Or.inl ⟨by rfl, ?_⟩) (by assumption) ?_
  rotate_left 1
  · (intro w0 hSw; (try dsimp only at hSw); go_simp; try (with_reducible rfl))
  try simp only [Act.put]
  try simp only [List.setIfInBounds_toArray]
  try simp only [List.set_cons_succ]
  try simp only [List.set_cons_zero]
  refine wpAnyH_ready (rs := [17]) (by kernel_rfl) (by simp) ?_
  refine AllReadyH.cons rfl (fun K hK => ?_) AllReadyH.nil
  go_simp
  refine (HV.out 2 (by omega) _).mono ?_
  rintro e w12 ⟨rfl, hb12⟩
  have HB12 := Lib.hid (Below.then HB11.out hb12 HB11.out.size)
  have HI12 := Lib.hid (HI11.out.up hb12)
  have HR12 := Lib.hid (HR11.out.up hb12)
  have KEEP4 := HKK.out _ HR12.out
  have HS := Lib.hid (itSeek w1.heap.size g LA 2 LC awP _ s6 (valN 2) w12 (HT.out w12 HB12.out) HB12.out.size hBg HI12.out (by omega) hP3 HPL.out (by omega))
  rw [aw_s2, aw_on3] at HS
  clear hb12 HI11 HR11 HB11
  go_wp2_with fail
  refine hK.out _ _ KEEP4 (fun hHeld => ?_)
  clear hK K
  try simp only [Act.put]
  try simp only [List.setIfInBounds_toArray]
  try simp only [List.set_cons_succ]
  try simp only [List.set_cons_zero]
  refine wpAnyH_ready (rs := [18]) (by kernel_rfl) (by simp) ?_
  refine AllReadyH.cons rfl (fun K hK => ?_) AllReadyH.nil
  go_simp
  refine HS.out.mono ?_
  rintro e w13 ⟨s13, rfl, hit, -, hg13⟩
  have HB13 := Lib.hid (Below.then HB12.out (below_of_grown hg13 hBg HB12.out.size) (Nat.le_refl _))
  have HR13 := Lib.hid (HR12.out.grown hg13 (fun e => by injection e; omega))
  have KEEP5 := HKK.out _ HR13.out
  have HL : Hid (Calls Try.prog 18 #[.pointer (some ⟨g, 0, none⟩)] w13 fun e w' => e = .returned (.int .i64 1) ∧ w13 = w') := itLevel g LA 2 LC awP _ s13 w13 hit
  clear hit hg13 HS HI12 HR12 HB12
  go_wp2_with fail
  refine hK.out _ _ KEEP5 (fun hHeld => ?_)
  clear hK K
  try simp only [Act.put]
  try simp only [List.setIfInBounds_toArray]
  try simp only [List.set_cons_succ]
  try simp only [List.set_cons_zero]
  refine takeOp (i := 19) (v := ?_) (some 66) rfl rfl (by kernel_rfl) (by kernel_rfl) (by kernel_rfl) (fun _ _ _ h => h) (Or.inl ⟨by rfl, ?_⟩) (by assumption) ?_
  rotate_left 1
  · (intro w0 hSw; (try dsimp only at hSw); go_simp; try (with_reducible rfl))
  try simp only [Act.put]
  try simp only [List.setIfInBounds_toArray]
  try simp only [List.set_cons_succ]
  try simp only [List.set_cons_zero]
  refine takeOp (i := 20) (v := ?_) (some 67) rfl rfl (by kernel_rfl) (by kernel_rfl) (by kernel_rfl) (fun _ _ _ h => h) (Or.inl ⟨by rfl, ?_⟩) (by assumption) ?_
  rotate_left 1
  · (intro w0 hSw; (try dsimp only at hSw); go_simp; try (with_reducible rfl))
  try simp only [Act.put]
  try simp only [List.setIfInBounds_toArray]
  try simp only [List.set_cons_succ]
  try simp only [List.set_cons_zero]
  refine takeOp (i := 21) (v := ?_) (some 68) rfl rfl (by kernel_rfl) (by kernel_rfl) (by kernel_rfl) (fun _ _ _ h => h) (Or.inl ⟨by rfl, ?_⟩) (by assumption) ?_
  rotate_left 1
  · (intro w0 hSw; (try dsimp only at hSw); go_simp; try (with_reducible rfl))
  try simp only [Act.put]
  try simp only [List.setIfInBounds_toArray]
  try simp only [List.set_cons_succ]
  try simp only [List.set_cons_zero]
  refine wpAnyH_ready (rs := [22]) (by kernel_rfl) (by simp) ?_
  refine AllReadyH.cons rfl (fun K hK => ?_) AllReadyH.nil
  go_simp
  refine HL.out.mono ?_
  rintro e w14 ⟨rfl, hw⟩
  obtain rfl := hw.symm
  have KEEP6 := HKK.out _ HR13.out
  go_wp2_with fail
  refine hK.out _ _ KEEP6 (fun hHeld => ?_)
  clear hK K
  try simp only [Act.put]
  try simp only [List.setIfInBounds_toArray]
  try simp only [List.set_cons_succ]
  try simp only [List.set_cons_zero]
  refine takeOp (i := 23) (v := ?_) (some 70) rfl rfl (by kernel_rfl) (by kernel_rfl) (by kernel_rfl) (fun _ _ _ h => h) (Or.inl ⟨by rfl, ?_⟩) (by assumption) ?_
  rotate_left 1
  · (intro w0 hSw; (try dsimp only at hSw); go_simp; try (with_reducible rfl))
  try simp only [Act.put]
  try simp only [List.setIfInBounds_toArray]
  try simp only [List.set_cons_succ]
  try simp only [List.set_cons_zero]
  refine takeOp (i := 24) (v := ?_) (some 71) rfl rfl (by kernel_rfl) (by kernel_rfl) (by kernel_rfl) (fun _ _ _ h => h) (Or.inl ⟨by rfl, ?_⟩) (by assumption) ?_
  rotate_left 1
  · (intro w0 hSw; (try dsimp only at hSw); go_simp; try (with_reducible rfl))
  try simp only [Act.put]
  try simp only [List.setIfInBounds_toArray]
  try simp only [List.set_cons_succ]
  try simp only [List.set_cons_zero]
  refine takeOp (i := 25) (v := ?_) (some 0) rfl rfl (by kernel_rfl) (by kernel_rfl) (by kernel_rfl) (fun _ _ _ h => h) (Or.inl ⟨by rfl, ?_⟩) (by assumption) ?_
  rotate_left 1
  · (intro w0 hSw; (try dsimp only at hSw); go_simp; try (with_reducible rfl))
  try simp only [Act.put]
  try simp only [List.setIfInBounds_toArray]
  try simp only [List.set_cons_succ]
  try simp only [List.set_cons_zero]
  refine wpAnyH_done (by kernel_rfl) ?_ _
  go_wp2
  go_ret
  exact ⟨rfl, Below.then HB1.out HB13.out (by have := HB1.out.size; omega)⟩

end Go.Proofs.Ytlcammcifjihpaa
end

section
/- Walk: the law TrieWalks of chapter 34. -/
namespace Go.Proofs.Ytlcammcifjihpaa
open Go.RowKit Go.Sort

set_option maxHeartbeats 4000000 in
set_option maxRecDepth 100000 in
theorem l34walk_nil (g : Nat) (LA : Option Addr) (d C s B : Nat) (hd : d ≤ 32) (hd0 : 0 < d) (w : World) (hit : IterP w g LA d C [] none s) (htr : TrM B w LA d (vsF d []) (fsF d [])) (hB : B ≤ w.heap.size) :
    Calls Try.prog 29 #[.pointer (some ⟨g, 0, none⟩), .int .i64 d, .slice none 0 0, .int .i64 1000] w fun e w' => ∃ v, e = .returned (.tuple #[v, .int .i64 1000]) ∧ OwnRsF w' w.heap.size v [] ∧ IterP w' g LA d C [] none s ∧ w.grownBy w' (some g) := by
  have HO := Lib.hid (itOpen B g LA d C [] none s w htr hB hit hd (by simp) (by simp))
  have ho1 : openB d [] none = false := by show (decide (0 < d) && decide (([] : List RL.R) ≠ [])) = false; simp
  have ho2 : openX d [] none = none := by show (if _ then _ else _) = _; rw [ho1]; rfl
  rw [ho1, ho2] at HO
  have hqb : ((0 : Int) == (d : Int)) = false := by rw [beq_eq_false_iff_ne]; omega
  clear ho1 ho2 hit htr
  go_enter Try.func29, Try.ntmps29
  go_wp2_with fail
  refine HO.out.mono ?_
  rintro e w1 ⟨rfl, hit1, hg1⟩
  have HI1 := Lib.hid hit1
  have HG1 := Lib.hid hg1
  clear hit1 hg1 HO
  go_wp2_with fail
  go_loopw [3, 10, 11] (fun l o k wr => l = .int .i64 1000 ∧ o = .slice none 0 0 ∧ k = .bool false ∧ wr = w1) (fun _ _ _ _ => 0)
  case atStart => exact ⟨rfl, rfl, rfl, rfl⟩
  case round =>
    obtain ⟨rfl, rfl, rfl, rfl⟩ := hrel
    have HLV := Lib.hid (itLevel g LA d C [] none s wr HI1.out)
    rw [show levelX none = 0 from rfl] at HLV
    go_wp2_with fail
    refine HLV.out.mono ?_
    rintro e w2 ⟨rfl, rfl⟩
    go_wp2
    go_ret2
    exact ⟨_, rfl, OwnRsF.nil _ _, HI1.out, HG1.out⟩

/-- The traversal from the root. -/
theorem l34walk_root (g : Nat) (LA : Option Addr) (d C : Nat) (P : List RL.R) (s B : Nat) (hd : d ≤ 10) (hd0 : 0 < d) (hP : P.length ≤ 40) (hr : ∀ r ∈ P, r.length = d) (hS : RL.SS P) (hBg : B ≤ g) (w : World) (hit : IterP w g LA d C P none s) (htr : TrM B w LA d (vsF d P) (fsF d P)) (hB : B ≤ w.heap.size) :
    Calls Try.prog 29 #[.pointer (some ⟨g, 0, none⟩), .int .i64 d, .slice none 0 0, .int .i64 1000] w fun e w' => ∃ v z, e = .returned (.tuple #[v, z]) ∧ OwnRsF w' w.heap.size v P ∧ IterP w' g LA d C P none s ∧ w.grownBy w' (some g) := by
  by_cases hP0 : P = []
  · subst hP0
    refine (l34walk_nil g LA d C s B (by omega) hd0 w hit htr hB).mono ?_
    rintro e w' ⟨v, h1, h2⟩
    exact ⟨v, _, h1, h2⟩
  · have hall := rowsN_all hS hr hP0
    obtain ⟨y, hy⟩ := List.exists_mem_of_ne_nil _ hP0
    have hpre : IsPre P [] := ⟨y, hy, by simp⟩
    have hbl := belowN_le hr d [] (by simp) hpre
    rw [hall] at hbl
    have h400 : d * P.length ≤ 10 * 40 := Nat.mul_le_mul hd hP
    have h := l34walk_any g LA d C P s B (by omega) (by omega) hr hP0 hBg d [] none 1000 none 0 w (by simp) (.inl ⟨rfl, rfl⟩) hit htr SlR.nil (fun h => absurd rfl h) (by omega) (Nat.le_refl _) (by rw [hall]; omega)
    rw [hall] at h
    refine h.mono ?_
    rintro e w' ⟨v, h1, h2⟩
    exact ⟨v, _, h1, h2⟩

set_option maxHeartbeats 8000000 in
set_option maxRecDepth 100000 in
theorem walks_walk (ar : Nat) (A CA : Option Addr) (C CC : Nat) (X : List (List Nat)) (cs : List Int) (w : World) (har : ar < 256) (hX : SlA 3 w.heap.size w A X) (hXl : X.length ≤ 9223372036854775807) (hB : Bytes X) (hcs : SlI .i64 w.heap.size w CA cs) (hcl : cs.length ≤ 9223372036854775807) (hcc : cs.length ≤ CC) (hcm : CC ≤ 9223372036854775807) :
    Calls Try.prog 7 #[.agg #[.int .u8 ar, .slice A X.length C], .slice CA cs.length CC] w fun e w' => e = .returned (.bool true) ∧ Below w.heap.size w w' := by
  have HX := Lib.hid hX
  have HCS := Lib.hid hcs
  have HBY := Lib.hid hB
  clear hX hcs hB
  have HG := Lib.hid (fun W => l34great_any ar A CA X.length C cs.length CC W hXl hcl)
  obtain ⟨W0, hW0⟩ : ∃ W0, W0 = w.alloc (.cells #[.int .u8 ar, .slice A X.length C] 24) := ⟨_, rfl⟩
  have hx0 : Ext w W0 := by rw [hW0]; exact (Ext.refl w).alloc _
  have hr0 : Row W0 w.heap.size 24 [.int .u8 ar, .slice A X.length C] := by rw [hW0]; exact Row.new w 24 _
  have p0 : W0.cell? ⟨w.heap.size, 0, none⟩ = some (.int .u8 ar) := hr0.cell 0
  have p1 : W0.cell? ⟨w.heap.size, 1, none⟩ = some (.slice A X.length C) := hr0.cell 1
  have HR0 := Lib.hid hr0
  have HX0 := Lib.hid hx0
  clear hx0 hr0
  go_enter Try.func7, Try.ntmps7
  go_wp2_with fail
  rw [← hW0]
  clear hW0
  refine (HG.out W0).mono ?_
  rintro e w1 ⟨rfl, hx⟩
  have HX1 := Lib.hid (HX0.out.trans hx)
  have hr1 := HR0.out.up hx.below
  have p0' : w1.cell? ⟨w.heap.size, 0, none⟩ = some (.int .u8 ar) := hr1.cell 0
  have p1' : w1.cell? ⟨w.heap.size, 1, none⟩ = some (.slice A X.length C) := hr1.cell 1
  clear hx hr1 p0 p1 HG
  have AWAKE : Hid (∀ W, Below w.heap.size w W → Calls Try.prog 9 #[] W fun e w' => e = .returned (.bool true) ∧ Below w.heap.size w w') := fun W hW => (l34awake_any W).mono fun e w' h => ⟨h.1, Below.then hW h.2 hW.size⟩
  cases hgr : (decide (40 < X.length) || decide (10 < cs.length))
  rotate_left
  · clear hgr
    go_wp2_with fail
    refine (AWAKE.out w1 HX1.out.below).mono ?_
    rintro e w2 ⟨rfl, hb⟩
    have HB := Lib.hid hb
    clear hb
    go_wp2
    go_ret
    exact ⟨rfl, HB.out⟩
  simp only [Bool.or_eq_false_iff, decide_eq_false_iff_not, Nat.not_lt] at hgr
  obtain ⟨hX40, hc10⟩ := hgr
  go_wp2_with fail
  refine (l34made_any ar A CA C CC X cs w1 har (HX.out.upB HX1.out.below) (by omega) HBY.out ((HCS.out.ext (Nat.le_refl _) HX1.out).more HX1.out.size) (by omega) hcc hcm).mono ?_
  rintro e w2 ⟨h1, h2, hb2⟩
  have HB2 := Lib.hid (Below.then HX1.out.below hb2 HX1.out.size)
  clear hb2 p0' p1'
  by_cases hne : newErr (ar % 4 : Nat) cs = 0
  rotate_left
  · rw [h1 hne]
    clear h1 h2 hne
    go_wp2_with fail
    refine (AWAKE.out _ (HB2.out.alloc HB2.out.size _)).mono ?_
    rintro e w3 ⟨rfl, hb⟩
    have HB := Lib.hid hb
    clear hb
    go_wp2
    go_ret
    exact ⟨rfl, HB.out⟩
  obtain ⟨LA, LC, VA, VC, rfl, hvc, hvm, htr, hsv⟩ := h2 hne
  have HPL : Hid (∀ r ∈ projRows ar X cs, r.length = cs.length) := fun r hr => by
    obtain ⟨z, _, rfl⟩ := List.mem_map.1 ((RL.mem_ofF _ _).1 hr)
    exact projF_length z cs
  have hP40 : (projRows ar X cs).length ≤ 40 := by
    have h1 := RL.ofF_length_le ((X.map (rowN (ar % 4))).map (projF · cs))
    rw [List.length_map, List.length_map] at h1
    exact Nat.le_trans h1 hX40
  have HPS : Hid (RL.SS (projRows ar X cs)) := RL.SS.of _
  clear h1 h2 hne
  have HTR := Lib.hid htr
  have HSV := Lib.hid hsv
  clear htr hsv
  generalize projRows ar X cs = P at *
  have hc32 : cs.length ≤ 32 := by omega
  obtain ⟨W3, hW3⟩ : ∃ W3, W3 = w2.alloc (.cells #[.slice LA cs.length LC] 31) := ⟨_, rfl⟩
  have hx3 : Ext w2 W3 := by rw [hW3]; exact (Ext.refl w2).alloc _
  have hr3 : Row W3 w2.heap.size 31 [.slice LA cs.length LC] := by rw [hW3]; exact Row.new w2 31 _
  have t0 : W3.cell? ⟨w2.heap.size, 0, none⟩ = some (.slice LA cs.length LC) := hr3.cell 0
  have HX3 := Lib.hid hx3
  have HR3 := Lib.hid hr3
  have hz3 := hr3.lt
  have HT : Hid (∀ W, Below w2.heap.size w2 W → TrM w2.heap.size W LA cs.length (vsF cs.length P) (fsF cs.length P)) := fun W hW => HTR.out.below hW (Nat.le_refl _)
  have HIT := Lib.hid (fun W => itIter LA cs.length LC P W)
  clear hx3 hr3
  by_cases hc0 : cs.length = 0
  · have hc0' : ((cs.length : Int) == 0) = true := by rw [hc0]; rfl
    have HDP := Lib.hid (fun W => trDepth_any LA cs.length LC W)
    have hkz : RL.kids cs.length P [] = [] := by
      unfold RL.kids
      rw [RL.nodes_out (by simp [hc0])]
      rfl
    have HCH := Lib.hid (fun (W : World) (h : Below w2.heap.size w2 W) => trChildren_any LA none cs.length LC 0 P [] W ((HT.out W h).more h.size) SlR.nil hc32 (by omega) HPL.out (by simp))
    have ho1 : openB cs.length P none = false := by show (decide (0 < cs.length) && _) = false; rw [hc0]; rfl
    clear hc0
    go_wp2_with fail
    rw [← hW3]
    clear hW3
    refine (HDP.out W3).mono ?_
    rintro e w4 ⟨rfl, hx4⟩
    have HB4 := Lib.hid (Below.then HX3.out.below hx4.below HX3.out.size)
    have t0' : w4.cell? ⟨w2.heap.size, 0, none⟩ = some (.slice LA cs.length LC) := (hx4.cell hz3).trans t0
    have hz4 : w2.heap.size < w4.heap.size := Nat.lt_of_lt_of_le hz3 hx4.size
    clear hx4 t0
    go_wp2_with fail
    refine (HCH.out w4 HB4.out).mono ?_
    rintro e w5 ⟨KA, KC, rfl, -, -, -, hb5⟩
    rw [hkz]
    have HB5 := Lib.hid (Below.then HB4.out hb5 HB4.out.size)
    have t0'' : w5.cell? ⟨w2.heap.size, 0, none⟩ = some (.slice LA cs.length LC) := (hb5.cell (p := ⟨w2.heap.size, 0, none⟩) hz4).trans t0'
    clear hb5 t0' hkz HCH HB4
    go_wp2_with fail
    refine (HIT.out w5).mono ?_
    rintro e w6 ⟨g1, rfl, hg1, hit1, hb6⟩
    have HO := Lib.hid (itOpen w2.heap.size g1 LA cs.length LC P none 0 w6 (HT.out w6 (Below.then HB5.out hb6 HB5.out.size)) (by have := HB5.out.size; have := hb6.size; omega) hit1 hc32 (by omega) HPL.out)
    rw [ho1] at HO
    have HB6 := Lib.hid (Below.then HB5.out hb6 HB5.out.size)
    have hg1' : w2.heap.size ≤ g1 := Nat.le_trans HB5.out.size hg1
    clear hit1 hb6 ho1 hg1 HIT t0''
    go_wp2_with fail
    refine HO.out.mono ?_
    rintro e w7 ⟨rfl, -, hg7⟩
    have HB7 := Lib.hid (Below.then HB6.out (below_of_grown hg7 hg1' HB6.out.size) (Nat.le_refl _))
    clear hg7 HO
    go_wp2_with fail
    refine (AWAKE.out w7 (Below.then HB2.out HB7.out HB2.out.size)).mono ?_
    rintro e w8 ⟨rfl, hb⟩
    have HB := Lib.hid hb
    clear hb
    go_wp2
    go_ret
    exact ⟨rfl, HB.out⟩
  have hc0' : ((cs.length : Int) == 0) = false := by rw [beq_eq_false_iff_ne]; omega
  go_wp2_with fail
  rw [← hW3]
  clear hW3
  refine (HIT.out W3).mono ?_
  rintro e w4 ⟨g1, rfl, hg1, hit1, hb4⟩
  have HI4 := Lib.hid hit1
  have HB4 := Lib.hid (Below.then HX3.out.below hb4 HX3.out.size)
  have HWK := Lib.hid (l34walk_root g1 LA cs.length LC P 0 w2.heap.size hc10 (by omega) hP40 HPL.out HPS.out (by omega) w4 hit1 (HT.out w4 HB4.out) HB4.out.size)
  have hz4 := hb4.size
  clear hit1 hb4 HIT t0
  go_wp2_with fail
  refine HWK.out.mono ?_
  rintro e w5 ⟨v, z, rfl, hown, hit5, hg5⟩
  have HB5 := Lib.hid (Below.then HB4.out (below_of_grown hg5 (by omega : w2.heap.size ≤ g1) HB4.out.size) (Nat.le_refl _))
  have HSV5 := Lib.hid (HSV.out.upB HB5.out)
  obtain ⟨OA, OC, rfl, hoc, hom, hos⟩ := hown.own.sl
  have HOS := Lib.hid hos
  have HLV := Lib.hid (itLevel g1 LA cs.length LC P none 0 w5 hit5)
  have HST := Lib.hid (itSteps g1 LA cs.length LC P none 0 w5 hit5)
  rw [show levelX none = 0 from rfl] at HLV
  clear hown hit5 hg5 HI4 HB4 HWK hos HSV HTR HT HX3 HR3
  have hnb : ((P.length : Int) != (P.length : Int)) = false := by simp
  go_wp2_with fail
  refine HLV.out.mono ?_
  rintro e w6 ⟨rfl, rfl⟩
  go_wp2_with fail
  refine HST.out.mono ?_
  rintro e w6 ⟨rfl, rfl⟩
  clear HLV HST hnb
  go_wp2_with fail
  go_loopw [11] (fun m wr => ∃ k : Nat, k ≤ P.length ∧ m = .int .i64 k ∧ Ext w5 wr) (fun m _ => P.length - (intOf m).toNat)
  case atStart => exact ⟨0, Nat.zero_le _, rfl, Ext.refl _⟩
  case round =>
    obtain ⟨k, hk, rfl, hx⟩ := hrel
    have HXW := Lib.hid hx
    clear hx
    by_cases h1 : k < P.length
    rotate_left
    · go_wp2_with fail
      refine (AWAKE.out wr (Below.then (Below.then HB2.out HB5.out HB2.out.size) HXW.out.below (by have := HB2.out.size; have := HB5.out.size; omega))).mono ?_
      rintro e w7 ⟨rfl, hb⟩
      have HB := Lib.hid hb
      clear hb
      go_wp2
      go_ret
      exact ⟨rfl, HB.out⟩
    have hne : P ≠ [] := by intro h; subst h; simp at h1
    obtain ⟨b1, o1, rfl, hb1, hc1⟩ := HOS.out hne
    obtain ⟨b2, o2, rfl, hb2, hc2⟩ := HSV5.out hne
    obtain ⟨A1, C1, c1, d1, d2, s1⟩ := hc1 k h1
    obtain ⟨A2, C2, c2, d3, d4, s2⟩ := hc2 k h1
    have c1' : wr.cell? ⟨b1, o1 + k, none⟩ = some (.slice A1 P[k].length C1) := (HXW.out.cell hb1).trans c1
    have c2' : wr.cell? ⟨b2, o2 + k, none⟩ = some (.slice A2 P[k].length C2) := (HXW.out.cell hb2).trans c2
    have hb1r := Nat.lt_of_lt_of_le hb1 HXW.out.size
    have hb2r := Nat.lt_of_lt_of_le hb2 HXW.out.size
    have hpk := HPL.out P[k] (List.getElem_mem h1)
    have HC := Lib.hid (fun (W : World) (h : Ext w5 W) => r3SameRows_any A1 A2 C1 C2 P[k] P[k] W (s1.up h) (s2.up h) (by omega) (by omega))
    rw [show decide (P[k] = P[k]) = true by simp] at HC
    generalize P[k] = y at *
    have g1' : (0 : Int) ≤ (k : Int) := by omega
    have g2' : (k : Int) < (P.length : Int) := by omega
    have hw1 : IntKind.i64.wrap ((k : Int) + 1) = ((k + 1 : Nat) : Int) := by rw [IntWalk.i64_in _ (by omega)]; omega
    clear hc1 hc2 c1 c2 s1 s2 hne d1 d2 d3 d4 hpk
    go_wp2
    refine wp_region_held_drew (S := (fun w' => w'.cell? ⟨b1, o1 + k, none⟩ = some (.slice A1 y.length C1) ∧ w'.cell? ⟨b2, o2 + k, none⟩ = some (.slice A2 y.length C2))) (by kernel_rfl) ⟨c1', c2'⟩ (fun hHeld => ?_)
    refine takeOp (i := 0) (v := ?_) (some 77) rfl rfl (by kernel_rfl) (by kernel_rfl) (by kernel_rfl) (fun _ _ _ h => h) (Or.inl ⟨by rfl, ?_⟩) (by assumption) ?_
    rotate_left 1
    · (intro w0 hSw; (try dsimp only at hSw); go_simp; try (with_reducible rfl))
    try simp only [Act.put]
    try simp only [List.setIfInBounds_toArray]
    try simp only [List.set_cons_succ]
    try simp only [List.set_cons_zero]
    refine takeOp (i := 1) (v := ?_) (some 78) rfl rfl (by kernel_rfl) (by kernel_rfl) (by kernel_rfl) (fun _ _ _ h => h) (Or.inl ⟨by rfl, ?_⟩) (by assumption) ?_
    rotate_left 1
    · (intro w0 hSw; (try dsimp only at hSw); go_simp; try (with_reducible rfl))
    try simp only [Act.put]
    try simp only [List.setIfInBounds_toArray]
    try simp only [List.set_cons_succ]
    try simp only [List.set_cons_zero]
    refine takeOp (i := 2) (v := ?_) (some 79) rfl rfl (by kernel_rfl) (by kernel_rfl) (by kernel_rfl) (fun _ _ _ h => h) (Or.inl ⟨by rfl, ?_⟩) (by assumption) ?_
    rotate_left 1
    · (intro w0 hSw; (try dsimp only at hSw); go_simp; try (with_reducible rfl))
    try simp only [Act.put]
    try simp only [List.setIfInBounds_toArray]
    try simp only [List.set_cons_succ]
    try simp only [List.set_cons_zero]
    refine takeOp (i := 3) (v := ?_) (some 80) rfl rfl (by kernel_rfl) (by kernel_rfl) (by kernel_rfl) (fun _ _ _ h => h) (Or.inl ⟨by rfl, ?_⟩) (by assumption) ?_
    rotate_left 1
    · (intro w0 hSw; (try dsimp only at hSw); go_simp; try (with_reducible rfl))
    try simp only [Act.put]
    try simp only [List.setIfInBounds_toArray]
    try simp only [List.set_cons_succ]
    try simp only [List.set_cons_zero]
    refine takeOp (i := 4) (v := ?_) (some 81) rfl rfl (by kernel_rfl) (by kernel_rfl) (by kernel_rfl) (fun _ _ _ h => h) (Or.inl ⟨by rfl, ?_⟩) (by assumption) ?_
    rotate_left 1
    · (intro w0 hSw; (try dsimp only at hSw); go_simp; try (with_reducible rfl))
    try simp only [Act.put]
    try simp only [List.setIfInBounds_toArray]
    try simp only [List.set_cons_succ]
    try simp only [List.set_cons_zero]
    refine takeOp (i := 5) (v := ?_) (some 82) rfl rfl (by kernel_rfl) (by kernel_rfl) (by kernel_rfl) (fun _ _ _ h => h) (Or.inl ⟨by rfl, ?_⟩) (by assumption) ?_
    rotate_left 1
    · (intro w0 hSw; (try dsimp only at hSw); go_simp; try (with_reducible rfl))
    try simp only [Act.put]
    try simp only [List.setIfInBounds_toArray]
    try simp only [List.set_cons_succ]
    try simp only [List.set_cons_zero]
    refine takeOp (i := 6) (v := ?_) (some 83) rfl rfl (by kernel_rfl) (by kernel_rfl) (by kernel_rfl) (fun _ _ _ h => h) (Or.inl ⟨by rfl, ?_⟩) (by assumption) ?_
    rotate_left 1
    · (intro w0 hSw; (try dsimp only at hSw); go_simp; try (with_reducible rfl))
    try simp only [Act.put]
    try simp only [List.setIfInBounds_toArray]
    try simp only [List.set_cons_succ]
    try simp only [List.set_cons_zero]
    refine takeOp (i := 7) (v := ?_) (some 84) rfl rfl (by kernel_rfl) (by kernel_rfl) (by kernel_rfl) (fun _ _ _ h => h) (Or.inl ⟨by rfl, ?_⟩) (by assumption) ?_
    rotate_left 1
    · (intro w0 hSw; (try dsimp only at hSw); go_simp; try (with_reducible rfl))
    try simp only [Act.put]
    try simp only [List.setIfInBounds_toArray]
    try simp only [List.set_cons_succ]
    try simp only [List.set_cons_zero]
    refine wpAnyH_ready (rs := [8]) (by kernel_rfl) (by simp) ?_
    refine AllReadyH.cons rfl (fun K hK => ?_) AllReadyH.nil
    go_simp
    refine (HC.out _ HXW.out.drew).mono ?_
    rintro e w6 ⟨rfl, hx6⟩
    have hx7 : Ext wr w6 := (Ext.refl wr).drew.trans hx6
    have KEEP : w6.cell? ⟨b1, o1 + k, none⟩ = some (.slice A1 y.length C1) ∧ w6.cell? ⟨b2, o2 + k, none⟩ = some (.slice A2 y.length C2) := ⟨(hx7.cell hb1r).trans c1', (hx7.cell hb2r).trans c2'⟩
    have HX7 := Lib.hid (HXW.out.trans hx7)
    clear hx6 hx7
    go_wp2_with fail
    refine hK.out _ _ KEEP (fun hHeld => ?_)
    clear hK K
    try simp only [Act.put]
    try simp only [List.setIfInBounds_toArray]
    try simp only [List.set_cons_succ]
    try simp only [List.set_cons_zero]
    refine takeOp (i := 9) (v := ?_) (some 86) rfl rfl (by kernel_rfl) (by kernel_rfl) (by kernel_rfl) (fun _ _ _ h => h) (Or.inl ⟨by rfl, ?_⟩) (by assumption) ?_
    rotate_left 1
    · (intro w0 hSw; (try dsimp only at hSw); go_simp; try (with_reducible rfl))
    try simp only [Act.put]
    try simp only [List.setIfInBounds_toArray]
    try simp only [List.set_cons_succ]
    try simp only [List.set_cons_zero]
    refine wpAnyH_done (by kernel_rfl) ?_ _
    go_wp2
    go_roundw
    case rel => exact ⟨k + 1, h1, by first | rfl | simp, HX7.out⟩
    case measure => simp [intOf]; omega

end Go.Proofs.Ytlcammcifjihpaa
end

section
/- Opening the arguments of the laws of chapter 34: Rel, lists of bytes, lists of ints. -/
namespace Go.Proofs.Ytlcammcifjihpaa
open Go.ChangeShapes Go.WideShapes Go.ChangeAt Go.RowKit Go.Joins Go.Deep

theorem cell_addr' {w : World} {a : Addr} {v : Value} (h : w.cell? a = some v) : a = ⟨a.block, a.off, none⟩ ∧ a.block < w.heap.size := by
  obtain ⟨b, o, s⟩ := a
  unfold World.cell? at h
  simp only at h
  cases hh : w.heap[b]? with
  | none => rw [hh] at h; cases h
  | some ob =>
    have hlt : b < w.heap.size := by
      rcases Nat.lt_or_ge b w.heap.size with h1 | h1
      · exact h1
      · rw [Array.getElem?_eq_none h1] at hh; cases hh
    refine ⟨?_, hlt⟩
    rw [hh] at h
    cases ob with
    | cells c _ _ =>
      cases s with
      | none => rfl
      | some s => simp at h
    | _ => simp at h

theorem add_addr' (b o i : Nat) : (Addr.add ⟨b, o, none⟩ i) = ⟨b, o + i, none⟩ := by
  unfold Addr.add
  split
  · next h => subst h; rfl
  · rfl

theorem sl_open' {k : IntKind} {w : World} {a : Addr} {zs : List Int} {len : Nat} (hl : len ≤ zs.length) (hcell : ∀ i, i < zs.length → w.cell? (a.add i) = some (.int k (zs.getD i 0))) :
    SlI k w.heap.size w (some a) (zs.take len) := by
  intro hne
  have hpos : 0 < (zs.take len).length := by
    rcases Nat.eq_zero_or_pos (zs.take len).length with h | h
    · exact absurd (by rw [List.eq_nil_of_length_eq_zero h]; rfl) hne
    · exact h
  rw [List.length_take] at hpos
  have h0 := hcell 0 (by omega)
  rw [show a.add 0 = a by unfold Addr.add; simp] at h0
  obtain ⟨ha, hb⟩ := cell_addr' h0
  refine ⟨a.block, a.off, by rw [← ha], hb, fun i u hu => ?_⟩
  rw [List.getElem?_map] at hu
  cases hz : (zs.take len)[i]? with
  | none => rw [hz] at hu; simp at hu
  | some z =>
    rw [hz] at hu
    simp at hu
    subst hu
    obtain ⟨hi, hzi⟩ := List.getElem?_eq_some_iff.1 hz
    rw [List.length_take] at hi
    have h1 := hcell i (by omega)
    rw [ha, add_addr'] at h1
    rw [h1]
    simp at hzi
    simp [show i < zs.length by omega, hzi]

section
variable {H : Type} {enc : TypeId × Value → H} {W : World} {n : Nat} {x : DataW H × List MemPlace}

/-- A slice of ints that reads. -/
theorem open_cols {cs : List Value} (h : DataW.trod enc Try.prog W 0 (fun _ => true) true n 25 cs = some x) :
    ∃ A c zs, cs = [.slice A zs.length c] ∧ SlI .i64 W.heap.size W A zs ∧ zs.length ≤ 9223372036854775807 ∧ zs.length ≤ c ∧ c ≤ 9223372036854775807 := by
  rcases open_ints Try.underlying25 Try.underlying3 (by kernel_rfl) h with ⟨hcs, _⟩ | ⟨a, len, cap, zs, hcs, _, hl, hm, hz, _, hcell, hwz⟩
  · exact ⟨none, 0, [], hcs, Sl.nil, by simp, by simp, by simp⟩
  · simp at hz
    have hlz : len ≤ zs.length := by omega
    have hm' : cap ≤ 9223372036854775807 := hm
    refine ⟨some a, cap, zs.take len, ?_, sl_open' hlz hcell, ?_, ?_, hm'⟩
    · rw [List.length_take, Nat.min_eq_left hlz]; exact hcs
    · rw [List.length_take]; omega
    · rw [List.length_take]; omega

/-- A slice of bytes that reads. -/
theorem open_u8s {cs : List Value} (h : DataW.trod enc Try.prog W 0 (fun _ => true) true n 26 cs = some x) :
    ∃ A c es, cs = [.slice A es.length c] ∧ SlN .u8 W.heap.size W A es ∧ es.length ≤ 9223372036854775807 ∧ ∀ z ∈ es, z < 256 := by
  rcases open_ints Try.underlying26 Try.underlying5 (by kernel_rfl) h with ⟨hcs, _⟩ | ⟨a, len, cap, zs, hcs, _, hl, hm, hz, _, hcell, hwz⟩
  · exact ⟨none, 0, [], hcs, Sl.nil, by simp, by simp⟩
  · simp at hz
    have hlz : len ≤ zs.length := by omega
    have hm' : cap ≤ 9223372036854775807 := hm
    have hpos : ∀ z ∈ zs.take len, 0 ≤ z ∧ z < 256 := fun z hz2 => by
      have := bounds_u8 (hwz z (List.mem_of_mem_take hz2))
      omega
    refine ⟨some a, cap, (zs.take len).map Int.toNat, ?_, ?_, ?_, fun e he => ?_⟩
    · rw [List.length_map, List.length_take, Nat.min_eq_left hlz]; exact hcs
    · have hs := sl_open' hlz hcell
      have : ((zs.take len).map Int.toNat).map (fun z : Nat => Value.int .u8 (z : Int)) = (zs.take len).map (Value.int .u8) := by
        rw [List.map_map]
        apply List.map_congr_left
        intro z hz2
        have := hpos z hz2
        show Value.int .u8 ((z.toNat : Nat) : Int) = _
        rw [Int.toNat_of_nonneg this.1]
      unfold SlN
      rw [this]
      exact hs
    · rw [List.length_map, List.length_take]; omega
    · rw [List.mem_map] at he
      obtain ⟨z, hz2, rfl⟩ := he
      have := hpos z hz2
      omega

theorem cells_TU8x3 : Try.prog.cellsOf 66 = 3 := by kernel_rfl
theorem cells_Tu8 : Try.prog.cellsOf 5 = 1 := by kernel_rfl

set_option maxRecDepth 100000 in
/-- Three bytes that read. -/
theorem open_three {cs : List Value} (h : DataW.trod enc Try.prog W 0 (fun _ => true) true n 66 cs = some x) :
    ∃ t : List Nat, (∀ k, k < 3 → cs[k]? = some (.int .u8 (t.getD k 0 : Nat))) ∧ ∀ k, t.getD k 0 < 256 := by
  obtain ⟨ys, m, _, _, hlen, hyl, hf⟩ := DataW.trod_array Try.underlying66 h
  rw [cells_TU8x3] at hlen
  rw [cells_Tu8] at hf
  match cs, hlen with
  | [c0, c1, c2], _ =>
    match ys, hyl with
    | [y0, y1, y2], _ =>
      have h0 := hf 0 (by decide)
      have h1 := hf 1 (by decide)
      have h2 := hf 2 (by decide)
      obtain ⟨a0, e0, _, w0⟩ := DataW.trod_int (k := .u8) Try.underlying5 (h0.trans (b := some y0) rfl)
      obtain ⟨a1, e1, _, w1⟩ := DataW.trod_int (k := .u8) Try.underlying5 (h1.trans (b := some y1) rfl)
      obtain ⟨a2, e2, _, w2⟩ := DataW.trod_int (k := .u8) Try.underlying5 (h2.trans (b := some y2) rfl)
      have b0 := bounds_u8 w0
      have b1 := bounds_u8 w1
      have b2 := bounds_u8 w2
      obtain ⟨a0, rfl⟩ := Int.eq_ofNat_of_zero_le b0.1
      obtain ⟨a1, rfl⟩ := Int.eq_ofNat_of_zero_le b1.1
      obtain ⟨a2, rfl⟩ := Int.eq_ofNat_of_zero_le b2.1
      simp at e0 e1 e2
      subst e0 e1 e2
      refine ⟨[a0, a1, a2], fun k hk => ?_, fun k => ?_⟩
      · match k, hk with
        | 0, _ => rfl
        | 1, _ => rfl
        | 2, _ => rfl
      · match k with
        | 0 => show a0 < 256; omega
        | 1 => show a1 < 256; omega
        | 2 => show a2 < 256; omega
        | k + 3 => show (0 : Nat) < 256; omega

/-- A list of threes that reads. -/
theorem open_threes {cs : List Value} (h : DataW.trod enc Try.prog W 0 (fun _ => true) true n 22 cs = some x) :
    ∃ A C X, cs = [.slice A X.length C] ∧ SlA 3 W.heap.size W A X ∧ X.length ≤ 9223372036854775807 ∧ Bytes X := by
  rcases open_slice Try.underlying22 h with ⟨hcs, _⟩ | ⟨a, len, cap, m, n', D, Pl, hcs, _, hl, hm, hmm, _, hel⟩
  · exact ⟨none, 0, [], hcs, fun h => absurd rfl h, by simp, fun t ht => by simp at ht⟩
  · rw [cells_TU8x3] at hel
    simp only [if_true] at hmm
    subst hmm
    have hm' : m ≤ 9223372036854775807 := hm
    have hch : ∀ i, i < len → ∃ t : List Nat, (∀ j, j < 3 → W.cell? (a.add (i * 3 + j)) = some (.int .u8 (t.getD j 0 : Nat))) ∧ ∀ k, t.getD k 0 < 256 := by
      intro i hi
      obtain ⟨cs', h1, h2⟩ := hel i (by omega)
      obtain ⟨t, hv, hb⟩ := open_three h2
      obtain ⟨_, _, h3⟩ := World.cells?_some h1
      refine ⟨t, fun j hj => ?_, hb⟩
      rw [← Go.Deep.add_add, h3 j hj]
      exact hv j hj
    obtain ⟨f, hf⟩ := choose_lt hch
    refine ⟨some a, m, (List.range len).map f, by simpa using hcs, fun hne => ?_, by simp only [List.length_map, List.length_range]; omega, ?_⟩
    · have hpos : 0 < len := by
        rcases Nat.eq_zero_or_pos len with h0 | h0
        · subst h0; exact absurd rfl hne
        · exact h0
      have h0 := (hf 0 hpos).1 0 (by omega)
      rw [show a.add (0 * 3 + 0) = a by unfold Addr.add; simp] at h0
      obtain ⟨ha, hb⟩ := cell_addr' h0
      refine ⟨a.block, a.off, by rw [← ha], hb, fun i hi k hk => ?_⟩
      have hi' : i < len := by simpa using hi
      have h1 := (hf i hi').1 k hk
      rw [ha, add_addr', ← Nat.add_assoc] at h1
      rw [h1]
      simp
    · intro t ht
      rw [List.mem_map] at ht
      obtain ⟨i, hi, rfl⟩ := ht
      exact (hf i (by simpa using hi)).2

theorem relCells : Try.prog.cellsOf 24 = 2 := by kernel_rfl

set_option maxRecDepth 100000 in
/-- A Rel that reads. -/
theorem open_rel {r : Reach} {b0 : Nat} {v : Value} {d : DataW H} {p : List MemPlace} (hv : Value.okWide Try.prog W r b0 24 v) (h : DataW.Trod enc Try.prog W 0 (fun _ => true) true 24 v d p) :
    ∃ (ar : Nat) (A : Option Addr) (C : Nat) (X : List (List Nat)), v = .agg #[.int .u8 ar, .slice A X.length C] ∧ ar < 256 ∧ SlA 3 W.heap.size W A X ∧ X.length ≤ 9223372036854775807 ∧ Bytes X := by
  obtain ⟨c0, c1, y0, y1, n, rfl, rfl, rfl, hy0, hy1⟩ := open_agg2 Try.underlying24 (by kernel_rfl) relCells hv h
  obtain ⟨N, e0, _, wN⟩ := DataW.trod_int Try.underlying5 hy0
  obtain ⟨A, c, X, e1, hs, hl, hb⟩ := open_threes hy1
  have := bounds_u8 wN
  obtain ⟨N, rfl⟩ := Int.eq_ofNat_of_zero_le this.1
  simp at e0 e1
  subst e0 e1
  exact ⟨N, A, c, X, rfl, by omega, hs, hl, hb⟩
end

end Go.Proofs.Ytlcammcifjihpaa
end

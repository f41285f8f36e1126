/- Parts of the proof, merged: G15, G16, W4, W5, W6. -/
import Derived.Test.YthgaflmldbgbnaaGreatDoorQ7
import Derived.Test.YthgaflmldbgbnaaGreatDoorQ3
import Derived.Deep.RegionHeld3

set_option maxRecDepth 100000
namespace Go.Proofs.YthgaflmldbgbnaaGreatDoor
section
open Go.RowKit Go.Sort Go.ChangeMaps Go.WideShapes

def joinL (U : List Nat) (a b : At) : List RL.R := a.P.flatMap fun x => (gF (keyF b.vs a.vs) b.P (keyF a.vs b.vs x)).map fun y => mergeF U a.vs b.vs x y
theorem joinA_list {U : List Nat} {a b : At} (ha : Gd a) (hb : Gd b) : joinA U a b = ⟨U, RL.ofF (joinL U a b)⟩ := by
  unfold joinA joinL
  congr 2
  unfold List.flatMap
  congr 1
  refine List.map_congr_left fun x hx => ?_
  congr 1
  unfold gF
  refine List.filter_congr fun y hy => ?_
  exact decide_eq_decide.2 ((key_agr ha hb hx hy).symm.trans eq_comm)
theorem mem_joinL {U : List Nat} {a b : At} (ha : Gd a) (hb : Gd b) {z : RL.R} : z ∈ joinL U a b ↔ ∃ x ∈ a.P, ∃ y ∈ b.P, agrF a.vs b.vs x y ∧ z = mergeF U a.vs b.vs x y := by
  rw [← mem_joinA (U := U), joinA_list ha hb]
  exact (RL.mem_ofF _ _).symm
theorem getF_mem {us : List Nat} {x : RL.R} (hl : x.length = us.length) {v : Nat} (hv : v ∈ us) : getF us x v ∈ x := by
  have hi : us.idxOf v < us.length := List.idxOf_lt_length_of_mem hv
  unfold getF dv
  rw [List.getD_eq_getElem?_getD, List.getElem?_eq_getElem (by omega)]
  exact List.getElem_mem _
theorem joinL_ok {U : List Nat} {a b : At} (_hU : U.Pairwise (· < ·)) (hm : ∀ v, v ∈ U ↔ v ∈ a.vs ∨ v ∈ b.vs) (ha : Gd a) (hb : Gd b) : ∀ z ∈ joinL U a b, z.length = U.length ∧ ∀ c ∈ z, IsI c := fun z hz => by
  obtain ⟨x, hx, y, hy, -, rfl⟩ := (mem_joinL ha hb).1 hz
  refine ⟨row_len _ _, fun c hc => ?_⟩
  unfold mergeF rowF at hc
  obtain ⟨v, hv, rfl⟩ := List.mem_map.1 hc
  by_cases h : v ∈ a.vs
  · rw [if_pos h]; exact ha.I x hx _ (getF_mem (ha.len x hx) h)
  · rw [if_neg h]; exact hb.I y hy _ (getF_mem (hb.len y hy) (((hm v).1 hv).resolve_left h))
theorem Gd.join {a b : At} (ha : Gd a) (hb : Gd b) (hl : (joinL (uniV a.vs b.vs) a b).length ≤ 60000) : Gd (joinA (uniV a.vs b.vs) a b) := by
  have h1 := joinL_ok (uniV_asc a.vs b.vs) (fun v => mem_uniV ha.lt hb.lt v) ha hb
  rw [joinA_list ha hb]
  exact ⟨uniV_asc _ _, fun v hv => ((mem_uniV ha.lt hb.lt v).1 hv).elim (ha.lt v) (hb.lt v), fun r hr => (h1 r ((RL.mem_ofF _ _).1 hr)).1, RL.SS.of _, fun r hr => (h1 r ((RL.mem_ofF _ _).1 hr)).2, Nat.le_trans (RL.ofF_length_le _) hl⟩
theorem uni_succ (us vs : List Nat) (k : Nat) : (List.range (k + 1)).filter (fun v => decide (v ∈ us ∨ v ∈ vs)) = (List.range k).filter (fun v => decide (v ∈ us ∨ v ∈ vs)) ++ (if k ∈ us ∨ k ∈ vs then [k] else []) := by
  rw [List.range_succ, List.filter_append]
  congr 1
  by_cases hm : k ∈ us ∨ k ∈ vs
  · rw [if_pos hm, List.filter_cons_of_pos (by simpa using hm)]; rfl
  · rw [if_neg hm, List.filter_cons_of_neg (by simpa using hm)]; rfl
theorem or_bit {us vs : List Nat} (v : Nat) : (setN us ||| setN vs) / 2 ^ v % 2 = if v ∈ us ∨ v ∈ vs then 1 else 0 := by
  have h := Nat.testBit_eq_decide_div_mod_eq (x := setN us ||| setN vs) (i := v)
  rw [Nat.testBit_or, setN_bit, setN_bit, ← Bool.decide_or] at h
  have := decide_eq_decide.1 h
  by_cases hm : v ∈ us ∨ v ∈ vs
  · rw [if_pos hm]; exact this.1 hm
  · rw [if_neg hm]
    have := mt this.2 hm
    omega
theorem GrpM.look2 {kf : RL.R → List UInt8} {B b : Nat} {w : World} {Y : List RL.R} {n : Nat} {D : DataW Value} {f : List (Value × Nat × List Value)} {ks : List (List UInt8)} (h : GrpM kf B b w Y n D f ks) (s : List UInt8) (hsl : s.length ≤ maxLen) :
    ∃ A C, (∀ w', Below w.heap.size w w' → (Instr.lookup 107 (.map (some b)) (.string (bs s)) false).run Tryz.prog w' = .ok (.slice A (gF kf Y s).length C) w') ∧ (gF kf Y s).length ≤ C ∧ C ≤ 9223372036854775807 ∧ SlRs w.heap.size w A (gF kf Y s) := by
  obtain ⟨v, hs, h1, h2, -⟩ := h.get s hsl
  obtain ⟨h3, h4⟩ := h2 w h
  obtain ⟨A, C, rfl, c1, c2, c3⟩ := own_slrs (P := fun c => c ≠ b) h3 h4 h.le fun c hc => by have := h.lt; omega
  exact ⟨A, C, fun w' hb => h1 w' (h.keep hb), c1, c2, c3.sl⟩

set_option maxHeartbeats 16000000 in
theorem sjJoin_ok (va vb : Value) (a b : At) (w : World) (ha : AtV w va a) (hb : AtV w vb b) (ga : Gd a) (gb : Gd b) (hcnt : (joinL (uniV a.vs b.vs) a b).length ≤ 60000) :
    Calls Tryz.prog 30 #[va, vb] w fun e w' => ∃ v, e = .returned (.tuple #[v, .int .i64 0]) ∧ AtP (fun c => w.heap.size + 3 ≤ c) w'.heap.size w' v (joinA (uniV a.vs b.vs) a b) ∧ Below w.heap.size w w' := by
  obtain ⟨us, P⟩ := a
  obtain ⟨vs, Q⟩ := b
  obtain ⟨VA, VC, PA, PC, rfl, c1, c2, c3, c4, hv, hP⟩ := ha
  obtain ⟨WA, WC, QA, QC, rfl, c5, c6, c7, c8, hw, hQ⟩ := hb
  simp only at *
  have HKS : Hid (joinA (uniV us vs) ⟨us, P⟩ ⟨vs, Q⟩ = ⟨uniV us vs, RL.ofF (joinL (uniV us vs) ⟨us, P⟩ ⟨vs, Q⟩)⟩) := joinA_list ga gb
  have HVAL := Lib.hid (joinL_ok (uniV_asc us vs) (fun v => mem_uniV ga.lt gb.lt v) ga gb)
  have HCN := Lib.hid hcnt
  have hul : us.length ≤ 32 := ga.vl
  have hvl : vs.length ≤ 32 := gb.vl
  obtain ⟨M, hM⟩ : ∃ M, M = setN us &&& setN vs := ⟨_, rfl⟩
  have hMa := and_bits ga.lt gb.lt
  have hMb : ∀ v ∈ vs, M / 2 ^ v % 2 = if v ∈ us then 1 else 0 := by rw [hM, Nat.and_comm]; exact (and_bits gb.lt ga.lt).2
  obtain ⟨W0, hW0⟩ : ∃ W0, W0 = ((w.alloc (.cells #[.slice VA us.length VC, .int .i64 (us.length : Nat), .slice PA P.length PC] 36)).alloc (.cells #[.slice WA vs.length WC, .int .i64 (vs.length : Nat), .slice QA Q.length QC] 36)).alloc (.cells #[.slice none 0 0, .int .i64 0, .slice none 0 0] 36) := ⟨_, rfl⟩
  have hx0 : Ext w W0 := by rw [hW0]; exact (((Ext.refl w).alloc _).alloc _).alloc _
  have hra : Row W0 w.heap.size 36 [.slice VA us.length VC, .int .i64 (us.length : Nat), .slice PA P.length PC] := by rw [hW0]; exact ((Row.new w 36 _).alloc _).alloc _
  have hrb : Row W0 (w.heap.size + 1) 36 [.slice WA vs.length WC, .int .i64 (vs.length : Nat), .slice QA Q.length QC] := by
    have h := (Row.new (w.alloc (.cells #[.slice VA us.length VC, .int .i64 (us.length : Nat), .slice PA P.length PC] 36)) 36 [.slice WA vs.length WC, .int .i64 (vs.length : Nat), .slice QA Q.length QC]).alloc (.cells #[.slice none 0 0, .int .i64 0, .slice none 0 0] 36)
    rw [World.size_alloc] at h
    rw [hW0]; exact h
  have hrr : Row W0 (w.heap.size + 1 + 1) 36 [.slice none 0 0, .int .i64 0, .slice none 0 0] := by
    have h := Row.new ((w.alloc (.cells #[.slice VA us.length VC, .int .i64 (us.length : Nat), .slice PA P.length PC] 36)).alloc (.cells #[.slice WA vs.length WC, .int .i64 (vs.length : Nat), .slice QA Q.length QC] 36)) 36 [.slice none 0 0, .int .i64 0, .slice none 0 0]
    rw [World.size_alloc, World.size_alloc] at h
    rw [hW0]; exact h
  have HV := Lib.hid (fun W (h : Below w.heap.size w W) => (Sl.below hv h (Nat.le_refl _)).more h.size)
  have HW := Lib.hid (fun W (h : Below w.heap.size w W) => (Sl.below hw h (Nat.le_refl _)).more h.size)
  have HP := Lib.hid (fun W (h : Below w.heap.size w W) => hP.upB h)
  have HQ := Lib.hid (fun W (h : Below w.heap.size w W) => hQ.upB h)
  have HGA := Lib.hid ga
  have HGB := Lib.hid gb
  have HME := Lib.hid hM
  have HMA := Lib.hid hMa
  have HMB := Lib.hid hMb
  have HX0 := Lib.hid hx0
  have HRA := Lib.hid hra
  have HRB := Lib.hid hrb
  have HRR := Lib.hid hrr
  have HSA := Lib.hid (fun W (h : Below w.heap.size w W) => sjSet_any VA PA VC PC P.length us.length us W (HV.out W h) (by omega) ga.lt)
  have HSB := Lib.hid (fun W (h : Below w.heap.size w W) => sjSet_any WA QA WC QC Q.length vs.length vs W (HW.out W h) (by omega) gb.lt)
  have hkeep : ∀ W, Below W0.heap.size W0 W → (W.cell? ⟨w.heap.size, 0, none⟩ = some (.slice VA us.length VC) ∧ W.cell? ⟨w.heap.size, 1, none⟩ = some (.int .i64 (us.length : Nat)) ∧ W.cell? ⟨w.heap.size, 2, none⟩ = some (.slice PA P.length PC)) ∧ W.cell? ⟨w.heap.size + 1, 0, none⟩ = some (.slice WA vs.length WC) ∧ W.cell? ⟨w.heap.size + 1, 1, none⟩ = some (.int .i64 (vs.length : Nat)) ∧ W.cell? ⟨w.heap.size + 1, 2, none⟩ = some (.slice QA Q.length QC) := fun W h => by
    have h1 := hra.up h
    have h2 := hrb.up h
    exact ⟨⟨h1.cell 0, h1.cell 1, h1.cell 2⟩, h2.cell 0, h2.cell 1, h2.cell 2⟩
  have HKP := Lib.hid hkeep
  have HWU := Lib.hid (fun W (h : Below W0.heap.size W0 W) => Below.then hx0.below h hx0.size)
  have HBU : Hid (bits BinOp.and IntKind.u32 (setN us : Int) (setN vs : Int) = (M : Nat)) := by
    show _ = _
    rw [u32_and_nat _ _ (setN_lt ga.lt) (setN_lt gb.lt), hM]
  have hz3 : w.heap.size + 1 + 1 < W0.heap.size := hrr.lt
  clear hv hw hP hQ ga gb hcnt hM hMa hMb hx0 hra hrb hrr hkeep c1 c2 c3 c4 c5 c6 c7 c8
  go_enter Tryz.func30, Tryz.ntmps30
  go_upto_region 1 with (fail)
  rw [← hW0]
  clear hW0
  go_step3
  go_upto_region 1 with (fail)
  refine wp_region_held_drew (S := (fun w' => (w'.cell? ⟨w.heap.size, 0, none⟩ = some (.slice VA us.length VC) ∧ w'.cell? ⟨w.heap.size, 1, none⟩ = some (.int .i64 (us.length : Nat)) ∧ w'.cell? ⟨w.heap.size, 2, none⟩ = some (.slice PA P.length PC)) ∧ w'.cell? ⟨w.heap.size + 1, 0, none⟩ = some (.slice WA vs.length WC) ∧ w'.cell? ⟨w.heap.size + 1, 1, none⟩ = some (.int .i64 (vs.length : Nat)) ∧ w'.cell? ⟨w.heap.size + 1, 2, none⟩ = some (.slice QA Q.length QC))) (by kernel_rfl) (HKP.out W0.drew (Below.refl _ _).drew) (fun hHeld => ?_)
  refine takeOp (i := 0) (v := ?_) (some 16) rfl rfl (by kernel_rfl) (by kernel_rfl) (by kernel_rfl) (fun _ _ _ h => h) (Or.inl ⟨by rfl, ?_⟩) (by assumption) ?_
  rotate_left 1
  · (intro w0 hSw; (try dsimp only at hSw); go_simp; try (with_reducible rfl))
  try simp only [Act.put, List.setIfInBounds_toArray, List.set_cons_succ, List.set_cons_zero]
  refine takeOp (i := 2) (v := ?_) (some 18) rfl rfl (by kernel_rfl) (by kernel_rfl) (by kernel_rfl) (fun _ _ _ h => h) (Or.inl ⟨by rfl, ?_⟩) (by assumption) ?_
  rotate_left 1
  · (intro w0 hSw; (try dsimp only at hSw); go_simp; try (with_reducible rfl))
  try simp only [Act.put, List.setIfInBounds_toArray, List.set_cons_succ, List.set_cons_zero]
  refine wpAnyH_ready (rs := [1]) (by kernel_rfl) (by simp) ?_
  refine AllReadyH.cons rfl (fun K hK => ?_) AllReadyH.nil
  go_simp
  refine (HSA.out W0.drew (HWU.out _ (Below.refl _ _).drew)).mono ?_
  rintro e V1 ⟨rfl, hb⟩
  have HV1 : Hid (Below W0.heap.size W0 V1) := Below.undrew hb.below
  clear hb
  go_wp2_with fail
  refine hK.out _ _ (HKP.out V1 HV1.out) (fun hHeld => ?_)
  clear hK K
  try simp only [Act.put, List.setIfInBounds_toArray, List.set_cons_succ, List.set_cons_zero]
  refine wpAnyH_ready (rs := [3]) (by kernel_rfl) (by simp) ?_
  refine AllReadyH.cons rfl (fun K hK => ?_) AllReadyH.nil
  go_simp
  refine (HSB.out V1 (HWU.out _ HV1.out)).mono ?_
  rintro e V3 ⟨rfl, hb⟩
  have HV3 : Hid (Below W0.heap.size W0 V3) := Below.then HV1.out hb.below HV1.out.size
  clear hb
  go_wp2_with fail
  refine hK.out _ _ (HKP.out V3 HV3.out) (fun hHeld => ?_)
  clear hK K
  try simp only [Act.put, List.setIfInBounds_toArray, List.set_cons_succ, List.set_cons_zero]
  refine takeOp (i := 4) (v := ?_) (some 20) rfl rfl (by kernel_rfl) (by kernel_rfl) (by kernel_rfl) (fun _ _ _ h => h) (Or.inl ⟨by rfl, ?_⟩) (by assumption) ?_
  rotate_left 1
  · (intro w0 hSw; (try dsimp only at hSw); go_simp; try (with_reducible rfl))
  try simp only [Act.put, List.setIfInBounds_toArray, List.set_cons_succ, List.set_cons_zero]
  refine takeOp (i := 5) (v := ?_) (some 6) rfl rfl (by kernel_rfl) (by kernel_rfl) (by kernel_rfl) (fun _ _ _ h => h) (Or.inl ⟨by rfl, ?_⟩) (by assumption) ?_
  rotate_left 1
  · (intro w0 hSw; (try dsimp only at hSw); go_simp; try (with_reducible rfl))
  try simp only [Act.put, List.setIfInBounds_toArray, List.set_cons_succ, List.set_cons_zero]
  refine wpAnyH_done (by kernel_rfl) ?_ _
  rw [HBU.out]
  clear HBU hHeld
  have HMM := Lib.hid HMA.out
  rw [← HME.out] at HMM
  have HCA := Lib.hid (fun W (h : Below w.heap.size w W) => sjColumns_any VA PA VC PC P.length M us.length us vs W (HV.out W h) (by omega) HGA.out.lt HMM.out.1 HMM.out.2)
  have HCB := Lib.hid (fun W (h : Below w.heap.size w W) => sjColumns_any WA QA WC QC Q.length M vs.length vs us W (HW.out W h) (by omega) HGB.out.lt HMM.out.1 HMB.out)
  have HBK := Lib.hid (fun W (h : Below w.heap.size w W) CB CC (hc : SlI .i64 W.heap.size W CB (colsI vs us)) => sjByKey_any WA QA CB WC QC CC vs.length vs.length Q (colsI vs us) W (HQ.out W h) hc HGB.out.rsOk HGB.out.many (by unfold colsI colsF; rw [List.length_map]; exact Nat.le_trans (List.length_filter_le _ _) (by rw [List.length_range]; omega)) (fun x hx => ⟨by have := HGB.out.len x hx; have h2 : x.length = vs.length := this; omega, fun c hc => by
      unfold colsI at hc
      obtain ⟨i, hi, rfl⟩ := List.mem_map.1 hc
      have h1 := colsF_lt vs us i hi
      have h2 : x.length = vs.length := HGB.out.len x hx
      exact ⟨Int.natCast_nonneg _, by show ((i : Nat) : Int) < _; omega⟩, fun v hv => (HGB.out.I x hx v hv).small⟩))
  have HCC : Hid (∀ us vs, ((colsF us vs).map fun i : Nat => Value.int .i64 (i : Nat)) = (colsI us vs).map (Value.int .i64) ∧ (colsF us vs).length = (colsI us vs).length) := fun us vs => ⟨by unfold colsI; rw [List.map_map]; rfl, by unfold colsI; rw [List.length_map]⟩
  go_upto_region 2 with (fail)
  refine wp_region_held_drew (S := (fun w' => (w'.cell? ⟨w.heap.size, 0, none⟩ = some (.slice VA us.length VC) ∧ w'.cell? ⟨w.heap.size, 1, none⟩ = some (.int .i64 (us.length : Nat)) ∧ w'.cell? ⟨w.heap.size, 2, none⟩ = some (.slice PA P.length PC)) ∧ w'.cell? ⟨w.heap.size + 1, 0, none⟩ = some (.slice WA vs.length WC) ∧ w'.cell? ⟨w.heap.size + 1, 1, none⟩ = some (.int .i64 (vs.length : Nat)) ∧ w'.cell? ⟨w.heap.size + 1, 2, none⟩ = some (.slice QA Q.length QC))) (by kernel_rfl) (HKP.out V3.drew HV3.out.drew) (fun hHeld => ?_)
  refine takeOp (i := 0) (v := ?_) (some 21) rfl rfl (by kernel_rfl) (by kernel_rfl) (by kernel_rfl) (fun _ _ _ h => h) (Or.inl ⟨by rfl, ?_⟩) (by assumption) ?_
  rotate_left 1
  · (intro w0 hSw; (try dsimp only at hSw); go_simp; try (with_reducible rfl))
  try simp only [Act.put, List.setIfInBounds_toArray, List.set_cons_succ, List.set_cons_zero]
  refine takeOp (i := 1) (v := ?_) (some 22) rfl rfl (by kernel_rfl) (by kernel_rfl) (by kernel_rfl) (fun _ _ _ h => h) (Or.inl ⟨by rfl, ?_⟩) (by assumption) ?_
  rotate_left 1
  · (intro w0 hSw; (try dsimp only at hSw); go_simp; try (with_reducible rfl))
  try simp only [Act.put, List.setIfInBounds_toArray, List.set_cons_succ, List.set_cons_zero]
  refine takeOp (i := 3) (v := ?_) (some 24) rfl rfl (by kernel_rfl) (by kernel_rfl) (by kernel_rfl) (fun _ _ _ h => h) (Or.inl ⟨by rfl, ?_⟩) (by assumption) ?_
  rotate_left 1
  · (intro w0 hSw; (try dsimp only at hSw); go_simp; try (with_reducible rfl))
  try simp only [Act.put, List.setIfInBounds_toArray, List.set_cons_succ, List.set_cons_zero]
  refine takeOp (i := 4) (v := ?_) (some 25) rfl rfl (by kernel_rfl) (by kernel_rfl) (by kernel_rfl) (fun _ _ _ h => h) (Or.inl ⟨by rfl, ?_⟩) (by assumption) ?_
  rotate_left 1
  · (intro w0 hSw; (try dsimp only at hSw); go_simp; try (with_reducible rfl))
  try simp only [Act.put, List.setIfInBounds_toArray, List.set_cons_succ, List.set_cons_zero]
  refine takeOp (i := 5) (v := ?_) (some 26) rfl rfl (by kernel_rfl) (by kernel_rfl) (by kernel_rfl) (fun _ _ _ h => h) (Or.inl ⟨by rfl, ?_⟩) (by assumption) ?_
  rotate_left 1
  · (intro w0 hSw; (try dsimp only at hSw); go_simp; try (with_reducible rfl))
  try simp only [Act.put, List.setIfInBounds_toArray, List.set_cons_succ, List.set_cons_zero]
  refine wpAnyH_ready (rs := [2]) (by kernel_rfl) (by simp) ?_
  refine AllReadyH.cons rfl (fun K hK => ?_) AllReadyH.nil
  go_simp
  refine (HCA.out V3.drew (HWU.out _ HV3.out.drew)).mono ?_
  rintro e V4 ⟨v4, rfl, ho, hb⟩
  rw [(HCC.out us vs).1, (HCC.out us vs).2] at ho
  obtain ⟨CA4, CC4, rfl, -, -, hs4⟩ := Sl.of_own ho
  rw [List.length_map] 
  have HS4 := Lib.hid hs4
  have HV4 : Hid (Below W0.heap.size W0 V4) := Below.then HV3.out (Below.undrew hb) HV3.out.size
  clear ho hb hs4
  go_wp2_with fail
  refine hK.out _ _ (HKP.out V4 HV4.out) (fun hHeld => ?_)
  clear hK K
  try simp only [Act.put, List.setIfInBounds_toArray, List.set_cons_succ, List.set_cons_zero]
  refine wpAnyH_ready (rs := [6]) (by kernel_rfl) (by simp) ?_
  refine AllReadyH.cons rfl (fun K hK => ?_) AllReadyH.nil
  go_simp
  refine (HCB.out V4 (HWU.out _ HV4.out)).mono ?_
  rintro e V5 ⟨v5, rfl, ho, hb⟩
  rw [(HCC.out vs us).1, (HCC.out vs us).2] at ho
  obtain ⟨CA5, CC5, rfl, -, -, hs5⟩ := Sl.of_own ho
  rw [List.length_map] 
  have HS5 := Lib.hid hs5
  have HS45 := Lib.hid ((Sl.below HS4.out hb (Nat.le_refl _)).more hb.size)
  have HV5 : Hid (Below W0.heap.size W0 V5) := Below.then HV4.out hb HV4.out.size
  clear ho hb hs5
  go_wp2_with fail
  refine hK.out _ _ (HKP.out V5 HV5.out) (fun hHeld => ?_)
  clear hK K
  try simp only [Act.put, List.setIfInBounds_toArray, List.set_cons_succ, List.set_cons_zero]
  refine wpAnyH_ready (rs := [7]) (by kernel_rfl) (by simp) ?_
  refine AllReadyH.cons rfl (fun K hK => ?_) AllReadyH.nil
  go_simp
  refine (HBK.out V5 (HWU.out _ HV5.out) CA5 CC5 HS5.out).mono ?_
  rintro e V6 ⟨B6, mb, mn, mD, mf, mks, rfl, hg6, hb⟩
  have HG6 : Hid (GrpM (keyF vs us) B6 mb V6 Q mn mD mf mks) := hg6
  have HS6 := Lib.hid ((Sl.below HS45.out hb (Nat.le_refl _)).more hb.size)
  have HV6 : Hid (Below W0.heap.size W0 V6) := Below.then HV5.out hb HV5.out.size
  clear hb hg6
  go_wp2_with fail
  refine hK.out _ _ (HKP.out V6 HV6.out) (fun hHeld => ?_)
  clear hK K
  try simp only [Act.put, List.setIfInBounds_toArray, List.set_cons_succ, List.set_cons_zero]
  refine takeOp (i := 8) (v := ?_) (some 7) rfl rfl (by kernel_rfl) (by kernel_rfl) (by kernel_rfl) (fun _ _ _ h => h) (Or.inl ⟨by rfl, ?_⟩) (by assumption) ?_
  rotate_left 1
  · (intro w0 hSw; (try dsimp only at hSw); go_simp; try (with_reducible rfl))
  try simp only [Act.put, List.setIfInBounds_toArray, List.set_cons_succ, List.set_cons_zero]
  refine takeOp (i := 9) (v := ?_) (some 8) rfl rfl (by kernel_rfl) (by kernel_rfl) (by kernel_rfl) (fun _ _ _ h => h) (Or.inl ⟨by rfl, ?_⟩) (by assumption) ?_
  rotate_left 1
  · (intro w0 hSw; (try dsimp only at hSw); go_simp; try (with_reducible rfl))
  try simp only [Act.put, List.setIfInBounds_toArray, List.set_cons_succ, List.set_cons_zero]
  refine wpAnyH_done (by kernel_rfl) ?_ _
  clear HCA HCB HBK HCC hHeld
  obtain ⟨B1, hB1e⟩ : ∃ B1, B1 = V6.heap.size := ⟨_, rfl⟩
  have HB1E := Lib.hid hB1e
  have HBO : Hid (bits BinOp.or IntKind.u32 (setN us : Int) (setN vs : Int) = ((setN us ||| setN vs : Nat) : Int)) := by
    show _ = _
    exact u32_or_nat _ _ (setN_lt HGA.out.lt) (setN_lt HGB.out.lt)
  have HOL : Hid ((setN us ||| setN vs) < 4294967296) := Nat.or_lt_two_pow (n := 32) (setN_lt HGA.out.lt) (setN_lt HGB.out.lt)
  clear hB1e
  go_wp2_with fail
  go_loopw [9, 29] (fun vo c wx => ∃ k : Nat, k ≤ 32 ∧ c = .int .i64 k ∧ wx.ownsRow B1 3 1 vo ((List.range k).filter fun v => decide (v ∈ us ∨ v ∈ vs)).length (((List.range k).filter fun v => decide (v ∈ us ∨ v ∈ vs)).map fun i : Nat => Value.int .i64 (i : Nat)) ∧ Below B1 V6 wx) (fun _ c _ => 32 - (intOf c).toNat)
  case atStart => exact ⟨0, by omega, rfl, own_nil _ _ _ _, Below.refl _ _⟩
  case round =>
    obtain ⟨k, hk, rfl, hown, hbw⟩ := hrel
    have HO := Lib.hid hown
    have HB := Lib.hid hbw
    have HBz : Hid (B1 ≤ wr.heap.size) := by have h1 := HB1E.out; have h2 := hbw.size; show _ ≤ _; omega
    have HBR : Hid (Below V6.heap.size V6 wr) := by have h := hbw; rw [HB1E.out] at h; exact h
    have HVR := Lib.hid (Below.then HV6.out HBR.out HV6.out.size)
    clear hown hbw
    by_cases hkl : k < 32
    · have r0 : (0 : Int) ≤ (k : Int) := by omega
      have r1 : (k : Int) < (32 : Int) := by omega
      have r3 : IntKind.i64.wrap ((k : Int) + 1) = ((k + 1 : Nat) : Int) := by rw [IntWalk.i64_in _ (by omega)]; omega
      have HUS := Lib.hid (uni_succ us vs k)
      have HLE : Hid (((List.range k).filter fun v => decide (v ∈ us ∨ v ∈ vs)).length ≤ 32) := by
        have := List.length_filter_le (fun v => decide (v ∈ us ∨ v ∈ vs)) (List.range k)
        rw [List.length_range] at this
        show _ ≤ _
        omega
      have HBT : Hid ((bits BinOp.and IntKind.u32 (((setN us ||| setN vs : Nat) : Int) / (2 : Int) ^ k) 1 == 1) = decide (k ∈ us ∨ k ∈ vs)) := by
        have h1 : ((setN us ||| setN vs : Nat) : Int) / (2 : Int) ^ k = (((setN us ||| setN vs) / 2 ^ k : Nat) : Int) := by
          have h3 : ((2 ^ k : Nat) : Int) = (2 : Int) ^ k := by simp
          rw [← h3]
          exact (Int.natCast_ediv _ (2 ^ k)).symm
        have h2 := u32_and_nat ((setN us ||| setN vs) / 2 ^ k) 1 (Nat.lt_of_le_of_lt (Nat.div_le_self _ _) HOL.out) (by decide)
        have h4 : bits BinOp.and IntKind.u32 (((setN us ||| setN vs) / 2 ^ k : Nat) : Int) 1 = (((setN us ||| setN vs) / 2 ^ k % 2 : Nat) : Int) := by
          rw [← Nat.and_one_is_mod]
          exact h2
        show _ = _
        rw [h1, h4, or_bit]
        by_cases hm : k ∈ us ∨ k ∈ vs
        · rw [if_pos hm, decide_eq_true hm]; rfl
        · rw [if_neg hm, decide_eq_false hm]; rfl
      generalize ((List.range k).filter fun v => decide (v ∈ us ∨ v ∈ vs)) = cs at *
      generalize hOM : (setN us ||| setN vs) = OM at *
      have HOME := Lib.hid hOM
      clear hOM
      obtain ⟨wo, hwo⟩ : ∃ wo, wo = wr := ⟨_, rfl⟩
      subst hwo
      go_upto_region 7 with (fail)
      refine wp_region_held_drew (S := (fun w' => (w'.cell? ⟨w.heap.size, 0, none⟩ = some (.slice VA us.length VC) ∧ w'.cell? ⟨w.heap.size, 1, none⟩ = some (.int .i64 (us.length : Nat)) ∧ w'.cell? ⟨w.heap.size, 2, none⟩ = some (.slice PA P.length PC)) ∧ w'.cell? ⟨w.heap.size + 1, 0, none⟩ = some (.slice WA vs.length WC) ∧ w'.cell? ⟨w.heap.size + 1, 1, none⟩ = some (.int .i64 (vs.length : Nat)) ∧ w'.cell? ⟨w.heap.size + 1, 2, none⟩ = some (.slice QA Q.length QC))) (by kernel_rfl) (HKP.out wo.drew HVR.out.drew) (fun hHeld => ?_)
      refine takeOp (i := 0) (v := ?_) (some 32) rfl rfl (by kernel_rfl) (by kernel_rfl) (by kernel_rfl) (fun _ _ _ h => h) (Or.inl ⟨by rfl, ?_⟩) (by assumption) ?_
      rotate_left 1
      · (intro w0 hSw; (try dsimp only at hSw); go_simp; try (with_reducible rfl))
      try simp only [Act.put, List.setIfInBounds_toArray, List.set_cons_succ, List.set_cons_zero]
      refine takeOp (i := 2) (v := ?_) (some 34) rfl rfl (by kernel_rfl) (by kernel_rfl) (by kernel_rfl) (fun _ _ _ h => h) (Or.inl ⟨by rfl, ?_⟩) (by assumption) ?_
      rotate_left 1
      · (intro w0 hSw; (try dsimp only at hSw); go_simp; try (with_reducible rfl))
      try simp only [Act.put, List.setIfInBounds_toArray, List.set_cons_succ, List.set_cons_zero]
      refine takeOp (i := 5) (v := ?_) (some 37) rfl rfl (by kernel_rfl) (by kernel_rfl) (by kernel_rfl) (fun _ _ _ h => h) (Or.inl ⟨by rfl, ?_⟩) (by assumption) ?_
      rotate_left 1
      · (intro w0 hSw; (try dsimp only at hSw); go_simp; try (with_reducible rfl))
      try simp only [Act.put, List.setIfInBounds_toArray, List.set_cons_succ, List.set_cons_zero]
      refine wpAnyH_ready (rs := [1]) (by kernel_rfl) (by simp) ?_
      refine AllReadyH.cons rfl (fun K hK => ?_) AllReadyH.nil
      go_simp
      refine (HSA.out wo.drew (HWU.out _ HVR.out.drew)).mono ?_
      rintro e V7 ⟨rfl, hb⟩
      have HV7 : Hid (Below W0.heap.size W0 V7) := Below.then HVR.out (Below.undrew hb.below) HVR.out.size
      have HX7 : Hid (Below wo.heap.size wo V7) := Below.undrew hb.below
      clear hb
      go_wp2_with fail
      refine hK.out _ _ (HKP.out V7 HV7.out) (fun hHeld => ?_)
      clear hK K
      try simp only [Act.put, List.setIfInBounds_toArray, List.set_cons_succ, List.set_cons_zero]
      refine wpAnyH_ready (rs := [3]) (by kernel_rfl) (by simp) ?_
      refine AllReadyH.cons rfl (fun K hK => ?_) AllReadyH.nil
      go_simp
      refine (HSB.out V7 (HWU.out _ HV7.out)).mono ?_
      rintro e V8 ⟨rfl, hb⟩
      have HV8 : Hid (Below W0.heap.size W0 V8) := Below.then HV7.out hb.below HV7.out.size
      have HX8 : Hid (Below wo.heap.size wo V8) := Below.then HX7.out hb.below HX7.out.size
      clear hb
      go_wp2_with fail
      refine hK.out _ _ (HKP.out V8 HV8.out) (fun hHeld => ?_)
      clear hK K
      try simp only [Act.put, List.setIfInBounds_toArray, List.set_cons_succ, List.set_cons_zero]
      refine takeOp (i := 4) (v := ?_) (some 36) rfl rfl (by kernel_rfl) (by kernel_rfl) (by kernel_rfl) (fun _ _ _ h => h) (Or.inl ⟨by rfl, ?_⟩) (by assumption) ?_
      rotate_left 1
      · (intro w0 hSw; (try dsimp only at hSw); go_simp; try (with_reducible rfl))
      try simp only [Act.put, List.setIfInBounds_toArray, List.set_cons_succ, List.set_cons_zero]
      refine takeOp (i := 6) (v := ?_) (some 38) rfl rfl (by kernel_rfl) (by kernel_rfl) (by kernel_rfl) (fun _ _ _ h => h) (Or.inl ⟨by rfl, ?_⟩) (by assumption) ?_
      rotate_left 1
      · (intro w0 hSw; (try dsimp only at hSw); go_simp; try (with_reducible rfl))
      try simp only [Act.put, List.setIfInBounds_toArray, List.set_cons_succ, List.set_cons_zero]
      refine takeOp (i := 7) (v := ?_) (some 39) rfl rfl (by kernel_rfl) (by kernel_rfl) (by kernel_rfl) (fun _ _ _ h => h) (Or.inl ⟨by rfl, ?_⟩) (by assumption) ?_
      rotate_left 1
      · (intro w0 hSw; (try dsimp only at hSw); go_simp; try (with_reducible rfl))
      try simp only [Act.put, List.setIfInBounds_toArray, List.set_cons_succ, List.set_cons_zero]
      refine takeOp (i := 8) (v := ?_) (some 40) rfl rfl (by kernel_rfl) (by kernel_rfl) (by kernel_rfl) (fun _ _ _ h => h) (Or.inl ⟨by rfl, ?_⟩) (by assumption) ?_
      rotate_left 1
      · (intro w0 hSw; (try dsimp only at hSw); go_simp; try (with_reducible rfl))
      try simp only [Act.put, List.setIfInBounds_toArray, List.set_cons_succ, List.set_cons_zero]
      refine wpAnyH_done (by kernel_rfl) ?_ _
      rw [HBO.out, HBT.out]
      have HO8 := Lib.hid (own_keep HO.out HX8.out)
      have HB8 : Hid (Below B1 V6 V8) := Below.then HB.out HX8.out HBz.out
      have HBz8 : Hid (B1 ≤ V8.heap.size) := Nat.le_trans HBz.out HX8.out.size
      clear hHeld HO
      by_cases hm : k ∈ us ∨ k ∈ vs
      · have HU2 : Hid (((List.range (k + 1)).filter fun v => decide (v ∈ us ∨ v ∈ vs)) = cs ++ [k]) := by have h := HUS.out; rw [if_pos hm] at h; exact h
        rw [decide_eq_true hm]
        clear hm HUS HBT
        have HOW1 := Lib.hid (fun (o : Obj) => own_keep HO8.out ((Ext.refl V8).alloc o).below)
        have HRW1 := Lib.hid (Row.new V8 3 [.int .i64 (k : Nat)])
        have HBZ1 : Hid (∀ o : Obj, B1 ≤ (V8.alloc o).heap.size) := fun o => Nat.le_trans HBz8.out ((Ext.refl V8).alloc o).size
        have HLL : Hid ((cs.length + 1) * 8 ≤ 140737488355328) := by have := HLE.out; show _ ≤ _; omega
        go_wp2_with (first
          | (at_builtin; go_loud (refine app1Int27 rfl (.tmp 41) (.tmp 43) rfl B1 u9 cs.length (cs.map fun i : Nat => Value.int .i64 (i : Nat)) rfl (HOW1.out _) V8.heap.size (k : Int) rfl (HRW1.out.cell 0) (by have := HLE.out; omega) (HBZ1.out _) ?_); intro v5 w5 hown hg
             have HO5 := Lib.hid hown
             have HB5 : Hid (Below B1 V6 w5) := Below.grown (Below.then HB8.out ((Ext.refl V8).alloc _).below HBz8.out) hg (HBZ1.out _) (fun j hj => own_base HO8.out hj)
             clear hown hg)
          | fail)
        go_roundw
        case rel => exact ⟨k + 1, hkl, by go_num, by rw [HU2.out, List.length_append, List.map_append]; exact HO5.out, HB5.out⟩
        case measure => simp [intOf]; omega
      · have HU2 : Hid (((List.range (k + 1)).filter fun v => decide (v ∈ us ∨ v ∈ vs)) = cs) := by have h := HUS.out; rw [if_neg hm, List.append_nil] at h; exact h
        rw [decide_eq_false hm]
        clear hm HUS HBT
        go_wp2_with fail
        go_roundw
        case rel => exact ⟨k + 1, hkl, by go_num, by rw [HU2.out]; exact HO8.out, HB8.out⟩
        case measure => simp [intOf]; omega
    obtain rfl : k = 32 := by omega
    have hown := HO.out
    change wr.ownsRow B1 3 1 u9 (uniV us vs).length ((uniV us vs).map fun i : Nat => Value.int .i64 (i : Nat)) at hown
    have hUl : (uniV us vs).length ≤ 32 := by
      have := List.length_filter_le (fun v => decide (v ∈ us ∨ v ∈ vs)) (List.range 32)
      rw [List.length_range] at this
      exact this
    have hUasc := uniV_asc us vs
    have hUmem := fun v => mem_uniV HGA.out.lt HGB.out.lt v
    have HUA := Lib.hid hUasc
    have HUM := Lib.hid hUmem
    generalize hUe : uniV us vs = U at *
    have HUE := Lib.hid hUe
    obtain ⟨KA, KC, rfl, -, -, hsU⟩ := Sl.of_own hown
    rw [List.length_map]
    have hsU2 : SlI .i64 wr.heap.size wr KA (U.map Int.ofNat) := by
      show Sl _ _ _ _
      rw [List.map_map]
      exact hsU
    have HSU := Lib.hid hsU2
    obtain ⟨wv, hwv⟩ : ∃ wv, wv = wr := ⟨_, rfl⟩
    subst hwv
    have x1 := (HKP.out wv HVR.out).1.2.1
    have x2 := (HKP.out wv HVR.out).1.2.2
    have hz6 : w.heap.size < wv.heap.size := by have := HVR.out.size; omega
    have HRW := Lib.hid (rlRows_any us.length PA PC P wv (HP.out wv (HWU.out _ HVR.out)) HGA.out.rsOk (by have := HGA.out.many; exact Nat.le_trans this (by omega)))
    have HG1 := Lib.hid (HG6.out.keep HBR.out)
    have HS1 := Lib.hid ((Sl.below HS6.out HBR.out (Nat.le_refl _)).more HBR.out.size)
    clear HSA HSB hown hUasc hUmem hUe hsU hsU2 HG6 HS6 HS45 HS5 HS4 HO HB HBz hkl hk HOL HBO
    go_wp2_with fail
    go_step3
    go_wp2_with fail
    refine HRW.out.mono ?_
    rintro e W2 ⟨g, rfl, hmade, hb2⟩
    obtain ⟨B, hBe⟩ : ∃ B, B = W2.heap.size := ⟨_, rfl⟩
    have HBE := Lib.hid hBe
    have HM := Lib.hid hmade
    have HV2 : Hid (Below W0.heap.size W0 W2) := Below.then HVR.out hb2 HVR.out.size
    have HG2 := Lib.hid (HG1.out.keep hb2)
    have HS2 := Lib.hid ((Sl.below HS1.out hb2 (Nat.le_refl _)).more hb2.size)
    have HSU2 := Lib.hid ((Sl.below HSU.out hb2 (Nat.le_refl _)).more hb2.size)
    have HZ2 : Hid (w.heap.size + 1 + 1 < W2.heap.size) := by have := HV2.out.size; show _ < _; omega
    obtain ⟨GP, hGPe⟩ : ∃ GP : RL.R → List RL.R, GP = fun x => gF (keyF vs us) Q (keyF us vs x) := ⟨_, rfl⟩
    have HGP : Hid (∀ x, GP x = gF (keyF vs us) Q (keyF us vs x)) := fun x => by rw [hGPe]
    have HGPL : Hid (∀ x, ∀ y ∈ GP x, y ∈ Q) := fun x y hy => by rw [hGPe] at hy; exact (mem_gF.1 hy).1
    obtain ⟨KP, hKPe⟩ : ∃ KP : Nat → List RL.R, KP = fun k => (P.take k).flatMap (fun x => (GP x).map fun y => mergeF U us vs x y) := ⟨_, rfl⟩
    have HKE := Lib.hid hKPe
    have HKJ : Hid (KP P.length = joinL U ⟨us, P⟩ ⟨vs, Q⟩) := by show _ = _; rw [hKPe, hGPe]; simp only [List.take_length]; rfl
    have HTK : Hid (∀ k (h : k < P.length), KP (k + 1) = KP k ++ (GP P[k]).map fun y => mergeF U us vs P[k] y) := fun k h => by
      rw [hKPe]
      simp only
      rw [List.take_succ_eq_append_getElem h, List.flatMap_append, List.flatMap_singleton]
    have HLN : Hid (∀ k (h : k < P.length), (KP k).length + (GP P[k]).length ≤ 60000) := fun k h => by
      have h1 : (joinL U ⟨us, P⟩ ⟨vs, Q⟩).length ≤ 60000 := HCN.out
      have h2 : joinL U ⟨us, P⟩ ⟨vs, Q⟩ = KP (k + 1) ++ (P.drop (k + 1)).flatMap (fun x => (GP x).map fun y => mergeF U us vs x y) := by
        rw [← HKJ.out, hKPe]
        simp only
        rw [← List.flatMap_append, List.take_append_drop, List.take_length]
      rw [h2, HTK.out k h, List.length_append, List.length_append, List.length_map] at h1
      show _ ≤ _
      omega
    clear hmade hb2 hBe hKPe hGPe HRW HG1 HS1 HSU
    go_wp2_with fail
    go_loopw [11, 50] (fun vo c wx => ∃ k : Nat, k ≤ P.length ∧ c = .int .i64 k ∧ OwnRs wx B 69 vo (KP k) ∧ Below B W2 wx) (fun _ c _ => P.length - (intOf c).toNat)
    case atStart =>
      refine ⟨0, Nat.zero_le _, rfl, ?_, Below.refl _ _⟩
      rw [HKE.out]; exact OwnRs.nil _ _ _
    case round =>
      obtain ⟨k, hk, rfl, hown, hbw⟩ := hrel
      have HO := Lib.hid hown
      have HB := Lib.hid hbw
      have hBz : B ≤ wr.heap.size := by have h1 := HBE.out; have h2 := hbw.size; omega
      have HBR2 : Hid (Below W2.heap.size W2 wr) := by have h := hbw; rw [HBE.out] at h; exact h
      clear hown hbw
      by_cases hkl : k < P.length
      rotate_left
      · obtain rfl : k = P.length := by omega
        have r1 : ¬ (P.length : Int) < (P.length : Int) := by omega
        have hkj := HKJ.out
        obtain ⟨XA, XC, rfl, -, -, hks⟩ := HO.out.sl
        rw [hkj] at hks ⊢
        have hvr := Below.then HV2.out HBR2.out HV2.out.size
        have hlen : (joinL U ⟨us, P⟩ ⟨vs, Q⟩).length ≤ 60000 := HCN.out
        have hgood : ∀ z ∈ joinL U ⟨us, P⟩ ⟨vs, Q⟩, z.length = U.length ∧ ∀ c ∈ z, IsI c := HVAL.out
        have hat := sjAtom_ok KA XA KC XC (U.map Int.ofNat) (joinL U ⟨us, P⟩ ⟨vs, Q⟩) wr ((Sl.below HSU2.out HBR2.out (Nat.le_refl _)).more HBR2.out.size) hks (by rw [List.length_map]; exact hUl) (fun z hz => ⟨by have := (hgood z hz).1; omega, fun c hc => by rw [((hgood z hz).2 c hc).str]; exact Nat.zero_le _⟩) hlen (by
          rw [List.length_map]
          refine errF_zero.2 fun z hz => ?_
          obtain ⟨h1, h2⟩ := hgood z hz
          unfold wrongF
          rw [if_neg (by simp [h1]), if_pos (List.all_eq_true.2 fun v hv => (h2 v hv).vld)])
        unfold AtomPost at hat
        rw [List.length_map] at hat
        have HAT := Lib.hid hat
        have HRR2 := Lib.hid (HRR.out.up hvr)
        have HBW := Lib.hid (HWU.out wr hvr)
        have HZW0 : Hid (w.heap.size + 3 ≤ wr.heap.size) := by have := HZ2.out; have := HBR2.out.size; show _ ≤ _; omega
        clear hks hkj hlen hgood hat HO HB HM HG2 HS2 hvr
        generalize hYE : RL.ofF (joinL U ⟨us, P⟩ ⟨vs, Q⟩) = Y at *
        have HYE := Lib.hid hYE
        clear hYE
        generalize (joinL U ⟨us, P⟩ ⟨vs, Q⟩).length = jl at *
        go_wp2_with fail
        refine HAT.out.mono ?_
        rintro e w1 ⟨RA, RC, SA, SC, rfl, hv1, k1, k2, k3, k4, hb1⟩
        have q := HRR2.out.up hb1
        have m0 : w1.cell? ⟨w.heap.size + 1 + 1, 0, none⟩ = some (.slice none 0 0) := q.cell 0
        have m1 : w1.cell? ⟨w.heap.size + 1 + 1, 1, none⟩ = some (.int .i64 0) := q.cell 1
        have m2 : w1.cell? ⟨w.heap.size + 1 + 1, 2, none⟩ = some (.slice none 0 0) := q.cell 2
        have m3 := q.frozen 0
        have m4 := q.frozen 1
        have m5 := q.frozen 2
        have m6 := q.lt
        have HQ := Lib.hid q
        have HV1 := Lib.hid hv1
        have HKK := Lib.hid (And.intro (And.intro k1 k2) (And.intro k3 k4))
        have HB1 := Lib.hid (Below.then HBW.out hb1 HBW.out.size)
        have HZW : Hid (w.heap.size + 3 ≤ wr.heap.size ∧ wr.heap.size ≤ w1.heap.size) := ⟨HZW0.out, hb1.size⟩
        clear q hv1 k1 k2 k3 k4 hb1 HAT
        go_wp2_with fail
        obtain ⟨V6, hV6⟩ : ∃ V', V' = ((w1.setCell ⟨w.heap.size + 1 + 1, 0, none⟩ (.slice RA U.length RC)).setCell ⟨w.heap.size + 1 + 1, 1, none⟩ (.int .i64 (U.length : Nat))).setCell ⟨w.heap.size + 1 + 1, 2, none⟩ (.slice SA Y.length SC) := ⟨_, rfl⟩
        rw [← hV6]
        have q : Row V6 (w.heap.size + 1 + 1) 36 [.slice RA U.length RC, .int .i64 (U.length : Nat), .slice SA Y.length SC] := by rw [hV6]; exact ((HQ.out.set 0 _).set 1 _).set 2 _
        have f0 := q.cell 0
        have f1 := q.cell 1
        have f2 := q.cell 2
        have hcell : ∀ p : Addr, p.block ≠ w.heap.size + 1 + 1 → V6.cell? p = w1.cell? p := fun p hp => by
          rw [hV6, World.cell?_setCell_other _ _ _ _ (fun e => hp (by rw [← e])), World.cell?_setCell_other _ _ _ _ (fun e => hp (by rw [← e])), World.cell?_setCell_other _ _ _ _ (fun e => hp (by rw [← e]))]
        have hsz : V6.heap.size = w1.heap.size := by rw [hV6]; simp
        rw [Exit.noGoto_ret]
        refine bodyPost_ret (v := .tuple #[.agg #[.slice RA U.length RC, .int .i64 (U.length : Nat), .slice SA Y.length SC], .int .i64 0]) (by simp [results, Tryz.results30, go_sem, f0, f1, f2]) rfl ?_
        have hke := HKS.out
        show ∃ v, _ ∧ AtP _ _ _ v (joinA (uniV us vs) ⟨us, P⟩ ⟨vs, Q⟩) ∧ _
        rw [HUE.out, hke]
        refine ⟨_, rfl, ⟨RA, RC, SA, SC, rfl, HKK.out.2.1, HKK.out.2.2, HKK.out.1.1, HKK.out.1.2, fun W hag => ?_⟩, ?_⟩
        · rw [hsz]
          refine HV1.out W fun p h1 h2 => ?_
          have := HZW.out
          rw [hag p (by rw [hsz]; exact h2) (by omega)]
          exact hcell p (by omega)
        · rw [hV6]
          exact ((HB1.out.setCell (by show w.heap.size ≤ w.heap.size + 1 + 1; omega) _).setCell (by show w.heap.size ≤ w.heap.size + 1 + 1; omega) _).setCell (by show w.heap.size ≤ w.heap.size + 1 + 1; omega) _
      have r0 : (0 : Int) ≤ (k : Int) := by omega
      have r1 : (k : Int) < (P.length : Int) := by omega
      have r3 : IntKind.i64.wrap ((k : Int) + 1) = ((k + 1 : Nat) : Int) := by rw [IntWalk.i64_in _ (by have h3 : P.length ≤ 60000 := HGA.out.many; omega)]; omega
      obtain ⟨hsM, hrow, hhl, hBg, hat⟩ := HM.out
      obtain ⟨A1, C1, q1, q2, q3, q4, q5⟩ := hat k hkl hkl
      have d0 : wr.cell? ⟨g, k, none⟩ = some (.slice A1 P[k].length C1) := by
        rw [HBR2.out.cell (p := ⟨g, k, none⟩) hrow.lt, hrow.cell]; exact q1
      have hgz : g < wr.heap.size := Nat.lt_of_lt_of_le hrow.lt HBR2.out.size
      have hsl : SlR wr.heap.size wr A1 P[k] := (q4.below HBR2.out (Nat.le_refl _)).more HBR2.out.size
      have HSX := Lib.hid (fun W (hb : Below W2.heap.size W2 W) => ((q4.below hb (Nat.le_refl _)).more hb.size : SlR W.heap.size W A1 P[k]))
      have hPk : P[k] ∈ P := List.getElem_mem hkl
      have hxl : P[k].length = us.length := HGA.out.len _ hPk
      have HXL := Lib.hid hxl
      have HTKk := Lib.hid (HTK.out k hkl)
      have HLNk := Lib.hid (HLN.out k hkl)
      have HKY := Lib.hid (sjKey_any A1 CA4 C1 CC4 P[k] (colsI us vs) wr hsl ((Sl.below HS2.out HBR2.out (Nat.le_refl _)).more HBR2.out.size) (by omega) (by unfold colsI colsF; rw [List.length_map]; exact Nat.le_trans (List.length_filter_le _ _) (by rw [List.length_range]; omega)) (fun c hc => by
        unfold colsI at hc
        obtain ⟨i, hi, rfl⟩ := List.mem_map.1 hc
        have h1 := colsF_lt us vs i hi
        exact ⟨Int.natCast_nonneg _, by show ((i : Nat) : Int) < _; omega⟩) (fun v hv => (HGA.out.I _ hPk v hv).small))
      have HKYL : Hid ((keyF us vs P[k]).length ≤ maxLen) := by
        show _ ≤ _
        unfold keyF
        rw [kyB_length, projF_length]
        have : (colsI us vs).length ≤ us.length := by unfold colsI colsF; rw [List.length_map]; exact Nat.le_trans (List.length_filter_le _ _) (by rw [List.length_range]; exact Nat.le_refl _)
        simp only [maxLen]
        omega
      change Hid (Calls Tryz.prog _ _ _ fun e w' => e = .returned (.string ⟨(keyF us vs P[k]).toArray⟩) ∧ _) at HKY
      have HGk := Lib.hid (HGP.out P[k])
      have HGLk := Lib.hid (HGPL.out P[k])
      clear hrow hhl hBg hat q1 q2 q3 q4 q5 hsl hPk hxl
      generalize P[k] = x at *
      generalize keyF us vs x = s at *
      obtain ⟨LA, LC, hlk, -, -, hls⟩ := HG2.out.look2 s HKYL.out
      rw [← HGk.out] at hls hlk
      have HLS := Lib.hid hls
      have HLK := Lib.hid hlk
      clear hls hlk
      generalize GP x = G at *
      go_wp2_with fail
      refine HKY.out.mono ?_
      rintro e w1 ⟨rfl, hb1⟩
      have HB1 : Hid (Below B W2 w1) := Below.then HB.out hb1 hBz
      have HBR1 : Hid (Below W2.heap.size W2 w1) := Below.then HBR2.out hb1 HBR2.out.size
      have HO1 := Lib.hid (HO.out.keep hb1)
      have hlk := HLK.out w1 HBR1.out
      have hz1 := hb1.size
      clear hb1 HKY d0 HO
      unfold bs at hlk
      go_wp2_with fail
      clear hlk
      obtain ⟨wo, hwo⟩ : ∃ wo, wo = wr := ⟨_, rfl⟩
      subst hwo
      go_loopw [11, 60] (fun vo c wx => ∃ j : Nat, j ≤ G.length ∧ c = .int .i64 j ∧ OwnRs wx B 69 vo (KP k ++ (G.take j).map fun y => mergeF U us vs x y) ∧ Below B W2 wx) (fun _ c _ => G.length - (intOf c).toNat)
      case atStart => exact ⟨0, Nat.zero_le _, rfl, by rw [List.take_zero, List.map_nil, List.append_nil]; exact HO1.out, HB1.out⟩
      case round =>
        obtain ⟨j, hj, rfl, hown, hbw⟩ := hrel
        have HOJ := Lib.hid hown
        have HBJ := Lib.hid hbw
        have hBzj : B ≤ wr.heap.size := by have h1 := HBE.out; have h2 := hbw.size; omega
        have HBRJ : Hid (Below W2.heap.size W2 wr) := by have h := hbw; rw [HBE.out] at h; exact h
        clear hown hbw
        by_cases hjl : j < G.length
        rotate_left
        · obtain rfl : j = G.length := by omega
          have t1 : ¬ (G.length : Int) < (G.length : Int) := by omega
          rw [List.take_length, ← HTKk.out] at HOJ
          go_wp2_with fail
          go_roundw
          case rel => exact ⟨k + 1, hkl, by go_num, HOJ.out, HBJ.out⟩
          case measure => simp [intOf]; omega
        have t0 : (0 : Int) ≤ (j : Int) := by omega
        have t1 : (j : Int) < (G.length : Int) := by omega
        have hGl : G.length ≤ 60000 := by have := HLNk.out; omega
        have t3 : IntKind.i64.wrap ((j : Int) + 1) = ((j + 1 : Nat) : Int) := by rw [IntWalk.i64_in _ (by omega)]; omega
        obtain ⟨lb, lo, A2, C2, hla, hlb, l1, l2, l3, l4⟩ := slRs_at HLS.out hjl
        subst hla
        have l1 := (HBRJ.out.cell (p := ⟨lb, lo + j, none⟩) hlb).trans l1
        have hlbz := Nat.lt_of_lt_of_le hlb HBRJ.out.size
        have hyQ : G[j] ∈ Q := HGLk.out _ (List.getElem_mem hjl)
        have hyl : G[j].length = vs.length := HGB.out.len _ hyQ
        have hsy : SlR wr.heap.size wr A2 G[j] := (l4.below HBRJ.out (Nat.le_refl _)).more HBRJ.out.size
        have HGT : Hid ((G.take (j + 1)).map (fun y => mergeF U us vs x y) = (G.take j).map (fun y => mergeF U us vs x y) ++ [mergeF U us vs x G[j]]) := map_snoc _ G j hjl
        have hV := HKP.out wr (Below.then HV2.out HBRJ.out HV2.out.size)
        have z0 := hV.1.1
        have z1 := hV.2.1
        have hw1 : w.heap.size + 1 < wr.heap.size := by have := HZ2.out; have := HBRJ.out.size; omega
        have hWW := HWU.out wr (Below.then HV2.out HBRJ.out HV2.out.size)
        have HMG := Lib.hid (sjMerge_any KA VA WA A1 A2 KC VC WC C1 C2 U us vs x G[j] wr ((Sl.below HSU2.out HBRJ.out (Nat.le_refl _)).more HBRJ.out.size) (HV.out wr hWW) (HW.out wr hWW) (HSX.out wr HBRJ.out) hsy HUA.out HGA.out.asc HGB.out.asc (fun v hv => (HUM.out v).2 (.inl hv)) (fun v hv => (HUM.out v).2 (.inr hv)) (fun v hv => (HUM.out v).1 hv) HXL.out hyl (by omega))
        have HMZ : Hid ((mergeF U us vs x G[j]).length = U.length) := row_len _ _
        have hX0l : (KP k ++ (G.take j).map fun y => mergeF U us vs x y).length < 60000 := by rw [List.length_append, List.length_map, List.length_take]; have := HLNk.out; omega
        obtain ⟨X0, hX0⟩ : ∃ X0, X0 = KP k ++ (G.take j).map fun y => mergeF U us vs x y := ⟨_, rfl⟩
        rw [← hX0] at HOJ hX0l
        have HX0 := Lib.hid hX0
        have HXLT := Lib.hid hX0l
        clear l2 l3 l4 hyQ hyl hsy hV hWW hX0 hX0l
        generalize G[j] = y at *
        generalize mergeF U us vs x y = z at *
        go_wp2_with fail
        refine HMG.out.mono ?_
        rintro e w6 ⟨v6, rfl, hown6, hb6⟩
        obtain ⟨-, A6, C6, rfl, hc6, hm6, hs6, hfr6⟩ := SlR.of_own hown6
        have HNE : Hid (z ≠ [] → ∀ ad, A6 = some ad → u11.ownBlock ≠ some ad.block) := fun _ ad e h => by
          have h1 := hfr6 ad e
          obtain ⟨hs0, h2, -⟩ := HOJ.out
          have h3 := own_lt h2 _ h
          omega
        have HO6 := Lib.hid (HOJ.out.keep hb6)
        have HB6 : Hid (Below B W2 w6) := Below.then HBJ.out hb6 hBzj
        have HBz6 : Hid (B ≤ w6.heap.size) := Nat.le_trans hBzj hb6.size
        have HS6 := Lib.hid hs6
        have HC6 := Lib.hid (And.intro hc6 hm6)
        have HOW1 := Lib.hid (fun (o : Obj) => HO6.out.keep ((Ext.refl w6).alloc o).below)
        have HRW1 := Lib.hid (Row.new w6 69 [.slice A6 z.length C6])
        have HSW1 := Lib.hid (fun (o : Obj) => HS6.out.alloc1 o)
        have HBZ1 : Hid (∀ o : Obj, B ≤ (w6.alloc o).heap.size) := fun o => Nat.le_trans HBz6.out ((Ext.refl w6).alloc o).size
        have HLL : Hid ((X0.length + 1) * 24 ≤ 140737488355328) := by have := HXLT.out; show _ ≤ _; omega
        clear hown6 hb6 hc6 hm6 hs6 hfr6 HMG l1 z0 z1
        go_wp2_with (at_builtin; refine app1Row rfl (.tmp 64) (.tmp 73) rfl B u11 X0 rfl (HOW1.out _) w6.heap.size A6 C6 z rfl (HRW1.out.cell 0) (HSW1.out _) HC6.out.1 HC6.out.2 HNE.out HLL.out (HBZ1.out _) ?_
                     intro v7 w7 hown7 hg7
                     obtain ⟨X1, hX1⟩ : ∃ X1, X1 = X0 ++ [z] := ⟨_, rfl⟩
                     rw [← hX1] at hown7
                     have HX1 := Lib.hid hX1
                     obtain ⟨A7, C7, rfl, -, -, -⟩ := hown7.sl
                     have HO7 := Lib.hid hown7
                     have HB7 : Hid (Below B W2 w7) := Below.grown (Below.then HB6.out ((Ext.refl w6).alloc _).below HBz6.out) hg7 (HBZ1.out _) HO6.out.base
                     have hx1l : X1.length ≤ 60000 := by rw [hX1, List.length_append]; have := HXLT.out; simp only [List.length_cons, List.length_nil]; omega
                     have hd : decide ((65536 : Int) < (X1.length : Int)) = false := decide_eq_false (by omega)
                     clear hown7 hg7 hX1)
        go_roundw
        case rel => exact ⟨j + 1, hjl, by go_num, by rw [HGT.out, ← List.append_assoc, ← HX0.out, ← HX1.out]; exact HO7.out, HB7.out⟩
        case measure => simp [intOf]; omega
end
section
open Go.RowKit Go.Sort Go.ChangeMaps Go.WideShapes

theorem projA_cols {a : At} (h : Gd a) (ks : List Nat) : (projA a fun v => decide (v ∈ ks)).vs = (colsF a.vs ks).map (fun i => a.vs.getD i 0) ∧ (projA a fun v => decide (v ∈ ks)).P = RL.ofF (a.P.map fun x => projF x (colsI a.vs ks)) := by
  refine ⟨?_, ?_⟩
  · show a.vs.filter _ = _
    have h1 : a.vs = (List.range a.vs.length).map fun i => a.vs.getD i 0 := List.ext_getElem (by simp) fun i h1 h2 => by simp [h1]
    have h2 : a.vs.filter (fun v => decide (v ∈ ks)) = ((List.range a.vs.length).map fun i => a.vs.getD i 0).filter fun v => decide (v ∈ ks) := by rw [← h1]
    rw [h2, List.filter_map]
    rfl
  · unfold projA
    simp only
    congr 1
    refine List.map_congr_left fun x hx => ?_
    rw [proj_cols, cols_row h.nodup ks (h.len x hx)]
theorem Gd.proj {a : At} (h : Gd a) (q : Nat → Bool) : Gd (projA a q) where
  asc := h.asc.filter _
  lt := fun v hv => h.lt v (List.mem_filter.1 hv).1
  len := fun r hr => by
    obtain ⟨x, hx, rfl⟩ := List.mem_map.1 ((RL.mem_ofF _ _).1 hr)
    exact row_len _ _
  ss := RL.SS.of _
  I := fun r hr c hc => by
    obtain ⟨x, hx, rfl⟩ := List.mem_map.1 ((RL.mem_ofF _ _).1 hr)
    unfold rowF at hc
    obtain ⟨v, hv, rfl⟩ := List.mem_map.1 hc
    exact h.I x hx _ (getF_mem (h.len x hx) (List.mem_filter.1 hv).1)
  many := Nat.le_trans (RL.ofF_length_le _) (by rw [List.length_map]; exact h.many)

set_option maxHeartbeats 16000000 in
theorem sjProject_ok (va : Value) (a : At) (M : Nat) (ks : List Nat) (w : World) (ha : AtV w va a) (ga : Gd a) (hM : M < 4294967296) (hbit : ∀ v ∈ a.vs, M / 2 ^ v % 2 = if v ∈ ks then 1 else 0) :
    Calls Tryz.prog 44 #[va, .int .u32 (M : Nat)] w fun e w' => ∃ v, e = .returned (.tuple #[v, .int .i64 0]) ∧ AtP (fun c => w.heap.size + 2 ≤ c) w'.heap.size w' v (projA a fun v => decide (v ∈ ks)) ∧ Below w.heap.size w w' := by
  obtain ⟨us, P⟩ := a
  obtain ⟨VA, VC, PA, PC, rfl, c1, c2, c3, c4, hv, hP⟩ := ha
  simp only at *
  have hul : us.length ≤ 32 := ga.vl
  have HPC := Lib.hid (projA_cols ga ks)
  obtain ⟨W0, hW0⟩ : ∃ W0, W0 = (w.alloc (.cells #[.slice VA us.length VC, .int .i64 (us.length : Nat), .slice PA P.length PC] 36)).alloc (.cells #[.slice none 0 0, .int .i64 0, .slice none 0 0] 36) := ⟨_, rfl⟩
  have hx0 : Ext w W0 := by rw [hW0]; exact ((Ext.refl w).alloc _).alloc _
  have hra : Row W0 w.heap.size 36 [.slice VA us.length VC, .int .i64 (us.length : Nat), .slice PA P.length PC] := by rw [hW0]; exact (Row.new w 36 _).alloc _
  have hrr : Row W0 (w.heap.size + 1) 36 [.slice none 0 0, .int .i64 0, .slice none 0 0] := by
    have h := Row.new (w.alloc (.cells #[.slice VA us.length VC, .int .i64 (us.length : Nat), .slice PA P.length PC] 36)) 36 [.slice none 0 0, .int .i64 0, .slice none 0 0]
    rw [World.size_alloc] at h
    rw [hW0]; exact h
  have HV := Lib.hid (fun W (h : Below w.heap.size w W) => (Sl.below hv h (Nat.le_refl _)).more h.size)
  have HP := Lib.hid (fun W (h : Below w.heap.size w W) => hP.upB h)
  have HGA := Lib.hid ga
  have HX0 := Lib.hid hx0
  have HRA := Lib.hid hra
  have HRR := Lib.hid hrr
  have HCA := Lib.hid (fun W (h : Below w.heap.size w W) => sjColumns_any VA PA VC PC P.length M us.length us ks W (HV.out W h) (by omega) ga.lt hM hbit)
  have HCC : Hid (((colsF us ks).map fun i : Nat => Value.int .i64 (i : Nat)) = (colsI us ks).map (Value.int .i64) ∧ (colsF us ks).length = (colsI us ks).length) := ⟨by unfold colsI; rw [List.map_map]; rfl, by unfold colsI; rw [List.length_map]⟩
  have HCL : Hid ((colsF us ks).length ≤ 32) := by
    show _ ≤ _
    unfold colsF
    exact Nat.le_trans (List.length_filter_le _ _) (by rw [List.length_range]; exact hul)
  have HWU := Lib.hid (fun W (h : Below W0.heap.size W0 W) => Below.then hx0.below h hx0.size)
  have z0 : w.heap.size + 1 < W0.heap.size := hrr.lt
  have e0 : W0.cell? ⟨w.heap.size, 0, none⟩ = some (.slice VA us.length VC) := hra.cell 0
  have e1 : W0.cell? ⟨w.heap.size, 1, none⟩ = some (.int .i64 (us.length : Nat)) := hra.cell 1
  have e2 : W0.cell? ⟨w.heap.size, 2, none⟩ = some (.slice PA P.length PC) := hra.cell 2
  have e3 := hra.lt
  clear hv hP ga hM hbit hx0 hra hrr c1 c2 c3 c4
  go_enter Tryz.func44, Tryz.ntmps44
  go_upto_region 1 with (fail)
  rw [← hW0]
  clear hW0
  go_wp2_with fail
  refine (HCA.out W0 HX0.out.below).mono ?_
  rintro e V1 ⟨v1, rfl, ho, hb⟩
  rw [HCC.out.1, HCC.out.2] at ho
  obtain ⟨CA, CC, rfl, -, -, hs⟩ := Sl.of_own ho
  rw [List.length_map]
  have HB1 : Hid (Below W0.heap.size W0 V1) := hb
  have hVX := HWU.out V1 hb
  have HPR := Lib.hid (rlProject_any (us.length : Nat) PA CA PC CC P (colsI us ks) V1 (HP.out V1 hVX) hs HGA.out.rsOk HGA.out.many (by rw [← HCC.out.2]; exact HCL.out) (fun x hx => by have : x.length = us.length := HGA.out.len x hx; omega))
  have HCOK : Hid (colsOk (us.length : Nat) (colsI us ks) = true) := by
    show _ = _
    unfold colsOk colsI
    rw [List.all_eq_true]
    intro c hc
    obtain ⟨i, hi, rfl⟩ := List.mem_map.1 hc
    have := colsF_lt us ks i hi
    rw [Bool.and_eq_true, decide_eq_true_eq, decide_eq_true_eq]
    exact ⟨Int.natCast_nonneg _, by show ((i : Nat) : Int) < _; omega⟩
  have HS1 := Lib.hid hs
  have r1 := HRA.out.up hb
  have f1 : V1.cell? ⟨w.heap.size, 1, none⟩ = some (.int .i64 (us.length : Nat)) := r1.cell 1
  have f2 : V1.cell? ⟨w.heap.size, 2, none⟩ = some (.slice PA P.length PC) := r1.cell 2
  have f3 := r1.lt
  clear hb ho hs hVX r1 HCA e0 e1 e2 e3
  go_wp2_with fail
  refine HPR.out.mono ?_
  rintro e V2 ⟨-, hok, hb2⟩
  obtain ⟨v2, rfl, A2, C2, rfl, k1, k2, hfr⟩ := hok HCOK.out
  obtain ⟨Y, hY⟩ : ∃ Y, Y = RL.ofF (P.map (projF · (colsI us ks))) := ⟨_, rfl⟩
  rw [← hY] at k1 hfr ⊢
  have HY := Lib.hid hY
  obtain ⟨V3, hV3⟩ : ∃ V3, V3 = (V2.alloc (.cells #[.int .i64 ((colsI us ks).length : Nat), .slice A2 Y.length C2] 34)).alloc (.cells #[.slice none 0 0, .int .i64 ((colsI us ks).length : Nat), .slice A2 Y.length C2] 36) := ⟨_, rfl⟩
  obtain ⟨g9, hg9⟩ : ∃ g9, g9 = V2.heap.size + 1 := ⟨_, rfl⟩
  have HFR := Lib.hid hfr
  have HKK := Lib.hid (And.intro k1 k2)
  have HX3 : Hid (Ext V2 V3) := by show Ext _ _; rw [hV3]; exact ((Ext.refl V2).alloc _).alloc _
  have HR9 : Hid (Row V3 g9 36 [.slice none 0 0, .int .i64 ((colsI us ks).length : Nat), .slice A2 Y.length C2]) := by
    have h := Row.new (V2.alloc (.cells #[.int .i64 ((colsI us ks).length : Nat), .slice A2 Y.length C2] 34)) 36 [.slice none 0 0, .int .i64 ((colsI us ks).length : Nat), .slice A2 Y.length C2]
    rw [World.size_alloc] at h
    show Row _ _ _ _
    rw [hV3, hg9]; exact h
  have HB2 : Hid (Below W0.heap.size W0 V2) := Below.then HB1.out hb2 HB1.out.size
  have HB3 : Hid (Below W0.heap.size W0 V3) := Below.then HB2.out HX3.out.below HB2.out.size
  have HS3 := Lib.hid ((Sl.below HS1.out hb2 (Nat.le_refl _)).more hb2.size)
  have HZ9 : Hid (w.heap.size + 1 < V2.heap.size ∧ V2.heap.size + 1 = g9 ∧ g9 + 1 = V3.heap.size) := ⟨by have := HB2.out.size; omega, hg9.symm, by rw [hV3, hg9]; simp⟩
  have HVS : Hid (∀ k, k < (colsF us ks).length → (colsF us ks).getD k 0 < us.length) := fun k hk => by
    have : (colsF us ks).getD k 0 = (colsF us ks)[k] := by simp [hk]
    rw [this]
    exact colsF_lt us ks _ (List.getElem_mem hk)
  have HG9E := Lib.hid hg9
  clear hfr k1 k2 hb2 hok hY hg9 HPR f1 f2 f3
  go_upto_region 6 with (fail)
  rw [← hV3, ← HG9E.out]
  clear hV3 HG9E
  obtain ⟨n, hn⟩ : ∃ n, n = (colsI us ks).length := ⟨_, rfl⟩
  have HN : Hid (n = (colsF us ks).length) := by show _ = _; rw [hn, HCC.out.2]
  have HCN : Hid (colsI us ks = (colsF us ks).map Int.ofNat) := rfl
  rw [← hn] at HR9 ⊢
  have hn32 : n ≤ 32 := by rw [HN.out]; exact HCL.out
  clear hn
  obtain ⟨VL, hVL⟩ : ∃ VL : Nat → List Nat, VL = fun k => ((colsF us ks).take k).map fun i => us.getD i 0 := ⟨_, rfl⟩
  have HVL := Lib.hid hVL
  have HVE : Hid (VL n = (projA (⟨us, P⟩ : At) fun v => decide (v ∈ ks)).vs) := by show _ = _; rw [hVL, HPC.out.1, HN.out]; simp only [List.take_length]
  have HVLL : Hid (∀ k, k ≤ n → (VL k).length = k) := fun k hk => by rw [hVL]; simp only [List.length_map, List.length_take]; have := HN.out; omega
  clear hVL
  go_wp2_with fail
  go_loopw [30] (fun c wx => ∃ (k : Nat) (vo : Value), k ≤ n ∧ c = .int .i64 k ∧ Row wx g9 36 [vo, .int .i64 (n : Nat), .slice A2 Y.length C2] ∧ wx.ownsRow (g9 + 1) 3 1 vo (VL k).length ((VL k).map fun z : Nat => Value.int .i64 (z : Int)) ∧ Below g9 V3 wx) (fun c _ => n - (intOf c).toNat)
  case atStart => exact ⟨0, _, Nat.zero_le _, rfl, HR9.out, by rw [HVL.out]; exact own_nil _ _ _ _, Below.refl _ _⟩
  case round =>
    obtain ⟨k, vo, hk, rfl, hrow, hown, hbw⟩ := hrel
    have HROW := Lib.hid hrow
    have HO := Lib.hid hown
    have HB := Lib.hid hbw
    have hz9 := HZ9.out
    have hzr : V3.heap.size ≤ wr.heap.size := hbw.size
    have HBW : Hid (Below V2.heap.size V2 wr) := Below.then HX3.out.below (hbw.mono (show V2.heap.size ≤ g9 by omega)) (Nat.le_refl _)
    have HBA : Hid (Below W0.heap.size W0 wr) := Below.then HB2.out HBW.out HB2.out.size
    have q0 : wr.cell? ⟨g9, 0, none⟩ = some vo := hrow.cell 0
    have q1 : wr.cell? ⟨g9, 1, none⟩ = some (.int .i64 (n : Nat)) := hrow.cell 1
    have q2 : wr.cell? ⟨g9, 2, none⟩ = some (.slice A2 Y.length C2) := hrow.cell 2
    have q3 := hrow.lt
    clear hrow hown hbw HR9
    by_cases hkl : k < n
    rotate_left
    · obtain rfl : k = n := by omega
      have r1 : ¬ (k : Int) < (k : Int) := by omega
      have rr := HRR.out.up HBA.out
      have m0 : wr.cell? ⟨w.heap.size + 1, 0, none⟩ = some (.slice none 0 0) := rr.cell 0
      have m1 : wr.cell? ⟨w.heap.size + 1, 1, none⟩ = some (.int .i64 0) := rr.cell 1
      have m2 : wr.cell? ⟨w.heap.size + 1, 2, none⟩ = some (.slice none 0 0) := rr.cell 2
      have m3 := rr.frozen 0
      have m4 := rr.frozen 1
      have m5 := rr.frozen 2
      have m6 := rr.lt
      have HQ := Lib.hid rr
      have hown := HO.out
      rw [HVE.out] at hown
      obtain ⟨QA, QC, e, hqc, -, hqs⟩ := Sl.of_own hown
      have hqm : QC ≤ 9223372036854775807 := by rw [e] at hown; exact (own_cap hown).2
      rw [List.length_map] at e hqc
      have hbase : ∀ b, vo.ownBlock = some b → g9 + 1 ≤ b := fun b hb => own_base hown hb
      have HQF : Hid (∀ W : World, (∀ p : Addr, w.heap.size + 2 ≤ p.block → p.block < wr.heap.size → W.cell? p = wr.cell? p) → SlI .i64 wr.heap.size W QA ((projA (⟨us, P⟩ : At) fun v => decide (v ∈ ks)).vs.map Int.ofNat)) := fun W hag hne => by
        rw [List.map_map] at hne ⊢
        obtain ⟨b, o, e2, hb, hc⟩ := hqs hne
        have h1 := hbase b (by rw [e, e2]; rfl)
        exact ⟨b, o, e2, hb, fun j u hu => (hag ⟨b, o + j, none⟩ (by show _ ≤ b; omega) hb).trans (hc j u hu)⟩
      have HCAP := Lib.hid (And.intro hqc hqm)
      have HVN : Hid ((projA (⟨us, P⟩ : At) fun v => decide (v ∈ ks)).vs.length = k) := by show _ = _; rw [← HVE.out]; exact HVLL.out k (Nat.le_refl _)
      subst e
      clear rr hown hqc hqs hqm hbase HO HROW
      rw [HVN.out] at q0
      go_wp2_with fail
      obtain ⟨V6, hV6⟩ : ∃ V', V' = ((wr.setCell ⟨w.heap.size + 1, 0, none⟩ (.slice QA k QC)).setCell ⟨w.heap.size + 1, 1, none⟩ (.int .i64 (k : Nat))).setCell ⟨w.heap.size + 1, 2, none⟩ (.slice A2 Y.length C2) := ⟨_, rfl⟩
      rw [← hV6]
      have q : Row V6 (w.heap.size + 1) 36 [.slice QA k QC, .int .i64 (k : Nat), .slice A2 Y.length C2] := by rw [hV6]; exact ((HQ.out.set 0 _).set 1 _).set 2 _
      have f0 := q.cell 0
      have f1 := q.cell 1
      have f2 := q.cell 2
      have hcell : ∀ p : Addr, p.block ≠ w.heap.size + 1 → V6.cell? p = wr.cell? p := fun p hp => by
        rw [hV6, World.cell?_setCell_other _ _ _ _ (fun e => hp (by rw [← e])), World.cell?_setCell_other _ _ _ _ (fun e => hp (by rw [← e])), World.cell?_setCell_other _ _ _ _ (fun e => hp (by rw [← e]))]
      have hsz : V6.heap.size = wr.heap.size := by rw [hV6]; simp
      refine bodyPost_ret (v := .tuple #[.agg #[.slice QA k QC, .int .i64 (k : Nat), .slice A2 Y.length C2], .int .i64 0]) (by simp [results, Tryz.results44, go_sem, f0, f1, f2]) rfl ?_
      have hPe : (projA (⟨us, P⟩ : At) fun v => decide (v ∈ ks)).P = Y := by rw [HPC.out.2, HY.out]
      show ∃ v, _ ∧ AtP _ _ _ v (projA (⟨us, P⟩ : At) fun v => decide (v ∈ ks)) ∧ _
      refine ⟨_, rfl, ⟨QA, QC, A2, C2, by rw [HVN.out, hPe], by rw [HVN.out]; rw [HVN.out] at HCAP; exact HCAP.out.1, HCAP.out.2, by rw [hPe]; exact HKK.out.1, HKK.out.2, fun W hag => ?_⟩, ?_⟩
      · rw [hsz, hPe]
        refine ⟨HQF.out W fun p h1 h2 => ?_, ?_⟩
        · rw [hag p (by rw [hsz]; exact h2) h1]
          exact hcell p (by omega)
        · refine (HFR.out W fun p h1 h2 => ?_).more (by have := HBW.out.size; omega)
          have h3 := HB1.out.size
          have h4 := HBW.out.size
          rw [hag p (by rw [hsz]; omega) (by omega), hcell p (by omega)]
          exact HBW.out.cell (p := p) h2
      · have hb := HWU.out wr HBA.out
        rw [hV6]
        exact ((hb.setCell (by show w.heap.size ≤ w.heap.size + 1; omega) _).setCell (by show w.heap.size ≤ w.heap.size + 1; omega) _).setCell (by show w.heap.size ≤ w.heap.size + 1; omega) _
    have r0 : (0 : Int) ≤ (k : Int) := by omega
    have r1 : (k : Int) < (n : Int) := by omega
    have r3 : IntKind.i64.wrap ((k : Int) + 1) = ((k + 1 : Nat) : Int) := by rw [IntWalk.i64_in _ (by omega)]; omega
    have hkc : k < (colsF us ks).length := by rw [← HN.out]; exact hkl
    obtain ⟨cb, co, hca, hcb, cc⟩ := Sl.at_ HS3.out (k := k) (by rw [List.length_map, HCN.out, List.length_map]; exact hkc)
    subst hca
    replace cc := (HBW.out.cell (p := ⟨cb, co + k, none⟩) hcb).trans cc
    have hcb2 : cb < wr.heap.size := Nat.lt_of_lt_of_le hcb HBW.out.size
    obtain ⟨ci, hci⟩ : ∃ ci, ci = (colsF us ks).getD k 0 := ⟨_, rfl⟩
    have hcil : ci < us.length := by rw [hci]; exact HVS.out k hkc
    replace cc : wr.cell? ⟨cb, co + k, none⟩ = some (.int .i64 (ci : Nat)) := by
      rw [cc, hci]
      simp [HCN.out, hkc]
    obtain ⟨vb, vj, hva, hvb, vc⟩ := slI_at (HV.out V2 (HWU.out V2 HB2.out)) (i := ci) (by rw [List.length_map]; exact hcil)
    subst hva
    replace vc := (HBW.out.cell (p := ⟨vb, vj + ci, none⟩) hvb).trans vc
    rw [List.getElem_map] at vc
    have hvb2 : vb < wr.heap.size := Nat.lt_of_lt_of_le hvb HBW.out.size
    change wr.cell? ⟨vb, vj + ci, none⟩ = some (.int .i64 (us[ci] : Nat)) at vc
    have HVK : Hid (VL (k + 1) = VL k ++ [us[ci]]) := by
      show _ = _
      rw [HVL.out]
      simp only
      rw [List.take_succ_eq_append_getElem hkc, List.map_append, List.map_singleton]
      have : (colsF us ks)[k] = ci := by rw [hci]; simp [hkc]
      rw [this]
      simp [hcil]
    generalize us[ci] = uv at *
    have hra := HRA.out.up HBA.out
    have p0 : wr.cell? ⟨w.heap.size, 0, none⟩ = some (.slice (some ⟨vb, vj, none⟩) us.length VC) := hra.cell 0
    have p1 := hra.lt
    have ci0 : (0 : Int) ≤ (ci : Int) := by omega
    have ci1 : (ci : Int) < (us.length : Int) := by omega
    have hvll := HVLL.out k hk
    have HOB : Hid (∀ j, vo.ownBlock = some j → g9 + 1 ≤ j) := fun j hj => own_base HO.out hj
    have HLT : Hid (w.heap.size < g9 ∧ cb < g9 ∧ vb < g9 ∧ g9 < wr.heap.size) := ⟨by omega, by omega, by omega, q3⟩
    have hkl6 : (VL k).length ≤ 1000000 := by omega
    clear hra hvll hci
    have HLK : Hid ((VL k).length ≤ 1000000) := hkl6
    clear hkl6
    go_upto_region 9 with (fail)
    refine regionZ (S := (fun w' => w'.cell? ⟨g9, 0, none⟩ = some vo ∧ w'.cell? ⟨w.heap.size, 0, none⟩ = some (.slice (some ⟨vb, vj, none⟩) us.length VC) ∧ w'.cell? ⟨vb, vj + ci, none⟩ = some (.int .i64 (uv : Nat)))) 10 (by kernel_rfl) ⟨q0, p0, vc⟩ (fun hHeld => ?_)
    refine takeZ (i := 0) (v := ?_) (some 34) rfl rfl (by kernel_rfl) (by decide) (by kernel_rfl) (by kernel_rfl) (by kernel_rfl) (by kernel_rfl) (fun _ _ _ h => h) (Or.inl ⟨by rfl, ?_⟩) (by assumption) ?_
    rotate_left 1
    · (intro w0 hSw; (try dsimp only at hSw); go_simp; try (with_reducible rfl))
    try simp only [Act.put, List.setIfInBounds_toArray, List.set_cons_succ, List.set_cons_zero]
    refine takeZ (i := 1) (v := ?_) (some 35) rfl rfl (by kernel_rfl) (by decide) (by kernel_rfl) (by kernel_rfl) (by kernel_rfl) (by kernel_rfl) (fun _ _ _ h => h) (Or.inl ⟨by rfl, ?_⟩) (by assumption) ?_
    rotate_left 1
    · (intro w0 hSw; (try dsimp only at hSw); go_simp; try (with_reducible rfl))
    try simp only [Act.put, List.setIfInBounds_toArray, List.set_cons_succ, List.set_cons_zero]
    refine takeZ (i := 2) (v := ?_) (some 36) rfl rfl (by kernel_rfl) (by decide) (by kernel_rfl) (by kernel_rfl) (by kernel_rfl) (by kernel_rfl) (fun _ _ _ h => h) (Or.inl ⟨by rfl, ?_⟩) (by assumption) ?_
    rotate_left 1
    · (intro w0 hSw; (try dsimp only at hSw); go_simp; try (with_reducible rfl))
    try simp only [Act.put, List.setIfInBounds_toArray, List.set_cons_succ, List.set_cons_zero]
    refine takeZ (i := 3) (v := ?_) (some 37) rfl rfl (by kernel_rfl) (by decide) (by kernel_rfl) (by kernel_rfl) (by kernel_rfl) (by kernel_rfl) (fun _ _ _ h => h) (Or.inl ⟨by rfl, ?_⟩) (by assumption) ?_
    rotate_left 1
    · (intro w0 hSw; (try dsimp only at hSw); go_simp; try (with_reducible rfl))
    try simp only [Act.put, List.setIfInBounds_toArray, List.set_cons_succ, List.set_cons_zero]
    refine takeZ (i := 4) (v := ?_) (some 38) rfl rfl (by kernel_rfl) (by decide) (by kernel_rfl) (by kernel_rfl) (by kernel_rfl) (by kernel_rfl) (fun _ _ _ h => h) (Or.inl ⟨by rfl, ?_⟩) (by assumption) ?_
    rotate_left 1
    · (intro w0 hSw; (try dsimp only at hSw); go_simp; try (with_reducible rfl))
    try simp only [Act.put, List.setIfInBounds_toArray, List.set_cons_succ, List.set_cons_zero]
    refine takeZ (i := 5) (v := ?_) (some 39) rfl rfl (by kernel_rfl) (by decide) (by kernel_rfl) (by kernel_rfl) (by kernel_rfl) (by kernel_rfl) (fun _ _ _ h => h) (Or.inl ⟨by rfl, ?_⟩) (by assumption) ?_
    rotate_left 1
    · (intro w0 hSw; (try dsimp only at hSw); go_simp; try (with_reducible rfl))
    try simp only [Act.put, List.setIfInBounds_toArray, List.set_cons_succ, List.set_cons_zero]
    refine takeZ (i := 6) (v := ?_) (some 40) rfl rfl (by kernel_rfl) (by decide) (by kernel_rfl) (by kernel_rfl) (by kernel_rfl) (by kernel_rfl) (fun _ _ _ h => h) (Or.inl ⟨by rfl, ?_⟩) (by assumption) ?_
    rotate_left 1
    · (intro w0 hSw; (try dsimp only at hSw); go_simp; try (with_reducible rfl))
    try simp only [Act.put, List.setIfInBounds_toArray, List.set_cons_succ, List.set_cons_zero]
    refine oneZ (i := 7) (by kernel_rfl) rfl (by decide) (fun K hK => ?_)
    go_simp
    have hxa : Ext wr ((wr.alloc (.cells #[.int .i64 (uv : Nat)] 3)).drew) := ((Ext.refl wr).alloc _).drew
    have KEEP := (⟨(hxa.cell q3).trans q0, (hxa.cell p1).trans p0, (hxa.cell hvb2).trans vc⟩ : _ ∧ _ ∧ _)
    clear hxa
    refine hK.out _ _ KEEP (fun hHeld => ?_)
    clear hK K
    try simp only [Act.put, List.setIfInBounds_toArray, List.set_cons_succ, List.set_cons_zero]
    refine oneZ (i := 8) (by kernel_rfl) rfl (by decide) (fun K hK => ?_)
    refine stepI (w := (wr.alloc (.cells #[.int .i64 (uv : Nat)] 3)).drew) rfl (.tmp 35) (.tmp 41) rfl (g9 + 1) vo (VL k) (by simp [Act.eval]) (own_keep HO.out (((Ext.refl wr).alloc _).drew).below) wr.heap.size uv (by simp [Act.eval]) (Row.new wr 3 [.int .i64 (uv : Nat)]) HLK.out (by have := HLT.out; simp; omega) ?_
    intro ng cap w2 hown2 hg2 hat2
    have hzz : wr.heap.size ≤ ((wr.alloc (.cells #[.int .i64 (uv : Nat)] 3)).drew).heap.size := by simp
    have hlt := HLT.out
    have KEEP2 : w2.cell? ⟨g9, 0, none⟩ = some vo ∧ w2.cell? ⟨w.heap.size, 0, none⟩ = some (.slice (some ⟨vb, vj, none⟩) us.length VC) ∧ w2.cell? ⟨vb, vj + ci, none⟩ = some (.int .i64 (uv : Nat)) := by
      refine ⟨(grown_cell hg2 (p := ⟨g9, 0, none⟩) (Nat.lt_of_lt_of_le q3 hzz) (fun e => by have := HOB.out _ e.symm; simp only at this; omega)).trans KEEP.1, (grown_cell hg2 (p := ⟨w.heap.size, 0, none⟩) (Nat.lt_of_lt_of_le p1 hzz) (fun e => by have := HOB.out _ e.symm; simp only at this; omega)).trans KEEP.2.1, (grown_cell hg2 (p := ⟨vb, vj + ci, none⟩) (Nat.lt_of_lt_of_le hvb2 hzz) (fun e => by have := HOB.out _ e.symm; simp only at this; omega)).trans KEEP.2.2⟩
    have HR2 : Hid (Row w2 g9 36 [vo, .int .i64 (n : Nat), .slice A2 Y.length C2]) :=
      ((HROW.out.alloc (.cells #[.int .i64 (uv : Nat)] 3)).drew).grown hg2 (fun e => by have := HOB.out _ e.symm; omega)
    have HO2 := Lib.hid hown2
    have HB2' : Hid (Below g9 V3 w2) := ((HB.out.alloc (by omega) (.cells #[.int .i64 (uv : Nat)] 3)).drew).grown hg2 (by simp; omega) (fun j hj => by have := HOB.out j hj; omega)
    have u0 := HR2.out.frozen 0
    have u1 := HR2.out.lt
    have u2 := KEEP2.1
    clear hown2 hg2 hat2 hzz hlt
    refine hK.out _ _ KEEP2 (fun hHeld => ?_)
    clear hK K
    try simp only [Act.put, List.setIfInBounds_toArray, List.set_cons_succ, List.set_cons_zero]
    refine takeZ (i := 9) (v := ?_) (some 43) rfl rfl (by kernel_rfl) (by decide) (by kernel_rfl) (by kernel_rfl) (by kernel_rfl) (by kernel_rfl) (fun _ _ _ h => h) (Or.inl ⟨by rfl, ?_⟩) (by assumption) ?_
    rotate_left 1
    · (intro w0 hSw; (try dsimp only at hSw); go_simp; try (with_reducible rfl))
    try simp only [Act.put, List.setIfInBounds_toArray, List.set_cons_succ, List.set_cons_zero]
    refine lastZ (by kernel_rfl) rfl (by kernel_rfl) (fun K hK => ?_)
    go_simp
    go_wp2_with fail
    refine hK.out _ _ ?_
    clear hK K
    try simp only [Act.put, List.setIfInBounds_toArray, List.set_cons_succ, List.set_cons_zero]
    have HR3 := Lib.hid (HR2.out.set 0 (.slice (some ⟨ng, 0, none⟩) ((VL k).length + 1) cap))
    have HO3 := Lib.hid (own_far HO2.out (p := ⟨g9, 0, none⟩) (fun e => by have h1 := own_base HO2.out e; simp only at h1; omega) (.slice (some ⟨ng, 0, none⟩) ((VL k).length + 1) cap))
    have HB3' := Lib.hid (HB2'.out.setCell (p := ⟨g9, 0, none⟩) (Nat.le_refl _) (.slice (some ⟨ng, 0, none⟩) ((VL k).length + 1) cap))
    clear hHeld
    go_wp2_with fail
    go_roundw
    case rel => exact ⟨k + 1, _, hkl, by go_num, HR3.out, by rw [HVK.out, List.length_append]; exact HO3.out, HB3'.out⟩
    case measure => simp [intOf]; omega
end
section
open Go.RowKit

theorem makeInts (n : Nat) (hn : n ≤ 1000000) (w : World) : (Instr.makeSlice 27 (.int .i64 (n : Int)) (.int .i64 (n : Int))).run Tryz.prog w = .ok (.slice (some ⟨w.heap.size, 0, none⟩) n n) (w.alloc (.cells (zerosA (.int .i64 0) n) 3)) := by
  obtain ⟨i0, hi0, hz0, hz1, hz2⟩ := info_parts intInfo27
  have := run_make (P := Tryz.prog) w 27 3 i0 _ Tryz.underlying27 hi0 hz0 .i64 .i64 n n (by omega) (by omega) (by rw [hz2]; omega) (by omega)
  rw [this, hz1]
  simp only [Int.toNat_natCast]
  rw [zeros_made _ _ rfl]

abbrev natV (D : List Nat) : List Value := D.map fun d : Nat => Value.int .i64 (d : Int)

set_option maxHeartbeats 400000 in
theorem order_walk (PA : Option Addr) (PC : Nat) (ps : List Int) (w : World) (hp : SlI .i64 w.heap.size w PA ps) (hpl : ps.length ≤ 1000000) (hv : ∀ p ∈ ps, -1 ≤ p ∧ p < ps.length) :
    Calls Tryz.prog 67 #[.agg #[.slice PA ps.length PC]] w fun e w' => ∃ v D, e = .returned v ∧ JT.IsOrder ps D ∧ w'.ownsRow w.heap.size 3 1 v D.length (natV D) ∧ Below w.heap.size w w' := by
  have hmk := makeInts ps.length hpl
  have HV := Lib.hid hv
  clear hv
  go_enter Tryz.func67, Tryz.ntmps67
  go_wp2
  go_loopw [16] (fun i wr => ∃ (k : Nat) (cs : List Int), k ≤ ps.length ∧ i = .int .i64 k ∧ JT.Cnts ps.length cs (JT.cnt1 ps k) ∧ Row wr (w.heap.size + 1) 3 (cs.map (Value.int .i64)) ∧ Below w.heap.size w wr ∧ wr.cell? ⟨w.heap.size, 0, none⟩ = some (.slice PA ps.length PC)) (fun i _ => ps.length - (intOf i).toNat)
  case atStart =>
    refine ⟨0, List.replicate ps.length 0, Nat.zero_le _, rfl, JT.Cnts.zero _, ?_, ((Below.refl _ _).alloc (Nat.le_refl _) _).alloc (by simp) _, by go_simp⟩
    have := Row.zeros (w.alloc (Obj.cells #[Value.slice PA ps.length PC] 51)) 3 (.int .i64 0) ps.length
    simpa using this
  case round =>
    obtain ⟨k, cs, hk, rfl, hcs, hrow, hb, hbox⟩ := hrel
    have HCS := Lib.hid hcs
    have HR := Lib.hid hrow
    clear hcs hrow
    by_cases hlt : k < ps.length
    · obtain ⟨b, o, rfl, hbb, hc⟩ := slI_at (hp.below hb (Nat.le_refl _)) hlt
      have hvk := HV.out ps[k] (List.getElem_mem hlt)
      have hpar : JT.par ps k = ps[k] := by simp [JT.par, hlt]
      generalize ps[k] = p at *
      have HP := Lib.hid hpar
      clear hpar hp
      by_cases hneg : p < 0
      · go_wp2
        go_roundw
        case rel =>
          refine ⟨k + 1, cs, by omega, by go_num, HCS.out.congr fun u _ => ?_, HR.out, hb, hbox⟩
          rw [JT.cnt1_succ, HP.out, if_neg (by omega)]; rfl
        case measure => simp [intOf]; omega
      · obtain ⟨j, rfl⟩ := Int.eq_ofNat_of_zero_le (show 0 ≤ p by omega)
        have hj : j < ps.length := by omega
        have hjc : j < cs.length := by rw [HCS.out.1]; exact hj
        have hcj := HR.out.cell_ (i := j) (by simpa using hjc)
        have hfj := HR.out.frozen j
        have hle := JT.cnt1_le ps k j
        rw [List.getElem_map, HCS.out.get hj hjc] at hcj
        generalize hcc : JT.cnt1 ps k j = c at *
        have HC := Lib.hid hcc
        clear hcc
        go_wp2
        go_roundw
        case rel =>
          refine ⟨k + 1, cs.set j (c + 1), by omega, by go_num, HCS.out.put ?_ fun u _ hne => ?_, ?_, hb.setCell (by simp) _, ?_⟩
          · rw [JT.cnt1_succ, HP.out, if_pos rfl, HC.out]; simp
          · rw [JT.cnt1_succ, HP.out, if_neg (by omega)]; rfl
          · rw [List.map_set]; exact HR.out.set j _
          · rw [World.cell?_setCell_other]; exact hbox; simp
        case measure => simp [intOf]; omega
    · have : k = ps.length := by omega
      subst this
      go_wp2
      have hcs0 : JT.Cnts ps.length cs (JT.cntF ps []) := HCS.out.congr fun u _ => JT.cnt1_whole ps u
      have HCS0 := Lib.hid hcs0
      clear hcs0 HCS
      obtain ⟨w1, rfl⟩ : ∃ w1 : World, w1 = wr := ⟨_, rfl⟩
      go_loopw [6, 32] (fun nv i wr => ∃ (k : Nat) (D : List Nat) (cs : List Int), k ≤ ps.length ∧ i = .int .i64 k ∧ JT.Greedy ps D ∧ JT.Cnts ps.length cs (JT.cntF ps D) ∧ (∀ d ∈ D, d < k) ∧ (∀ u, JT.ready ps D u → k ≤ u) ∧ Row wr (w.heap.size + 1) 3 (cs.map (Value.int .i64)) ∧ wr.ownsRow (w.heap.size + 2) 3 1 nv D.length (natV D) ∧ Below w.heap.size w wr ∧ wr.cell? ⟨w.heap.size, 0, none⟩ = some (.slice PA ps.length PC)) (fun _ i _ => ps.length - (intOf i).toNat)
      case atStart => exact ⟨0, [], cs, Nat.zero_le _, rfl, JT.Greedy.nil ps, HCS0.out, by simp, by omega, HR.out, own_nil _ _ _ _, hb, hbox⟩
      case round =>
        clear hb hbox HCS0 HR cs hlt hk
        obtain ⟨k, D, cs, hk, rfl, hG, hcs, hlD, hrD, hrow, hown, hb, hbox⟩ := hrel
        by_cases hlt : k < ps.length
        · have HI := Lib.hid (JT.InnerI.start hG hcs hlD hrD)
          have HR := Lib.hid hrow
          have HO := Lib.hid hown
          clear hG hcs hlD hrD hrow hown
          go_wp2
          obtain ⟨w2, rfl⟩ : ∃ w2 : World, w2 = wr := ⟨_, rfl⟩
          go_loopw [6, 8] (fun nv vv wr => ∃ (D : List Nat) (cs : List Int) (v : Int), vv = .int .i64 v ∧ -1 ≤ v ∧ v < ps.length ∧ JT.InnerI ps k D cs v ∧ Row wr (w.heap.size + 1) 3 (cs.map (Value.int .i64)) ∧ wr.ownsRow (w.heap.size + 2) 3 1 nv D.length (natV D) ∧ Below w.heap.size w wr ∧ wr.cell? ⟨w.heap.size, 0, none⟩ = some (.slice PA ps.length PC)) (fun nv _ _ => ps.length - lenOf nv)
          case atStart => exact ⟨D, cs, k, rfl, by omega, by omega, HI.out, HR.out, HO.out, hb, hbox⟩
          case round =>
            clear hb hbox HI HR HO cs D
            obtain ⟨D, cs, v, rfl, hv1, hv2, hI, hrow, hown, hb, hbox⟩ := hrel
            have HI := Lib.hid hI
            have HR := Lib.hid hrow
            have HO := Lib.hid hown
            clear hI hrow hown
            by_cases hneg : v < 0
            · go_wp2
              go_roundw
              case rel => exact ⟨k + 1, D, cs, by omega, by go_num, HI.out.greedy, HI.out.cnts, fun d hd => by have := HI.out.le d hd; omega, HI.out.done (.inl hneg), HR.out, HO.out, hb, hbox⟩
              case measure => simp [intOf]; omega
            · obtain ⟨j, rfl⟩ := Int.eq_ofNat_of_zero_le (show 0 ≤ v by omega)
              have hj : j < ps.length := by omega
              by_cases hgt : k < j
              · go_wp2
                go_roundw
                case rel => exact ⟨k + 1, D, cs, by omega, by go_num, HI.out.greedy, HI.out.cnts, fun d hd => by have := HI.out.le d hd; omega, HI.out.done (.inr (.inl (by omega))), HR.out, HO.out, hb, hbox⟩
                case measure => simp [intOf]; omega
              · have hjc : j < cs.length := by rw [HI.out.cnts.1]; exact hj
                have hcj := HR.out.cell_ (i := j) (by simpa using hjc)
                rw [List.getElem_map, HI.out.cnts.get hj hjc] at hcj
                by_cases h0 : JT.cntF ps D j = 0
                · have hlD := HI.out.length hj
                  obtain ⟨b, o, rfl, hbb, hc⟩ := slI_at (hp.below hb (Nat.le_refl _)) hj
                  have hvk := HV.out ps[j] (List.getElem_mem hj)
                  have hpar : JT.par ps j = ps[j] := by simp [JT.par, hj]
                  generalize ps[j] = p at *
                  have HP := Lib.hid hpar
                  have H0 := Lib.hid h0
                  rw [h0] at hcj
                  clear hpar hp h0
                  have hsz : w.heap.size + 1 < wr.heap.size := HR.out.lt
                  have HI0 := Lib.hid HO.out
                  by_cases hneg2 : p < 0
                  · go_wp2_with (at_builtin; refine app1Int27 rfl (.tmp 50) (.tmp 52) rfl (w.heap.size + 2) u6 D.length (natV D) rfl (by exact HO.out.alloc _) wr.heap.size (j : Int) rfl (by go_simp) (by omega) (by simp; omega) ?_
                                 intro v' w' hown' hg'
                                 have hkp : Below (w.heap.size + 2) wr w' := app_kept (fun kk hk => own_base HO.out hk) (by omega) hg'
                                 have hb' : Below w.heap.size w w' := hb.trans (hkp.mono (by omega))
                                 have HR' := Lib.hid (HR.out.below hkp (by omega))
                                 have hbox' : w'.cell? ⟨w.heap.size, 0, none⟩ = some (.slice (some ⟨b, o, none⟩) ps.length PC) := (hkp.cell (p := ⟨w.heap.size, 0, none⟩) (by show w.heap.size < _; omega)).trans hbox
                                 have hc' : w'.cell? ⟨b, o + j, none⟩ = some (.int .i64 p) := (hkp.cell (p := ⟨b, o + j, none⟩) (by show b < _; omega)).trans hc
                                 have HO' := Lib.hid hown'
                                 clear hown' hg' hkp hc hcj hbox HO HR)
                    go_roundw
                    case rel =>
                      refine ⟨D ++ [j], cs, p, rfl, by omega, by omega, ?_, HR'.out, by simpa [natV] using HO'.out, hb', hbox'⟩
                      rw [← HP.out]
                      refine HI.out.emit hj (by omega) H0.out (HI.out.cnts.congr fun u _ => ?_)
                      rw [JT.cnt_emit hj (HI.out.out j rfl), HP.out, if_neg (by omega)]; rfl
                    case measure => have e1 := own_len HO'.out; have e2 := own_len HI0.out; omega
                  · obtain ⟨q, rfl⟩ := Int.eq_ofNat_of_zero_le (show 0 ≤ p by omega)
                    have hq : q < ps.length := by omega
                    have hqc : q < cs.length := by rw [HI.out.cnts.1]; exact hq
                    have hem := JT.cnt_emit (u := q) hj (HI.out.out j rfl)
                    rw [HP.out, if_pos rfl] at hem
                    have hcl := JT.cntF_le ps (D ++ [j]) q
                    have hget := HI.out.cnts.get hq hqc
                    rw [hem] at hget
                    have HGT := Lib.hid hget
                    clear hem hget
                    go_wp2_with (at_builtin; refine app1Int27 rfl (.tmp 50) (.tmp 52) rfl (w.heap.size + 2) u6 D.length (natV D) rfl (by exact HO.out.alloc _) wr.heap.size (j : Int) rfl (by go_simp) (by omega) (by simp; omega) ?_
                                 intro v' w' hown' hg'
                                 have hkp : Below (w.heap.size + 2) wr w' := app_kept (fun kk hk => own_base HO.out hk) (by omega) hg'
                                 have hb' : Below w.heap.size w w' := hb.trans (hkp.mono (by omega))
                                 have HR' := Lib.hid (HR.out.below hkp (by omega))
                                 have hbox' : w'.cell? ⟨w.heap.size, 0, none⟩ = some (.slice (some ⟨b, o, none⟩) ps.length PC) := (hkp.cell (p := ⟨w.heap.size, 0, none⟩) (by show w.heap.size < _; omega)).trans hbox
                                 have hc' : w'.cell? ⟨b, o + j, none⟩ = some (.int .i64 q) := (hkp.cell (p := ⟨b, o + j, none⟩) (by show b < _; omega)).trans hc
                                 have HO' := Lib.hid hown'
                                 have hcq := HR'.out.cell_ (i := q) (by simpa using hqc)
                                 rw [List.getElem_map, HGT.out] at hcq
                                 have hfq := HR'.out.frozen q
                                 clear hown' hg' hkp hc hcj hbox HO HR)
                    go_roundw
                    case rel =>
                      refine ⟨D ++ [j], cs.set q (JT.cntF ps (D ++ [j]) q : Nat), q, rfl, by omega, by omega, ?_, ?_, ?_, hb'.setCell (by simp) _, ?_⟩
                      · rw [← HP.out]
                        refine HI.out.emit hj (by omega) H0.out (HI.out.cnts.put rfl fun u _ hne => ?_)
                        rw [JT.cnt_emit hj (HI.out.out j rfl), HP.out, if_neg (by omega)]; rfl
                      · rw [List.map_set]
                        have h7 := HR'.out.set q (.int .i64 ((JT.cntF ps (D ++ [j]) q : Nat) : Int))
                        exact h7
                      · have h8 := ownsRow_setCell_below HO'.out (a := ⟨w.heap.size + 1, q, none⟩) (by show w.heap.size + 1 < _; omega) (.int .i64 ((JT.cntF ps (D ++ [j]) q : Nat) : Int))
                        simpa [natV] using h8
                      · rw [World.cell?_setCell_other]; exact hbox'; simp
                    case measure => have e1 := own_len HO'.out; have e2 := own_len HI0.out; omega
                · have HN : Hid _ := h0
                  have hne : (((JT.cntF ps D j : Nat) : Int) == 0) = false := by simp; omega
                  clear h0
                  go_wp2
                  go_roundw
                  case rel => exact ⟨k + 1, D, cs, by omega, by go_num, HI.out.greedy, HI.out.cnts, fun d hd => by have := HI.out.le d hd; omega, HI.out.done (.inr (.inr ⟨j, rfl, HN.out⟩)), HR.out, HO.out, hb, hbox⟩
                  case measure => simp [intOf]; omega
        · have HG := Lib.hid hG
          have HO := Lib.hid hown
          have HN : Hid (∀ u, ¬ JT.ready ps D u) := fun u hu => by have := hrD u hu; have := hu.1; omega
          clear hG hcs hlD hrD hrow hown
          go_wp2
          go_ret
          exact ⟨_, D, rfl, ⟨HG.out, HN.out⟩, own_weaken HO.out (by omega), hb⟩

theorem order_any (PA : Option Addr) (PC : Nat) (ps : List Int) (w : World) (hp : SlI .i64 w.heap.size w PA ps) (hpl : ps.length ≤ 1000000) (hv : ∀ p ∈ ps, -1 ≤ p ∧ p < ps.length) :
    Calls Tryz.prog 67 #[.agg #[.slice PA ps.length PC]] w fun e w' => ∃ v, e = .returned v ∧ w'.ownsRow w.heap.size 3 1 v (JT.orderF ps).length (natV (JT.orderF ps)) ∧ Below w.heap.size w w' :=
  (order_walk PA PC ps w hp hpl hv).mono fun e w' ⟨v, D, h1, h2, h3, h4⟩ => by
    have := JT.order_unique h2
    subst this
    exact ⟨v, h1, h3, h4⟩

theorem order_sl (PA : Option Addr) (PC : Nat) (ps : List Int) (w : World) (hp : SlI .i64 w.heap.size w PA ps) (hpl : ps.length ≤ 1000000) (hv : ∀ p ∈ ps, -1 ≤ p ∧ p < ps.length) :
    Calls Tryz.prog 67 #[.agg #[.slice PA ps.length PC]] w fun e w' => ∃ A c, e = .returned (.slice A (JT.orderF ps).length c) ∧ Sl w'.heap.size w' A (natV (JT.orderF ps)) ∧ Below w.heap.size w w' :=
  (order_any PA PC ps w hp hpl hv).mono fun e w' ⟨v, h1, h3, h4⟩ => by
    obtain ⟨A, c, rfl, _, _, h5⟩ := Sl.of_own h3
    simp only [natV, List.length_map] at h1
    exact ⟨A, c, h1, h5, h4⟩
end
section
open Go.RowKit

set_option maxHeartbeats 1000000 in
theorem rooted_any (PA : Option Addr) (PC : Nat) (ps : List Int) (w : World) (hp : SlI .i64 w.heap.size w PA ps) (hpl : ps.length ≤ 1000000) :
    Calls Tryz.prog 61 #[.agg #[.slice PA ps.length PC]] w fun e w' => e = .returned (.bool (JT.rootedB ps)) ∧ Below w.heap.size w w' := by
  go_enter Tryz.func61, Tryz.ntmps61
  go_wp2
  go_loop [3, 9] (fun r i => ∃ k : Nat, k ≤ ps.length ∧ i = .int .i64 k ∧ r = .int .i64 (JT.rootsF (ps.take k) : Nat) ∧ (∀ p ∈ ps.take k, -1 ≤ p ∧ p < ps.length)) (fun _ i => ps.length - (intOf i).toNat)
  case atStart => exact ⟨0, Nat.zero_le _, rfl, rfl, by simp⟩
  case round =>
    obtain ⟨k, hk, rfl, rfl, hall⟩ := hrel
    have HA := Lib.hid hall
    clear hall
    by_cases hlt : k < ps.length
    · obtain ⟨b, o, rfl, hbb, hc⟩ := slI_at hp hlt
      have hroots := JT.roots_snoc ps hlt
      have hall' := JT.all_snoc (P := fun p : Int => -1 ≤ p ∧ p < ps.length) hlt HA.out
      have hrle := JT.roots_le (ps.take k)
      have hbad1 := JT.rootedB_bad' hlt
      have hself := JT.rootedB_self' hlt
      generalize ps[k] = p at *
      have HR := Lib.hid hroots
      have HA' := Lib.hid hall'
      have HB1 := Lib.hid hbad1
      have HS := Lib.hid hself
      clear hroots hall' hp hbad1 hself
      have hrl : JT.rootsF (ps.take k) ≤ 1000000 := by
        have : (ps.take k).length ≤ k := List.length_take_le _ _
        omega
      clear hrle
      by_cases h1 : p < -1
      · have HF := Lib.hid (HB1.out (by omega))
        go_wp2
        go_ret
        exact ⟨ret_bool HF.out.symm, (Below.refl _ _).alloc (Nat.le_refl _) _⟩
      by_cases h2 : (ps.length : Int) ≤ p
      · have HF := Lib.hid (HB1.out (by omega))
        go_wp2
        go_ret
        exact ⟨ret_bool HF.out.symm, (Below.refl _ _).alloc (Nat.le_refl _) _⟩
      by_cases h3 : p = (k : Int)
      · have HF := Lib.hid (HS.out h3)
        have hs : (p == (k : Int)) = true := by simp [h3]
        clear h3
        go_wp2
        go_ret
        exact ⟨ret_bool HF.out.symm, (Below.refl _ _).alloc (Nat.le_refl _) _⟩
      have hs : (p == (k : Int)) = false := by simp [h3]
      clear h3
      by_cases h4 : p = -1
      · have hs4 : (p == (-1 : Int)) = true := by simp [h4]
        have H4 := Lib.hid h4
        clear h4
        go_wp2
        go_round
        case rel => exact ⟨k + 1, by omega, by go_num, by rw [HR.out, if_pos (by have := H4.out; omega)]; go_num, HA'.out (by omega)⟩
        case measure => simp [intOf]; omega
      · have hs4 : (p == (-1 : Int)) = false := by simp [h4]
        go_wp2
        go_round
        case rel => exact ⟨k + 1, by omega, by go_num, by rw [HR.out, if_neg (by omega)]; rfl, HA'.out (by omega)⟩
        case measure => simp [intOf]; omega
    · have : k = ps.length := by omega
      subst this
      have hv := HA.out
      rw [List.take_length] at hv
      have HF := Lib.hid (JT.rootedB_of hv)
      rw [List.take_length]
      generalize hr : JT.rootsF ps = r at *
      by_cases h1 : r = 1
      · subst h1
        have HV := Lib.hid hv
        have HP := Lib.hid hp
        clear hv hp hr
        go_wp2
        go_region_held3 (fun w' => w'.cell? ⟨w.heap.size, 0, none⟩ = some (.slice PA ps.length PC)) (go_keep)
          (first | (go_at_call 67; refine (order_sl PA PC ps _ ?_ hpl HV.out).mono ?_; (exact (HP.out.alloc (Nat.le_refl _) _).more (by simp)); rintro e w' ⟨A, c, rfl, hs, hb⟩; have hS : w'.cell? ⟨w.heap.size, 0, none⟩ = some (.slice PA ps.length PC) := (hb.cell (p := ⟨w.heap.size, 0, none⟩) (by simp)).trans (by go_simp)))
        go_wp2
        go_ret
        refine ⟨ret_bool ?_, Below.box (Below.undrew hb) (by simp)⟩
        rw [HF.out, Bool.eq_iff_iff]
        simp
        omega
      · have hs : ((r : Int) == (1 : Int)) = false := by simp; omega
        go_wp2
        go_quiet (fail)
        go_wp2
        go_ret
        refine ⟨ret_bool ?_, Below.drewN' ((Below.refl _ _).alloc (Nat.le_refl _) _) _⟩
        rw [HF.out]
        simp [h1]
end
section
open Go.RowKit

set_option maxHeartbeats 1000000 in
theorem jtCheck_any (N : Int) (EA PA : Option Addr) (EC PC : Nat) (es : List Nat) (ps : List Int) (w : World)
   (he : SlN .u32 w.heap.size w EA es) (hu : U32s es) (hp : SlI .i64 w.heap.size w PA ps) (hel : es.length ≤ 1000000) (hpl : ps.length ≤ 1000000) :
    Calls Tryz.prog 63 #[.agg #[.int .i64 N, .slice EA es.length EC], .agg #[.slice PA ps.length PC]] w fun e w' => e = .returned (.int .i64 (JT.chkF N es ps)) ∧ Below w.heap.size w w' := by
  have he2 : ∀ o1 o2, SlN .u32 ((w.alloc o1).alloc o2).heap.size ((w.alloc o1).alloc o2) EA es := fun o1 o2 => ((he.alloc (Nat.le_refl _) o1).alloc (by simp) o2).more (by simp; omega)
  have hp2 : ∀ o1 o2, SlI .i64 ((w.alloc o1).alloc o2).heap.size ((w.alloc o1).alloc o2) PA ps := fun o1 o2 => ((hp.alloc (Nat.le_refl _) o1).alloc (by simp) o2).more (by simp; omega)
  have HE := Lib.hid he2
  have HP := Lib.hid hp2
  have HU := Lib.hid hu
  clear he2 hp2 hu
  go_enter Tryz.func63, Tryz.ntmps63
  go_wp2_with fail
  refine (hgCheck_any N EA EC es _ (HE.out _ _) HU.out hel).mono ?_
  rintro e w1 ⟨rfl, hb1⟩
  have hc1 : w1.cell? ⟨w.heap.size, 0, none⟩ = some (.int .i64 N) := (hb1.cell (p := ⟨w.heap.size, 0, none⟩) (by simp; omega)).trans (by go_simp)
  have hc2 : w1.cell? ⟨w.heap.size, 1, none⟩ = some (.slice EA es.length EC) := (hb1.cell (p := ⟨w.heap.size, 1, none⟩) (by simp; omega)).trans (by go_simp)
  have hc3 : w1.cell? ⟨w.heap.size + 1, 0, none⟩ = some (.slice PA ps.length PC) := (hb1.cell (p := ⟨w.heap.size + 1, 0, none⟩) (by simp)).trans (by go_simp)
  have hbw : Below w.heap.size w w1 := Below.box2 hb1 (by simp; omega)
  have hsz := hb1.size
  simp at hsz
  clear hb1
  by_cases h1 : JT.hgCheckF N es = 0
  rotate_left
  · have hs : (JT.hgCheckF N es != 0) = true := by simpa using h1
    have HF := Lib.hid (JT.chkF_hg (ps := ps) h1)
    clear h1
    generalize JT.hgCheckF N es = q at *
    go_wp2
    go_ret
    exact ⟨ret_int HF.out.symm, hbw⟩
  rw [h1]
  by_cases h2 : ps.length = es.length
  rotate_left
  · have hs : ((ps.length : Int) != (es.length : Int)) = true := by simp; omega
    have HF := Lib.hid (JT.chkF_len h1 h2)
    clear h1 h2
    go_wp2
    go_ret
    exact ⟨ret_int HF.out.symm, hbw⟩
  have hs : ((ps.length : Int) != (es.length : Int)) = false := by simp; omega
  have H1 := Lib.hid h1
  have H2 := Lib.hid h2
  clear h1 h2
  have hep := he.below hbw (Nat.le_refl _)
  have hpp := hp.below hbw (Nat.le_refl _)
  have HE1 := Lib.hid hep
  have HP1 := Lib.hid hpp
  clear he hp hep hpp HE HP
  go_wp2_with fail
  refine (rooted_any PA PC ps _ (HP1.out.more (by omega)) hpl).mono ?_
  rintro e w2 ⟨rfl, hb2⟩
  have hd1 := (hb2.cell (p := ⟨w.heap.size, 0, none⟩) (by show w.heap.size < _; omega)).trans hc1
  have hd2 := (hb2.cell (p := ⟨w.heap.size, 1, none⟩) (by show w.heap.size < _; omega)).trans hc2
  have hd3 := (hb2.cell (p := ⟨w.heap.size + 1, 0, none⟩) (by show w.heap.size + 1 < _; omega)).trans hc3
  have hbw2 : Below w.heap.size w w2 := Below.then hbw hb2 hbw.size
  have HE2 := Lib.hid (HE1.out.below hb2 hbw.size)
  have HP2 := Lib.hid (HP1.out.below hb2 hbw.size)
  have hsz2 := hb2.size
  clear hb2 hbw hc1 hc2 hc3 HE1 HP1
  by_cases h3 : JT.rootedB ps = true
  rotate_left
  · have h4 : JT.rootedB ps = false := by simpa using h3
    have HF := Lib.hid (JT.chkF_root H1.out H2.out h4)
    rw [h4]
    clear h3 h4
    go_wp2
    go_ret
    exact ⟨ret_int HF.out.symm, hbw2⟩
  rw [h3]
  have H3 := Lib.hid h3
  clear h3
  go_wp2
  go_loopw [6, 28] (fun s i wr => ∃ k : Nat, k ≤ es.length ∧ i = .int .i64 k ∧ s = .int .u32 (JT.seenTo es ps k : Nat) ∧ (∀ i, i < k → JT.seenTo es ps i &&& JT.topF es ps i = 0) ∧ Below w.heap.size w wr ∧ w.heap.size + 2 ≤ wr.heap.size ∧ SlN .u32 w.heap.size wr EA es ∧ SlI .i64 w.heap.size wr PA ps ∧ wr.cell? ⟨w.heap.size, 0, none⟩ = some (.int .i64 N) ∧ wr.cell? ⟨w.heap.size, 1, none⟩ = some (.slice EA es.length EC) ∧ wr.cell? ⟨w.heap.size + 1, 0, none⟩ = some (.slice PA ps.length PC)) (fun _ i _ => es.length - (intOf i).toNat)
  case atStart => exact ⟨0, Nat.zero_le _, rfl, rfl, by omega, hbw2, by omega, HE2.out, HP2.out, hd1, hd2, hd3⟩
  case round =>
    clear hbw2 HE2 HP2 hd1 hd2 hd3
    obtain ⟨k, hk, rfl, rfl, hall, hb, hs4, hsE, hsP, hc1, hc2, hc3⟩ := hrel
    have HA := Lib.hid hall
    have HSP := Lib.hid hsP
    have HSE := Lib.hid hsE
    clear hall hsP hsE
    by_cases hlt : k < es.length
    · obtain ⟨b, o, rfl, hbb, hc⟩ := slN_at HSE.out hlt
      have hu32 : JT.U32 es := HU.out
      have hek := hu32.get k
      have hsl := JT.sepF_le es ps k
      have hst := JT.seenTo_lt (ps := ps) hu32 k
      have htt := JT.topF_lt (ps := ps) hu32 k
      have htop : JT.topF es ps k = JT.dif (es[k]?.getD 0) (JT.sepF es ps (k : Int)) := rfl
      have hge : es[k]?.getD 0 = es[k] := by simp [hlt]
      rw [hge] at hek hsl htop
      have hseen : JT.seenTo es ps (k + 1) = JT.seenTo es ps k ||| JT.topF es ps k := rfl
      generalize hekk : es[k] = ek at *
      generalize hsp : JT.sepF es ps (k : Int) = sp at *
      generalize htp : JT.topF es ps k = tp at *
      generalize hsn : JT.seenTo es ps k = sn at *
      have hb1 : bits .andNot .u32 (ek : Int) (sp : Int) = (tp : Int) := by rw [htop]; exact u32_andNot_nat ek sp (by omega) (by omega)
      have hb2 : bits .and .u32 (sn : Int) (tp : Int) = ((sn &&& tp : Nat) : Int) := u32_and_nat sn tp (by omega) (by omega)
      have hb3 : bits .or .u32 (sn : Int) (tp : Int) = ((sn ||| tp : Nat) : Int) := u32_or_nat sn tp (by omega) (by omega)
      have HSEEN := Lib.hid hseen
      have HSPK := Lib.hid hsp
      have HTP := Lib.hid htp
      have HSN := Lib.hid hsn
      clear hge hekk hsp htp hsn htop hseen hsl hu32
      by_cases h0 : sn &&& tp = 0
      · have H0 := Lib.hid h0
        rw [h0] at hb2
        clear h0
        go_wp2_with fail
        refine (sep_any N _ PA EC PC es ps k _ (HSE.out.more (by omega)) HU.out (HSP.out.more (by omega)) hel hpl).mono ?_
        rw [HSPK.out]
        rintro e w3 ⟨rfl, hb3'⟩
        have hd1 := (hb3'.cell (p := ⟨w.heap.size, 0, none⟩) (by show w.heap.size < _; omega)).trans hc1
        have hd2 := (hb3'.cell (p := ⟨w.heap.size, 1, none⟩) (by show w.heap.size < _; omega)).trans hc2
        have hd3 := (hb3'.cell (p := ⟨w.heap.size + 1, 0, none⟩) (by show w.heap.size + 1 < _; omega)).trans hc3
        have hbw3 : Below w.heap.size w w3 := Below.then hb hb3' hb.size
        have HE3 := Lib.hid (HSE.out.below hb3' hb.size)
        have HP3 := Lib.hid (HSP.out.below hb3' hb.size)
        have hsz3 := hb3'.size
        clear hb3' hc1 hc2 hc3 HSE HSP hc
        go_wp2
        go_roundw
        case rel =>
          refine ⟨k + 1, by omega, by go_num, ?_, ?_, hbw3, by omega, HE3.out, HP3.out, hd1, hd2, hd3⟩
          · rw [HSEEN.out]
          · intro i hi
            by_cases hik : i < k
            · exact HA.out i hik
            · obtain rfl : i = k := by omega
              rw [HSN.out, HTP.out]; exact H0.out
        case measure => simp [intOf]; omega
      · have hne : (((sn &&& tp : Nat) : Int) != 0) = true := by simp; omega
        have HF : Hid (JT.chkF N es ps = 24) := JT.chkF_tops H1.out H2.out H3.out fun ht => h0 (by rw [← HSN.out, ← HTP.out]; exact ht k hlt)
        clear h0
        generalize sn &&& tp = st at *
        go_wp2_with fail
        refine (sep_any N _ PA EC PC es ps k _ (HSE.out.more (by omega)) HU.out (HSP.out.more (by omega)) hel hpl).mono ?_
        rw [HSPK.out]
        rintro e w3 ⟨rfl, hb3'⟩
        have hbw3 : Below w.heap.size w w3 := Below.then hb hb3' hb.size
        clear hb3' hc1 hc2 hc3 HSE HSP hc
        go_wp2
        go_ret
        exact ⟨ret_int HF.out.symm, hbw3⟩
    · have HF : Hid (JT.chkF N es ps = 0) := JT.chkF_ok H1.out H2.out H3.out fun i hi => HA.out i (by omega)
      go_wp2
      go_ret
      exact ⟨ret_int HF.out.symm, hb⟩
end
end Go.Proofs.YthgaflmldbgbnaaGreatDoor

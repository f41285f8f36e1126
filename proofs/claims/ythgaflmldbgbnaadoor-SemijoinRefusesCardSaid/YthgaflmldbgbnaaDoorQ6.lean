/- Parts of the proof, merged: G12, G13, G14, JOrd, JJoin, JRer, JGyo. -/
import Derived.Test.YthgaflmldbgbnaaDoorQ5
import Derived.Test.YthgaflmldbgbnaaDoorQ3

section
/- Walk of chapter 36: semijoin of two atoms. -/
namespace Go.Proofs.YthgaflmldbgbnaaDoor
open Go.RowKit Go.Sort Go.ChangeMaps Go.WideShapes

/-- An atom that the functions of the chapter take. -/
structure Gd (a : At) : Prop where
  asc : a.vs.Pairwise (· < ·)
  lt : ∀ v ∈ a.vs, v < 32
  len : ∀ r ∈ a.P, r.length = a.vs.length
  ss : RL.SS a.P
  I : ∀ r ∈ a.P, ∀ c ∈ r, IsI c
  many : a.P.length ≤ 60000
theorem IsI.small {c : RL.V} (h : IsI c) : SmallV c := by
  obtain ⟨x, rfl⟩ := h
  exact ⟨rfl, ⟨x % 4, by omega, rfl⟩, rfl⟩
theorem IsI.vld {c : RL.V} (h : IsI c) : RL.validV c = true := by obtain ⟨x, rfl⟩ := h; rfl
theorem Gd.vl {a : At} (h : Gd a) : a.vs.length ≤ 32 := by have := asc_nat 32 a.vs 0 h.asc fun x hx => ⟨Nat.zero_le _, h.lt x hx⟩; omega
theorem Gd.rok {a : At} (h : Gd a) {r : RL.R} (hr : r ∈ a.P) : ROk r := ⟨by have := h.len r hr; have := h.vl; omega, fun c hc => by rw [(h.I r hr c hc).str]; exact Nat.zero_le _⟩
theorem Gd.rsOk {a : At} (h : Gd a) : RsOk a.P := fun _ hr => h.rok hr
theorem Gd.nodup {a : At} (h : Gd a) : a.vs.Nodup := h.asc.imp fun h e => by omega
theorem Gd.err {a : At} (h : Gd a) {X : List RL.R} (hX : ∀ x ∈ X, x ∈ a.P) : errF (a.vs.length : Nat) X = 0 := errF_zero.2 fun x hx => by
  have hx := hX x hx
  unfold wrongF
  rw [if_neg (by have := h.len x hx; simp [this]), if_pos (List.all_eq_true.2 fun v hv => (h.I x hx v hv).vld)]

/-- The value v is the atom a. -/
def AtV (w : World) (v : Value) (a : At) : Prop := ∃ VA VC PA PC, v = .agg #[.slice VA a.vs.length VC, .int .i64 (a.vs.length : Nat), .slice PA a.P.length PC] ∧ a.vs.length ≤ VC ∧ VC ≤ 9223372036854775807 ∧ a.P.length ≤ PC ∧ PC ≤ 9223372036854775807 ∧ SlI .i64 w.heap.size w VA (a.vs.map Int.ofNat) ∧ SlRs w.heap.size w PA a.P
theorem AtV.up {w w' : World} {v : Value} {a : At} (h : AtV w v a) (hb : Below w.heap.size w w') : AtV w' v a := by
  obtain ⟨VA, VC, PA, PC, e, c1, c2, c3, c4, h1, h2⟩ := h
  exact ⟨VA, VC, PA, PC, e, c1, c2, c3, c4, (Sl.below h1 hb (Nat.le_refl _)).more hb.size, h2.upB hb⟩

/-- The value v is the atom a, in blocks below B that P allows. -/
def AtP (P : Nat → Prop) (B : Nat) (w : World) (v : Value) (a : At) : Prop := ∃ VA VC PA PC, v = .agg #[.slice VA a.vs.length VC, .int .i64 (a.vs.length : Nat), .slice PA a.P.length PC] ∧ a.vs.length ≤ VC ∧ VC ≤ 9223372036854775807 ∧ a.P.length ≤ PC ∧ PC ≤ 9223372036854775807 ∧
  ∀ W : World, (∀ p : Addr, p.block < B → P p.block → W.cell? p = w.cell? p) → SlI .i64 B W VA (a.vs.map Int.ofNat) ∧ SlRs B W PA a.P
theorem AtP.v {P : Nat → Prop} {w : World} {v : Value} {a : At} (h : AtP P w.heap.size w v a) : AtV w v a := by
  obtain ⟨VA, VC, PA, PC, e, c1, c2, c3, c4, h1⟩ := h
  exact ⟨VA, VC, PA, PC, e, c1, c2, c3, c4, h1 w fun _ _ _ => rfl⟩
theorem AtV.p {w : World} {v : Value} {a : At} (h : AtV w v a) : AtP (fun _ => True) w.heap.size w v a := by
  obtain ⟨VA, VC, PA, PC, e, c1, c2, c3, c4, h1, h2⟩ := h
  exact ⟨VA, VC, PA, PC, e, c1, c2, c3, c4, fun W hag => ⟨Sl.keep h1 fun p hp => hag p hp trivial, h2.keep fun p hp => hag p hp trivial⟩⟩
theorem AtP.keep {P P' : Nat → Prop} {B B' : Nat} {w w' : World} {v : Value} {a : At} (h : AtP P B w v a) (hk : ∀ p : Addr, p.block < B → P p.block → w'.cell? p = w.cell? p) (hB : B ≤ B') (hP : ∀ b, b < B → P b → P' b) : AtP P' B' w' v a := by
  obtain ⟨VA, VC, PA, PC, e, c1, c2, c3, c4, h1⟩ := h
  refine ⟨VA, VC, PA, PC, e, c1, c2, c3, c4, fun W hag => ?_⟩
  obtain ⟨g1, g2⟩ := h1 W fun p hp hPp => (hag p (Nat.lt_of_lt_of_le hp hB) (hP _ hp hPp)).trans (hk p hp hPp)
  exact ⟨Sl.more g1 hB, g2.more hB⟩

/-- The columns that a and b share, as numbers of the program. -/
def colsI (us vs : List Nat) : List Int := (colsF us vs).map Int.ofNat
def keyF (us vs : List Nat) (x : RL.R) : List UInt8 := kyB (projF x (colsI us vs))
theorem colsF_lt (us vs : List Nat) : ∀ c ∈ colsF us vs, c < us.length := fun c hc => by unfold colsF at hc; exact List.mem_range.1 (List.mem_filter.1 hc).1
theorem proj_cols (us vs : List Nat) (x : RL.R) : projF x (colsI us vs) = (colsF us vs).map (dv x) := by
  unfold projF colsI
  rw [List.map_map]
  exact List.map_congr_left fun i _ => rfl
theorem proj_small {us vs : List Nat} {x : RL.R} (hx : x.length = us.length) (hs : ∀ v ∈ x, SmallV v) : ∀ v ∈ projF x (colsI us vs), SmallV v := fun v hv => by
  unfold projF at hv
  obtain ⟨c, hc, rfl⟩ := List.mem_map.1 hv
  unfold colsI at hc
  obtain ⟨i, hi, rfl⟩ := List.mem_map.1 hc
  exact hs _ (zV_dv ⟨by simp, by have := colsF_lt us vs i hi; simp; omega⟩)
/-- Keys are equal just if the rows agree. -/
theorem key_agr {a b : At} (ha : Gd a) (hb : Gd b) {x y : RL.R} (hx : x ∈ a.P) (hy : y ∈ b.P) : keyF a.vs b.vs x = keyF b.vs a.vs y ↔ agrF a.vs b.vs x y := by
  rw [← cols_agr ha.asc hb.asc (ha.len x hx) (hb.len y hy), ← proj_cols, ← proj_cols]
  unfold keyF
  exact ⟨fun h => kyB_inj (proj_small (ha.len x hx) fun v hv => (ha.I x hx v hv).small) (proj_small (hb.len y hy) fun v hv => (hb.I y hy v hv).small) h, fun h => by rw [h]⟩
theorem and_bits {us vs : List Nat} (hu : ∀ v ∈ us, v < 32) (_hv : ∀ v ∈ vs, v < 32) : (setN us &&& setN vs) < 4294967296 ∧ ∀ v ∈ us, (setN us &&& setN vs) / 2 ^ v % 2 = if v ∈ vs then 1 else 0 := by
  refine ⟨Nat.lt_of_le_of_lt Nat.and_le_left (setN_lt hu), fun v hvu => ?_⟩
  have h := Nat.testBit_eq_decide_div_mod_eq (x := setN us &&& setN vs) (i := v)
  rw [Nat.testBit_and, setN_bit, setN_bit, decide_eq_true hvu, Bool.true_and] at h
  have := decide_eq_decide.1 h
  by_cases hm : v ∈ vs
  · rw [if_pos hm]; exact this.1 hm
  · rw [if_neg hm]
    have := mt this.2 hm
    omega
/-- The rows of a that have partners. -/
def keptF (a b : At) : List RL.R := a.P.filter fun x => decide (gF (keyF b.vs a.vs) b.P (keyF a.vs b.vs x) ≠ [])
theorem kept_semi {a b : At} (ha : Gd a) (hb : Gd b) : keptF a b = semiF a b := by
  refine RL.SS.ext (List.Pairwise.sublist List.filter_sublist ha.ss) (by unfold semiF; exact List.Pairwise.sublist List.filter_sublist ha.ss) fun x => ?_
  unfold keptF
  rw [mem_semiF, List.mem_filter, decide_eq_true_eq]
  refine and_congr_right fun hx => ?_
  constructor
  · intro h
    obtain ⟨y, hy⟩ := List.exists_mem_of_ne_nil _ h
    obtain ⟨h1, h2⟩ := mem_gF.1 hy
    exact ⟨y, h1, (key_agr ha hb hx h1).1 h2.symm⟩
  · rintro ⟨y, hy, hag⟩ h
    have : y ∈ gF (keyF b.vs a.vs) b.P (keyF a.vs b.vs x) := mem_gF.2 ⟨hy, ((key_agr ha hb hx hy).2 hag).symm⟩
    rw [h] at this
    cases this
theorem Gd.semi {a b : At} (ha : Gd a) : Gd ⟨a.vs, semiF a b⟩ where
  asc := ha.asc
  lt := ha.lt
  len r hr := ha.len r (mem_semiF.1 hr).1
  ss := by unfold semiF; exact List.Pairwise.sublist List.filter_sublist ha.ss
  I r hr := ha.I r (mem_semiF.1 hr).1
  many := by unfold semiF; exact Nat.le_trans (List.length_filter_le _ _) ha.many

end Go.Proofs.YthgaflmldbgbnaaDoor
end

section
/- Walk of chapter 36: semijoin of two atoms. -/
namespace Go.Proofs.YthgaflmldbgbnaaDoor
open Go.RowKit Go.Sort Go.ChangeMaps Go.WideShapes

set_option maxHeartbeats 16000000 in
set_option maxRecDepth 100000 in
theorem sjSemi_ok (va vb : Value) (a b : At) (w : World) (ha : AtV w va a) (hb : AtV w vb b) (ga : Gd a) (gb : Gd b) :
    Calls Tryd.prog 24 #[va, vb] w fun e w' => ∃ v, e = .returned (.tuple #[v, .int .i64 0]) ∧ AtP (fun c => w.heap.size + 3 ≤ c) w'.heap.size w' v ⟨a.vs, semiF a b⟩ ∧ Below w.heap.size w w' := by
  obtain ⟨us, P⟩ := a
  obtain ⟨vs, Q⟩ := b
  obtain ⟨VA, VC, PA, PC, rfl, c1, c2, c3, c4, hv, hP⟩ := ha
  obtain ⟨WA, WC, QA, QC, rfl, c5, c6, c7, c8, hw, hQ⟩ := hb
  simp only at *
  have HKS : Hid (P.filter (fun x => decide (gF (keyF vs us) Q (keyF us vs x) ≠ [])) = semiF ⟨us, P⟩ ⟨vs, Q⟩) := kept_semi ga gb
  have hul : us.length ≤ 32 := ga.vl
  have hvl : vs.length ≤ 32 := gb.vl
  obtain ⟨M, hM⟩ : ∃ M, M = setN us &&& setN vs := ⟨_, rfl⟩
  have hMa := and_bits ga.lt gb.lt
  have hMb : ∀ v ∈ vs, M / 2 ^ v % 2 = if v ∈ us then 1 else 0 := by rw [hM, Nat.and_comm]; exact (and_bits gb.lt ga.lt).2
  obtain ⟨W0, hW0⟩ : ∃ W0, W0 = ((w.alloc (.cells #[.slice VA us.length VC, .int .i64 (us.length : Nat), .slice PA P.length PC] 37)).alloc (.cells #[.slice WA vs.length WC, .int .i64 (vs.length : Nat), .slice QA Q.length QC] 37)).alloc (.cells #[.slice none 0 0, .int .i64 0, .slice none 0 0] 37) := ⟨_, rfl⟩
  have hx0 : Ext w W0 := by rw [hW0]; exact (((Ext.refl w).alloc _).alloc _).alloc _
  have hra : Row W0 w.heap.size 37 [.slice VA us.length VC, .int .i64 (us.length : Nat), .slice PA P.length PC] := by rw [hW0]; exact ((Row.new w 37 _).alloc _).alloc _
  have hrb : Row W0 (w.heap.size + 1) 37 [.slice WA vs.length WC, .int .i64 (vs.length : Nat), .slice QA Q.length QC] := by
    have h := (Row.new (w.alloc (.cells #[.slice VA us.length VC, .int .i64 (us.length : Nat), .slice PA P.length PC] 37)) 37 [.slice WA vs.length WC, .int .i64 (vs.length : Nat), .slice QA Q.length QC]).alloc (.cells #[.slice none 0 0, .int .i64 0, .slice none 0 0] 37)
    rw [World.size_alloc] at h
    rw [hW0]; exact h
  have hrr : Row W0 (w.heap.size + 1 + 1) 37 [.slice none 0 0, .int .i64 0, .slice none 0 0] := by
    have h := Row.new ((w.alloc (.cells #[.slice VA us.length VC, .int .i64 (us.length : Nat), .slice PA P.length PC] 37)).alloc (.cells #[.slice WA vs.length WC, .int .i64 (vs.length : Nat), .slice QA Q.length QC] 37)) 37 [.slice none 0 0, .int .i64 0, .slice none 0 0]
    rw [World.size_alloc, World.size_alloc] at h
    rw [hW0]; exact h
  have HV := Lib.hid (fun W (h : Below w.heap.size w W) => (Sl.below hv h (Nat.le_refl _)).more h.size)
  have HW := Lib.hid (fun W (h : Below w.heap.size w W) => (Sl.below hw h (Nat.le_refl _)).more h.size)
  have HP := Lib.hid (fun W (h : Below w.heap.size w W) => hP.upB h)
  have HQ := Lib.hid (fun W (h : Below w.heap.size w W) => hQ.upB h)
  have HGA := Lib.hid ga
  have HGB := Lib.hid gb
  have HME := Lib.hid hM
  have HMA := Lib.hid hMa
  have HMB := Lib.hid hMb
  have HX0 := Lib.hid hx0
  have HRA := Lib.hid hra
  have HRB := Lib.hid hrb
  have HRR := Lib.hid hrr
  have HSA := Lib.hid (fun W (h : Below w.heap.size w W) => sjSet_any VA PA VC PC P.length us.length us W (HV.out W h) (by omega) ga.lt)
  have HSB := Lib.hid (fun W (h : Below w.heap.size w W) => sjSet_any WA QA WC QC Q.length vs.length vs W (HW.out W h) (by omega) gb.lt)
  have hkeep : ∀ W, Below W0.heap.size W0 W → (W.cell? ⟨w.heap.size, 0, none⟩ = some (.slice VA us.length VC) ∧ W.cell? ⟨w.heap.size, 1, none⟩ = some (.int .i64 (us.length : Nat)) ∧ W.cell? ⟨w.heap.size, 2, none⟩ = some (.slice PA P.length PC)) ∧ W.cell? ⟨w.heap.size + 1, 0, none⟩ = some (.slice WA vs.length WC) ∧ W.cell? ⟨w.heap.size + 1, 1, none⟩ = some (.int .i64 (vs.length : Nat)) ∧ W.cell? ⟨w.heap.size + 1, 2, none⟩ = some (.slice QA Q.length QC) := fun W h => by
    have h1 := hra.up h
    have h2 := hrb.up h
    exact ⟨⟨h1.cell 0, h1.cell 1, h1.cell 2⟩, h2.cell 0, h2.cell 1, h2.cell 2⟩
  have HKP := Lib.hid hkeep
  have HWU := Lib.hid (fun W (h : Below W0.heap.size W0 W) => Below.then hx0.below h hx0.size)
  have HBU : Hid (bits BinOp.and IntKind.u32 (setN us : Int) (setN vs : Int) = (M : Nat)) := by
    show _ = _
    rw [u32_and_nat _ _ (setN_lt ga.lt) (setN_lt gb.lt), hM]
  have hz3 : w.heap.size + 1 + 1 < W0.heap.size := hrr.lt
  clear hv hw hP hQ ga gb hM hMa hMb hx0 hra hrb hrr hkeep c1 c2 c3 c4 c5 c6 c7 c8
  go_enter Tryd.func24, Tryd.ntmps24
  go_upto_region 1 with (fail)
  rw [← hW0]
  clear hW0
  refine wp_region_held_drew (S := (fun w' => (w'.cell? ⟨w.heap.size, 0, none⟩ = some (.slice VA us.length VC) ∧ w'.cell? ⟨w.heap.size, 1, none⟩ = some (.int .i64 (us.length : Nat)) ∧ w'.cell? ⟨w.heap.size, 2, none⟩ = some (.slice PA P.length PC)) ∧ w'.cell? ⟨w.heap.size + 1, 0, none⟩ = some (.slice WA vs.length WC) ∧ w'.cell? ⟨w.heap.size + 1, 1, none⟩ = some (.int .i64 (vs.length : Nat)) ∧ w'.cell? ⟨w.heap.size + 1, 2, none⟩ = some (.slice QA Q.length QC))) (by kernel_rfl) (HKP.out W0.drew (Below.refl _ _).drew) (fun hHeld => ?_)
  refine takeOp (i := 0) (v := ?_) (some 12) rfl rfl (by kernel_rfl) (by kernel_rfl) (by kernel_rfl) (fun _ _ _ h => h) (Or.inl ⟨by rfl, ?_⟩) (by assumption) ?_
  rotate_left 1
  · (intro w0 hSw; (try dsimp only at hSw); go_simp; try (with_reducible rfl))
  try simp only [Act.put]
  try simp only [List.setIfInBounds_toArray]
  try simp only [List.set_cons_succ]
  try simp only [List.set_cons_zero]
  refine takeOp (i := 2) (v := ?_) (some 14) rfl rfl (by kernel_rfl) (by kernel_rfl) (by kernel_rfl) (fun _ _ _ h => h) (Or.inl ⟨by rfl, ?_⟩) (by assumption) ?_
  rotate_left 1
  · (intro w0 hSw; (try dsimp only at hSw); go_simp; try (with_reducible rfl))
  try simp only [Act.put]
  try simp only [List.setIfInBounds_toArray]
  try simp only [List.set_cons_succ]
  try simp only [List.set_cons_zero]
  refine wpAnyH_ready (rs := [1]) (by kernel_rfl) (by simp) ?_
  refine AllReadyH.cons rfl (fun K hK => ?_) AllReadyH.nil
  go_simp
  refine (HSA.out W0.drew (HWU.out _ (Below.refl _ _).drew)).mono ?_
  rintro e V1 ⟨rfl, hb⟩
  have HV1 : Hid (Below W0.heap.size W0 V1) := Below.undrew hb.below
  clear hb
  go_wp2_with fail
  refine hK.out _ _ (HKP.out V1 HV1.out) (fun hHeld => ?_)
  clear hK K
  try simp only [Act.put]
  try simp only [List.setIfInBounds_toArray]
  try simp only [List.set_cons_succ]
  try simp only [List.set_cons_zero]
  refine wpAnyH_ready (rs := [3]) (by kernel_rfl) (by simp) ?_
  refine AllReadyH.cons rfl (fun K hK => ?_) AllReadyH.nil
  go_simp
  refine (HSB.out V1 (HWU.out _ HV1.out)).mono ?_
  rintro e V3 ⟨rfl, hb⟩
  have HV3 : Hid (Below W0.heap.size W0 V3) := Below.then HV1.out hb.below HV1.out.size
  clear hb
  go_wp2_with fail
  refine hK.out _ _ (HKP.out V3 HV3.out) (fun hHeld => ?_)
  clear hK K
  try simp only [Act.put]
  try simp only [List.setIfInBounds_toArray]
  try simp only [List.set_cons_succ]
  try simp only [List.set_cons_zero]
  refine takeOp (i := 4) (v := ?_) (some 16) rfl rfl (by kernel_rfl) (by kernel_rfl) (by kernel_rfl) (fun _ _ _ h => h) (Or.inl ⟨by rfl, ?_⟩) (by assumption) ?_
  rotate_left 1
  · (intro w0 hSw; (try dsimp only at hSw); go_simp; try (with_reducible rfl))
  try simp only [Act.put]
  try simp only [List.setIfInBounds_toArray]
  try simp only [List.set_cons_succ]
  try simp only [List.set_cons_zero]
  refine takeOp (i := 5) (v := ?_) (some 6) rfl rfl (by kernel_rfl) (by kernel_rfl) (by kernel_rfl) (fun _ _ _ h => h) (Or.inl ⟨by rfl, ?_⟩) (by assumption) ?_
  rotate_left 1
  · (intro w0 hSw; (try dsimp only at hSw); go_simp; try (with_reducible rfl))
  try simp only [Act.put]
  try simp only [List.setIfInBounds_toArray]
  try simp only [List.set_cons_succ]
  try simp only [List.set_cons_zero]
  refine wpAnyH_done (by kernel_rfl) ?_ _
  rw [HBU.out]
  clear HBU hHeld
  have HMM := Lib.hid HMA.out
  rw [← HME.out] at HMM
  have HCA := Lib.hid (fun W (h : Below w.heap.size w W) => sjColumns_any VA PA VC PC P.length M us.length us vs W (HV.out W h) (by omega) HGA.out.lt HMM.out.1 HMM.out.2)
  have HCB := Lib.hid (fun W (h : Below w.heap.size w W) => sjColumns_any WA QA WC QC Q.length M vs.length vs us W (HW.out W h) (by omega) HGB.out.lt HMM.out.1 HMB.out)
  have HBK := Lib.hid (fun W (h : Below w.heap.size w W) CB CC (hc : SlI .i64 W.heap.size W CB (colsI vs us)) => sjByKey_any WA QA CB WC QC CC vs.length vs.length Q (colsI vs us) W (HQ.out W h) hc HGB.out.rsOk HGB.out.many (by unfold colsI colsF; rw [List.length_map]; exact Nat.le_trans (List.length_filter_le _ _) (by rw [List.length_range]; omega)) (fun x hx => ⟨by have := HGB.out.len x hx; have h2 : x.length = vs.length := this; omega, fun c hc => by
      unfold colsI at hc
      obtain ⟨i, hi, rfl⟩ := List.mem_map.1 hc
      have h1 := colsF_lt vs us i hi
      have h2 : x.length = vs.length := HGB.out.len x hx
      exact ⟨Int.natCast_nonneg _, by show ((i : Nat) : Int) < _; omega⟩, fun v hv => (HGB.out.I x hx v hv).small⟩))
  have HCC : Hid (∀ us vs, ((colsF us vs).map fun i : Nat => Value.int .i64 (i : Nat)) = (colsI us vs).map (Value.int .i64) ∧ (colsF us vs).length = (colsI us vs).length) := fun us vs => ⟨by unfold colsI; rw [List.map_map]; rfl, by unfold colsI; rw [List.length_map]⟩
  go_upto_region 2 with (fail)
  refine wp_region_held_drew (S := (fun w' => (w'.cell? ⟨w.heap.size, 0, none⟩ = some (.slice VA us.length VC) ∧ w'.cell? ⟨w.heap.size, 1, none⟩ = some (.int .i64 (us.length : Nat)) ∧ w'.cell? ⟨w.heap.size, 2, none⟩ = some (.slice PA P.length PC)) ∧ w'.cell? ⟨w.heap.size + 1, 0, none⟩ = some (.slice WA vs.length WC) ∧ w'.cell? ⟨w.heap.size + 1, 1, none⟩ = some (.int .i64 (vs.length : Nat)) ∧ w'.cell? ⟨w.heap.size + 1, 2, none⟩ = some (.slice QA Q.length QC))) (by kernel_rfl) (HKP.out V3.drew HV3.out.drew) (fun hHeld => ?_)
  refine takeOp (i := 0) (v := ?_) (some 17) rfl rfl (by kernel_rfl) (by kernel_rfl) (by kernel_rfl) (fun _ _ _ h => h) (Or.inl ⟨by rfl, ?_⟩) (by assumption) ?_
  rotate_left 1
  · (intro w0 hSw; (try dsimp only at hSw); go_simp; try (with_reducible rfl))
  try simp only [Act.put]
  try simp only [List.setIfInBounds_toArray]
  try simp only [List.set_cons_succ]
  try simp only [List.set_cons_zero]
  refine takeOp (i := 1) (v := ?_) (some 18) rfl rfl (by kernel_rfl) (by kernel_rfl) (by kernel_rfl) (fun _ _ _ h => h) (Or.inl ⟨by rfl, ?_⟩) (by assumption) ?_
  rotate_left 1
  · (intro w0 hSw; (try dsimp only at hSw); go_simp; try (with_reducible rfl))
  try simp only [Act.put]
  try simp only [List.setIfInBounds_toArray]
  try simp only [List.set_cons_succ]
  try simp only [List.set_cons_zero]
  refine takeOp (i := 3) (v := ?_) (some 20) rfl rfl (by kernel_rfl) (by kernel_rfl) (by kernel_rfl) (fun _ _ _ h => h) (Or.inl ⟨by rfl, ?_⟩) (by assumption) ?_
  rotate_left 1
  · (intro w0 hSw; (try dsimp only at hSw); go_simp; try (with_reducible rfl))
  try simp only [Act.put]
  try simp only [List.setIfInBounds_toArray]
  try simp only [List.set_cons_succ]
  try simp only [List.set_cons_zero]
  refine takeOp (i := 4) (v := ?_) (some 21) rfl rfl (by kernel_rfl) (by kernel_rfl) (by kernel_rfl) (fun _ _ _ h => h) (Or.inl ⟨by rfl, ?_⟩) (by assumption) ?_
  rotate_left 1
  · (intro w0 hSw; (try dsimp only at hSw); go_simp; try (with_reducible rfl))
  try simp only [Act.put]
  try simp only [List.setIfInBounds_toArray]
  try simp only [List.set_cons_succ]
  try simp only [List.set_cons_zero]
  refine takeOp (i := 5) (v := ?_) (some 22) rfl rfl (by kernel_rfl) (by kernel_rfl) (by kernel_rfl) (fun _ _ _ h => h) (Or.inl ⟨by rfl, ?_⟩) (by assumption) ?_
  rotate_left 1
  · (intro w0 hSw; (try dsimp only at hSw); go_simp; try (with_reducible rfl))
  try simp only [Act.put]
  try simp only [List.setIfInBounds_toArray]
  try simp only [List.set_cons_succ]
  try simp only [List.set_cons_zero]
  refine wpAnyH_ready (rs := [2]) (by kernel_rfl) (by simp) ?_
  refine AllReadyH.cons rfl (fun K hK => ?_) AllReadyH.nil
  go_simp
  refine (HCA.out V3.drew (HWU.out _ HV3.out.drew)).mono ?_
  rintro e V4 ⟨v4, rfl, ho, hb⟩
  rw [(HCC.out us vs).1, (HCC.out us vs).2] at ho
  obtain ⟨CA4, CC4, rfl, -, -, hs4⟩ := Sl.of_own ho
  rw [List.length_map] 
  have HS4 := Lib.hid hs4
  have HV4 : Hid (Below W0.heap.size W0 V4) := Below.then HV3.out (Below.undrew hb) HV3.out.size
  clear ho hb hs4
  go_wp2_with fail
  refine hK.out _ _ (HKP.out V4 HV4.out) (fun hHeld => ?_)
  clear hK K
  try simp only [Act.put]
  try simp only [List.setIfInBounds_toArray]
  try simp only [List.set_cons_succ]
  try simp only [List.set_cons_zero]
  refine wpAnyH_ready (rs := [6]) (by kernel_rfl) (by simp) ?_
  refine AllReadyH.cons rfl (fun K hK => ?_) AllReadyH.nil
  go_simp
  refine (HCB.out V4 (HWU.out _ HV4.out)).mono ?_
  rintro e V5 ⟨v5, rfl, ho, hb⟩
  rw [(HCC.out vs us).1, (HCC.out vs us).2] at ho
  obtain ⟨CA5, CC5, rfl, -, -, hs5⟩ := Sl.of_own ho
  rw [List.length_map] 
  have HS5 := Lib.hid hs5
  have HS45 := Lib.hid ((Sl.below HS4.out hb (Nat.le_refl _)).more hb.size)
  have HV5 : Hid (Below W0.heap.size W0 V5) := Below.then HV4.out hb HV4.out.size
  clear ho hb hs5
  go_wp2_with fail
  refine hK.out _ _ (HKP.out V5 HV5.out) (fun hHeld => ?_)
  clear hK K
  try simp only [Act.put]
  try simp only [List.setIfInBounds_toArray]
  try simp only [List.set_cons_succ]
  try simp only [List.set_cons_zero]
  refine wpAnyH_ready (rs := [7]) (by kernel_rfl) (by simp) ?_
  refine AllReadyH.cons rfl (fun K hK => ?_) AllReadyH.nil
  go_simp
  refine (HBK.out V5 (HWU.out _ HV5.out) CA5 CC5 HS5.out).mono ?_
  rintro e V6 ⟨B6, mb, mn, mD, mf, mks, rfl, hg6, hb⟩
  have HG6 : Hid (GrpM (keyF vs us) B6 mb V6 Q mn mD mf mks) := hg6
  have HS6 := Lib.hid ((Sl.below HS45.out hb (Nat.le_refl _)).more hb.size)
  have HV6 : Hid (Below W0.heap.size W0 V6) := Below.then HV5.out hb HV5.out.size
  clear hb hg6
  go_wp2_with fail
  refine hK.out _ _ (HKP.out V6 HV6.out) (fun hHeld => ?_)
  clear hK K
  try simp only [Act.put]
  try simp only [List.setIfInBounds_toArray]
  try simp only [List.set_cons_succ]
  try simp only [List.set_cons_zero]
  refine takeOp (i := 8) (v := ?_) (some 7) rfl rfl (by kernel_rfl) (by kernel_rfl) (by kernel_rfl) (fun _ _ _ h => h) (Or.inl ⟨by rfl, ?_⟩) (by assumption) ?_
  rotate_left 1
  · (intro w0 hSw; (try dsimp only at hSw); go_simp; try (with_reducible rfl))
  try simp only [Act.put]
  try simp only [List.setIfInBounds_toArray]
  try simp only [List.set_cons_succ]
  try simp only [List.set_cons_zero]
  refine takeOp (i := 9) (v := ?_) (some 8) rfl rfl (by kernel_rfl) (by kernel_rfl) (by kernel_rfl) (fun _ _ _ h => h) (Or.inl ⟨by rfl, ?_⟩) (by assumption) ?_
  rotate_left 1
  · (intro w0 hSw; (try dsimp only at hSw); go_simp; try (with_reducible rfl))
  try simp only [Act.put]
  try simp only [List.setIfInBounds_toArray]
  try simp only [List.set_cons_succ]
  try simp only [List.set_cons_zero]
  refine wpAnyH_done (by kernel_rfl) ?_ _
  have x1 := (HKP.out V6 HV6.out).1.2.1
  have x2 := (HKP.out V6 HV6.out).1.2.2
  have hz6 : w.heap.size < V6.heap.size := by have := HV6.out.size; omega
  have HRW := Lib.hid (rlRows_any us.length PA PC P V6 (HP.out V6 (HWU.out _ HV6.out)) HGA.out.rsOk (by have := HGA.out.many; exact Nat.le_trans this (by omega)))
  clear HSA HSB HCA HCB HBK HCC hHeld
  go_wp2_with fail
  refine HRW.out.mono ?_
  rintro e W2 ⟨g, rfl, hmade, hb2⟩
  obtain ⟨B, hBe⟩ : ∃ B, B = W2.heap.size := ⟨_, rfl⟩
  have HBE := Lib.hid hBe
  have HM := Lib.hid hmade
  have HV2 : Hid (Below W0.heap.size W0 W2) := Below.then HV6.out hb2 HV6.out.size
  have HG2 := Lib.hid (HG6.out.keep hb2)
  have HS2 := Lib.hid ((Sl.below HS6.out hb2 (Nat.le_refl _)).more hb2.size)
  have HZ2 : Hid (w.heap.size + 1 + 1 < W2.heap.size) := by have := HV2.out.size; show _ < _; omega
  obtain ⟨KP, hKPe⟩ : ∃ KP : Nat → List RL.R, KP = fun k => (P.take k).filter (fun x => decide (gF (keyF vs us) Q (keyF us vs x) ≠ [])) := ⟨_, rfl⟩
  have HKE := Lib.hid hKPe
  have HKS2 : Hid (KP P.length = semiF ⟨us, P⟩ ⟨vs, Q⟩) := by show _ = _; rw [hKPe, ← HKS.out]; simp only [List.take_length]
  have HKL : Hid (∀ k, (KP k).length ≤ 60000) := fun k => by
    rw [hKPe]
    have h1 := List.length_filter_le (fun x => decide (gF (keyF vs us) Q (keyF us vs x) ≠ [])) (P.take k)
    have h2 : (P.take k).length ≤ P.length := by rw [List.length_take]; exact Nat.min_le_right _ _
    have h3 : P.length ≤ 60000 := HGA.out.many
    show _ ≤ _
    simp only
    omega
  clear hmade hb2 hBe hKPe HRW HG6 HS6 HS45 HS5 HS4 HKS
  go_wp2_with fail
  go_loopw [9, 29] (fun vo c wx => ∃ (k : Nat) (hs : List Value), k ≤ P.length ∧ c = .int .i64 k ∧ wx.ownsRow B 64 1 vo (KP k).length hs ∧ Hdrs (fun _ => True) B wx hs (KP k) ∧ Below B W2 wx) (fun _ c _ => P.length - (intOf c).toNat)
  case atStart =>
    refine ⟨0, [], Nat.zero_le _, rfl, ?_, ?_, Below.refl _ _⟩
    · rw [HKE.out]; exact own_nil _ _ _ _
    · rw [HKE.out]; exact Hdrs.nil
  case round =>
    obtain ⟨k, hs, hk, rfl, hown, hhd, hbw⟩ := hrel
    have HO := Lib.hid hown
    have HH := Lib.hid hhd
    have HB := Lib.hid hbw
    have hBz : B ≤ wr.heap.size := by have h1 := HBE.out; have h2 := hbw.size; omega
    have HBR : Hid (Below W2.heap.size W2 wr) := by have h := hbw; rw [HBE.out] at h; exact h
    clear hown hhd hbw
    by_cases hkl : k < P.length
    rotate_left
    · obtain rfl : k = P.length := by omega
      have r1 : ¬ (P.length : Int) < (P.length : Int) := by omega
      have hr := HKP.out wr (Below.then HV2.out HBR.out HV2.out.size)
      have x0 := hr.1.1
      have hzr : w.heap.size < wr.heap.size := by have := HZ2.out; have := HBR.out.size; omega
      obtain ⟨KA, KC, rfl, -, -, hks⟩ := own_slrs HO.out HH.out hBz (fun _ _ => trivial)
      have hks := hks.sl
      rw [HKS2.out] at hks ⊢
      have hss : RL.SS (semiF ⟨us, P⟩ ⟨vs, Q⟩) := (Gd.semi (a := ⟨us, P⟩) (b := ⟨vs, Q⟩) HGA.out).ss
      have hsub : ∀ x ∈ semiF ⟨us, P⟩ ⟨vs, Q⟩, x ∈ P := fun x hx => (mem_semiF.1 hx).1
      have hlen : (semiF ⟨us, P⟩ ⟨vs, Q⟩).length ≤ 60000 := (Gd.semi (a := ⟨us, P⟩) (b := ⟨vs, Q⟩) HGA.out).many
      have hat := sjAtom_ok VA KA VC KC (us.map Int.ofNat) (semiF ⟨us, P⟩ ⟨vs, Q⟩) wr (HV.out wr (HWU.out _ (Below.then HV2.out HBR.out HV2.out.size))) hks (by rw [List.length_map]; exact hul) (fun x hx => HGA.out.rok (hsub x hx)) hlen (by rw [List.length_map]; exact HGA.out.err hsub)
      unfold AtomPost at hat
      rw [RL.ofF_self hss, List.length_map] at hat
      have HAT := Lib.hid hat
      have HRR2 := Lib.hid (HRR.out.up (Below.then HV2.out HBR.out HV2.out.size))
      have HBW := Lib.hid (HWU.out wr (Below.then HV2.out HBR.out HV2.out.size))
      clear hr hks hss hsub hlen hat HO HH HM HG2 HS2
      generalize hYE : semiF ⟨us, P⟩ ⟨vs, Q⟩ = Y at *
      have HYE := Lib.hid hYE
      clear hYE
      go_wp2_with fail
      refine HAT.out.mono ?_
      rintro e w1 ⟨RA, RC, SA, SC, rfl, hv1, k1, k2, k3, k4, hb1⟩
      have q := HRR2.out.up hb1
      have m0 : w1.cell? ⟨w.heap.size + 1 + 1, 0, none⟩ = some (.slice none 0 0) := q.cell 0
      have m1 : w1.cell? ⟨w.heap.size + 1 + 1, 1, none⟩ = some (.int .i64 0) := q.cell 1
      have m2 : w1.cell? ⟨w.heap.size + 1 + 1, 2, none⟩ = some (.slice none 0 0) := q.cell 2
      have m3 := q.frozen 0
      have m4 := q.frozen 1
      have m5 := q.frozen 2
      have m6 := q.lt
      have HQ := Lib.hid q
      have HV1 := Lib.hid hv1
      have HKK := Lib.hid (And.intro (And.intro k1 k2) (And.intro k3 k4))
      have HB1 := Lib.hid (Below.then HBW.out hb1 HBW.out.size)
      have HZW : Hid (w.heap.size + 3 ≤ wr.heap.size ∧ wr.heap.size ≤ w1.heap.size) := ⟨by have := HZ2.out; have := HBR.out.size; omega, hb1.size⟩
      clear q hv1 k1 k2 k3 k4 hb1 HAT
      go_wp2_with fail
      obtain ⟨V6, hV6⟩ : ∃ V', V' = ((w1.setCell ⟨w.heap.size + 1 + 1, 0, none⟩ (.slice RA us.length RC)).setCell ⟨w.heap.size + 1 + 1, 1, none⟩ (.int .i64 (us.length : Nat))).setCell ⟨w.heap.size + 1 + 1, 2, none⟩ (.slice SA Y.length SC) := ⟨_, rfl⟩
      rw [← hV6]
      have q : Row V6 (w.heap.size + 1 + 1) 37 [.slice RA us.length RC, .int .i64 (us.length : Nat), .slice SA Y.length SC] := by rw [hV6]; exact ((HQ.out.set 0 _).set 1 _).set 2 _
      have f0 := q.cell 0
      have f1 := q.cell 1
      have f2 := q.cell 2
      have hcell : ∀ p : Addr, p.block ≠ w.heap.size + 1 + 1 → V6.cell? p = w1.cell? p := fun p hp => by
        rw [hV6, World.cell?_setCell_other _ _ _ _ (fun e => hp (by rw [← e])), World.cell?_setCell_other _ _ _ _ (fun e => hp (by rw [← e])), World.cell?_setCell_other _ _ _ _ (fun e => hp (by rw [← e]))]
      have hsz : V6.heap.size = w1.heap.size := by rw [hV6]; simp
      refine bodyPost_ret (v := .tuple #[.agg #[.slice RA us.length RC, .int .i64 (us.length : Nat), .slice SA Y.length SC], .int .i64 0]) (by simp [results, Tryd.results24, go_sem, f0, f1, f2]) rfl ?_
      rw [HYE.out]
      refine ⟨_, rfl, ⟨RA, RC, SA, SC, rfl, HKK.out.2.1, HKK.out.2.2, HKK.out.1.1, HKK.out.1.2, fun W hag => ?_⟩, ?_⟩
      · rw [hsz]
        refine HV1.out W fun p h1 h2 => ?_
        have := HZW.out
        rw [hag p (by rw [hsz]; exact h2) (by omega)]
        exact hcell p (by omega)
      · rw [hV6]
        exact ((HB1.out.setCell (by show w.heap.size ≤ w.heap.size + 1 + 1; omega) _).setCell (by show w.heap.size ≤ w.heap.size + 1 + 1; omega) _).setCell (by show w.heap.size ≤ w.heap.size + 1 + 1; omega) _
    have r0 : (0 : Int) ≤ (k : Int) := by omega
    have r1 : (k : Int) < (P.length : Int) := by omega
    have r3 : IntKind.i64.wrap ((k : Int) + 1) = ((k + 1 : Nat) : Int) := by rw [IntWalk.i64_in _ (by have h3 : P.length ≤ 60000 := HGA.out.many; omega)]; omega
    obtain ⟨hsM, hrow, hhl, hBg, hat⟩ := HM.out
    obtain ⟨A1, C1, q1, q2, q3, q4, q5⟩ := hat k hkl hkl
    have d0 : wr.cell? ⟨g, k, none⟩ = some (.slice A1 P[k].length C1) := by
      rw [HBR.out.cell (p := ⟨g, k, none⟩) hrow.lt, hrow.cell]; exact q1
    have hgz : g < wr.heap.size := Nat.lt_of_lt_of_le hrow.lt HBR.out.size
    have HUX : Hid (∀ W, Below W2.heap.size W2 W → HR (fun _ => True) B W (.slice A1 P[k].length C1) P[k]) := fun W hb => ⟨A1, C1, rfl, q2, q3, by rw [HBE.out]; exact q4.below hb (Nat.le_refl _), fun _ _ _ => trivial⟩
    have hsl : SlR wr.heap.size wr A1 P[k] := (q4.below HBR.out (Nat.le_refl _)).more HBR.out.size
    have hPk : P[k] ∈ P := List.getElem_mem hkl
    have hxl : P[k].length = us.length := HGA.out.len _ hPk
    have HTK : Hid (KP (k + 1) = KP k ++ (if gF (keyF vs us) Q (keyF us vs P[k]) ≠ [] then [P[k]] else [])) := by
      show _ = _
      rw [HKE.out]
      simp only
      rw [List.take_succ_eq_append_getElem hkl, List.filter_append]
      congr 1
      by_cases hm : gF (keyF vs us) Q (keyF us vs P[k]) ≠ []
      · rw [if_pos hm, List.filter_cons_of_pos (by simpa using hm)]; rfl
      · rw [if_neg hm, List.filter_cons_of_neg (by simpa using hm)]; rfl
    have HKY := Lib.hid (sjKey_any A1 CA4 C1 CC4 P[k] (colsI us vs) wr hsl ((Sl.below HS2.out HBR.out (Nat.le_refl _)).more HBR.out.size) (by omega) (by unfold colsI colsF; rw [List.length_map]; exact Nat.le_trans (List.length_filter_le _ _) (by rw [List.length_range]; omega)) (fun c hc => by
      unfold colsI at hc
      obtain ⟨i, hi, rfl⟩ := List.mem_map.1 hc
      have h1 := colsF_lt us vs i hi
      exact ⟨Int.natCast_nonneg _, by show ((i : Nat) : Int) < _; omega⟩) (fun v hv => (HGA.out.I _ hPk v hv).small))
    have HKYL : Hid ((keyF us vs P[k]).length ≤ maxLen) := by
      show _ ≤ _
      unfold keyF
      rw [kyB_length, projF_length]
      have : (colsI us vs).length ≤ us.length := by unfold colsI colsF; rw [List.length_map]; exact Nat.le_trans (List.length_filter_le _ _) (by rw [List.length_range]; exact Nat.le_refl _)
      simp only [maxLen]
      omega
    change Hid (Calls Tryd.prog _ _ _ fun e w' => e = .returned (.string ⟨(keyF us vs P[k]).toArray⟩) ∧ _) at HKY
    clear hrow hhl hBg hat q1 q2 q3 q4 q5 hsl hPk hxl
    generalize P[k] = x at *
    generalize keyF us vs x = s at *
    go_wp2_with fail
    refine HKY.out.mono ?_
    rintro e w1 ⟨rfl, hb1⟩
    have HB1 : Hid (Below B W2 w1) := Below.then HB.out hb1 hBz
    have HBR1 : Hid (Below W2.heap.size W2 w1) := Below.then HBR.out hb1 HBR.out.size
    have HO1 := Lib.hid (own_keep HO.out hb1)
    have HH1 := Lib.hid (HH.out.keep fun p hp _ => hb1.cell (Nat.lt_of_lt_of_le hp hBz))
    obtain ⟨LA, LC, hlk, -, -, -⟩ := (HG2.out.keep HBR1.out).look s HKYL.out
    have hz1 := hb1.size
    clear hb1 HKY d0 HO HH
    unfold bs at hlk
    by_cases hm : gF (keyF vs us) Q s ≠ []
    · have hpos : 0 < (gF (keyF vs us) Q s).length := List.length_pos_iff.2 hm
      have HT2 : Hid (KP (k + 1) = KP k ++ [x]) := by have h := HTK.out; rw [if_pos hm] at h; exact h
      have hgl := gF_len (keyF vs us) Q s
      generalize (gF (keyF vs us) Q s).length = ml at *
      have hd : decide ((0 : Int) < (ml : Int)) = true := decide_eq_true (by omega)
      have hd1 : decide (0 < ml) = true := decide_eq_true hpos
      have hd2 : 0 < ml := hpos
      have hkk := HKL.out k
      have HOW1 := Lib.hid (fun (o : Obj) => own_keep HO1.out ((Ext.refl w1).alloc o).below)
      have HRW1 := Lib.hid (Row.new w1 64 [.slice A1 x.length C1])
      have HBZ1 : Hid (∀ o : Obj, B ≤ (w1.alloc o).heap.size) := fun o => Nat.le_trans (Nat.le_trans hBz hz1) ((Ext.refl w1).alloc o).size
      have HKK : Hid (((KP k).length + 1) * 24 ≤ 140737488355328) := by show _ ≤ _; omega
      clear hm hpos hgl HTK hkk
      go_wp2_with (at_builtin; refine appH1 rfl (.tmp 40) (.tmp 42) rfl B u9 (KP k).length hs rfl (HOW1.out _) w1.heap.size (.slice A1 x.length C1) rfl (HRW1.out.cell 0) rfl HKK.out (HBZ1.out _) ?_
                   intro v5 w5 hown hg hat
                   have HO5 := Lib.hid hown
                   have HB5 : Hid (Below B W2 w5) := Below.grown (Below.then HB1.out ((Ext.refl w1).alloc _).below (Nat.le_trans hBz hz1)) hg (HBZ1.out _) (fun j hj => own_base HO1.out hj)
                   clear hown hg hat)
      have HH5 : Hid (Hdrs (fun _ => True) B w5 (hs ++ [.slice A1 x.length C1]) (KP k ++ [x])) := (HH1.out.keep fun p hp _ => by
          have h1 := HB5.out.cell (p := p) hp
          have h2 := HB1.out.cell (p := p) hp
          exact h1.trans h2.symm).append (Hdrs.one (HUX.out w5 (by have h := HB5.out; rw [HBE.out] at h; exact h)))
      go_roundw
      case rel => exact ⟨k + 1, hs ++ [.slice A1 x.length C1], hkl, by go_num, by rw [HT2.out, List.length_append]; exact HO5.out, by rw [HT2.out]; exact HH5.out, HB5.out⟩
      case measure => simp [intOf]; omega
    · have hmz : gF (keyF vs us) Q s = [] := Classical.byContradiction hm
      have HT2 : Hid (KP (k + 1) = KP k) := by have h := HTK.out; rw [if_neg hm, List.append_nil] at h; exact h
      rw [hmz] at hlk
      clear hm hmz HTK
      go_wp2_with fail
      go_roundw
      case rel => exact ⟨k + 1, hs, hkl, by go_num, by rw [HT2.out]; exact HO1.out, by rw [HT2.out]; exact HH1.out, HB1.out⟩
      case measure => simp [intOf]; omega

end Go.Proofs.YthgaflmldbgbnaaDoor
end

section
/- Walk of chapter 36: Semijoin. -/
namespace Go.Proofs.YthgaflmldbgbnaaDoor
open Go.RowKit Go.Sort Go.ChangeMaps Go.WideShapes

/-- The value v is the atom a, which may have an error. -/
def RaV (w : World) (v : Value) (a : RA) : Prop := ∃ VA VC PA PC, v = .agg #[.slice VA a.vs.length VC, .int .i64 a.ar, .slice PA a.P.length PC] ∧ a.vs.length ≤ VC ∧ VC ≤ 9223372036854775807 ∧ a.P.length ≤ PC ∧ PC ≤ 9223372036854775807 ∧ SlI .i64 w.heap.size w VA a.vs ∧ SlRs w.heap.size w PA a.P
theorem RaV.up {w w' : World} {v : Value} {a : RA} (h : RaV w v a) (hb : Below w.heap.size w w') : RaV w' v a := by
  obtain ⟨VA, VC, PA, PC, e, c1, c2, c3, c4, h1, h2⟩ := h
  exact ⟨VA, VC, PA, PC, e, c1, c2, c3, c4, (Sl.below h1 hb (Nat.le_refl _)).more hb.size, h2.upB hb⟩
/-- An atom in the form that may have an error. -/
def At.ra (a : At) : RA := ⟨a.vs.map Int.ofNat, (a.vs.length : Nat), a.P⟩
theorem At.ra_at (a : At) : a.ra.at = a := by
  unfold At.ra RA.at
  simp only [List.map_map]
  have e : a.vs.map (Int.toNat ∘ Int.ofNat) = a.vs := by
    conv => rhs; rw [← List.map_id a.vs]
    exact List.map_congr_left fun v _ => Int.toNat_natCast v
  rw [e]
theorem RA.good {a : RA} (h : errAt 32 a = 0) : a.at.ra = a := by
  obtain ⟨h1, h2, h3⟩ := errAt_zero h
  unfold At.ra RA.at
  have e : (a.vs.map Int.toNat).map Int.ofNat = a.vs := by
    rw [List.map_map]
    conv => rhs; rw [← List.map_id a.vs]
    exact List.map_congr_left fun v hv => Int.toNat_of_nonneg (h2 v hv).1
  simp only [e, List.length_map, h3]
theorem Gd.of {a : RA} (hs : Small a) (h : errAt 32 a = 0) : Gd a.at := by
  obtain ⟨h1, h2, h3⟩ := errAt_zero h
  refine ⟨?_, fun v hv => ?_, hs.hd h, hs.ss, hs.I, hs.many⟩
  · show (a.vs.map Int.toNat).Pairwise _
    refine List.pairwise_map.2 (h1.imp_of_mem fun {x y} hx hy hlt => ?_)
    have := h2 x hx
    have := h2 y hy
    omega
  · obtain ⟨x, hx, rfl⟩ := List.mem_map.1 hv
    have := h2 x hx
    omega
theorem AtV.ra {w : World} {v : Value} {a : At} (h : AtV w v a) : RaV w v a.ra := by
  obtain ⟨VA, VC, PA, PC, e, c1, c2, c3, c4, h1, h2⟩ := h
  refine ⟨VA, VC, PA, PC, ?_, ?_, c2, c3, c4, h1, h2⟩
  · rw [e]; unfold At.ra; simp only [List.length_map]
  · unfold At.ra; simp only [List.length_map]; exact c1
theorem RaV.at {w : World} {v : Value} {a : RA} (h : RaV w v a) (he : errAt 32 a = 0) : AtV w v a.at := by
  have e := RA.good he
  obtain ⟨VA, VC, PA, PC, e1, c1, c2, c3, c4, h1, h2⟩ := h
  have hl : a.at.vs.length = a.vs.length := by show (a.vs.map Int.toNat).length = _; rw [List.length_map]
  have ha : a.ar = (a.at.vs.length : Nat) := by
    have := congrArg RA.ar e
    exact this.symm
  refine ⟨VA, VC, PA, PC, ?_, by rw [hl]; exact c1, c2, c3, c4, ?_, h2⟩
  · rw [e1, ha, hl]; rfl
  · have := congrArg RA.vs e
    show SlI .i64 _ _ _ (a.at.ra.vs)
    rw [this]
    exact h1
theorem Gd.err0 {a : At} (h : Gd a) : errAt 32 a.ra = 0 := by
  rw [errAt_arity (n := 32)]
  · rw [if_pos]; unfold At.ra; simp
  · unfold At.ra; exact List.pairwise_map.2 (h.asc.imp fun hlt => Int.ofNat_lt.2 hlt)
  · intro v hv
    unfold At.ra at hv
    obtain ⟨x, hx, rfl⟩ := List.mem_map.1 hv
    have := h.lt x hx
    exact ⟨Int.natCast_nonneg _, by show (x : Int) < 32; omega⟩
theorem Gd.small {a : At} (h : Gd a) : Small a.ra where
  ss := h.ss
  len r hr := by have := h.len r hr; unfold At.ra; simp only; omega
  ar := by have := h.vl; unfold At.ra; simp only; omega
  many := h.many
  vl := by have := h.vl; unfold At.ra; simp only [List.length_map]; omega
  I := h.I
def zeroAt : Value := .agg #[.slice none 0 0, .int .i64 0, .slice none 0 0]
/-- Two atoms side by side in a block, as the list that check takes. -/
theorem two_ats {w : World} {g : Nat} {VA VC PA PC WA WC QA QC} {a b : RA} (hr : Row w g 37 [.slice VA a.vs.length VC, .int .i64 a.ar, .slice PA a.P.length PC, .slice WA b.vs.length WC, .int .i64 b.ar, .slice QA b.P.length QC])
    (c1 : a.vs.length ≤ VC ∧ VC ≤ 9223372036854775807 ∧ a.P.length ≤ PC ∧ PC ≤ 9223372036854775807) (c2 : b.vs.length ≤ WC ∧ WC ≤ 9223372036854775807 ∧ b.P.length ≤ QC ∧ QC ≤ 9223372036854775807)
    (h1 : SlI .i64 w.heap.size w VA a.vs) (h2 : SlRs w.heap.size w PA a.P) (h3 : SlI .i64 w.heap.size w WA b.vs) (h4 : SlRs w.heap.size w QA b.P) : AtsM w.heap.size w (some ⟨g, 0, none⟩) [a, b] := fun _ => by
  refine ⟨g, 0, rfl, hr.lt, fun i hi => ?_⟩
  match i, hi with
  | 0, _ => exact ⟨VA, VC, PA, PC, hr.cell 0, hr.cell 1, hr.cell 2, c1.1, c1.2.1, c1.2.2.1, c1.2.2.2, h1, h2⟩
  | 1, _ => exact ⟨WA, WC, QA, QC, hr.cell 3, hr.cell 4, hr.cell 5, c2.1, c2.2.1, c2.2.2.1, c2.2.2.2, h3, h4⟩
  | n + 2, hi => exact absurd hi (by simp)
def XPost (w : World) (code : Int) (c : At) (e : Ending) (w' : World) : Prop :=
  (code = 0 → ∃ v, e = .returned (.tuple #[v, .int .i64 0]) ∧ AtP (fun c => w.heap.size + 3 ≤ c) w'.heap.size w' v c) ∧ (code ≠ 0 → e = .returned (.tuple #[zeroAt, .int .i64 code])) ∧ Below w.heap.size w w'

set_option maxHeartbeats 16000000 in
set_option maxRecDepth 100000 in
theorem sjSemiX_any (va vb : Value) (a b : RA) (w : World) (ha : RaV w va a) (hb : RaV w vb b) (hvl : a.vs.length ≤ 1000000 ∧ b.vs.length ≤ 1000000) (c : At)
    (hcall : ∀ W, Below w.heap.size w W → w.heap.size + 3 ≤ W.heap.size → errC [a, b] = 0 → Calls Tryd.prog 24 #[va, vb] W fun e w' => ∃ v, e = .returned (.tuple #[v, .int .i64 0]) ∧ AtP (fun c => W.heap.size + 3 ≤ c) w'.heap.size w' v c ∧ Below W.heap.size W w') :
    Calls Tryd.prog 9 #[va, vb] w (XPost w (errC [a, b]) c) := by
  obtain ⟨VA, VC, PA, PC, rfl, c1, c2, c3, c4, h1, h2⟩ := ha
  obtain ⟨WA, WC, QA, QC, rfl, d1, d2, d3, d4, h3, h4⟩ := hb
  obtain ⟨W0, hW0⟩ : ∃ W0, W0 = ((w.alloc (.cells #[.slice VA a.vs.length VC, .int .i64 a.ar, .slice PA a.P.length PC] 37)).alloc (.cells #[.slice WA b.vs.length WC, .int .i64 b.ar, .slice QA b.P.length QC] 37)).alloc (.cells #[.slice none 0 0, .int .i64 0, .slice none 0 0] 37) := ⟨_, rfl⟩
  have hx0 : Ext w W0 := by rw [hW0]; exact (((Ext.refl w).alloc _).alloc _).alloc _
  have hra : Row W0 w.heap.size 37 [.slice VA a.vs.length VC, .int .i64 a.ar, .slice PA a.P.length PC] := by rw [hW0]; exact ((Row.new w 37 _).alloc _).alloc _
  have hrb : Row W0 (w.heap.size + 1) 37 [.slice WA b.vs.length WC, .int .i64 b.ar, .slice QA b.P.length QC] := by
    have h := (Row.new (w.alloc (.cells #[.slice VA a.vs.length VC, .int .i64 a.ar, .slice PA a.P.length PC] 37)) 37 [.slice WA b.vs.length WC, .int .i64 b.ar, .slice QA b.P.length QC]).alloc (.cells #[.slice none 0 0, .int .i64 0, .slice none 0 0] 37)
    rw [World.size_alloc] at h
    rw [hW0]; exact h
  have hrr : Row W0 (w.heap.size + 1 + 1) 37 [.slice none 0 0, .int .i64 0, .slice none 0 0] := by
    have h := Row.new ((w.alloc (.cells #[.slice VA a.vs.length VC, .int .i64 a.ar, .slice PA a.P.length PC] 37)).alloc (.cells #[.slice WA b.vs.length WC, .int .i64 b.ar, .slice QA b.P.length QC] 37)) 37 [.slice none 0 0, .int .i64 0, .slice none 0 0]
    rw [World.size_alloc, World.size_alloc] at h
    rw [hW0]; exact h
  obtain ⟨W1, hW1⟩ : ∃ W1, W1 = W0.alloc (.cells #[.slice VA a.vs.length VC, .int .i64 a.ar, .slice PA a.P.length PC, .slice WA b.vs.length WC, .int .i64 b.ar, .slice QA b.P.length QC] 37) := ⟨_, rfl⟩
  have hx1 : Ext W0 W1 := by rw [hW1]; exact (Ext.refl W0).alloc _
  have hr1 : Row W1 W0.heap.size 37 [.slice VA a.vs.length VC, .int .i64 a.ar, .slice PA a.P.length PC, .slice WA b.vs.length WC, .int .i64 b.ar, .slice QA b.P.length QC] := by rw [hW1]; exact Row.new W0 _ _
  have hb1 : Below w.heap.size w W1 := Below.then hx0.below hx1.below hx0.size
  have hck := sjCheck_any (some ⟨W0.heap.size, 0, none⟩) 2 [a, b] W1 (two_ats hr1 ⟨c1, c2, c3, c4⟩ ⟨d1, d2, d3, d4⟩ ((Sl.below h1 hb1 (Nat.le_refl _)).more hb1.size) (h2.upB hb1) ((Sl.below h3 hb1 (Nat.le_refl _)).more hb1.size) (h4.upB hb1)) (by show 2 ≤ _; decide) (fun x hx => by
    rcases List.mem_cons.1 hx with rfl | hx
    · exact hvl.1
    · rw [List.mem_singleton.1 hx]; exact hvl.2)
  have HCK := Lib.hid hck
  have HB1 := Lib.hid hb1
  have HRA := Lib.hid (hra.up hx1.below)
  have HRB := Lib.hid (hrb.up hx1.below)
  have HRR := Lib.hid (hrr.up hx1.below)
  have HCALL := Lib.hid hcall
  have e0 : W0.cell? ⟨w.heap.size, 0, none⟩ = some (.slice VA a.vs.length VC) := hra.cell 0
  have e1 : W0.cell? ⟨w.heap.size, 1, none⟩ = some (.int .i64 a.ar) := hra.cell 1
  have e2 : W0.cell? ⟨w.heap.size, 2, none⟩ = some (.slice PA a.P.length PC) := hra.cell 2
  have e3 : W0.cell? ⟨w.heap.size + 1, 0, none⟩ = some (.slice WA b.vs.length WC) := hrb.cell 0
  have e4 : W0.cell? ⟨w.heap.size + 1, 1, none⟩ = some (.int .i64 b.ar) := hrb.cell 1
  have e5 : W0.cell? ⟨w.heap.size + 1, 2, none⟩ = some (.slice QA b.P.length QC) := hrb.cell 2
  have e6 := hra.lt
  have e7 := hrb.lt
  have HZ : Hid (w.heap.size + 3 ≤ W1.heap.size) := by have := hrr.lt; have := hx1.size; show _ ≤ _; omega
  clear hx0 hra hrb hrr hx1 hr1 hb1 hck hcall h1 h2 h3 h4 c1 c2 c3 c4 d1 d2 d3 d4 hvl
  go_enter Tryd.func9, Tryd.ntmps9
  go_upto_region 1 with (fail)
  rw [← hW0]
  clear hW0
  go_wp2_with fail
  rw [← hW1]
  clear hW1 e0 e1 e2 e3 e4 e5 e6 e7
  refine HCK.out.mono ?_
  rintro e w2 ⟨rfl, hb2⟩
  have HB2 := Lib.hid (Below.then HB1.out hb2 HB1.out.size)
  have HZ2 : Hid (w.heap.size + 3 ≤ w2.heap.size) := Nat.le_trans HZ.out hb2.size
  have ra := HRA.out.up hb2
  have rb := HRB.out.up hb2
  have rr := HRR.out.up hb2
  have HRR2 := Lib.hid rr
  clear hb2 HCK HRA HRB HRR
  generalize hcode : errC [a, b] = code at *
  by_cases h0 : code = 0
  rotate_left
  · have hne : (code != 0) = true := by simpa using h0
    have HN : Hid (code ≠ 0) := h0
    have m3 := rr.frozen 0
    have m4 := rr.frozen 1
    have m5 := rr.frozen 2
    have m6 := rr.lt
    have m0 : w2.cell? ⟨w.heap.size + 1 + 1, 0, none⟩ = some (.slice none 0 0) := rr.cell 0
    have m1 : w2.cell? ⟨w.heap.size + 1 + 1, 1, none⟩ = some (.int .i64 0) := rr.cell 1
    have m2 : w2.cell? ⟨w.heap.size + 1 + 1, 2, none⟩ = some (.slice none 0 0) := rr.cell 2
    clear h0 ra rb rr hcode
    go_wp2_with fail
    obtain ⟨V6, hV6⟩ : ∃ V', V' = ((w2.setCell ⟨w.heap.size + 1 + 1, 0, none⟩ (.slice none 0 0)).setCell ⟨w.heap.size + 1 + 1, 1, none⟩ (.int .i64 0)).setCell ⟨w.heap.size + 1 + 1, 2, none⟩ (.slice none 0 0) := ⟨_, rfl⟩
    rw [← hV6]
    have q : Row V6 (w.heap.size + 1 + 1) 37 [.slice none 0 0, .int .i64 0, .slice none 0 0] := by rw [hV6]; exact ((HRR2.out.set 0 _).set 1 _).set 2 _
    have f0 := q.cell 0
    have f1 := q.cell 1
    have f2 := q.cell 2
    exact bodyPost_ret (v := .tuple #[zeroAt, .int .i64 code]) (by simp [zeroAt, results, Tryd.results9, go_sem, f0, f1, f2]) rfl ⟨fun h => absurd h HN.out, fun _ => rfl, by rw [hV6]; exact ((HB2.out.setCell (by show w.heap.size ≤ w.heap.size + 1 + 1; omega) _).setCell (by show w.heap.size ≤ w.heap.size + 1 + 1; omega) _).setCell (by show w.heap.size ≤ w.heap.size + 1 + 1; omega) _⟩
  subst h0
  have HC2 := Lib.hid (HCALL.out w2 HB2.out HZ2.out rfl)
  have e0 : w2.cell? ⟨w.heap.size, 0, none⟩ = some (.slice VA a.vs.length VC) := ra.cell 0
  have e1 : w2.cell? ⟨w.heap.size, 1, none⟩ = some (.int .i64 a.ar) := ra.cell 1
  have e2 : w2.cell? ⟨w.heap.size, 2, none⟩ = some (.slice PA a.P.length PC) := ra.cell 2
  have e3 : w2.cell? ⟨w.heap.size + 1, 0, none⟩ = some (.slice WA b.vs.length WC) := rb.cell 0
  have e4 : w2.cell? ⟨w.heap.size + 1, 1, none⟩ = some (.int .i64 b.ar) := rb.cell 1
  have e5 : w2.cell? ⟨w.heap.size + 1, 2, none⟩ = some (.slice QA b.P.length QC) := rb.cell 2
  have e6 := ra.lt
  have e7 := rb.lt
  clear ra rb rr HCALL hcode
  go_wp2_with fail
  refine HC2.out.mono ?_
  rintro e w3 ⟨v, rfl, hat, hb3⟩
  obtain ⟨RA, RC, SA, SC, rfl, k1, k2, k3, k4, hk⟩ := hat
  have q3 := HRR2.out.up hb3
  have m3 := q3.frozen 0
  have m4 := q3.frozen 1
  have m5 := q3.frozen 2
  have m6 := q3.lt
  have m0 : w3.cell? ⟨w.heap.size + 1 + 1, 0, none⟩ = some (.slice none 0 0) := q3.cell 0
  have m1 : w3.cell? ⟨w.heap.size + 1 + 1, 1, none⟩ = some (.int .i64 0) := q3.cell 1
  have m2 : w3.cell? ⟨w.heap.size + 1 + 1, 2, none⟩ = some (.slice none 0 0) := q3.cell 2
  have HQ := Lib.hid q3
  have HK := Lib.hid hk
  have HKK := Lib.hid (And.intro (And.intro k1 k2) (And.intro k3 k4))
  have HB3 := Lib.hid (Below.then HB2.out hb3 HB2.out.size)
  clear q3 hk k1 k2 k3 k4 hb3 HC2
  go_wp2_with fail
  obtain ⟨V6, hV6⟩ : ∃ V', V' = ((w3.setCell ⟨w.heap.size + 1 + 1, 0, none⟩ (.slice RA c.vs.length RC)).setCell ⟨w.heap.size + 1 + 1, 1, none⟩ (.int .i64 (c.vs.length : Nat))).setCell ⟨w.heap.size + 1 + 1, 2, none⟩ (.slice SA c.P.length SC) := ⟨_, rfl⟩
  rw [← hV6]
  have q : Row V6 (w.heap.size + 1 + 1) 37 [.slice RA c.vs.length RC, .int .i64 (c.vs.length : Nat), .slice SA c.P.length SC] := by rw [hV6]; exact ((HQ.out.set 0 _).set 1 _).set 2 _
  have f0 := q.cell 0
  have f1 := q.cell 1
  have f2 := q.cell 2
  have hcell : ∀ p : Addr, p.block ≠ w.heap.size + 1 + 1 → V6.cell? p = w3.cell? p := fun p hp => by
    rw [hV6, World.cell?_setCell_other _ _ _ _ (fun e => hp (by rw [← e])), World.cell?_setCell_other _ _ _ _ (fun e => hp (by rw [← e])), World.cell?_setCell_other _ _ _ _ (fun e => hp (by rw [← e]))]
  have hsz : V6.heap.size = w3.heap.size := by rw [hV6]; simp
  refine bodyPost_ret (v := .tuple #[.agg #[.slice RA c.vs.length RC, .int .i64 (c.vs.length : Nat), .slice SA c.P.length SC], .int .i64 0]) (by simp [results, Tryd.results9, go_sem, f0, f1, f2]) rfl ⟨fun _ => ⟨_, rfl, RA, RC, SA, SC, rfl, HKK.out.1.1, HKK.out.1.2, HKK.out.2.1, HKK.out.2.2, fun W hag => ?_⟩, fun h => absurd rfl h, ?_⟩
  · rw [hsz]
    refine HK.out W fun p h1 h2 => ?_
    have := HZ2.out
    rw [hag p (by rw [hsz]; exact h1) (by omega)]
    exact hcell p (by omega)
  · rw [hV6]
    exact ((HB3.out.setCell (by show w.heap.size ≤ w.heap.size + 1 + 1; omega) _).setCell (by show w.heap.size ≤ w.heap.size + 1 + 1; omega) _).setCell (by show w.heap.size ≤ w.heap.size + 1 + 1; omega) _
set_option maxHeartbeats 16000000 in
set_option maxRecDepth 100000 in
theorem sjJoinX_any (va vb : Value) (a b : RA) (w : World) (ha : RaV w va a) (hb : RaV w vb b) (hvl : a.vs.length ≤ 1000000 ∧ b.vs.length ≤ 1000000) (c : At)
    (hcall : ∀ W, Below w.heap.size w W → w.heap.size + 3 ≤ W.heap.size → errC [a, b] = 0 → Calls Tryd.prog 23 #[va, vb] W fun e w' => ∃ v, e = .returned (.tuple #[v, .int .i64 0]) ∧ AtP (fun c => W.heap.size + 3 ≤ c) w'.heap.size w' v c ∧ Below W.heap.size W w') :
    Calls Tryd.prog 8 #[va, vb] w (XPost w (errC [a, b]) c) := by
  obtain ⟨VA, VC, PA, PC, rfl, c1, c2, c3, c4, h1, h2⟩ := ha
  obtain ⟨WA, WC, QA, QC, rfl, d1, d2, d3, d4, h3, h4⟩ := hb
  obtain ⟨W0, hW0⟩ : ∃ W0, W0 = ((w.alloc (.cells #[.slice VA a.vs.length VC, .int .i64 a.ar, .slice PA a.P.length PC] 37)).alloc (.cells #[.slice WA b.vs.length WC, .int .i64 b.ar, .slice QA b.P.length QC] 37)).alloc (.cells #[.slice none 0 0, .int .i64 0, .slice none 0 0] 37) := ⟨_, rfl⟩
  have hx0 : Ext w W0 := by rw [hW0]; exact (((Ext.refl w).alloc _).alloc _).alloc _
  have hra : Row W0 w.heap.size 37 [.slice VA a.vs.length VC, .int .i64 a.ar, .slice PA a.P.length PC] := by rw [hW0]; exact ((Row.new w 37 _).alloc _).alloc _
  have hrb : Row W0 (w.heap.size + 1) 37 [.slice WA b.vs.length WC, .int .i64 b.ar, .slice QA b.P.length QC] := by
    have h := (Row.new (w.alloc (.cells #[.slice VA a.vs.length VC, .int .i64 a.ar, .slice PA a.P.length PC] 37)) 37 [.slice WA b.vs.length WC, .int .i64 b.ar, .slice QA b.P.length QC]).alloc (.cells #[.slice none 0 0, .int .i64 0, .slice none 0 0] 37)
    rw [World.size_alloc] at h
    rw [hW0]; exact h
  have hrr : Row W0 (w.heap.size + 1 + 1) 37 [.slice none 0 0, .int .i64 0, .slice none 0 0] := by
    have h := Row.new ((w.alloc (.cells #[.slice VA a.vs.length VC, .int .i64 a.ar, .slice PA a.P.length PC] 37)).alloc (.cells #[.slice WA b.vs.length WC, .int .i64 b.ar, .slice QA b.P.length QC] 37)) 37 [.slice none 0 0, .int .i64 0, .slice none 0 0]
    rw [World.size_alloc, World.size_alloc] at h
    rw [hW0]; exact h
  obtain ⟨W1, hW1⟩ : ∃ W1, W1 = W0.alloc (.cells #[.slice VA a.vs.length VC, .int .i64 a.ar, .slice PA a.P.length PC, .slice WA b.vs.length WC, .int .i64 b.ar, .slice QA b.P.length QC] 37) := ⟨_, rfl⟩
  have hx1 : Ext W0 W1 := by rw [hW1]; exact (Ext.refl W0).alloc _
  have hr1 : Row W1 W0.heap.size 37 [.slice VA a.vs.length VC, .int .i64 a.ar, .slice PA a.P.length PC, .slice WA b.vs.length WC, .int .i64 b.ar, .slice QA b.P.length QC] := by rw [hW1]; exact Row.new W0 _ _
  have hb1 : Below w.heap.size w W1 := Below.then hx0.below hx1.below hx0.size
  have hck := sjCheck_any (some ⟨W0.heap.size, 0, none⟩) 2 [a, b] W1 (two_ats hr1 ⟨c1, c2, c3, c4⟩ ⟨d1, d2, d3, d4⟩ ((Sl.below h1 hb1 (Nat.le_refl _)).more hb1.size) (h2.upB hb1) ((Sl.below h3 hb1 (Nat.le_refl _)).more hb1.size) (h4.upB hb1)) (by show 2 ≤ _; decide) (fun x hx => by
    rcases List.mem_cons.1 hx with rfl | hx
    · exact hvl.1
    · rw [List.mem_singleton.1 hx]; exact hvl.2)
  have HCK := Lib.hid hck
  have HB1 := Lib.hid hb1
  have HRA := Lib.hid (hra.up hx1.below)
  have HRB := Lib.hid (hrb.up hx1.below)
  have HRR := Lib.hid (hrr.up hx1.below)
  have HCALL := Lib.hid hcall
  have e0 : W0.cell? ⟨w.heap.size, 0, none⟩ = some (.slice VA a.vs.length VC) := hra.cell 0
  have e1 : W0.cell? ⟨w.heap.size, 1, none⟩ = some (.int .i64 a.ar) := hra.cell 1
  have e2 : W0.cell? ⟨w.heap.size, 2, none⟩ = some (.slice PA a.P.length PC) := hra.cell 2
  have e3 : W0.cell? ⟨w.heap.size + 1, 0, none⟩ = some (.slice WA b.vs.length WC) := hrb.cell 0
  have e4 : W0.cell? ⟨w.heap.size + 1, 1, none⟩ = some (.int .i64 b.ar) := hrb.cell 1
  have e5 : W0.cell? ⟨w.heap.size + 1, 2, none⟩ = some (.slice QA b.P.length QC) := hrb.cell 2
  have e6 := hra.lt
  have e7 := hrb.lt
  have HZ : Hid (w.heap.size + 3 ≤ W1.heap.size) := by have := hrr.lt; have := hx1.size; show _ ≤ _; omega
  clear hx0 hra hrb hrr hx1 hr1 hb1 hck hcall h1 h2 h3 h4 c1 c2 c3 c4 d1 d2 d3 d4 hvl
  go_enter Tryd.func8, Tryd.ntmps8
  go_upto_region 1 with (fail)
  rw [← hW0]
  clear hW0
  go_wp2_with fail
  rw [← hW1]
  clear hW1 e0 e1 e2 e3 e4 e5 e6 e7
  refine HCK.out.mono ?_
  rintro e w2 ⟨rfl, hb2⟩
  have HB2 := Lib.hid (Below.then HB1.out hb2 HB1.out.size)
  have HZ2 : Hid (w.heap.size + 3 ≤ w2.heap.size) := Nat.le_trans HZ.out hb2.size
  have ra := HRA.out.up hb2
  have rb := HRB.out.up hb2
  have rr := HRR.out.up hb2
  have HRR2 := Lib.hid rr
  clear hb2 HCK HRA HRB HRR
  generalize hcode : errC [a, b] = code at *
  by_cases h0 : code = 0
  rotate_left
  · have hne : (code != 0) = true := by simpa using h0
    have HN : Hid (code ≠ 0) := h0
    have m3 := rr.frozen 0
    have m4 := rr.frozen 1
    have m5 := rr.frozen 2
    have m6 := rr.lt
    have m0 : w2.cell? ⟨w.heap.size + 1 + 1, 0, none⟩ = some (.slice none 0 0) := rr.cell 0
    have m1 : w2.cell? ⟨w.heap.size + 1 + 1, 1, none⟩ = some (.int .i64 0) := rr.cell 1
    have m2 : w2.cell? ⟨w.heap.size + 1 + 1, 2, none⟩ = some (.slice none 0 0) := rr.cell 2
    clear h0 ra rb rr hcode
    go_wp2_with fail
    obtain ⟨V6, hV6⟩ : ∃ V', V' = ((w2.setCell ⟨w.heap.size + 1 + 1, 0, none⟩ (.slice none 0 0)).setCell ⟨w.heap.size + 1 + 1, 1, none⟩ (.int .i64 0)).setCell ⟨w.heap.size + 1 + 1, 2, none⟩ (.slice none 0 0) := ⟨_, rfl⟩
    rw [← hV6]
    have q : Row V6 (w.heap.size + 1 + 1) 37 [.slice none 0 0, .int .i64 0, .slice none 0 0] := by rw [hV6]; exact ((HRR2.out.set 0 _).set 1 _).set 2 _
    have f0 := q.cell 0
    have f1 := q.cell 1
    have f2 := q.cell 2
    exact bodyPost_ret (v := .tuple #[zeroAt, .int .i64 code]) (by simp [zeroAt, results, Tryd.results8, go_sem, f0, f1, f2]) rfl ⟨fun h => absurd h HN.out, fun _ => rfl, by rw [hV6]; exact ((HB2.out.setCell (by show w.heap.size ≤ w.heap.size + 1 + 1; omega) _).setCell (by show w.heap.size ≤ w.heap.size + 1 + 1; omega) _).setCell (by show w.heap.size ≤ w.heap.size + 1 + 1; omega) _⟩
  subst h0
  have HC2 := Lib.hid (HCALL.out w2 HB2.out HZ2.out rfl)
  have e0 : w2.cell? ⟨w.heap.size, 0, none⟩ = some (.slice VA a.vs.length VC) := ra.cell 0
  have e1 : w2.cell? ⟨w.heap.size, 1, none⟩ = some (.int .i64 a.ar) := ra.cell 1
  have e2 : w2.cell? ⟨w.heap.size, 2, none⟩ = some (.slice PA a.P.length PC) := ra.cell 2
  have e3 : w2.cell? ⟨w.heap.size + 1, 0, none⟩ = some (.slice WA b.vs.length WC) := rb.cell 0
  have e4 : w2.cell? ⟨w.heap.size + 1, 1, none⟩ = some (.int .i64 b.ar) := rb.cell 1
  have e5 : w2.cell? ⟨w.heap.size + 1, 2, none⟩ = some (.slice QA b.P.length QC) := rb.cell 2
  have e6 := ra.lt
  have e7 := rb.lt
  clear ra rb rr HCALL hcode
  go_wp2_with fail
  refine HC2.out.mono ?_
  rintro e w3 ⟨v, rfl, hat, hb3⟩
  obtain ⟨RA, RC, SA, SC, rfl, k1, k2, k3, k4, hk⟩ := hat
  have q3 := HRR2.out.up hb3
  have m3 := q3.frozen 0
  have m4 := q3.frozen 1
  have m5 := q3.frozen 2
  have m6 := q3.lt
  have m0 : w3.cell? ⟨w.heap.size + 1 + 1, 0, none⟩ = some (.slice none 0 0) := q3.cell 0
  have m1 : w3.cell? ⟨w.heap.size + 1 + 1, 1, none⟩ = some (.int .i64 0) := q3.cell 1
  have m2 : w3.cell? ⟨w.heap.size + 1 + 1, 2, none⟩ = some (.slice none 0 0) := q3.cell 2
  have HQ := Lib.hid q3
  have HK := Lib.hid hk
  have HKK := Lib.hid (And.intro (And.intro k1 k2) (And.intro k3 k4))
  have HB3 := Lib.hid (Below.then HB2.out hb3 HB2.out.size)
  clear q3 hk k1 k2 k3 k4 hb3 HC2
  go_wp2_with fail
  obtain ⟨V6, hV6⟩ : ∃ V', V' = ((w3.setCell ⟨w.heap.size + 1 + 1, 0, none⟩ (.slice RA c.vs.length RC)).setCell ⟨w.heap.size + 1 + 1, 1, none⟩ (.int .i64 (c.vs.length : Nat))).setCell ⟨w.heap.size + 1 + 1, 2, none⟩ (.slice SA c.P.length SC) := ⟨_, rfl⟩
  rw [← hV6]
  have q : Row V6 (w.heap.size + 1 + 1) 37 [.slice RA c.vs.length RC, .int .i64 (c.vs.length : Nat), .slice SA c.P.length SC] := by rw [hV6]; exact ((HQ.out.set 0 _).set 1 _).set 2 _
  have f0 := q.cell 0
  have f1 := q.cell 1
  have f2 := q.cell 2
  have hcell : ∀ p : Addr, p.block ≠ w.heap.size + 1 + 1 → V6.cell? p = w3.cell? p := fun p hp => by
    rw [hV6, World.cell?_setCell_other _ _ _ _ (fun e => hp (by rw [← e])), World.cell?_setCell_other _ _ _ _ (fun e => hp (by rw [← e])), World.cell?_setCell_other _ _ _ _ (fun e => hp (by rw [← e]))]
  have hsz : V6.heap.size = w3.heap.size := by rw [hV6]; simp
  refine bodyPost_ret (v := .tuple #[.agg #[.slice RA c.vs.length RC, .int .i64 (c.vs.length : Nat), .slice SA c.P.length SC], .int .i64 0]) (by simp [results, Tryd.results8, go_sem, f0, f1, f2]) rfl ⟨fun _ => ⟨_, rfl, RA, RC, SA, SC, rfl, HKK.out.1.1, HKK.out.1.2, HKK.out.2.1, HKK.out.2.2, fun W hag => ?_⟩, fun h => absurd rfl h, ?_⟩
  · rw [hsz]
    refine HK.out W fun p h1 h2 => ?_
    have := HZ2.out
    rw [hag p (by rw [hsz]; exact h1) (by omega)]
    exact hcell p (by omega)
  · rw [hV6]
    exact ((HB3.out.setCell (by show w.heap.size ≤ w.heap.size + 1 + 1; omega) _).setCell (by show w.heap.size ≤ w.heap.size + 1 + 1; omega) _).setCell (by show w.heap.size ≤ w.heap.size + 1 + 1; omega) _

end Go.Proofs.YthgaflmldbgbnaaDoor
end

section
/- Plain facts about the order of the nodes of a tree of parents: always the smallest node whose children have all been returned. -/
namespace Go.Proofs.YthgaflmldbgbnaaDoor.JT

theorem nodup_le {l m : List Nat} (hl : l.Nodup) (h : ∀ x ∈ l, x ∈ m) : l.length ≤ m.length := by
  induction l generalizing m with
  | nil => simp
  | cons a l ih =>
    have ha : a ∈ m := h a (by simp)
    rw [List.nodup_cons] at hl
    have h2 : l.length ≤ (m.erase a).length := ih hl.2 fun x hx => by
      have hne : x ≠ a := fun e => hl.1 (e ▸ hx)
      exact (List.mem_erase_of_ne hne).2 (h x (by simp [hx]))
    rw [List.length_erase_of_mem ha] at h2
    have : 0 < m.length := List.length_pos_of_mem ha
    simp; omega

theorem nodup_ne {l : List Nat} (h : l.Nodup) {i j : Nat} (hij : i < j) (hj : j < l.length) : l[i]? ≠ l[j]? := by
  unfold List.Nodup at h
  rw [List.pairwise_iff_getElem] at h
  rw [List.getElem?_eq_getElem hj, List.getElem?_eq_getElem (by omega)]
  intro e
  exact h i j (by omega) hj hij (by injection e)
theorem nodup_of {l : List Nat} (h : ∀ i j, i < j → j < l.length → l[i]? ≠ l[j]?) : l.Nodup := by
  unfold List.Nodup
  rw [List.pairwise_iff_getElem]
  intro i j hi hj hij e
  apply h i j hij hj
  rw [List.getElem?_eq_getElem hj, List.getElem?_eq_getElem hi, e]

/-- The parent of node k. -/
def par (ps : List Int) (k : Nat) : Int := ps[k]?.getD (-1)

def ready (ps : List Int) (D : List Nat) (v : Nat) : Prop := v < ps.length ∧ v ∉ D ∧ ∀ k, k < ps.length → par ps k = (v : Int) → k ∈ D
def readyB (ps : List Int) (D : List Nat) (v : Nat) : Bool := decide (v < ps.length) && !(D.contains v) && (List.range ps.length).all fun k => !(par ps k == (v : Int)) || D.contains k
theorem readyB_iff {ps : List Int} {D : List Nat} {v : Nat} : readyB ps D v = true ↔ ready ps D v := by
  unfold readyB ready
  simp only [Bool.and_eq_true, decide_eq_true_eq, Bool.not_eq_true', List.all_eq_true, List.mem_range, Bool.or_eq_true, and_assoc]
  constructor
  · rintro ⟨h1, h2, h3⟩
    refine ⟨h1, by simpa using h2, fun k hk hp => ?_⟩
    rcases h3 k hk with h | h
    · simp at h; exact absurd hp h
    · simpa using h
  · rintro ⟨h1, h2, h3⟩
    refine ⟨h1, by simpa using h2, fun k hk => ?_⟩
    by_cases hp : par ps k = (v : Int)
    · exact .inr (by simpa using h3 k hk hp)
    · exact .inl (by simpa using hp)

/-- How many children of u are not in D. -/
def cntF (ps : List Int) (D : List Nat) (u : Nat) : Nat := (List.range ps.length).countP fun k => (par ps k == (u : Int)) && !(D.contains k)

theorem cnt_zero {ps : List Int} {D : List Nat} {u : Nat} : cntF ps D u = 0 ↔ ∀ k, k < ps.length → par ps k = (u : Int) → k ∈ D := by
  unfold cntF
  rw [List.countP_eq_zero]
  simp only [List.mem_range, Bool.and_eq_true, Bool.not_eq_true', not_and, Bool.not_eq_false]
  constructor
  · intro h k hk hp
    have := h k hk (by simpa using hp)
    simpa using this
  · intro h k hk hp
    simpa using h k hk (by simpa using hp)

theorem countP_one_less (l : List Nat) (hl : l.Nodup) (p q : Nat → Bool) (v : Nat) (hv : v ∈ l) (hp : p v = true) (hq : q v = false) (hpq : ∀ x ∈ l, x ≠ v → p x = q x) : l.countP q + 1 = l.countP p := by
  induction l with
  | nil => simp at hv
  | cons a l ih =>
    rw [List.nodup_cons] at hl
    by_cases ha : a = v
    · subst ha
      have : l.countP q = l.countP p := List.countP_congr fun x hx => by
        rw [hpq x (by simp [hx]) (fun e => hl.1 (e ▸ hx))]
      simp [hp, hq, this]
    · have hv' : v ∈ l := by simp at hv; rcases hv with h | h; exact absurd h.symm ha; exact h
      have := ih hl.2 hv' fun x hx hne => hpq x (by simp [hx]) hne
      simp only [List.countP_cons, hpq a (by simp) ha]
      omega

theorem cnt_emit {ps : List Int} {D : List Nat} {v u : Nat} (hv : v < ps.length) (hn : v ∉ D) : cntF ps D u = cntF ps (D ++ [v]) u + (if par ps v = (u : Int) then 1 else 0) := by
  by_cases hp : par ps v = (u : Int)
  · rw [if_pos hp]
    unfold cntF
    symm
    apply countP_one_less _ List.nodup_range _ _ v (List.mem_range.2 hv)
    · simp [hp, hn]
    · simp
    · intro x _ hne
      simp [hne]
  · rw [if_neg hp]
    unfold cntF
    rw [Nat.add_zero]
    apply List.countP_congr
    intro x _
    by_cases hx : x = v
    · subst hx; simp [hp]
    · simp [hx]

/-- Each node of the list was the smallest one that was ready. -/
def Greedy (ps : List Int) (D : List Nat) : Prop := ∀ i v, D[i]? = some v → ready ps (D.take i) v ∧ ∀ u, u < v → ¬ ready ps (D.take i) u

theorem Greedy.nil (ps : List Int) : Greedy ps [] := fun i v h => by simp at h

theorem Greedy.snoc {ps : List Int} {D : List Nat} {v : Nat} (h : Greedy ps D) (hr : ready ps D v) (hm : ∀ u, u < v → ¬ ready ps D u) : Greedy ps (D ++ [v]) := by
  intro i x hx
  by_cases hi : i < D.length
  · rw [List.getElem?_append_left hi] at hx
    rw [List.take_append_of_le_length (by omega)]
    exact h i x hx
  · have : i = D.length := by
      have := (List.getElem?_eq_some_iff.1 hx).1
      simp at this; omega
    subst this
    simp at hx
    subst hx
    simpa using ⟨hr, hm⟩

theorem Greedy.lt {ps : List Int} {D : List Nat} (h : Greedy ps D) {v : Nat} (hv : v ∈ D) : v < ps.length := by
  obtain ⟨i, hi, rfl⟩ := List.getElem_of_mem hv
  exact (h i _ (List.getElem?_eq_getElem hi)).1.1

theorem Greedy.nodup {ps : List Int} {D : List Nat} (h : Greedy ps D) : D.Nodup := by
  apply nodup_of
  intro i j hij hj hc
  have h2 := (h j _ (List.getElem?_eq_getElem hj)).1.2.1
  apply h2
  rw [List.getElem?_eq_getElem hj] at hc
  rw [List.mem_take_iff_getElem]
  obtain ⟨hi, hi2⟩ := List.getElem?_eq_some_iff.1 hc
  exact ⟨i, by omega, hi2⟩

theorem Greedy.length {ps : List Int} {D : List Nat} (h : Greedy ps D) : D.length ≤ ps.length := by
  have := nodup_le (m := List.range ps.length) h.nodup fun x hx => List.mem_range.2 (h.lt hx)
  simpa using this

/-- The parent of a node comes behind it. -/
theorem Greedy.after {ps : List Int} {D : List Nat} (h : Greedy ps D) {v p : Nat} (hv : v < ps.length) (hp : par ps v = (p : Int)) {j : Nat} (hj : D[j]? = some p) : v ∈ D.take j :=
  (h j p hj).1.2.2 v hv hp

theorem Greedy.parent_out {ps : List Int} {D : List Nat} {v p : Nat} (h : Greedy ps (D ++ [v])) (hp : par ps v = (p : Int)) : p ∉ D ++ [v] := by
  intro hm
  obtain ⟨j, hj, hjp⟩ := List.getElem_of_mem hm
  have hjs : (D ++ [v])[j]? = some p := by rw [List.getElem?_eq_getElem hj, hjp]
  have hv : v < ps.length := h.lt (by simp)
  have hin := h.after hv hp hjs
  have hnd := h.nodup
  rw [List.nodup_append] at hnd
  have : v ∈ D := by
    rw [List.take_append_of_le_length (by simp at hj; omega)] at hin
    exact List.mem_of_mem_take hin
  exact hnd.2.2 v this v (by simp) rfl

theorem ready_emit {ps : List Int} {D : List Nat} {v u : Nat} (h : ready ps (D ++ [v]) u) : ready ps D u ∨ par ps v = (u : Int) := by
  by_cases hp : par ps v = (u : Int)
  · exact .inr hp
  · refine .inl ⟨h.1, fun hu => h.2.1 (by simp [hu]), fun k hk hkp => ?_⟩
    have := h.2.2 k hk hkp
    simp at this
    rcases this with h1 | h1
    · exact h1
    · subst h1; exact absurd hkp hp

/-- The whole order: greedy, and nothing is ready any more. -/
def IsOrder (ps : List Int) (D : List Nat) : Prop := Greedy ps D ∧ ∀ u, ¬ ready ps D u

def nextF (ps : List Int) (D : List Nat) : Option Nat := (List.range ps.length).find? (readyB ps D)
def orderGo (ps : List Int) : Nat → List Nat → List Nat
  | 0, D => D
  | f + 1, D => match nextF ps D with | none => D | some v => orderGo ps f (D ++ [v])
def orderF (ps : List Int) : List Nat := orderGo ps ps.length []

theorem nextF_none {ps : List Int} {D : List Nat} (h : ∀ u, ¬ ready ps D u) : nextF ps D = none := by
  unfold nextF
  rw [List.find?_eq_none]
  intro x _ hx
  exact h x (readyB_iff.1 hx)

theorem nextF_some {ps : List Int} {D : List Nat} {v : Nat} (h : ready ps D v) (hm : ∀ u, u < v → ¬ ready ps D u) : nextF ps D = some v := by
  unfold nextF
  rw [List.find?_range_eq_some]
  exact ⟨readyB_iff.2 h, List.mem_range.2 h.1, fun j hj => by
    have := hm j hj
    rw [← readyB_iff] at this
    simpa using this⟩

theorem nextF_of {ps : List Int} {D : List Nat} {v : Nat} (h : nextF ps D = some v) : ready ps D v ∧ ∀ u, u < v → ¬ ready ps D u := by
  unfold nextF at h
  rw [List.find?_range_eq_some] at h
  refine ⟨readyB_iff.1 h.1, fun u hu hr => ?_⟩
  have := h.2.2 u hu
  rw [readyB_iff.2 hr] at this
  simp at this

theorem orderGo_of {ps : List Int} {D : List Nat} (h : IsOrder ps D) : ∀ f j, j ≤ D.length → D.length - j ≤ f → orderGo ps f (D.take j) = D := by
  intro f
  induction f with
  | zero => intro j h1 h2; rw [List.take_of_length_le (by omega)]; rfl
  | succ f ih =>
    intro j h1 h2
    by_cases hj : j < D.length
    · have h3 := h.1 j D[j] (List.getElem?_eq_getElem hj)
      rw [orderGo, nextF_some h3.1 h3.2]
      show orderGo ps f (D.take j ++ [D[j]]) = D
      rw [← List.take_succ_eq_append_getElem hj]
      exact ih (j + 1) hj (by omega)
    · rw [List.take_of_length_le (by omega), orderGo, nextF_none h.2]

theorem order_unique {ps : List Int} {D : List Nat} (h : IsOrder ps D) : D = orderF ps := by
  have := orderGo_of h ps.length 0 (by omega) (by have := h.1.length; omega)
  simpa [orderF] using this.symm

theorem orderGo_is {ps : List Int} : ∀ f D, Greedy ps D → ps.length - D.length ≤ f → IsOrder ps (orderGo ps f D) := by
  intro f
  induction f with
  | zero =>
    intro D hD hf
    refine ⟨hD, fun u hu => ?_⟩
    have h1 : (u :: D).Nodup := List.nodup_cons.2 ⟨hu.2.1, hD.nodup⟩
    have h2 := nodup_le (m := List.range ps.length) h1 fun x hx => by
      simp at hx; rcases hx with rfl | hx
      · exact List.mem_range.2 hu.1
      · exact List.mem_range.2 (hD.lt hx)
    simp at h2; omega
  | succ f ih =>
    intro D hD hf
    unfold orderGo
    cases hn : nextF ps D with
    | none =>
      refine ⟨hD, fun u hu => ?_⟩
      unfold nextF at hn
      rw [List.find?_eq_none] at hn
      exact hn u (List.mem_range.2 hu.1) (readyB_iff.2 hu)
    | some v =>
      obtain ⟨h1, h2⟩ := nextF_of hn
      exact ih _ (hD.snoc h1 h2) (by simp; omega)

theorem orderF_is (ps : List Int) : IsOrder ps (orderF ps) := orderGo_is _ _ (Greedy.nil ps) (by simp)

/-! ### The order is whole just where every node leads to a root -/

theorem up_neg {ps : List Int} {v : Int} (h : v < 0) : ∀ k, up ps k v = v
  | 0 => rfl
  | k + 1 => by rw [up, if_pos h]

theorem up_succ {ps : List Int} {v : Nat} (hv : v < ps.length) (k : Nat) : up ps (k + 1) (v : Int) = up ps k (par ps v) := by
  rw [up, if_neg (by omega)]
  simp [par, hv]

theorem whole_up {ps : List Int} {D : List Nat} (h : Greedy ps D) (hv : ∀ p ∈ ps, -1 ≤ p ∧ p < ps.length) (hall : ∀ u, u < ps.length → u ∈ D) :
    ∀ k i v : Nat, D[i]? = some v → up ps k (v : Int) < 0 ∨ ∃ j x : Nat, D[j]? = some x ∧ up ps k (v : Int) = (x : Int) ∧ i + k ≤ j := by
  intro k
  induction k with
  | zero => intro i v hi; exact .inr ⟨i, v, hi, rfl, by omega⟩
  | succ k ih =>
    intro i v hi
    have hvl : v < ps.length := (h i v hi).1.1
    rw [up_succ hvl]
    have hpar : par ps v = ps[v] := by simp [par, hvl]
    have hb := hv ps[v] (List.getElem_mem hvl)
    by_cases hp : par ps v < 0
    · exact .inl (by rw [up_neg hp]; exact hp)
    · obtain ⟨p, hpp⟩ := Int.eq_ofNat_of_zero_le (show 0 ≤ par ps v by omega)
      have hpin : p ∈ D := hall p (by omega)
      obtain ⟨j, hj, hjp⟩ := List.getElem_of_mem hpin
      have hjs : D[j]? = some p := by rw [List.getElem?_eq_getElem hj, hjp]
      have hin := h.after hvl hpp hjs
      have hij : i < j := by
        rw [List.mem_take_iff_getElem] at hin
        obtain ⟨i', hi', he⟩ := hin
        have hii : i' = i := by
          have hnd := h.nodup
          have hil := (List.getElem?_eq_some_iff.1 hi).1
          have h1 : D[i']? = D[i]? := by rw [List.getElem?_eq_getElem (by omega), he, hi]
          rcases Nat.lt_trichotomy i' i with hlt | heq | hgt
          · exact absurd h1 (nodup_ne hnd hlt hil)
          · exact heq
          · exact absurd h1.symm (nodup_ne hnd hgt (by omega))
        omega
      rw [hpp]
      rcases ih j p hjs with h1 | ⟨j', x, h1, h2, h3⟩
      · exact .inl h1
      · exact .inr ⟨j', x, h1, h2, by omega⟩

theorem order_whole {ps : List Int} (hv : ∀ p ∈ ps, -1 ≤ p ∧ p < ps.length) : (orderF ps).length = ps.length ↔ ∀ i, i < ps.length → up ps ps.length (i : Int) < 0 := by
  have hO := orderF_is ps
  generalize orderF ps = D at *
  constructor
  · intro hl i hi
    have hall : ∀ u, u < ps.length → u ∈ D := by
      intro u hu
      refine Classical.byContradiction fun hn => ?_
      have h1 : (u :: D).Nodup := List.nodup_cons.2 ⟨hn, hO.1.nodup⟩
      have h2 := nodup_le (m := List.range ps.length) h1 fun x hx => by
        simp at hx; rcases hx with rfl | hx
        · exact List.mem_range.2 hu
        · exact List.mem_range.2 (hO.1.lt hx)
      simp at h2; omega
    obtain ⟨j, hj, hji⟩ := List.getElem_of_mem (hall i hi)
    rcases whole_up hO.1 hv hall ps.length j i (by rw [List.getElem?_eq_getElem hj, hji]) with h1 | ⟨j', x, h1, _, h3⟩
    · exact h1
    · have := (List.getElem?_eq_some_iff.1 h1).1
      omega
  · intro hall
    have hle := hO.1.length
    refine Classical.byContradiction fun hne => ?_
    have hex : ∃ u, u < ps.length ∧ u ∉ D := by
      refine Classical.byContradiction fun hn => ?_
      have h2 := nodup_le (l := List.range ps.length) (m := D) List.nodup_range fun x hx => by
        refine Classical.byContradiction fun hx2 => hn ⟨x, List.mem_range.1 hx, hx2⟩
      simp at h2; omega
    obtain ⟨u, hu, hun⟩ := hex
    have hch : ∀ k, ∃ x, x < ps.length ∧ x ∉ D ∧ up ps k (x : Int) = (u : Int) := by
      intro k
      induction k with
      | zero => exact ⟨u, hu, hun, rfl⟩
      | succ k ih =>
        obtain ⟨x, hx, hxn, hxu⟩ := ih
        have hnr := hO.2 x
        have : ∃ y, y < ps.length ∧ par ps y = (x : Int) ∧ y ∉ D := by
          refine Classical.byContradiction fun hn => hnr ⟨hx, hxn, fun y hy hyp => ?_⟩
          refine Classical.byContradiction fun hyn => hn ⟨y, hy, hyp, hyn⟩
        obtain ⟨y, hy, hyp, hyn⟩ := this
        exact ⟨y, hy, hyn, by rw [up_succ hy, hyp, hxu]⟩
    obtain ⟨x, hx, _, hxu⟩ := hch ps.length
    have := hall x hx
    omega

theorem rootedB_of {ps : List Int} (hv : ∀ p ∈ ps, -1 ≤ p ∧ p < ps.length) : rootedB ps = ((rootsF ps == 1) && decide ((orderF ps).length = ps.length)) := by
  have h1 : validB ps = true := by
    unfold validB
    simp only [List.all_eq_true, Bool.and_eq_true, decide_eq_true_eq]
    exact hv
  unfold rootedB
  rw [h1, Bool.true_and]
  congr 1
  rw [Bool.eq_iff_iff, decide_eq_true_eq, order_whole hv]
  simp [List.all_eq_true]

theorem rootedB_bad {ps : List Int} (h : ¬ ∀ p ∈ ps, -1 ≤ p ∧ p < ps.length) : rootedB ps = false := by
  have h1 : validB ps = false := by
    rw [Bool.eq_false_iff]
    intro h2
    unfold validB at h2
    simp only [List.all_eq_true, Bool.and_eq_true, decide_eq_true_eq] at h2
    exact h h2
  simp [rootedB, h1]

theorem up_self {ps : List Int} {i : Nat} (hi : i < ps.length) (h : ps[i] = (i : Int)) : ∀ k, up ps k (i : Int) = (i : Int)
  | 0 => rfl
  | k + 1 => by
    rw [up_succ hi, show par ps i = (i : Int) by simp [par, hi, h]]
    exact up_self hi h k

theorem rootedB_self {ps : List Int} {i : Nat} (hi : i < ps.length) (h : ps[i] = (i : Int)) : rootedB ps = false := by
  rw [Bool.eq_false_iff]
  intro h2
  unfold rootedB at h2
  simp only [Bool.and_eq_true, List.all_eq_true, List.mem_range, decide_eq_true_eq] at h2
  have := h2.2 i hi
  rw [up_self hi h] at this
  omega

theorem roots_snoc (ps : List Int) {k : Nat} (hk : k < ps.length) : rootsF (ps.take (k + 1)) = rootsF (ps.take k) + if ps[k] < 0 then 1 else 0 := by
  unfold rootsF
  rw [List.take_succ_eq_append_getElem hk, List.countP_append]
  by_cases h : ps[k] < 0 <;> simp [h]
theorem roots_le (ps : List Int) : rootsF ps ≤ ps.length := List.countP_le_length
theorem all_snoc {α : Type} {ps : List α} {P : α → Prop} {k : Nat} (hk : k < ps.length) (h : ∀ p ∈ ps.take k, P p) : P ps[k] → ∀ p ∈ ps.take (k + 1), P p := by
  intro hp p hm
  rw [List.take_succ_eq_append_getElem hk, List.mem_append] at hm
  rcases hm with hm | hm
  · exact h p hm
  · simp at hm; rw [hm]; exact hp
theorem rootedB_bad' {ps : List Int} {k : Nat} (hk : k < ps.length) : ¬ (-1 ≤ ps[k] ∧ ps[k] < ps.length) → rootedB ps = false :=
  fun h => rootedB_bad fun h2 => h (h2 _ (List.getElem_mem hk))
theorem rootedB_self' {ps : List Int} {k : Nat} (hk : k < ps.length) : ps[k] = (k : Int) → rootedB ps = false := rootedB_self hk

/-! ### Counters in a list -/
def Cnts (n : Nat) (cs : List Int) (f : Nat → Nat) : Prop := cs.length = n ∧ ∀ u, u < n → cs[u]? = some (f u : Int)
theorem Cnts.zero (n : Nat) : Cnts n (List.replicate n 0) fun _ => 0 := ⟨by simp, fun u hu => by simp [hu]⟩
theorem Cnts.congr {n : Nat} {cs : List Int} {f g : Nat → Nat} (h : Cnts n cs f) (hfg : ∀ u, u < n → f u = g u) : Cnts n cs g := ⟨h.1, fun u hu => by rw [h.2 u hu, hfg u hu]⟩
theorem Cnts.put {n : Nat} {cs : List Int} {f g : Nat → Nat} {j : Nat} {c : Int} (h : Cnts n cs f) (hj : c = (g j : Int)) (hfg : ∀ u, u < n → u ≠ j → f u = g u) : Cnts n (cs.set j c) g := by
  refine ⟨by simp [h.1], fun u hu => ?_⟩
  by_cases he : j = u
  · subst he
    rw [List.getElem?_set_self (by rw [h.1]; exact hu), hj]
  · rw [List.getElem?_set_ne he, h.2 u hu, hfg u hu (fun e => he e.symm)]
theorem Cnts.get {n : Nat} {cs : List Int} {f : Nat → Nat} (h : Cnts n cs f) {u : Nat} (hu : u < n) (hl : u < cs.length) : cs[u] = (f u : Int) := by
  have := h.2 u hu
  rw [List.getElem?_eq_getElem hl] at this
  injection this

def cnt1 (ps : List Int) (k u : Nat) : Nat := (List.range k).countP fun j => par ps j == (u : Int)
theorem cnt1_succ (ps : List Int) (k u : Nat) : cnt1 ps (k + 1) u = cnt1 ps k u + if par ps k = (u : Int) then 1 else 0 := by
  unfold cnt1
  rw [List.range_succ, List.countP_append]
  by_cases h : par ps k = (u : Int) <;> simp [h]
theorem cnt1_le (ps : List Int) (k u : Nat) : cnt1 ps k u ≤ k := by
  have := List.countP_le_length (l := List.range k) (p := fun j => par ps j == (u : Int))
  simpa [cnt1] using this
theorem cnt1_whole (ps : List Int) (u : Nat) : cnt1 ps ps.length u = cntF ps [] u := by
  unfold cnt1 cntF
  simp
theorem cntF_le (ps : List Int) (D : List Nat) (u : Nat) : cntF ps D u ≤ ps.length := by
  have := List.countP_le_length (l := List.range ps.length) (p := fun k => (par ps k == (u : Int)) && !(D.contains k))
  simpa [cntF] using this

/-- The state inside round k of the order's loop: the nodes D are out, the counters cs are right, v is the only node up to k that may be ready. -/
structure InnerI (ps : List Int) (k : Nat) (D : List Nat) (cs : List Int) (v : Int) : Prop where
  greedy : Greedy ps D
  cnts : Cnts ps.length cs (cntF ps D)
  le : ∀ d ∈ D, d ≤ k
  only : ∀ u, ready ps D u → k < u ∨ (u : Int) = v
  out : ∀ p : Nat, v = (p : Int) → p ∉ D

theorem InnerI.start {ps : List Int} {k : Nat} {D : List Nat} {cs : List Int} (hG : Greedy ps D) (hc : Cnts ps.length cs (cntF ps D)) (hl : ∀ d ∈ D, d < k) (hr : ∀ u, ready ps D u → k ≤ u) : InnerI ps k D cs (k : Int) :=
  ⟨hG, hc, fun d hd => by have := hl d hd; omega, fun u hu => by have := hr u hu; omega, fun p hp hm => by have := hl p hm; omega⟩

theorem InnerI.ready {ps : List Int} {k : Nat} {D : List Nat} {cs : List Int} {v : Nat} (h : InnerI ps k D cs (v : Int)) (hv : v < ps.length) (h0 : cntF ps D v = 0) : ready ps D v :=
  ⟨hv, h.out v rfl, cnt_zero.1 h0⟩

theorem InnerI.length {ps : List Int} {k : Nat} {D : List Nat} {cs : List Int} {v : Nat} (h : InnerI ps k D cs (v : Int)) (hv : v < ps.length) : D.length < ps.length := by
  have h1 : (v :: D).Nodup := List.nodup_cons.2 ⟨h.out v rfl, h.greedy.nodup⟩
  have h2 := nodup_le (m := List.range ps.length) h1 fun x hx => by
    simp at hx; rcases hx with rfl | hx
    · exact List.mem_range.2 hv
    · exact List.mem_range.2 (h.greedy.lt hx)
  simp at h2; omega

theorem InnerI.emit {ps : List Int} {k : Nat} {D : List Nat} {cs : List Int} {v : Nat} (h : InnerI ps k D cs (v : Int)) (hv : v < ps.length) (hvk : v ≤ k) (h0 : cntF ps D v = 0) {cs' : List Int} (hc : Cnts ps.length cs' (cntF ps (D ++ [v]))) :
    InnerI ps k (D ++ [v]) cs' (par ps v) := by
  have hr := h.ready hv h0
  have hG : Greedy ps (D ++ [v]) := h.greedy.snoc hr fun u hu hru => by
    rcases h.only u hru with h1 | h1
    · omega
    · omega
  refine ⟨hG, hc, fun d hd => ?_, fun u hu => ?_, fun p hp => hG.parent_out hp⟩
  · simp at hd; rcases hd with hd | rfl
    · exact h.le d hd
    · exact hvk
  · rcases ready_emit hu with h1 | h1
    · rcases h.only u h1 with h2 | h2
      · exact .inl h2
      · exfalso
        have : u = v := by omega
        subst this
        exact hu.2.1 (by simp)
    · exact .inr h1.symm

theorem InnerI.done {ps : List Int} {k : Nat} {D : List Nat} {cs : List Int} {v : Int} (h : InnerI ps k D cs v) (hx : v < 0 ∨ (k : Int) < v ∨ ∃ p : Nat, v = (p : Int) ∧ cntF ps D p ≠ 0) : ∀ u, JT.ready ps D u → k + 1 ≤ u := by
  intro u hu
  rcases h.only u hu with h1 | h1
  · omega
  · rcases hx with h2 | h2 | ⟨p, hp, h2⟩
    · omega
    · omega
    · exfalso
      have : u = p := by omega
      subst this
      exact h2 (cnt_zero.2 hu.2.2)

end Go.Proofs.YthgaflmldbgbnaaDoor.JT
end

section
/- Plain facts about the running intersection property: the check by disjoint tops is the count of nodes and links. -/
namespace Go.Proofs.YthgaflmldbgbnaaDoor.JT

theorem has_eq (e v : Nat) : has e v = e.testBit v := by
  unfold has
  rw [Nat.testBit_eq_decide_div_mod_eq]
  rw [Bool.eq_iff_iff]
  simp

def topF (es : List Nat) (ps : List Int) (i : Nat) : Nat := dif (es[i]?.getD 0) (sepF es ps (i : Int))
def seenTo (es : List Nat) (ps : List Int) : Nat → Nat
  | 0 => 0
  | k + 1 => seenTo es ps k ||| topF es ps k

def U32 (es : List Nat) : Prop := ∀ e ∈ es, e ≤ 4294967295

theorem U32.get {es : List Nat} (h : U32 es) (i : Nat) : es[i]?.getD 0 < 4294967296 := by
  by_cases hi : i < es.length
  · have := h es[i] (List.getElem_mem hi)
    simp [hi]; omega
  · simp [List.getElem?_eq_none (Nat.le_of_not_lt hi)]

theorem sepF_le (es : List Nat) (ps : List Int) (i : Nat) : sepF es ps (i : Int) ≤ es[i]?.getD 0 := by
  unfold sepF
  split
  · split
    · simp only [Int.toNat_natCast]
      exact Nat.and_le_left
    · exact Nat.zero_le _
  · exact Nat.zero_le _

theorem topF_lt {es : List Nat} {ps : List Int} (h : U32 es) (i : Nat) : topF es ps i < 4294967296 := dif_lt _ _ (h.get i)
theorem seenTo_lt {es : List Nat} {ps : List Int} (h : U32 es) : ∀ k, seenTo es ps k < 4294967296
  | 0 => by simp [seenTo]
  | k + 1 => by
    unfold seenTo
    have h1 := seenTo_lt (ps := ps) h k
    have h2 := topF_lt (ps := ps) h k
    exact Nat.or_lt_two_pow (n := 32) h1 h2

theorem seenTo_bit (es : List Nat) (ps : List Int) (v : Nat) : ∀ k, (seenTo es ps k).testBit v = true ↔ ∃ i, i < k ∧ (topF es ps i).testBit v = true
  | 0 => by simp [seenTo]
  | k + 1 => by
    unfold seenTo
    rw [Nat.testBit_or, Bool.or_eq_true, seenTo_bit es ps v k]
    constructor
    · rintro (⟨i, h1, h2⟩ | h)
      · exact ⟨i, by omega, h2⟩
      · exact ⟨k, by omega, h⟩
    · rintro ⟨i, h1, h2⟩
      by_cases hi : i < k
      · exact .inl ⟨i, hi, h2⟩
      · obtain rfl : i = k := by omega
        exact .inr h2

/-- The tops are disjoint. -/
def TopsOk (es : List Nat) (ps : List Int) : Prop := ∀ i, i < es.length → seenTo es ps i &&& topF es ps i = 0

theorem topsOk_iff (es : List Nat) (ps : List Int) : TopsOk es ps ↔ ∀ v i j, i < j → j < es.length → ¬ ((topF es ps i).testBit v = true ∧ (topF es ps j).testBit v = true) := by
  constructor
  · intro h v i j hij hj ⟨h1, h2⟩
    have h3 := h j hj
    have h4 : (seenTo es ps j &&& topF es ps j).testBit v = true := by
      rw [Nat.testBit_and, h2, (seenTo_bit es ps v j).2 ⟨i, hij, h1⟩]; rfl
    rw [h3] at h4
    simp at h4
  · intro h j hj
    apply Nat.eq_of_testBit_eq
    intro v
    rw [Nat.testBit_and, Nat.zero_testBit]
    cases h1 : (topF es ps j).testBit v
    · simp
    · rw [Bool.and_true]
      rw [Bool.eq_false_iff]
      intro h2
      obtain ⟨i, hi, h3⟩ := (seenTo_bit es ps v j).1 h2
      exact h v i j hi hj ⟨h3, h1⟩

theorem countP_le_one (p : Nat → Bool) : ∀ m, (List.range m).countP p ≤ 1 ↔ ∀ i j, i < j → j < m → ¬ (p i = true ∧ p j = true)
  | 0 => by simp
  | m + 1 => by
    rw [List.range_succ, List.countP_append]
    have hlast : List.countP p [m] = if p m then 1 else 0 := by simp [List.countP_cons]
    rw [hlast]
    constructor
    · intro h i j hij hj ⟨h1, h2⟩
      by_cases hjm : j < m
      · exact (countP_le_one p m).1 (by omega) i j hij hjm ⟨h1, h2⟩
      · obtain rfl : j = m := by omega
        rw [if_pos h2] at h
        have : (List.range j).countP p = 0 := by omega
        rw [List.countP_eq_zero] at this
        exact this i (List.mem_range.2 hij) h1
    · intro h
      by_cases hm : p m = true
      · rw [if_pos hm]
        have : (List.range m).countP p = 0 := by
          rw [List.countP_eq_zero]
          intro i hi h1
          exact h i m (List.mem_range.1 hi) (by omega) ⟨h1, hm⟩
        omega
      · rw [if_neg hm]
        exact (countP_le_one p m).2 fun i j hij hj => h i j hij (by omega)

theorem countP_split (p q : Nat → Bool) (l : List Nat) : l.countP p = l.countP (fun i => p i && q i) + l.countP (fun i => p i && !q i) := by
  induction l with
  | nil => rfl
  | cons a l ih =>
    simp only [List.countP_cons]
    cases p a <;> cases q a <;> simp <;> omega

theorem topF_bit {es : List Nat} {ps : List Int} (hu : U32 es) (hl : ps.length = es.length) (hv : ∀ p ∈ ps, -1 ≤ p ∧ p < ps.length) {i : Nat} (hi : i < es.length) (v : Nat) :
    (topF es ps i).testBit v = (has (es[i]?.getD 0) v && !(decide (0 ≤ ps[i]?.getD 0) && has (es[(ps[i]?.getD 0).toNat]?.getD 0) v)) := by
  unfold topF
  rw [testBit_dif _ _ _ (hu.get i) (Nat.lt_of_le_of_lt (sepF_le es ps i) (hu.get i)), has_eq, has_eq]
  have hb := hv ps[i] (List.getElem_mem (by omega))
  have hpi : ps[i]?.getD 0 = ps[i] := by simp [show i < ps.length by omega]
  unfold sepF
  rw [if_pos (by omega)]
  simp only [Int.toNat_natCast]
  rw [hpi]
  by_cases hp : 0 ≤ ps[i]
  · rw [if_pos (by omega), Nat.testBit_and]
    simp [hp]
    cases (es[i]?.getD 0).testBit v <;> simp
  · rw [if_neg (by omega)]
    simp [hp]

theorem joinB_iff {N : Nat} {es : List Nat} {ps : List Int} (hN : ∀ e ∈ es, e < 2 ^ N) (hN2 : N ≤ 32) (hl : ps.length = es.length) (hr : rootedB ps = true) : joinB N es ps = true ↔ TopsOk es ps := by
  have hu : U32 es := fun e he => by
    have := hN e he
    have : 2 ^ N ≤ 2 ^ 32 := Nat.pow_le_pow_right (by omega) hN2
    omega
  have hr' := hr
  unfold rootedB at hr'
  simp only [Bool.and_eq_true, List.all_eq_true, List.mem_range, decide_eq_true_eq] at hr'
  obtain ⟨⟨hvalid, _⟩, hup⟩ := hr'
  have hv : ∀ p ∈ ps, -1 ≤ p ∧ p < ps.length := by
    unfold validB at hvalid
    simp only [List.all_eq_true, Bool.and_eq_true, decide_eq_true_eq] at hvalid
    exact hvalid
  have hcnt : ∀ v, nodesF es v = linksF es ps v + (List.range es.length).countP (fun i => (topF es ps i).testBit v) := by
    intro v
    unfold nodesF linksF
    rw [countP_split _ (fun i => decide (0 ≤ ps[i]?.getD 0) && has (es[(ps[i]?.getD 0).toNat]?.getD 0) v)]
    congr 1
    · apply List.countP_congr
      intro i _
      unfold linkB
      rw [Bool.and_assoc]
    · apply List.countP_congr
      intro i hi
      rw [topF_bit hu hl hv (List.mem_range.1 hi)]
  have hone : ∀ v, 0 < nodesF es v → 0 < (List.range es.length).countP (fun i => (topF es ps i).testBit v) := by
    intro v hpos
    refine Classical.byContradiction fun hz => ?_
    have hz0 : (List.range es.length).countP (fun i => (topF es ps i).testBit v) = 0 := by omega
    rw [List.countP_eq_zero] at hz0
    unfold nodesF at hpos
    rw [List.countP_pos_iff] at hpos
    obtain ⟨i, hi, hiv⟩ := hpos
    have hch : ∀ k (i : Nat), i < es.length → has (es[i]?.getD 0) v = true → 0 ≤ up ps k (i : Int) := by
      intro k
      induction k with
      | zero => intro i _ _; simp [up]
      | succ k ih =>
        intro i hi hiv
        have h1 := hz0 i (List.mem_range.2 hi)
        rw [topF_bit hu hl hv hi, hiv] at h1
        simp at h1
        have hb := hv ps[i] (List.getElem_mem (by omega))
        have hpi : ps[i]?.getD 0 = ps[i] := by simp [show i < ps.length by omega]
        rw [hpi] at h1
        rw [up_succ (by omega), show par ps i = ps[i] by simp [par, show i < ps.length by omega]]
        obtain ⟨q, hq⟩ := Int.eq_ofNat_of_zero_le h1.1
        rw [hq]
        apply ih q (by omega)
        have h2 := h1.2
        rw [hq] at h2
        simpa using h2
    have h3 := hch ps.length i (List.mem_range.1 hi) hiv
    have h4 := hup i (by have := List.mem_range.1 hi; omega)
    omega
  rw [topsOk_iff]
  unfold joinB
  simp only [List.all_eq_true, List.mem_range, Bool.or_eq_true, beq_iff_eq]
  constructor
  · intro h v i j hij hj
    by_cases hvN : v < N
    · refine (countP_le_one (fun i => (topF es ps i).testBit v) es.length).1 ?_ i j hij hj
      have h1 := hcnt v
      rcases h v hvN with h2 | h2
      · omega
      · omega
    · rintro ⟨h1, _⟩
      rw [topF_bit hu hl hv (by omega)] at h1
      simp only [Bool.and_eq_true] at h1
      have h2 := h1.1
      rw [has_eq] at h2
      have h3 : es[i]?.getD 0 < 2 ^ v := by
        have h4 := hN es[i] (List.getElem_mem (show i < es.length by omega))
        have h5 : 2 ^ N ≤ 2 ^ v := Nat.pow_le_pow_right (by omega) (by omega)
        simp [show i < es.length by omega]
        omega
      rw [Nat.testBit_lt_two_pow h3] at h2
      cases h2
  · intro h v hvN
    have h1 := hcnt v
    have h2 := hone v
    have h3 := (countP_le_one (fun i => (topF es ps i).testBit v) es.length).2 (fun i j hij hj => h v i j hij hj)
    by_cases h0 : nodesF es v = 0
    · exact .inl h0
    · right
      have := h2 (by omega)
      omega

def nodesTo (es : List Nat) (v k : Nat) : Nat := (List.range k).countP fun i => has (es[i]?.getD 0) v
theorem nodesTo_succ (es : List Nat) (v k : Nat) : nodesTo es v (k + 1) = nodesTo es v k + if has (es[k]?.getD 0) v then 1 else 0 := by
  unfold nodesTo
  rw [List.range_succ, List.countP_append]
  simp [List.countP_cons]
/-- jointree.Check's answers. -/
theorem chkF_hg {N : Int} {es : List Nat} {ps : List Int} (h : hgCheckF N es ≠ 0) : chkF N es ps = hgCheckF N es := by unfold chkF; rw [if_pos h]
theorem chkF_len {N : Int} {es : List Nat} {ps : List Int} (h : hgCheckF N es = 0) (hl : ps.length ≠ es.length) : chkF N es ps = 28 := by
  unfold chkF; rw [if_neg (by simp [h]), if_pos hl]
theorem chkF_root {N : Int} {es : List Nat} {ps : List Int} (h : hgCheckF N es = 0) (hl : ps.length = es.length) (hr : rootedB ps = false) : chkF N es ps = 15 := by
  unfold chkF; rw [if_neg (by simp [h]), if_neg (by simp [hl]), if_pos hr]
theorem chkF_tops {N : Int} {es : List Nat} {ps : List Int} (h : hgCheckF N es = 0) (hl : ps.length = es.length) (hr : rootedB ps = true) (ht : ¬ TopsOk es ps) : chkF N es ps = 24 := by
  obtain ⟨n, rfl, hn, _, hN⟩ := hgCheckF_zero h
  have h1 := joinB_iff hN hn hl hr
  unfold chkF
  rw [if_neg (by simp [h]), if_neg (by simp [hl]), if_neg (by simp [hr]), if_pos]
  rw [Bool.eq_false_iff]
  intro h2
  exact ht (h1.1 (by simpa using h2))
theorem chkF_ok {N : Int} {es : List Nat} {ps : List Int} (h : hgCheckF N es = 0) (hl : ps.length = es.length) (hr : rootedB ps = true) (ht : TopsOk es ps) : chkF N es ps = 0 := by
  obtain ⟨n, rfl, hn, _, hN⟩ := hgCheckF_zero h
  have h1 := joinB_iff hN hn hl hr
  unfold chkF
  rw [if_neg (by simp [h]), if_neg (by simp [hl]), if_neg (by simp [hr]), if_neg]
  rw [Int.toNat_natCast, h1.2 ht]
  simp

end Go.Proofs.YthgaflmldbgbnaaDoor.JT
end

section
/- Plain: rerooting a tree of parents. -/
namespace Go.Proofs.YthgaflmldbgbnaaDoor.JT

theorem rooted_parts {ps : List Int} (h : rootedB ps = true) : (∀ p ∈ ps, -1 ≤ p ∧ p < ps.length) ∧ rootsF ps = 1 ∧ ∀ i, i < ps.length → up ps ps.length (i : Int) < 0 := by
  unfold rootedB at h
  simp only [Bool.and_eq_true, List.all_eq_true, List.mem_range, decide_eq_true_eq, beq_iff_eq] at h
  refine ⟨?_, h.1.2, h.2⟩
  have h1 := h.1.1
  unfold validB at h1
  simp only [List.all_eq_true, Bool.and_eq_true, decide_eq_true_eq] at h1
  exact h1
theorem rooted_pos {ps : List Int} (h : rootedB ps = true) : 0 < ps.length := by
  have := (rooted_parts h).2.1
  cases ps with
  | nil => simp [rootsF] at this
  | cons => simp

/-! ### The reference's way to the order: the smallest ready node, found from above -/
/-- nx is the smallest ready node from j on, or -1. -/
def NextFrom (ps : List Int) (D : List Nat) (j : Nat) (nx : Int) : Prop := (nx = -1 ∧ ∀ u, j ≤ u → ¬ ready ps D u) ∨ ∃ u : Nat, nx = (u : Int) ∧ ready ps D u ∧ ∀ u', j ≤ u' → u' < u → ¬ ready ps D u'
theorem NextFrom.start (ps : List Int) (D : List Nat) : NextFrom ps D ps.length (-1) := .inl ⟨rfl, fun u hu hr => by have := hr.1; omega⟩
theorem NextFrom.no {ps : List Int} {D : List Nat} {j : Nat} {nx : Int} (h : NextFrom ps D (j + 1) nx) (hr : ¬ ready ps D j) : NextFrom ps D j nx := by
  rcases h with ⟨h1, h2⟩ | ⟨u, h1, h2, h3⟩
  · refine .inl ⟨h1, fun u hu => ?_⟩
    by_cases he : u = j
    · subst he; exact hr
    · exact h2 u (by omega)
  · refine .inr ⟨u, h1, h2, fun u' hu hlt => ?_⟩
    by_cases he : u' = j
    · subst he; exact hr
    · exact h3 u' (by omega) hlt
end Go.Proofs.YthgaflmldbgbnaaDoor.JT
end

section
/- Plain: the reduction of a hypergraph, as hypergraph.Reduce performs it, and that it ends. -/
namespace Go.Proofs.YthgaflmldbgbnaaDoor.JT

/-- May edge e be removed into edge i? -/
def absorbs (R : List Nat) (rem : List Bool) (e i : Nat) : Bool := !(e == i) && !(rem[e]?.getD true) && !(rem[i]?.getD true) && (dif (R[e]?.getD 0) (R[i]?.getD 0) == 0)
/-- Is e, i the first such pair? -/
def IsAbsorb (R : List Nat) (rem : List Bool) (e i : Nat) : Prop := e < R.length ∧ i < R.length ∧ absorbs R rem e i = true ∧ (∀ i', i' < i → absorbs R rem e i' = false) ∧ ∀ e', e' < e → ∀ i', i' < R.length → absorbs R rem e' i' = false
def NoAbsorb (R : List Nat) (rem : List Bool) : Prop := ∀ e, e < R.length → ∀ i, i < R.length → absorbs R rem e i = false

def absorbF (R : List Nat) (rem : List Bool) : Option (Nat × Nat) := (List.range R.length).findSome? fun e => ((List.range R.length).find? (absorbs R rem e)).map fun i => (e, i)

theorem absorbF_none {R : List Nat} {rem : List Bool} (h : NoAbsorb R rem) : absorbF R rem = none := by
  unfold absorbF
  rw [List.findSome?_eq_none_iff]
  intro e he
  rw [Option.map_eq_none_iff, List.find?_eq_none]
  intro i hi
  rw [h e (List.mem_range.1 he) i (List.mem_range.1 hi)]
  simp

theorem find_range {n k : Nat} {p : Nat → Bool} (hk : k < n) (hp : p k = true) (hm : ∀ j, j < k → p j = false) : (List.range n).find? p = some k := by
  rw [List.find?_range_eq_some]
  exact ⟨hp, List.mem_range.2 hk, fun j hj => by simp [hm j hj]⟩

theorem findSome_range {α : Type} {n k : Nat} {p : Nat → Option α} {x : α} (hk : k < n) (hp : p k = some x) (hm : ∀ j, j < k → p j = none) : (List.range n).findSome? p = some x := by
  induction n with
  | zero => omega
  | succ n ih =>
    rw [List.range_succ, List.findSome?_append]
    by_cases h : k < n
    · rw [ih h]; rfl
    · obtain rfl : k = n := by omega
      have : (List.range k).findSome? p = none := by
        rw [List.findSome?_eq_none_iff]
        intro j hj
        exact hm j (List.mem_range.1 hj)
      rw [this]
      simp [hp]

theorem absorbF_some {R : List Nat} {rem : List Bool} {e i : Nat} (h : IsAbsorb R rem e i) : absorbF R rem = some (e, i) := by
  obtain ⟨h1, h2, h3, h4, h5⟩ := h
  unfold absorbF
  apply findSome_range h1
  · rw [find_range h2 h3 h4]; rfl
  · intro e' he'
    rw [Option.map_eq_none_iff, List.find?_eq_none]
    intro i' hi'
    rw [h5 e' he' i' (List.mem_range.1 hi')]
    simp

/-- How many edges hold vertex v. -/
def vcnt (R : List Nat) (v k : Nat) : Nat := nodesTo R v k
/-- The last edge before k that holds v, or 0. -/
def vlast (R : List Nat) (v : Nat) : Nat → Nat
  | 0 => 0
  | k + 1 => if has (R[k]?.getD 0) v then k else vlast R v k
theorem vlast_has {R : List Nat} {v : Nat} : ∀ k, 0 < vcnt R v k → vlast R v k < k ∧ has (R[vlast R v k]?.getD 0) v = true
  | 0, h => by simp [vcnt, nodesTo] at h
  | k + 1, h => by
    unfold vlast
    by_cases hb : has (R[k]?.getD 0) v = true
    · rw [if_pos hb]; exact ⟨by omega, hb⟩
    · rw [if_neg hb]
      have h2 : 0 < vcnt R v k := by
        unfold vcnt at h ⊢
        rw [nodesTo_succ, if_neg hb] at h
        omega
      have := vlast_has k h2
      exact ⟨by omega, this.2⟩

def isolateF (n : Nat) (R : List Nat) : Option (Nat × Nat) := ((List.range n).find? fun v => vcnt R v R.length == 1).map fun v => (vlast R v R.length, v)
theorem isolateF_some {n v : Nat} {R : List Nat} (hv : v < n) (h1 : vcnt R v R.length = 1) (h : ∀ u, u < v → vcnt R u R.length ≠ 1) : isolateF n R = some (vlast R v R.length, v) := by
  unfold isolateF
  rw [find_range hv (by simpa using h1) (fun j hj => by simpa using h j hj)]
  rfl

/-- A step: the edge, the edge into which it is removed or -1, the vertex or -1. -/
abbrev Stp := Nat × Int × Int
/-- The state: the remaining sets, which edges are removed, the steps. -/
structure Red where
  rest : List Nat
  rem : List Bool
  steps : List Stp

def stepF (n : Nat) (s : Red) : Option Red :=
  match absorbF s.rest s.rem with
  | some (e, i) => some ⟨s.rest.set e 0, s.rem.set e true, s.steps ++ [(e, (i : Int), -1)]⟩
  | none => match isolateF n s.rest with
    | some (e, v) => some ⟨s.rest.set e (dif (s.rest[e]?.getD 0) (2 ^ v)), s.rem, s.steps ++ [(e, -1, (v : Int))]⟩
    | none => none

def runF (n : Nat) : Nat → Red → Red
  | 0, s => s
  | f + 1, s => match stepF n s with | some s' => runF n f s' | none => s

/-- What is left: the edges that are not removed, and the vertices of the sets. -/
def bitsOf (x : Nat) : Nat := (List.range 32).countP fun v => x.testBit v
def weight (s : Red) : Nat := s.rem.countP (fun b => !b) + (s.rest.map bitsOf).sum

def startF (es : List Nat) : Red := ⟨es, List.replicate es.length false, []⟩
def reduceF (n : Nat) (es : List Nat) : Red := runF n (weight (startF es)) (startF es)

theorem sum_set (l : List Nat) (i a : Nat) (h : i < l.length) : (l.set i a).sum + l[i] = l.sum + a := by
  induction l generalizing i with
  | nil => simp at h
  | cons x l ih =>
    cases i with
    | zero => simp; omega
    | succ i =>
      simp only [List.set_cons_succ, List.sum_cons, List.getElem_cons_succ]
      have := ih i (by simpa using h)
      omega

theorem countP_set_true (l : List Bool) (i : Nat) (h : i < l.length) (hb : l[i] = false) : (l.set i true).countP (fun b => !b) + 1 = l.countP (fun b => !b) := by
  induction l generalizing i with
  | nil => simp at h
  | cons x l ih =>
    cases i with
    | zero => simp at hb; subst hb; simp
    | succ i =>
      simp only [List.set_cons_succ, List.countP_cons]
      have := ih i (by simpa using h) (by simpa using hb)
      omega

theorem bitsOf_less {x v : Nat} (hx : x < 4294967296) (hv : v < 32) (h : has x v = true) : bitsOf (dif x (2 ^ v)) + 1 = bitsOf x := by
  unfold bitsOf
  have h2 : 2 ^ v < 4294967296 := by
    have : 2 ^ v < 2 ^ 32 := Nat.pow_lt_pow_right (by omega) hv
    omega
  apply countP_one_less _ List.nodup_range _ _ v (List.mem_range.2 hv)
  · rw [← has_eq]; exact h
  · rw [testBit_dif _ _ _ hx h2, Nat.testBit_two_pow_self]; simp
  · intro u _ hne
    rw [testBit_dif _ _ _ hx h2, Nat.testBit_two_pow_of_ne (fun e => hne e.symm)]; simp

/-- The state is well formed. -/
structure RedOk (m : Nat) (s : Red) : Prop where
  lrest : s.rest.length = m
  lrem : s.rem.length = m
  u32 : U32 s.rest
  zero : ∀ e : Nat, s.rem[e]? = some true → s.rest[e]?.getD 0 = 0

theorem RedOk.start {es : List Nat} (h : U32 es) : RedOk es.length (startF es) := by
  refine ⟨rfl, by simp [startF], h, fun e he => ?_⟩
  simp only [startF, List.getElem?_replicate] at he
  split at he <;> simp at he

theorem U32.set {R : List Nat} (h : U32 R) {e x : Nat} (hx : x < 4294967296) : U32 (R.set e x) := by
  intro y hy
  rcases List.mem_or_eq_of_mem_set hy with h1 | h1
  · exact h y h1
  · omega

theorem absorbs_parts {R : List Nat} {rem : List Bool} {e i : Nat} (h : absorbs R rem e i = true) : e ≠ i ∧ rem[e]? = some false ∧ rem[i]? = some false ∧ dif (R[e]?.getD 0) (R[i]?.getD 0) = 0 := by
  unfold absorbs at h
  simp only [Bool.and_eq_true, Bool.not_eq_true', beq_eq_false_iff_ne, beq_iff_eq] at h
  obtain ⟨⟨⟨h1, h2⟩, h3⟩, h4⟩ := h
  refine ⟨h1, ?_, ?_, h4⟩
  · cases h5 : rem[e]? with
    | none => rw [h5] at h2; simp at h2
    | some b => rw [h5] at h2; simp at h2; rw [h2]
  · cases h5 : rem[i]? with
    | none => rw [h5] at h3; simp at h3
    | some b => rw [h5] at h3; simp at h3; rw [h3]

/-- What a step is. -/
inductive StepIs (n : Nat) (s : Red) : Red → Prop where
  | absorb (e i : Nat) (h : IsAbsorb s.rest s.rem e i) : StepIs n s ⟨s.rest.set e 0, s.rem.set e true, s.steps ++ [(e, (i : Int), -1)]⟩
  | isolate (e v : Nat) (hno : NoAbsorb s.rest s.rem) (hv : v < n) (h1 : vcnt s.rest v s.rest.length = 1) (hu : ∀ u, u < v → vcnt s.rest u s.rest.length ≠ 1) (he : e = vlast s.rest v s.rest.length) : StepIs n s ⟨s.rest.set e (dif (s.rest[e]?.getD 0) (2 ^ v)), s.rem, s.steps ++ [(e, -1, (v : Int))]⟩

theorem StepIs.stepF {n : Nat} {s s' : Red} (h : StepIs n s s') : stepF n s = some s' := by
  cases h with
  | absorb e i h => unfold JT.stepF; rw [absorbF_some h]
  | isolate e v hno hv h1 hu he => unfold JT.stepF; rw [absorbF_none hno, isolateF_some hv h1 hu, he]

theorem StepIs.ok {n m : Nat} {s s' : Red} (h : StepIs n s s') (hs : RedOk m s) (hn : n ≤ 32) : RedOk m s' ∧ weight s' < weight s := by
  cases h with
  | absorb e i h =>
    obtain ⟨h1, h2, h3, h4, h5⟩ := h
    obtain ⟨p1, p2, p3, p4⟩ := absorbs_parts h3
    have hel : e < s.rem.length := (List.getElem?_eq_some_iff.1 p2).1
    have heb : s.rem[e] = false := (List.getElem?_eq_some_iff.1 p2).2
    constructor
    · refine ⟨by simp [hs.lrest], by simp [hs.lrem], hs.u32.set (by omega), fun x hx => ?_⟩
      by_cases hxe : e = x
      · subst hxe; simp [h1]
      · rw [List.getElem?_set_ne hxe] at hx ⊢
        exact hs.zero x hx
    · unfold weight
      simp only
      have c1 := countP_set_true s.rem e hel heb
      have c2 : ((s.rest.set e 0).map bitsOf).sum ≤ (s.rest.map bitsOf).sum := by
        rw [List.map_set]
        have := sum_set (s.rest.map bitsOf) e (bitsOf 0) (by simpa using h1)
        have hz : bitsOf 0 = 0 := by decide
        omega
      omega
  | isolate e v hno hv h1 hu he =>
    have hl := vlast_has (R := s.rest) (v := v) s.rest.length (by omega)
    rw [← he] at hl
    obtain ⟨hel, heh⟩ := hl
    have hgd : s.rest[e]?.getD 0 = s.rest[e] := by simp [hel]
    have hb := hs.u32.get e
    have h32 : v < 32 := by omega
    have hless := bitsOf_less hb h32 heh
    constructor
    · refine ⟨by simp [hs.lrest], hs.lrem, hs.u32.set (dif_lt _ _ hb), fun x hx => ?_⟩
      by_cases hxe : e = x
      · subst hxe
        have := hs.zero e hx
        rw [this] at heh
        simp [has] at heh
      · rw [List.getElem?_set_ne hxe]
        exact hs.zero x hx
    · unfold weight
      simp only
      rw [List.map_set]
      have := sum_set (s.rest.map bitsOf) e (bitsOf (dif (s.rest[e]?.getD 0) (2 ^ v))) (by simpa using hel)
      rw [List.getElem_map] at this
      rw [hgd] at hless this ⊢
      omega

theorem stepF_is {n : Nat} {s s' : Red} (h : stepF n s = some s') : StepIs n s s' := by
  unfold stepF at h
  cases ha : absorbF s.rest s.rem with
  | some p =>
    obtain ⟨e, i⟩ := p
    rw [ha] at h
    simp only [Option.some.injEq] at h
    subst h
    apply StepIs.absorb
    unfold absorbF at ha
    rw [List.findSome?_eq_some_iff] at ha
    obtain ⟨l1, e', l2, hl, hp, hall⟩ := ha
    rw [Option.map_eq_some_iff] at hp
    obtain ⟨i', hi', he'⟩ := hp
    injection he' with he1 he2
    subst he1 he2
    rw [List.find?_range_eq_some] at hi'
    have hrange : l1 = List.range e' ∧ e' < s.rest.length := by
      have hlen : l1.length < s.rest.length := by
        have := congrArg List.length hl
        simp at this; omega
      have hget : (List.range s.rest.length)[l1.length]? = some e' := by rw [hl]; simp
      rw [List.getElem?_range hlen] at hget
      injection hget with hget
      refine ⟨?_, by omega⟩
      have htake : (List.range s.rest.length).take l1.length = l1 := by rw [hl]; simp
      rw [← htake, List.take_range, hget, Nat.min_eq_left (by omega)]
    obtain ⟨hl1, hel⟩ := hrange
    refine ⟨hel, List.mem_range.1 hi'.2.1, hi'.1, fun i'' h2 => by simpa using hi'.2.2 i'' h2, fun e'' he'' i'' hi'' => ?_⟩
    have h3 := hall e'' (by rw [hl1]; exact List.mem_range.2 he'')
    rw [Option.map_eq_none_iff, List.find?_eq_none] at h3
    simpa using h3 i'' (List.mem_range.2 hi'')
  | none =>
    rw [ha] at h
    simp only at h
    have hno : NoAbsorb s.rest s.rem := by
      intro e he i hi
      unfold absorbF at ha
      rw [List.findSome?_eq_none_iff] at ha
      have h3 := ha e (List.mem_range.2 he)
      rw [Option.map_eq_none_iff, List.find?_eq_none] at h3
      simpa using h3 i (List.mem_range.2 hi)
    cases hi : isolateF n s.rest with
    | none => rw [hi] at h; simp at h
    | some p =>
      obtain ⟨e, v⟩ := p
      rw [hi] at h
      simp only [Option.some.injEq] at h
      subst h
      unfold isolateF at hi
      rw [Option.map_eq_some_iff] at hi
      obtain ⟨v', hv', he'⟩ := hi
      injection he' with he1 he2
      subst he2
      rw [List.find?_range_eq_some] at hv'
      exact StepIs.isolate e v' hno (List.mem_range.1 hv'.2.1) (by simpa using hv'.1) (fun u hu => by simpa using hv'.2.2 u hu) he1.symm

/-- A walk through the steps that comes to a state without a step has come to the run's end. -/
def Reach (n : Nat) (es : List Nat) (s : Red) : Prop := runF n (weight s) s = reduceF n es
theorem Reach.start (n : Nat) (es : List Nat) : Reach n es (startF es) := rfl
theorem runF_more {n m : Nat} (hn : n ≤ 32) : ∀ f g s, RedOk m s → weight s ≤ f → weight s ≤ g → runF n f s = runF n g s
  | 0, 0, _, _, _, _ => rfl
  | 0, g + 1, s, hs, hf, _ => by
    have h : stepF n s = none := by
      cases h : stepF n s with
      | none => rfl
      | some s' => have := ((stepF_is h).ok hs hn).2; omega
    unfold runF; rw [h]
  | f + 1, 0, s, hs, _, hg => by
    have h : stepF n s = none := by
      cases h : stepF n s with
      | none => rfl
      | some s' => have := ((stepF_is h).ok hs hn).2; omega
    unfold runF; rw [h]
  | f + 1, g + 1, s, hs, hf, hg => by
    unfold runF
    cases h : stepF n s with
    | none => rfl
    | some s' =>
      obtain ⟨h1, h2⟩ := (stepF_is h).ok hs hn
      exact runF_more hn f g s' h1 (by omega) (by omega)
theorem Reach.step {n m : Nat} {es : List Nat} {s s' : Red} (hn : n ≤ 32) (hs : RedOk m s) (h : Reach n es s) (hst : StepIs n s s') : Reach n es s' := by
  obtain ⟨h1, h2⟩ := hst.ok hs hn
  unfold Reach at h ⊢
  rw [← h]
  obtain ⟨k, hk⟩ : ∃ k, weight s = k + 1 := ⟨weight s - 1, by omega⟩
  rw [hk, show runF n (k + 1) s = runF n k s' by rw [runF, hst.stepF]]
  exact runF_more hn _ _ s' h1 (Nat.le_refl _) (by omega)
theorem Reach.done {n : Nat} {es : List Nat} {s : Red} (h : Reach n es s) (hst : stepF n s = none) : s = reduceF n es := by
  unfold Reach at h
  rw [← h]
  cases hw : weight s with
  | zero => rfl
  | succ k => rw [runF, hst]

end Go.Proofs.YthgaflmldbgbnaaDoor.JT
end

/- Parts of the proof, merged: Z36b, Z31, Z37. -/
import Derived.Test.YtgaffbdcpkbdhaaQ7
import Derived.Test.YtgaffbdcpkbdhaaQ6
import Derived.Deep.CutBlock

section
/- Walk: the reference's Commit (by the invariant of Z36). -/
namespace Go.Proofs.Ytgaffbdcpkbdhaa
open Go.RowKit Go.Sort Go.ChangeMaps Go.WideShapes

def ComPost (P : Nat → Prop) (vs : List RV) (bs : List (List Upd)) (w : World) (e : Ending) (w' : World) : Prop :=
  ∃ v', e = .returned v' ∧ RStP P w' v' vs bs ∧ Below w.heap.size w w'

set_option maxHeartbeats 8000000 in
set_option maxRecDepth 100000 in
theorem r16Commit_any (P : Nat → Prop) (val : Value) (t : List RV) (q : RV) (bs : List (List Upd)) (UA : Option Addr) (UC : Nat) (us : List Upd) (w : World) (hsP : RStP P w val (t ++ [q]) bs) (hPn : ∀ b, w.heap.size ≤ b → P b) (hl : t.length ≤ 1000) (hbl : bs.length ≤ 1000) (hq : 0 ≤ q.num ∧ q.num ≤ 1000000) (hU : ∀ w', Stay P w w' → UpdsM w'.heap.size w' UA us) :
    Calls Try.prog 44 #[val, .slice UA us.length UC] w (ComPost P (t ++ [q] ++ [⟨q.num + 1, 0, bs.length + 1⟩]) (bs ++ [us]) w) := by
  obtain ⟨VA, VC, BA, BC, hds, rfl, hall⟩ := hsP
  obtain ⟨h1, h2, h3⟩ := hall w (Stay.refl _ _)
  obtain ⟨vs, hvs⟩ : ∃ vs, vs = t ++ [q] := ⟨_, rfl⟩
  have hlv : vs.length ≤ 1001 := by rw [hvs, List.length_append]; show _ + 1 ≤ _; omega
  have hvl : vs.length = t.length + 1 := by rw [hvs, List.length_append]; rfl
  have HVL := Lib.hid hvl
  clear hvl
  have HLAT : Hid (∀ wx, Sl wx.heap.size wx VA (vs.flatMap rvC) → Calls Try.prog 40 #[.agg #[.slice VA vs.length VC, .slice BA bs.length BC]] wx fun e w' => e = .returned (.int .i64 q.num) ∧ Ext wx w') := fun wx h => by
    rw [hvs] at h ⊢
    exact r16Latest_any VA BA VC BC bs.length t q wx h (by omega)
  rw [← hvs] at hall h1 ⊢
  clear hvs
  have HS := Lib.hid hall
  have HPN := Lib.hid hPn
  have HU := Lib.hid hU
  have HQ := Lib.hid hq
  obtain ⟨W0, hW0⟩ : ∃ W0, W0 = (w.alloc (.cells #[.slice VA vs.length VC, .slice BA bs.length BC] 66)).alloc (.cells #[.slice none 0 0, .slice none 0 0] 66) := ⟨_, rfl⟩
  have hx0 : Ext w W0 := by rw [hW0]; exact ((Ext.refl w).alloc _).alloc _
  have hr1 : Row W0 w.heap.size 66 [.slice VA vs.length VC, .slice BA bs.length BC] := by rw [hW0]; exact (Row.new w _ _).alloc _
  have hr2 : Row W0 (w.heap.size + 1) 66 [.slice none 0 0, .slice none 0 0] := by
    have h := Row.new (w.alloc (.cells #[.slice VA vs.length VC, .slice BA bs.length BC] 66)) 66 [.slice none 0 0, .slice none 0 0]
    rw [World.size_alloc] at h
    rw [hW0]; exact h
  have HX0 := Lib.hid hx0
  have HR1 := Lib.hid hr1
  have HR2 := Lib.hid hr2
  have HSL := Lib.hid h1
  have HBT := Lib.hid (And.intro h2 h3)
  have HW0 := Lib.hid hW0
  have hz0 : w.heap.size + 1 < W0.heap.size := hr2.lt
  obtain ⟨B, hB⟩ : ∃ B, B = W0.heap.size := ⟨_, rfl⟩
  have HBE := Lib.hid hB
  rw [← hB] at hz0
  clear hall hPn hq hU hx0 hr1 hr2 h1 h2 h3 hW0 hB
  obtain ⟨m15, hm⟩ : ∃ m, m = bs.length + 1 := ⟨_, rfl⟩
  obtain ⟨q1, hq1⟩ : ∃ q1, q1 = q.num + 1 := ⟨_, rfl⟩
  have r15 : IntKind.i64.wrap ((bs.length : Int) + 1) = (m15 : Int) := by rw [IntWalk.i64_in _ (by omega)]; omega
  have r6 : IntKind.i64.wrap (q.num + 1) = q1 := by have := HQ.out; rw [IntWalk.i64_in _ (by omega)]; omega
  have HM15 := Lib.hid hm
  have HQ1 := Lib.hid hq1
  have HSS : Hid (∀ wx, Below B W0 wx → wx.cell? ⟨w.heap.size, 0, none⟩ = some (.slice VA vs.length VC) ∧ wx.cell? ⟨w.heap.size, 1, none⟩ = some (.slice BA bs.length BC)) := fun wx h => ⟨(HR1.out.below h (by omega)).cell 0, (HR1.out.below h (by omega)).cell 1⟩
  have HSLA : Hid (∀ wx, Below B W0 wx → Sl wx.heap.size wx VA (vs.flatMap rvC)) := fun wx h => (Sl.below HSL.out (Below.then HX0.out.below (by rw [HBE.out] at h; exact h) HX0.out.size) (Nat.le_refl _)).more (Nat.le_trans HX0.out.size h.size)
  have HSLB : Hid (∀ wx, Below B W0 wx → Sl wx.heap.size wx BA hds) := fun wx h => (Sl.below HBT.out.2 (Below.then HX0.out.below (by rw [HBE.out] at h; exact h) HX0.out.size) (Nat.le_refl _)).more (Nat.le_trans HX0.out.size h.size)
  clear hm hq1
  go_enter Try.func44, Try.ntmps44
  go_upto_region 1 with (fail)
  rw [← HW0.out]
  clear HW0
  have k0 : W0.drew.cell? ⟨w.heap.size, 0, none⟩ = some (.slice VA vs.length VC) := HR1.out.cell 0
  have k1 : W0.drew.cell? ⟨w.heap.size, 1, none⟩ = some (.slice BA bs.length BC) := HR1.out.cell 1
  refine wp_region_held_drew (S := (fun w' => w'.cell? ⟨w.heap.size, 0, none⟩ = some (.slice VA vs.length VC) ∧ w'.cell? ⟨w.heap.size, 1, none⟩ = some (.slice BA bs.length BC))) (by kernel_rfl) ⟨k0, k1⟩ (fun hHeld => ?_)
  refine takeOp (i := 1) (v := ?_) (some 6) rfl rfl (by kernel_rfl) (by kernel_rfl) (by kernel_rfl) (fun _ _ _ h => h) (Or.inl ⟨by rfl, ?_⟩) (by assumption) ?_
  rotate_left 1
  · (intro w0 hSw; (try dsimp only at hSw); go_simp; try (with_reducible rfl))
  try simp only [Act.put]
  try simp only [List.setIfInBounds_toArray]
  try simp only [List.set_cons_succ]
  try simp only [List.set_cons_zero]
  refine takeOp (i := 2) (v := ?_) (some 7) rfl rfl (by kernel_rfl) (by kernel_rfl) (by kernel_rfl) (fun _ _ _ h => h) (Or.inl ⟨by rfl, ?_⟩) (by assumption) ?_
  rotate_left 1
  · (intro w0 hSw; (try dsimp only at hSw); go_simp; try (with_reducible rfl))
  try simp only [Act.put]
  try simp only [List.setIfInBounds_toArray]
  try simp only [List.set_cons_succ]
  try simp only [List.set_cons_zero]
  refine takeOp (i := 4) (v := ?_) (some 9) rfl rfl (by kernel_rfl) (by kernel_rfl) (by kernel_rfl) (fun _ _ _ h => h) (Or.inl ⟨by rfl, ?_⟩) (by assumption) ?_
  rotate_left 1
  · (intro w0 hSw; (try dsimp only at hSw); go_simp; try (with_reducible rfl))
  try simp only [Act.put]
  try simp only [List.setIfInBounds_toArray]
  try simp only [List.set_cons_succ]
  try simp only [List.set_cons_zero]
  refine takeOp (i := 7) (v := ?_) (some 12) rfl rfl (by kernel_rfl) (by kernel_rfl) (by kernel_rfl) (fun _ _ _ h => h) (Or.inl ⟨by rfl, ?_⟩) (by assumption) ?_
  rotate_left 1
  · (intro w0 hSw; (try dsimp only at hSw); go_simp; try (with_reducible rfl))
  try simp only [Act.put]
  try simp only [List.setIfInBounds_toArray]
  try simp only [List.set_cons_succ]
  try simp only [List.set_cons_zero]
  refine takeOp (i := 8) (v := ?_) (some 13) rfl rfl (by kernel_rfl) (by kernel_rfl) (by kernel_rfl) (fun _ _ _ h => h) (Or.inl ⟨by rfl, ?_⟩) (by assumption) ?_
  rotate_left 1
  · (intro w0 hSw; (try dsimp only at hSw); go_simp; try (with_reducible rfl))
  try simp only [Act.put]
  try simp only [List.setIfInBounds_toArray]
  try simp only [List.set_cons_succ]
  try simp only [List.set_cons_zero]
  refine takeOp (i := 9) (v := ?_) (some 14) rfl rfl (by kernel_rfl) (by kernel_rfl) (by kernel_rfl) (fun _ _ _ h => h) (Or.inl ⟨by rfl, ?_⟩) (by assumption) ?_
  rotate_left 1
  · (intro w0 hSw; (try dsimp only at hSw); go_simp; try (with_reducible rfl))
  try simp only [Act.put]
  try simp only [List.setIfInBounds_toArray]
  try simp only [List.set_cons_succ]
  try simp only [List.set_cons_zero]
  refine takeOp (i := 10) (v := ?_) (some 15) rfl rfl (by kernel_rfl) (by kernel_rfl) (by kernel_rfl) (fun _ _ _ h => h) (Or.inl ⟨by rfl, ?_⟩) (by assumption) ?_
  rotate_left 1
  · (intro w0 hSw; (try dsimp only at hSw); go_simp; try (with_reducible rfl))
  try simp only [Act.put]
  try simp only [List.setIfInBounds_toArray]
  try simp only [List.set_cons_succ]
  try simp only [List.set_cons_zero]
  refine takeOp (i := 15) (v := ?_) (some 20) rfl rfl (by kernel_rfl) (by kernel_rfl) (by kernel_rfl) (fun _ _ _ h => h) (Or.inl ⟨by rfl, ?_⟩) (by assumption) ?_
  rotate_left 1
  · (intro w0 hSw; (try dsimp only at hSw); go_simp; try (with_reducible rfl))
  try simp only [Act.put]
  try simp only [List.setIfInBounds_toArray]
  try simp only [List.set_cons_succ]
  try simp only [List.set_cons_zero]
  refine takeOp (i := 16) (v := ?_) (some 21) rfl rfl (by kernel_rfl) (by kernel_rfl) (by kernel_rfl) (fun _ _ _ h => h) (Or.inl ⟨by rfl, ?_⟩) (by assumption) ?_
  rotate_left 1
  · (intro w0 hSw; (try dsimp only at hSw); go_simp; try (with_reducible rfl))
  try simp only [Act.put]
  try simp only [List.setIfInBounds_toArray]
  try simp only [List.set_cons_succ]
  try simp only [List.set_cons_zero]
  refine takeOp (i := 18) (v := ?_) (some 23) rfl rfl (by kernel_rfl) (by kernel_rfl) (by kernel_rfl) (fun _ _ _ h => h) (Or.inl ⟨by rfl, ?_⟩) (by assumption) ?_
  rotate_left 1
  · (intro w0 hSw; (try dsimp only at hSw); go_simp; try (with_reducible rfl))
  try simp only [Act.put]
  try simp only [List.setIfInBounds_toArray]
  try simp only [List.set_cons_succ]
  try simp only [List.set_cons_zero]
  have T0 : TwoOwn B W0 W0.drew (.slice none 0 0) 0 [] (.slice none 0 0) 0 [] none none [.int .i64 q1, .int .i64 0, .int .i64 m15] [.slice UA us.length UC] := ⟨own_nil _ _ _ _, own_nil _ _ _ _, fun g e => (by cases e), fun g e => (by cases e), fun g e => (by cases e), (Below.refl _ _).drew, by show B ≤ W0.heap.size; have := HBE.out; omega⟩
  refine wpAnyH_inv (fun n l a wx => ∃ (p : Nat) (d14 d19 : Bool) (c1 c2 c3 e1 e2 e3 : Value) (g12 g19 : Nat), n = 11 - p + cntC d14 + cntC d19 ∧ valC p d14 d19 = true ∧ l = lstC p d14 d19 ∧ a = actC w.heap.size VA vs.length VC UA us.length UC BA bs.length BC m15 q.num q1 p d14 d19 c1 c2 c3 e1 e2 e3 g12 g19 ∧ stC B W0 w.heap.size vs.length (vs.flatMap rvC) [.int .i64 q1, .int .i64 0, .int .i64 m15] bs.length hds [.slice UA us.length UC] p d14 d19 c1 c2 c3 e1 e2 e3 g12 g19 wx) ?_ ?_ ?_ 13 _ _ _ ⟨0, false, false, undef, undef, undef, undef, undef, undef, 0, 0, rfl, rfl, by kernel_rfl, rfl, T0⟩
  · rintro l a wx ⟨p, d14, d19, c1, c2, c3, e1, e2, e3, g12, g19, hn, hv, rfl, rfl, hT⟩
    have hp : p = 11 ∧ d14 = true ∧ d19 = true := by
      cases d14 <;> cases d19 <;> simp [valC, cntC] at hv hn ⊢ <;> omega
    obtain ⟨rfl, rfl, rfl⟩ := hp
    refine ⟨(chkC_spec (by kernel_rfl) hv).1 rfl, ?_⟩
    unfold stC at hT
    rw [if_pos rfl] at hT
    obtain ⟨W, hT, rfl⟩ := hT
    obtain ⟨A3, C3, rfl, -, -, hsA⟩ := own_cut hT.a (by decide)
    obtain ⟨AB, CB, rfl, -, -, hsB⟩ := own_cut hT.b (by decide)
    have HT := Lib.hid hT
    have HSA : Hid (Sl W.heap.size W A3 (vs.flatMap rvC ++ [.int .i64 q1, .int .i64 0, .int .i64 m15]) ∧ ∀ ad, A3 = some ad → B ≤ ad.block) := ⟨fun hne => by
      obtain ⟨b, rfl, hb, hc⟩ := hsA hne
      exact ⟨b, 0, rfl, hb, fun i u hu => by rw [Nat.zero_add]; exact hc i u hu⟩, fun ad e => own_base hT.a (k := ad.block) (by rw [e]; rfl)⟩
    have HSB : Hid (Sl W.heap.size W AB (hds ++ [.slice UA us.length UC]) ∧ ∀ ad, AB = some ad → B ≤ ad.block) := ⟨fun hne => by
      obtain ⟨b, rfl, hb, hc⟩ := hsB hne
      exact ⟨b, 0, rfl, hb, fun i u hu => by rw [Nat.zero_add]; exact hc i u hu⟩, fun ad e => own_base hT.b (k := ad.block) (by rw [e]; rfl)⟩
    clear hT hn hv hsA hsB
    obtain ⟨W9, hW9⟩ : ∃ W9, W9 = (W.setCell ⟨w.heap.size + 1, 0, none⟩ (.slice A3 (vs.length + 1) C3)).setCell ⟨w.heap.size + 1, 1, none⟩ (.slice AB (bs.length + 1) CB) := ⟨_, rfl⟩
    rw [← hW9]
    have q := (HR2.out.below HT.out.bl (by omega)).set2 (.slice A3 (vs.length + 1) C3) (.slice AB (bs.length + 1) CB)
    rw [← hW9] at q
    have c0 := q.cell 0
    have c1 := q.cell 1
    have hbl : Below w.heap.size w W := Below.then HX0.out.below (by have := HT.out.bl; rw [HBE.out] at this; exact this) HX0.out.size
    have hb9 : Below w.heap.size w W9 := by rw [hW9]; exact (hbl.setCell (by show w.heap.size ≤ w.heap.size + 1; omega) _).setCell (by show w.heap.size ≤ w.heap.size + 1; omega) _
    have HB9 := Lib.hid hb9
    have HST : Hid (∀ (A : Option Addr) (xs : List Value), Sl W.heap.size W A xs → (∀ ad, A = some ad → B ≤ ad.block) → Sl W9.heap.size W9 A xs) := fun A xs hA hne hx => by
      obtain ⟨b, o, rfl, hb, hc⟩ := hA hx
      have hb1 : B ≤ b := hne _ rfl
      have hn : w.heap.size + 1 ≠ b := by omega
      refine ⟨b, o, rfl, by rw [hW9]; simpa using hb, fun j u hu => ?_⟩
      rw [hW9]
      exact far_cell hn (far_cell hn (hc j u hu))
    clear hW9 hbl hb9 q
    unfold actC
    go_wp2_with fail
    refine bodyPost_ret (v := .agg #[.slice A3 (vs.length + 1) C3, .slice AB (bs.length + 1) CB]) (by simp [results, Try.results44, go_sem, c0, c1]) rfl ⟨_, rfl, ?_, HB9.out⟩
    have hP : ∀ b, B ≤ b → P b := fun b hb => HPN.out b (by omega)
    refine ⟨A3, C3, AB, CB, hds ++ [.slice UA us.length UC], by simp, fun w'' hst => ?_⟩
    have hst0 := (Stay.of (P := P) HB9.out).trans hst
    obtain ⟨-, s2, -⟩ := HS.out w'' hst0
    refine ⟨?_, s2.snoc (HU.out w'' hst0), sl_stay (HST.out _ _ HSB.out.1 HSB.out.2) (fun ad e => hP _ (HSB.out.2 ad e)) hst⟩
    have := sl_stay (HST.out _ _ HSA.out.1 HSA.out.2) (fun ad e => hP _ (HSA.out.2 ad e)) hst
    rw [rvC_snoc]
    have e1 := HQ1.out
    have e2 := HM15.out
    rw [e1, e2] at this
    exact this
  · rintro n l a wx ⟨p, d14, d19, c1, c2, c3, e1, e2, e3, g12, g19, hn, hv, rfl, rfl, hT⟩
    refine ((chkC_spec (by kernel_rfl) hv).2 fun e => ?_).1
    subst e
    cases d14 <;> cases d19 <;> simp [valC, cntC] at hv hn
  · rintro n l a wx i ⟨p, d14, d19, c1, c2, c3, e1, e2, e3, g12, g19, hn, hv, rfl, rfl, hT⟩ hi
    have hi := ((chkC_spec (by kernel_rfl) hv).2 fun e => (by subst e; cases d14 <;> cases d19 <;> simp [valC, cntC] at hv hn)).2 i hi
    simp only [armC, Bool.or_eq_true, Bool.and_eq_true, beq_iff_eq, Bool.not_eq_true'] at hi
    obtain (((((((((((⟨rfl, rfl⟩ | ⟨rfl, rfl⟩) | ⟨rfl, rfl⟩) | ⟨rfl, rfl⟩) | ⟨rfl, rfl⟩) | ⟨rfl, rfl⟩) | ⟨rfl, rfl⟩) | ⟨rfl, rfl, rfl⟩) | ⟨rfl, rfl, rfl⟩) | ⟨rfl, rfl⟩) | ⟨rfl, rfl⟩) | ⟨rfl, rfl⟩) | ⟨rfl, rfl⟩ := hi
    · -- 0
      have T : TwoOwn B W0 wx (.slice none 0 0) 0 [] (curB 0 d14 e1 e2 e3) 0 [] none (if d19 = true then some g19 else none) [.int .i64 q1, .int .i64 0, .int .i64 m15] [.slice UA us.length UC] := hT
      have hv' : valC 1 d14 d19 = true := by cases d14 <;> cases d19 <;> rfl
      have hn' : n = 11 - 1 + cntC d14 + cntC d19 := by omega
      have HT := Lib.hid T
      clear T hT hn hv
      refine wpOp_shut rfl fun K hK => ?_
      unfold actC
      go_simp
      have T1 := HT.out.newA
      refine hK.out _ _ ⟨HSS.out _ (T1).bl, ⟨1, d14, d19, (.slice (some ⟨wx.heap.size, 0, none⟩) 0 0), c2, c3, e1, e2, e3, g12, g19, hn', hv', rfl, rfl, T1⟩⟩
    · -- 3
      have T : TwoOwn B W0 wx c1 0 [] (curB 1 d14 e1 e2 e3) 0 [] none (if d19 = true then some g19 else none) [.int .i64 q1, .int .i64 0, .int .i64 m15] [.slice UA us.length UC] := hT
      have hv' : valC 2 d14 d19 = true := by cases d14 <;> cases d19 <;> rfl
      have hn' : n = 11 - 2 + cntC d14 + cntC d19 := by omega
      have HT := Lib.hid T
      clear T hT hn hv
      refine wpOp_shut rfl fun K hK => ?_
      unfold actC
      refine stepXVer rfl (.tmp 5) (.tmp 7) rfl B c1 0 [] rfl HT.out.a VA vs.length VC (vs.flatMap rvC) rfl (rvC_len vs) (HSLA.out _ HT.out.bl) (rvC_one vs) (by omega) HT.out.sz ?_
      intro v5 w5 hown hg hat
      have T1 := HT.out.growA hown hg hat
      rw [Nat.zero_add] at T1
      refine hK.out _ _ ⟨HSS.out _ (T1).bl, ⟨2, d14, d19, c1, v5, c3, e1, e2, e3, g12, g19, hn', hv', rfl, rfl, T1⟩⟩
    · -- 5
      have T : TwoOwn B W0 wx c2 vs.length (vs.flatMap rvC) (curB 2 d14 e1 e2 e3) 0 [] none (if d19 = true then some g19 else none) [.int .i64 q1, .int .i64 0, .int .i64 m15] [.slice UA us.length UC] := hT
      have hv' : valC 3 d14 d19 = true := by cases d14 <;> cases d19 <;> rfl
      have hn' : n = 11 - 3 + cntC d14 + cntC d19 := by omega
      have HT := Lib.hid T
      clear T hT hn hv
      refine wpOp_shut rfl fun K hK => ?_
      unfold actC
      go_simp
      refine (HLAT.out _ (HSLA.out _ HT.out.bl)).mono ?_
      rintro e w1 ⟨rfl, hx⟩
      have T1 := HT.out.ext hx
      go_simp
      refine hK.out _ _ ⟨HSS.out _ (T1).bl, ⟨3, d14, d19, c1, c2, c3, e1, e2, e3, g12, g19, hn', hv', rfl, rfl, T1⟩⟩
    · -- 6
      have T : TwoOwn B W0 wx c2 vs.length (vs.flatMap rvC) (curB 3 d14 e1 e2 e3) 0 [] none (if d19 = true then some g19 else none) [.int .i64 q1, .int .i64 0, .int .i64 m15] [.slice UA us.length UC] := hT
      have hv' : valC 4 d14 d19 = true := by cases d14 <;> cases d19 <;> rfl
      have hn' : n = 11 - 4 + cntC d14 + cntC d19 := by omega
      have HT := Lib.hid T
      clear T hT hn hv
      refine wpOp_shut rfl fun K hK => ?_
      unfold actC
      go_simp
      refine hK.out _ _ ⟨HSS.out _ (HT.out).bl, ⟨4, d14, d19, c1, c2, c3, e1, e2, e3, g12, g19, hn', hv', rfl, rfl, HT.out⟩⟩
    · -- 11
      have T : TwoOwn B W0 wx c2 vs.length (vs.flatMap rvC) (curB 4 d14 e1 e2 e3) 0 [] none (if d19 = true then some g19 else none) [.int .i64 q1, .int .i64 0, .int .i64 m15] [.slice UA us.length UC] := hT
      have hv' : valC 5 d14 d19 = true := by cases d14 <;> cases d19 <;> rfl
      have hn' : n = 11 - 5 + cntC d14 + cntC d19 := by omega
      have HT := Lib.hid T
      clear T hT hn hv
      refine wpOp_shut rfl fun K hK => ?_
      unfold actC
      go_simp
      refine hK.out _ _ ⟨HSS.out _ (HT.out).bl, ⟨5, d14, d19, c1, c2, c3, e1, e2, e3, g12, g19, hn', hv', rfl, rfl, HT.out⟩⟩
    · -- 12
      have T : TwoOwn B W0 wx c2 vs.length (vs.flatMap rvC) (curB 5 d14 e1 e2 e3) 0 [] none (if d19 = true then some g19 else none) [.int .i64 q1, .int .i64 0, .int .i64 m15] [.slice UA us.length UC] := hT
      have hv' : valC 6 d14 d19 = true := by cases d14 <;> cases d19 <;> rfl
      have hn' : n = 11 - 6 + cntC d14 + cntC d19 := by omega
      have HT := Lib.hid T
      clear T hT hn hv
      refine wpOp_shut rfl fun K hK => ?_
      unfold actC
      go_simp
      have T1 := HT.out.put12 [.int .i64 q1, .int .i64 0, .int .i64 m15]
      refine hK.out _ _ ⟨HSS.out _ (T1).bl, ⟨6, d14, d19, c1, c2, c3, e1, e2, e3, wx.heap.size, g19, hn', hv', rfl, rfl, T1⟩⟩
    · -- 13
      have T : TwoOwn B W0 wx c2 vs.length (vs.flatMap rvC) (curB 6 d14 e1 e2 e3) 0 [] (some g12) (if d19 = true then some g19 else none) [.int .i64 q1, .int .i64 0, .int .i64 m15] [.slice UA us.length UC] := hT
      have hv' : valC 7 d14 d19 = true := by cases d14 <;> cases d19 <;> rfl
      have hn' : n = 11 - 7 + cntC d14 + cntC d19 := by omega
      have HT := Lib.hid T
      clear T hT hn hv
      refine wpOp_shut rfl fun K hK => ?_
      unfold actC
      refine stepXVer rfl (.tmp 8) (.tmp 17) rfl B c2 vs.length (vs.flatMap rvC) rfl HT.out.a (some ⟨g12, 0, none⟩) 1 1 [.int .i64 q1, .int .i64 0, .int .i64 m15] rfl rfl (HT.out.r12 g12 rfl).1.sl (by simp [Value.oneCell']) (by omega) HT.out.sz ?_
      intro v5 w5 hown hg hat
      have T1 := HT.out.growA hown hg hat
      refine hK.out _ _ ⟨HSS.out _ (T1).bl, ⟨7, d14, d19, c1, c2, v5, e1, e2, e3, g12, g19, hn', hv', rfl, rfl, T1⟩⟩
    · -- 17
      have T : TwoOwn B W0 wx c3 (vs.length + 1) (vs.flatMap rvC ++ [.int .i64 q1, .int .i64 0, .int .i64 m15]) (curB 7 true e1 e2 e3) 0 [] (some g12) (if d19 = true then some g19 else none) [.int .i64 q1, .int .i64 0, .int .i64 m15] [.slice UA us.length UC] := hT
      have hv' : valC 8 true d19 = true := by cases d19 <;> rfl
      have hn' : n = 11 - 8 + cntC true + cntC d19 := by omega
      have HT := Lib.hid T
      clear T hT hn hv
      refine wpOp_shut rfl fun K hK => ?_
      unfold actC
      refine stepXBat rfl (.tmp 19) (.tmp 21) rfl B e1 0 [] rfl HT.out.b BA bs.length BC hds rfl (by rw [HBT.out.1.len, Nat.mul_one]) (HSLB.out _ HT.out.bl) HBT.out.1.one (by omega) HT.out.sz ?_
      intro v5 w5 hown hg hat
      have T1 := HT.out.growB hown hg hat
      rw [Nat.zero_add] at T1
      refine hK.out _ _ ⟨HSS.out _ (T1).bl, ⟨8, true, d19, c1, c2, c3, e1, v5, e3, g12, g19, hn', hv', rfl, rfl, T1⟩⟩
    · -- 20
      have hd : d14 = true := by cases d14 <;> simp [valC] at hv ⊢
      subst hd
      have T : TwoOwn B W0 wx c3 (vs.length + 1) (vs.flatMap rvC ++ [.int .i64 q1, .int .i64 0, .int .i64 m15]) e2 bs.length hds (some g12) (some g19) [.int .i64 q1, .int .i64 0, .int .i64 m15] [.slice UA us.length UC] := hT
      have hv' : valC 9 true true = true := by rfl
      have hn' : n = 11 - 9 + cntC true + cntC true := by omega
      have HT := Lib.hid T
      clear T hT hn hv
      refine wpOp_shut rfl fun K hK => ?_
      unfold actC
      refine stepXBat rfl (.tmp 22) (.tmp 24) rfl B e2 bs.length hds rfl HT.out.b (some ⟨g19, 0, none⟩) 1 1 [.slice UA us.length UC] rfl rfl (HT.out.r19 g19 rfl).1.sl (by simp [Value.oneCell']) (by omega) HT.out.sz ?_
      intro v5 w5 hown hg hat
      have T1 := HT.out.growB hown hg hat
      refine hK.out _ _ ⟨HSS.out _ (T1).bl, ⟨9, true, true, c1, c2, c3, e1, e2, v5, g12, g19, hn', hv', rfl, rfl, T1⟩⟩
    · -- 21
      have hd : d14 = true ∧ d19 = true := by cases d14 <;> cases d19 <;> simp [valC] at hv ⊢
      obtain ⟨rfl, rfl⟩ := hd
      have T : TwoOwn B W0 wx c3 (vs.length + 1) (vs.flatMap rvC ++ [.int .i64 q1, .int .i64 0, .int .i64 m15]) e3 (bs.length + 1) (hds ++ [.slice UA us.length UC]) (some g12) (some g19) [.int .i64 q1, .int .i64 0, .int .i64 m15] [.slice UA us.length UC] := hT
      have hv' : valC 10 true true = true := by rfl
      have hn' : n = 11 - 10 + cntC true + cntC true := by omega
      obtain ⟨A3, C3, rfl, -, -, -⟩ := own_cut T.a (by decide)
      obtain ⟨AB, CB, rfl, -, -, -⟩ := own_cut T.b (by decide)
      have HT := Lib.hid T
      clear T hT hn hv
      refine wpOp_shut rfl fun K hK => ?_
      unfold actC
      go_simp
      refine hK.out _ _ ⟨HSS.out _ (HT.out).bl, ⟨10, true, true, c1, c2, (.slice A3 (vs.length + 1) C3), e1, e2, (.slice AB (bs.length + 1) CB), g12, g19, hn', hv', rfl, rfl, HT.out⟩⟩
    · -- 22
      have hd : d14 = true ∧ d19 = true := by cases d14 <;> cases d19 <;> simp [valC] at hv ⊢
      obtain ⟨rfl, rfl⟩ := hd
      have T : TwoOwn B W0 wx c3 (vs.length + 1) (vs.flatMap rvC ++ [.int .i64 q1, .int .i64 0, .int .i64 m15]) e3 (bs.length + 1) (hds ++ [.slice UA us.length UC]) (some g12) (some g19) [.int .i64 q1, .int .i64 0, .int .i64 m15] [.slice UA us.length UC] := hT
      have hv' : valC 11 true true = true := by rfl
      have hn' : n = 11 - 11 + cntC true + cntC true := by omega
      obtain ⟨A3, C3, rfl, -, -, -⟩ := own_cut T.a (by decide)
      obtain ⟨AB, CB, rfl, -, -, -⟩ := own_cut T.b (by decide)
      have HT := Lib.hid T
      clear T hT hn hv
      refine wpOp_shut rfl fun K hK => ?_
      unfold actC
      have hr := HR2.out.below HT.out.bl (by omega)
      have m0 : wx.cell? ⟨w.heap.size + 1, 0, none⟩ = some (.slice none 0 0) := hr.cell 0
      have m1 : wx.cell? ⟨w.heap.size + 1, 1, none⟩ = some (.slice none 0 0) := hr.cell 1
      have m2 := hr.frozen 0
      have m3 := hr.frozen 1
      have m4 := hr.lt
      have q0 := ((HR1.out.below HT.out.bl (by omega)).far (show w.heap.size ≠ (⟨w.heap.size + 1, 0, none⟩ : Addr).block from by show w.heap.size ≠ w.heap.size + 1; omega) (.slice A3 (vs.length + 1) C3)).far (show w.heap.size ≠ (⟨w.heap.size + 1, 1, none⟩ : Addr).block from by show w.heap.size ≠ w.heap.size + 1; omega) (.slice AB (bs.length + 1) CB)
      go_simp
      refine hK.out _ _ ⟨⟨q0.cell 0, q0.cell 1⟩, ⟨11, true, true, c1, c2, (.slice A3 (vs.length + 1) C3), e1, e2, (.slice AB (bs.length + 1) CB), g12, g19, hn', hv', rfl, rfl, ⟨wx, HT.out, rfl⟩⟩⟩
    · -- 14
      have hpl : p ≤ 7 := by
        cases d19 <;> simp [valC] at hv ⊢ <;> omega
      have hp : p = 0 ∨ p = 1 ∨ p = 2 ∨ p = 3 ∨ p = 4 ∨ p = 5 ∨ p = 6 ∨ p = 7 := by omega
      clear hpl
      rcases hp with rfl | rfl | rfl | rfl | rfl | rfl | rfl | rfl
      · have T : TwoOwn B W0 wx (.slice none 0 0) 0 [] (.slice none 0 0) 0 [] none (if d19 = true then some g19 else none) [.int .i64 q1, .int .i64 0, .int .i64 m15] [.slice UA us.length UC] := hT
        have hv' : valC 0 true d19 = true := by cases d19 <;> rfl
        have hn' : n = 11 - 0 + cntC true + cntC d19 := by have h1 : cntC true = 0 := rfl; have h2 : cntC false = 1 := rfl; omega
        have HT := Lib.hid T
        clear T hT hn hv
        refine wpOp_shut rfl fun K hK => ?_
        unfold actC
        go_simp
        have T1 := HT.out.newB
        refine hK.out _ _ ⟨HSS.out _ (T1).bl, ⟨0, true, d19, c1, c2, c3, (.slice (some ⟨wx.heap.size, 0, none⟩) 0 0), e2, e3, g12, g19, hn', hv', rfl, rfl, T1⟩⟩
      · have T : TwoOwn B W0 wx c1 0 [] (.slice none 0 0) 0 [] none (if d19 = true then some g19 else none) [.int .i64 q1, .int .i64 0, .int .i64 m15] [.slice UA us.length UC] := hT
        have hv' : valC 1 true d19 = true := by cases d19 <;> rfl
        have hn' : n = 11 - 1 + cntC true + cntC d19 := by have h1 : cntC true = 0 := rfl; have h2 : cntC false = 1 := rfl; omega
        have HT := Lib.hid T
        clear T hT hn hv
        refine wpOp_shut rfl fun K hK => ?_
        unfold actC
        go_simp
        have T1 := HT.out.newB
        refine hK.out _ _ ⟨HSS.out _ (T1).bl, ⟨1, true, d19, c1, c2, c3, (.slice (some ⟨wx.heap.size, 0, none⟩) 0 0), e2, e3, g12, g19, hn', hv', rfl, rfl, T1⟩⟩
      · have T : TwoOwn B W0 wx c2 vs.length (vs.flatMap rvC) (.slice none 0 0) 0 [] none (if d19 = true then some g19 else none) [.int .i64 q1, .int .i64 0, .int .i64 m15] [.slice UA us.length UC] := hT
        have hv' : valC 2 true d19 = true := by cases d19 <;> rfl
        have hn' : n = 11 - 2 + cntC true + cntC d19 := by have h1 : cntC true = 0 := rfl; have h2 : cntC false = 1 := rfl; omega
        have HT := Lib.hid T
        clear T hT hn hv
        refine wpOp_shut rfl fun K hK => ?_
        unfold actC
        go_simp
        have T1 := HT.out.newB
        refine hK.out _ _ ⟨HSS.out _ (T1).bl, ⟨2, true, d19, c1, c2, c3, (.slice (some ⟨wx.heap.size, 0, none⟩) 0 0), e2, e3, g12, g19, hn', hv', rfl, rfl, T1⟩⟩
      · have T : TwoOwn B W0 wx c2 vs.length (vs.flatMap rvC) (.slice none 0 0) 0 [] none (if d19 = true then some g19 else none) [.int .i64 q1, .int .i64 0, .int .i64 m15] [.slice UA us.length UC] := hT
        have hv' : valC 3 true d19 = true := by cases d19 <;> rfl
        have hn' : n = 11 - 3 + cntC true + cntC d19 := by have h1 : cntC true = 0 := rfl; have h2 : cntC false = 1 := rfl; omega
        have HT := Lib.hid T
        clear T hT hn hv
        refine wpOp_shut rfl fun K hK => ?_
        unfold actC
        go_simp
        have T1 := HT.out.newB
        refine hK.out _ _ ⟨HSS.out _ (T1).bl, ⟨3, true, d19, c1, c2, c3, (.slice (some ⟨wx.heap.size, 0, none⟩) 0 0), e2, e3, g12, g19, hn', hv', rfl, rfl, T1⟩⟩
      · have T : TwoOwn B W0 wx c2 vs.length (vs.flatMap rvC) (.slice none 0 0) 0 [] none (if d19 = true then some g19 else none) [.int .i64 q1, .int .i64 0, .int .i64 m15] [.slice UA us.length UC] := hT
        have hv' : valC 4 true d19 = true := by cases d19 <;> rfl
        have hn' : n = 11 - 4 + cntC true + cntC d19 := by have h1 : cntC true = 0 := rfl; have h2 : cntC false = 1 := rfl; omega
        have HT := Lib.hid T
        clear T hT hn hv
        refine wpOp_shut rfl fun K hK => ?_
        unfold actC
        go_simp
        have T1 := HT.out.newB
        refine hK.out _ _ ⟨HSS.out _ (T1).bl, ⟨4, true, d19, c1, c2, c3, (.slice (some ⟨wx.heap.size, 0, none⟩) 0 0), e2, e3, g12, g19, hn', hv', rfl, rfl, T1⟩⟩
      · have T : TwoOwn B W0 wx c2 vs.length (vs.flatMap rvC) (.slice none 0 0) 0 [] none (if d19 = true then some g19 else none) [.int .i64 q1, .int .i64 0, .int .i64 m15] [.slice UA us.length UC] := hT
        have hv' : valC 5 true d19 = true := by cases d19 <;> rfl
        have hn' : n = 11 - 5 + cntC true + cntC d19 := by have h1 : cntC true = 0 := rfl; have h2 : cntC false = 1 := rfl; omega
        have HT := Lib.hid T
        clear T hT hn hv
        refine wpOp_shut rfl fun K hK => ?_
        unfold actC
        go_simp
        have T1 := HT.out.newB
        refine hK.out _ _ ⟨HSS.out _ (T1).bl, ⟨5, true, d19, c1, c2, c3, (.slice (some ⟨wx.heap.size, 0, none⟩) 0 0), e2, e3, g12, g19, hn', hv', rfl, rfl, T1⟩⟩
      · have T : TwoOwn B W0 wx c2 vs.length (vs.flatMap rvC) (.slice none 0 0) 0 [] (some g12) (if d19 = true then some g19 else none) [.int .i64 q1, .int .i64 0, .int .i64 m15] [.slice UA us.length UC] := hT
        have hv' : valC 6 true d19 = true := by cases d19 <;> rfl
        have hn' : n = 11 - 6 + cntC true + cntC d19 := by have h1 : cntC true = 0 := rfl; have h2 : cntC false = 1 := rfl; omega
        have HT := Lib.hid T
        clear T hT hn hv
        refine wpOp_shut rfl fun K hK => ?_
        unfold actC
        go_simp
        have T1 := HT.out.newB
        refine hK.out _ _ ⟨HSS.out _ (T1).bl, ⟨6, true, d19, c1, c2, c3, (.slice (some ⟨wx.heap.size, 0, none⟩) 0 0), e2, e3, g12, g19, hn', hv', rfl, rfl, T1⟩⟩
      · have T : TwoOwn B W0 wx c3 (vs.length + 1) (vs.flatMap rvC ++ [.int .i64 q1, .int .i64 0, .int .i64 m15]) (.slice none 0 0) 0 [] (some g12) (if d19 = true then some g19 else none) [.int .i64 q1, .int .i64 0, .int .i64 m15] [.slice UA us.length UC] := hT
        have hv' : valC 7 true d19 = true := by cases d19 <;> rfl
        have hn' : n = 11 - 7 + cntC true + cntC d19 := by have h1 : cntC true = 0 := rfl; have h2 : cntC false = 1 := rfl; omega
        have HT := Lib.hid T
        clear T hT hn hv
        refine wpOp_shut rfl fun K hK => ?_
        unfold actC
        go_simp
        have T1 := HT.out.newB
        refine hK.out _ _ ⟨HSS.out _ (T1).bl, ⟨7, true, d19, c1, c2, c3, (.slice (some ⟨wx.heap.size, 0, none⟩) 0 0), e2, e3, g12, g19, hn', hv', rfl, rfl, T1⟩⟩
    · -- 19
      have hpl : p ≤ 8 := by
        cases d14 <;> simp [valC] at hv ⊢ <;> omega
      have hp : p = 0 ∨ p = 1 ∨ p = 2 ∨ p = 3 ∨ p = 4 ∨ p = 5 ∨ p = 6 ∨ p = 7 ∨ p = 8 := by omega
      clear hpl
      rcases hp with rfl | rfl | rfl | rfl | rfl | rfl | rfl | rfl | rfl
      · have T : TwoOwn B W0 wx (.slice none 0 0) 0 [] (curB 0 d14 e1 e2 e3) 0 [] none none [.int .i64 q1, .int .i64 0, .int .i64 m15] [.slice UA us.length UC] := hT
        have hv' : valC 0 d14 true = true := by cases d14 <;> rfl
        have hn' : n = 11 - 0 + cntC d14 + cntC true := by have h1 : cntC true = 0 := rfl; have h2 : cntC false = 1 := rfl; omega
        have HT := Lib.hid T
        clear T hT hn hv
        refine wpOp_shut rfl fun K hK => ?_
        unfold actC
        go_simp
        have T1 := HT.out.put19 [.slice UA us.length UC]
        refine hK.out _ _ ⟨HSS.out _ (T1).bl, ⟨0, d14, true, c1, c2, c3, e1, e2, e3, g12, wx.heap.size, hn', hv', rfl, rfl, T1⟩⟩
      · have T : TwoOwn B W0 wx c1 0 [] (curB 1 d14 e1 e2 e3) 0 [] none none [.int .i64 q1, .int .i64 0, .int .i64 m15] [.slice UA us.length UC] := hT
        have hv' : valC 1 d14 true = true := by cases d14 <;> rfl
        have hn' : n = 11 - 1 + cntC d14 + cntC true := by have h1 : cntC true = 0 := rfl; have h2 : cntC false = 1 := rfl; omega
        have HT := Lib.hid T
        clear T hT hn hv
        refine wpOp_shut rfl fun K hK => ?_
        unfold actC
        go_simp
        have T1 := HT.out.put19 [.slice UA us.length UC]
        refine hK.out _ _ ⟨HSS.out _ (T1).bl, ⟨1, d14, true, c1, c2, c3, e1, e2, e3, g12, wx.heap.size, hn', hv', rfl, rfl, T1⟩⟩
      · have T : TwoOwn B W0 wx c2 vs.length (vs.flatMap rvC) (curB 2 d14 e1 e2 e3) 0 [] none none [.int .i64 q1, .int .i64 0, .int .i64 m15] [.slice UA us.length UC] := hT
        have hv' : valC 2 d14 true = true := by cases d14 <;> rfl
        have hn' : n = 11 - 2 + cntC d14 + cntC true := by have h1 : cntC true = 0 := rfl; have h2 : cntC false = 1 := rfl; omega
        have HT := Lib.hid T
        clear T hT hn hv
        refine wpOp_shut rfl fun K hK => ?_
        unfold actC
        go_simp
        have T1 := HT.out.put19 [.slice UA us.length UC]
        refine hK.out _ _ ⟨HSS.out _ (T1).bl, ⟨2, d14, true, c1, c2, c3, e1, e2, e3, g12, wx.heap.size, hn', hv', rfl, rfl, T1⟩⟩
      · have T : TwoOwn B W0 wx c2 vs.length (vs.flatMap rvC) (curB 3 d14 e1 e2 e3) 0 [] none none [.int .i64 q1, .int .i64 0, .int .i64 m15] [.slice UA us.length UC] := hT
        have hv' : valC 3 d14 true = true := by cases d14 <;> rfl
        have hn' : n = 11 - 3 + cntC d14 + cntC true := by have h1 : cntC true = 0 := rfl; have h2 : cntC false = 1 := rfl; omega
        have HT := Lib.hid T
        clear T hT hn hv
        refine wpOp_shut rfl fun K hK => ?_
        unfold actC
        go_simp
        have T1 := HT.out.put19 [.slice UA us.length UC]
        refine hK.out _ _ ⟨HSS.out _ (T1).bl, ⟨3, d14, true, c1, c2, c3, e1, e2, e3, g12, wx.heap.size, hn', hv', rfl, rfl, T1⟩⟩
      · have T : TwoOwn B W0 wx c2 vs.length (vs.flatMap rvC) (curB 4 d14 e1 e2 e3) 0 [] none none [.int .i64 q1, .int .i64 0, .int .i64 m15] [.slice UA us.length UC] := hT
        have hv' : valC 4 d14 true = true := by cases d14 <;> rfl
        have hn' : n = 11 - 4 + cntC d14 + cntC true := by have h1 : cntC true = 0 := rfl; have h2 : cntC false = 1 := rfl; omega
        have HT := Lib.hid T
        clear T hT hn hv
        refine wpOp_shut rfl fun K hK => ?_
        unfold actC
        go_simp
        have T1 := HT.out.put19 [.slice UA us.length UC]
        refine hK.out _ _ ⟨HSS.out _ (T1).bl, ⟨4, d14, true, c1, c2, c3, e1, e2, e3, g12, wx.heap.size, hn', hv', rfl, rfl, T1⟩⟩
      · have T : TwoOwn B W0 wx c2 vs.length (vs.flatMap rvC) (curB 5 d14 e1 e2 e3) 0 [] none none [.int .i64 q1, .int .i64 0, .int .i64 m15] [.slice UA us.length UC] := hT
        have hv' : valC 5 d14 true = true := by cases d14 <;> rfl
        have hn' : n = 11 - 5 + cntC d14 + cntC true := by have h1 : cntC true = 0 := rfl; have h2 : cntC false = 1 := rfl; omega
        have HT := Lib.hid T
        clear T hT hn hv
        refine wpOp_shut rfl fun K hK => ?_
        unfold actC
        go_simp
        have T1 := HT.out.put19 [.slice UA us.length UC]
        refine hK.out _ _ ⟨HSS.out _ (T1).bl, ⟨5, d14, true, c1, c2, c3, e1, e2, e3, g12, wx.heap.size, hn', hv', rfl, rfl, T1⟩⟩
      · have T : TwoOwn B W0 wx c2 vs.length (vs.flatMap rvC) (curB 6 d14 e1 e2 e3) 0 [] (some g12) none [.int .i64 q1, .int .i64 0, .int .i64 m15] [.slice UA us.length UC] := hT
        have hv' : valC 6 d14 true = true := by cases d14 <;> rfl
        have hn' : n = 11 - 6 + cntC d14 + cntC true := by have h1 : cntC true = 0 := rfl; have h2 : cntC false = 1 := rfl; omega
        have HT := Lib.hid T
        clear T hT hn hv
        refine wpOp_shut rfl fun K hK => ?_
        unfold actC
        go_simp
        have T1 := HT.out.put19 [.slice UA us.length UC]
        refine hK.out _ _ ⟨HSS.out _ (T1).bl, ⟨6, d14, true, c1, c2, c3, e1, e2, e3, g12, wx.heap.size, hn', hv', rfl, rfl, T1⟩⟩
      · have T : TwoOwn B W0 wx c3 (vs.length + 1) (vs.flatMap rvC ++ [.int .i64 q1, .int .i64 0, .int .i64 m15]) (curB 7 d14 e1 e2 e3) 0 [] (some g12) none [.int .i64 q1, .int .i64 0, .int .i64 m15] [.slice UA us.length UC] := hT
        have hv' : valC 7 d14 true = true := by cases d14 <;> rfl
        have hn' : n = 11 - 7 + cntC d14 + cntC true := by have h1 : cntC true = 0 := rfl; have h2 : cntC false = 1 := rfl; omega
        have HT := Lib.hid T
        clear T hT hn hv
        refine wpOp_shut rfl fun K hK => ?_
        unfold actC
        go_simp
        have T1 := HT.out.put19 [.slice UA us.length UC]
        refine hK.out _ _ ⟨HSS.out _ (T1).bl, ⟨7, d14, true, c1, c2, c3, e1, e2, e3, g12, wx.heap.size, hn', hv', rfl, rfl, T1⟩⟩
      · have h14 : d14 = true := by cases d14 <;> simp [valC] at hv ⊢
        subst h14
        have T : TwoOwn B W0 wx c3 (vs.length + 1) (vs.flatMap rvC ++ [.int .i64 q1, .int .i64 0, .int .i64 m15]) e2 bs.length hds (some g12) none [.int .i64 q1, .int .i64 0, .int .i64 m15] [.slice UA us.length UC] := hT
        have hv' : valC 8 true true = true := by rfl
        have hn' : n = 11 - 8 + cntC true + cntC true := by have h1 : cntC true = 0 := rfl; have h2 : cntC false = 1 := rfl; omega
        have HT := Lib.hid T
        clear T hT hn hv
        refine wpOp_shut rfl fun K hK => ?_
        unfold actC
        go_simp
        have T1 := HT.out.put19 [.slice UA us.length UC]
        refine hK.out _ _ ⟨HSS.out _ (T1).bl, ⟨8, true, true, c1, c2, c3, e1, e2, e3, g12, wx.heap.size, hn', hv', rfl, rfl, T1⟩⟩

end Go.Proofs.Ytgaffbdcpkbdhaa
end

section
/- Walk: the law SnapshotKeeps (chapter 16). -/
namespace Go.Proofs.Ytgaffbdcpkbdhaa
open Go.RowKit Go.Sort Go.ChangeMaps Go.WideShapes

set_option maxHeartbeats 16000000 in
set_option maxRecDepth 100000 in
theorem l16Keeps_any (SA : Option Addr) (SC : Nat) (X : Sch) (LA : Option Addr) (LC : Nat) (L : List ActR) (pn : Nat) (w : World)
    (hS : SchsM w.heap.size w SA X) (hSo : SchsOk X) (hSl : X.length ≤ 9223372036854775807) (hL : ActsM w.heap.size w LA L) (hLo : ∀ a ∈ L, ActOk a) (hLl : L.length ≤ 9223372036854775807) (hpn : pn ≤ 255) :
    Calls Try.prog 6 #[.slice SA X.length SC, .slice LA L.length LC, .int .u8 (pn : Nat)] w fun e w' => e = .returned (.bool true) ∧ Below w.heap.size w w' := by
  have HS := Lib.hid hS
  have HSO := Lib.hid hSo
  have HL := Lib.hid hL
  have HLO := Lib.hid hLo
  have HSL := Lib.hid hSl
  have HLL := Lib.hid hLl
  clear hS hSo hL hLo hSl hLl
  have HAW := Lib.hid (l16awake_any w)
  go_enter Try.func6, Try.ntmps6
  go_wp2_with fail
  refine HAW.out.mono ?_
  rintro e w1 ⟨rfl, hb1⟩
  have HB1 := Lib.hid hb1
  have HF1 := Lib.hid (l16few_any LA LC L w1 ((HL.out.below HB1.out (Nat.le_refl _)).more HB1.out.size) HLL.out HLO.out)
  clear hb1 HAW
  cases hf1 : fewL L with
  | false =>
    rw [hf1] at HF1
    clear hf1
    go_wp2_with fail
    refine HF1.out.mono ?_
    rintro e w2 ⟨rfl, hx2⟩
    have HB2 := Lib.hid (Below.then HB1.out hx2.below HB1.out.size)
    clear hx2 HF1 HB1
    go_wp2_with fail
    go_ret
    exact ⟨rfl, HB2.out⟩
  | true =>
  rw [hf1] at HF1
  obtain ⟨hL40, hfit⟩ := fewL_fit hf1 HLO.out
  have HFIT := Lib.hid hfit
  clear hf1 hfit
  go_wp2_with fail
  refine HF1.out.mono ?_
  rintro e w4 ⟨rfl, hx2⟩
  have HB4 := Lib.hid (Below.then HB1.out hx2.below HB1.out.size)
  clear hx2 HF1 HB1
  by_cases h20 : 20 < X.length
  · have q1 : (20 : Int) < (X.length : Int) := by omega
    go_wp2_with fail
    go_ret
    exact ⟨rfl, HB4.out⟩
  have q1 : ¬ (20 : Int) < (X.length : Int) := by omega
  by_cases hL0 : L.length = 0
  · have q2 : ((L.length : Int) == 0) = true := by rw [hL0]; rfl
    have q3 : ((L.length : Int)) = 0 := by omega
    go_wp2_with fail
    go_ret
    exact ⟨rfl, HB4.out⟩
  have q2 : ((L.length : Int) == 0) = false := by
    have : (L.length : Int) ≠ 0 := by omega
    simpa using this
  have hLp : 0 < L.length := by omega
  have HN := Lib.hid (ctNew_any (fun _ => True) SA SC X w4 (fun _ _ => trivial) ((HS.out.below HB4.out (Nat.le_refl _)).more HB4.out.size) HSO.out HSL.out)
  clear h20 hL0
  go_wp2_with fail
  refine HN.out.mono ?_
  rintro e w5 ⟨h5, h6, hb5⟩
  have HB5 := Lib.hid (Below.then HB4.out hb5 HB4.out.size)
  clear HN HB4 hb5
  by_cases herr : errS X = 0
  rotate_left
  · obtain rfl := h6 herr
    have HE : Hid (errS X ≠ 0) := herr
    obtain ⟨W7, hW7⟩ : ∃ W7, W7 = w5.alloc (.cells #[.map none] 25) := ⟨_, rfl⟩
    have hx7 : Ext w5 W7 := by rw [hW7]; exact (Ext.refl w5).alloc _
    have hr7 : Row W7 w5.heap.size 25 [.map none] := by rw [hW7]; exact Row.new w5 25 _
    have k0 : W7.cell? ⟨w5.heap.size, 0, none⟩ = some (.map none) := hr7.cell 0
    have k1 := hr7.lt
    have HB7 := Lib.hid (Below.then HB5.out hx7.below HB5.out.size)
    have HNW := Lib.hid (snNew_low 0 (by decide) (by decide) W7)
    have q2 : (errS X != 0) = true := by simpa using herr
    have HW7 := Lib.hid hW7
    clear h5 h6 herr hx7 hr7 hW7 HB5
    go_upto_region 6 with (fail)
    rw [← HW7.out]
    clear HW7
    go_wp2_with fail
    refine HNW.out.mono ?_
    rintro e w8 ⟨m8, rfl, hb8⟩
    have HB8 := Lib.hid (Below.then HB7.out hb8 HB7.out.size)
    clear hb8 HNW HB7 k0 k1
    go_wp2_with fail
    go_ret
    exact ⟨rfl, Below.then HB8.out ((Ext.refl w8).alloc _).below HB8.out.size⟩
  obtain ⟨m5, rfl, hdb⟩ := h5 herr
  obtain ⟨bd, rfl⟩ := hdb.form
  have HOKS := Lib.hid (errS_ok herr)
  obtain ⟨W7, hW7⟩ : ∃ W7, W7 = w5.alloc (.cells #[.map (some bd)] 25) := ⟨_, rfl⟩
  have hx7 : Ext w5 W7 := by rw [hW7]; exact (Ext.refl w5).alloc _
  have hr7 : Row W7 w5.heap.size 25 [.map (some bd)] := by rw [hW7]; exact Row.new w5 25 _
  have k0 : W7.cell? ⟨w5.heap.size, 0, none⟩ = some (.map (some bd)) := hr7.cell 0
  have k1 := hr7.lt
  have HB7 := Lib.hid (Below.then HB5.out hx7.below HB5.out.size)
  have HDB := Lib.hid (hdb.up hx7.below)
  have HW7 := Lib.hid hW7
  clear h5 h6 hx7 hr7 hW7 hdb herr HB5
  go_upto_region 6 with (fail)
  rw [← HW7.out]
  clear HW7
  go_wp2_with fail
  refine (snNew_ok (P := fun _ => True) (S := X) (m := .map (some bd)) (F := fun _ => []) 0 (by decide) (by decide) W7 HDB.out (fun _ _ => trivial)).mono ?_
  rintro e w8 ⟨m8, rfl, hst8, hb8⟩
  obtain ⟨b8, rfl⟩ := hst8.form
  obtain ⟨W9, hW9⟩ : ∃ W9, W9 = w8.alloc (.cells #[.map (some b8), .int .i64 0] 31) := ⟨_, rfl⟩
  obtain ⟨g, hg⟩ : ∃ g, g = w8.heap.size := ⟨_, rfl⟩
  have hx9 : Ext w8 W9 := by rw [hW9]; exact (Ext.refl w8).alloc _
  have HR9 : Hid (Row W9 g 31 [.map (some b8), .int .i64 0]) := by show Row _ _ _ _; rw [hW9, hg]; exact Row.new w8 31 _
  have HB9 := Lib.hid (Below.then (Below.then HB7.out hb8 HB7.out.size) hx9.below (Nat.le_trans HB7.out.size hb8.size))
  have HS9 : Hid (StM (fun b => b ≠ g) X W9 (.map (some b8)) [⟨0, fun _ => [], 0⟩]) := (hst8.weak (P' := fun b => b ≠ g) fun b hb _ => by show b ≠ g; omega).up hx9.below
  have hgw : w.heap.size ≤ g := by rw [hg]; exact Nat.le_trans HB7.out.size hb8.size
  have HW9 := Lib.hid hW9
  have HG := Lib.hid hg
  clear hst8 hb8 hx9 hW9 hg k0 k1 HDB HB7
  obtain ⟨h, hh⟩ : ∃ h, h = g + 1 := ⟨_, rfl⟩
  have hgh : g < h := by omega
  have hhs : h = W9.heap.size := by
    have e : W9.heap.size = w8.heap.size + 1 := by rw [HW9.out, World.size_alloc]
    rw [hh, e, HG.out]
  obtain ⟨a0, hat⟩ : ∃ a0 : Nat, (pn : Int) % (L.length : Int) = (a0 : Int) := ⟨pn % L.length, by omega⟩
  have HAT := Lib.hid hat
  clear hat
  obtain ⟨W10, hW10⟩ : ∃ W, W = W9.alloc (.cells #[.map none] 25) := ⟨_, rfl⟩
  have hx10 : Ext W9 W10 := by rw [hW10]; exact (Ext.refl W9).alloc _
  have HH10 : Hid (Row W10 h 25 [.map none]) := by show Row _ _ _ _; rw [hW10, hhs]; exact Row.new W9 25 _
  have HKI : Hid (KeepI X g h 0 false 0 w W10) := ⟨b8, 0, [⟨0, fun _ => [], 0⟩], .map none, HR9.out.up hx10.below, HH10.out, (HS9.out.weak fun b hb hp => ⟨hp, by omega⟩).up hx10.below, Good.one (Int.le_refl _) (by decide), fun h => (by cases h), Below.then HB9.out hx10.below HB9.out.size⟩
  have HH := Lib.hid hh
  have HW10 := Lib.hid hW10
  clear hx10 hh hhs hW10 HR9 HS9 HB9 HH10
  go_upto_region 12 with (fail)
  rw [← HW9.out, ← HW10.out, ← HG.out, ← HH.out, HAT.out]
  clear HW9 HW10 HG HH HAT
  go_loopw [12, 14] (fun vv c wx => ∃ (i : Nat) (v : Int), i ≤ L.length ∧ c = .int .i64 i ∧ vv = .int .i64 v ∧ (Lit.int .i64 v).wf = true ∧ KeepI X g h (if a0 < i then i + 1 else i) (decide (a0 < i)) v w wx) (fun _ c _ => L.length - (intOf c).toNat)
  case atStart => exact ⟨0, 0, Nat.zero_le _, rfl, rfl, by decide, HKI.out⟩
  case round =>
    obtain ⟨i, v, hi, rfl, rfl, hvw, hk⟩ := hrel
    have HVW := Lib.hid hvw
    have HK := Lib.hid hk
    clear hvw hk HKI
    by_cases hil : i < L.length
    rotate_left
    · obtain rfl : i = L.length := by omega
      have r1 : ¬ (L.length : Int) < (L.length : Int) := by omega
      have HB : Hid (Below w.heap.size w wr) := by obtain ⟨_, _, _, _, _, _, _, _, _, hb⟩ := HK.out; exact hb
      go_wp2
      go_ret
      exact ⟨rfl, HB.out⟩
    have r1 : (i : Int) < (L.length : Int) := by omega
    have r0 : (0 : Int) ≤ (i : Int) := by omega
    have r3 : IntKind.i64.wrap ((i : Int) + 1) = ((i + 1 : Nat) : Int) := by rw [IntWalk.i64_in _ (by omega)]; omega
    have q5 : ((i : Int) == (a0 : Int)) = decide (i = a0) := by
      by_cases hia : i = a0
      · rw [decide_eq_true hia, hia]; simp
      · rw [decide_eq_false hia]
        have : (i : Int) ≠ (a0 : Int) := by omega
        simpa using this
    obtain ⟨qb, hqb⟩ : ∃ q, q = decide (i = a0) := ⟨_, rfl⟩
    rw [← hqb] at q5
    have HQB := Lib.hid hqb
    clear hqb
    go_upto_if 63 with (fail)
    go_cut [12] from 64 to 77 (fun vv wx => ∃ v : Int, vv = .int .i64 v ∧ (Lit.int .i64 v).wf = true ∧ KeepI X g h (if a0 ≤ i then i + 1 else i) (decide (a0 ≤ i)) v w wx)
    case first =>
      clear q5
      cases qb with
      | true =>
        have hia : i = a0 := of_decide_eq_true HQB.out.symm
        obtain ⟨b, l, V, mp, h1, h2, h3, h4, -, h6⟩ := HK.out
        obtain ⟨x, hx1, hx2, hx3⟩ := h4.find
        have HR := Lib.hid h1
        have HH := Lib.hid h2
        have HT := Lib.hid h3
        have HG := Lib.hid h4
        have HB := Lib.hid h6
        have HX := Lib.hid hx1
        have HE5 : Hid ((if a0 < i then i + 1 else i) ≤ 500) := by show _ ≤ _; split <;> omega
        have HLW : Hid ((Lit.int .i64 l).wf = true) := by
          have e1 := h4.low
          have e2 := h4.high
          have e3 : (if a0 < i then i + 1 else i) ≤ 41 := by split <;> omega
          show _ = true
          simp [Lit.wf, IntKind.min, IntKind.max, IntKind.signed, IntKind.bits]; omega
        have j0 : wr.cell? ⟨g, 0, none⟩ = some (.map (some b)) := h1.cell 0
        have j1 : wr.cell? ⟨g, 1, none⟩ = some (.int .i64 l) := h1.cell 1
        have j2 := h1.lt
        have HIA := Lib.hid hia
        clear h1 h2 h3 h4 h6 hx1 hx2 hx3 HK hia
        go_wp2_with fail
        clear j0 j1 j2
        refine (snLatest_any (.map (some b)) l wr).mono ?_
        rintro e w11 ⟨rfl, hx⟩
        have HR11 := Lib.hid (HR.out.up hx.below)
        have HH11 := Lib.hid (HH.out.up hx.below)
        have HT11 := Lib.hid (HT.out.up hx.below)
        have HB11 := Lib.hid (Below.then HB.out hx.below HB.out.size)
        have j0 : w11.cell? ⟨g, 0, none⟩ = some (.map (some b)) := HR11.out.cell 0
        have j1 : w11.cell? ⟨g, 1, none⟩ = some (.int .i64 l) := HR11.out.cell 1
        have j2 := HR11.out.lt
        clear hx HR HH HT HB
        go_wp2_with fail
        clear j0 j1 j2
        refine (snAt_all (l := l) (n := l) HT11.out HLW.out).mono ?_
        rintro e w12 ⟨-, hat, hx⟩
        obtain ⟨d, rfl, hd⟩ := hat x HX.out
        have HR12 := Lib.hid (HR11.out.up hx.below)
        have HH12 := Lib.hid (HH11.out.up hx.below)
        have HT12 := Lib.hid (HT11.out.up hx.below)
        have HD12 := Lib.hid (hd.up hx.below)
        have HB12 := Lib.hid (Below.then HB11.out hx.below HB11.out.size)
        obtain ⟨W13, hW13⟩ : ∃ W, W = w12.setCell ⟨h, 0, none⟩ (.map (some d)) := ⟨_, rfl⟩
        have hst : Stay (fun b => b ≠ g ∧ b ≠ h) w12 W13 := by rw [hW13]; exact Stay.set (fun e => e.2 rfl) 0 _
        have HR13 : Hid (Row W13 g 31 [.map (some b), .int .i64 l]) := by show Row _ _ _ _; rw [hW13]; exact HR12.out.far (show g ≠ h by omega) _
        have HH13 : Hid (Row W13 h 25 [.map (some d)]) := by show Row _ _ _ _; rw [hW13]; exact HH12.out.set 0 _
        have HT13 := Lib.hid (HT12.out.keep hst)
        have HD13 := Lib.hid (HD12.out.keep hst)
        have HB13 : Hid (Below w.heap.size w W13) := by show Below _ _ _; rw [hW13]; exact HB12.out.setCell (by show w.heap.size ≤ h; omega) _
        have j0 : w12.cell? ⟨h, 0, none⟩ = some mp := HH12.out.cell 0
        have j1 := HH12.out.frozen 0
        have j2 := HH12.out.lt
        have HW13 := Lib.hid hW13
        clear hx hat hd hst hW13 HR11 HH11 HT11 HB11 HR12 HH12 HT12 HD12 HB12
        go_upto_region 17 with (fail)
        rw [← HW13.out]
        clear HW13 j0 j1 j2
        have HPN := Lib.hid (snPin_all (l := l) (n := l) HT13.out (fun b' hb' => by have h1 := HR13.out.lt; have h2 := HH13.out.lt; exact ⟨by omega, by omega⟩) HG.out HE5.out HLW.out)
        have j0 : W13.cell? ⟨g, 0, none⟩ = some (.map (some b)) := HR13.out.cell 0
        have j1 : W13.cell? ⟨g, 1, none⟩ = some (.int .i64 l) := HR13.out.cell 1
        have j2 := HR13.out.lt
        go_wp2_with fail
        clear j0 j1 j2
        refine HPN.out.mono ?_
        rintro e w14 ⟨m1, rfl, -, hst, hb⟩
        have HR14 := Lib.hid (HR13.out.up hb)
        have HK14 : Hid (KeepI X g h (if a0 ≤ i then i + 1 else i) (decide (a0 ≤ i)) l w ((w14.setCell ⟨g, 0, none⟩ (.map (some m1))).setCell ⟨g, 1, none⟩ (.int .i64 l))) := by
          have hfp := PinV.first HG.out HT13.out.asc HX.out
          refine KeepI.put (by omega) hgw HR14.out (HH13.out.up hb) hst ?_ (fun _ => ⟨x.db, hfp.2, HD13.out.up hb⟩) (Below.then HB13.out hb HB13.out.size)
          have hg2 := HG.out.pin HT13.out.asc l
          have hia : i = a0 := HIA.out
          have e1 : (if a0 < i then i + 1 else i) + 1 = if a0 ≤ i then i + 1 else i := by rw [if_neg (by omega), if_pos (by omega)]
          rwa [e1] at hg2
        have j0 : w14.cell? ⟨g, 0, none⟩ = some (.map (some b)) := HR14.out.cell 0
        have j1 : w14.cell? ⟨g, 1, none⟩ = some (.int .i64 l) := HR14.out.cell 1
        have j2 := HR14.out.frozen 0
        have j3 := HR14.out.frozen 1
        have j4 := HR14.out.lt
        clear hst hb HPN HR13 HH13 HT13 HD13 HB13
        go_wp2_with fail
        go_meet
        case rel => exact ⟨l, rfl, HLW.out, HK14.out⟩
      | false =>
        have hia : i ≠ a0 := of_decide_eq_false HQB.out.symm
        have HK2 : Hid (KeepI X g h (if a0 ≤ i then i + 1 else i) (decide (a0 ≤ i)) v w wr) := by
          have hiff : (a0 < i) ↔ (a0 ≤ i) := by omega
          have h := HK.out
          simp only [hiff] at h
          exact h
        clear hia
        go_wp2_with fail
        go_meet
        case rel => exact ⟨v, rfl, HVW.out, HK2.out⟩
    case rest =>
    obtain ⟨v, rfl, hvw, hk⟩ := hcut
    have HVW := Lib.hid hvw
    have HK := Lib.hid hk
    clear hvw hk q5
    obtain ⟨lb, lo, rfl, hlb, hlc⟩ := HL.out (by intro h0; rw [h0] at hil; simp at hil)
    obtain ⟨UA, UC, c0, c1, c2, -, hu⟩ := hlc i hil
    have hbw : Below w.heap.size w wc := by obtain ⟨_, _, _, _, _, _, _, _, _, hb⟩ := HK.out; exact hb
    have c0 := (hbw.cell hlb).trans c0
    have c1 := (hbw.cell hlb).trans c1
    have c2 := (hbw.cell hlb).trans c2
    have c3 := Nat.lt_of_lt_of_le hlb hbw.size
    have hft := HFIT.out L[i] (List.getElem_mem hil)
    obtain ⟨hkd, hnw, hul, -⟩ := hft
    have hok := (HFIT.out L[i] (List.getElem_mem hil)).upd
    clear hlc
    generalize L[i] = ai at *
    obtain ⟨kd, nj, us⟩ := ai
    have hul : us.length ≤ 12 := hul
    have hkd : kd ≤ 255 := hkd
    have HNW : Hid ((Lit.int .i64 nj).wf = true) := hnw
    have c0 : wc.cell? ⟨lb, lo + i * 3, none⟩ = some (.int .u8 (kd : Nat)) := c0
    have c1 : wc.cell? ⟨lb, lo + i * 3 + 1, none⟩ = some (.int .i64 nj) := c1
    have c2 : wc.cell? ⟨lb, lo + i * 3 + 2, none⟩ = some (.slice UA us.length UC) := c2
    have HOK : Hid (∀ u ∈ us, UpdOk u) := hok
    have HU : Hid (UpdsM w.heap.size w UA us) := hu
    obtain ⟨ga, hga⟩ : ∃ ga, ga = wc.heap.size := ⟨_, rfl⟩
    obtain ⟨W15, hW15⟩ : ∃ W, W = wc.alloc (.cells #[.int .u8 (kd : Nat), .int .i64 nj, .slice UA us.length UC] 51) := ⟨_, rfl⟩
    have hx15 : Ext wc W15 := by rw [hW15]; exact (Ext.refl wc).alloc _
    have HA15 : Hid (Row W15 ga 51 [.int .u8 (kd : Nat), .int .i64 nj, .slice UA us.length UC]) := by show Row _ _ _ _; rw [hW15, hga]; exact Row.new wc 51 _
    have HK15 := Lib.hid (HK.out.up hx15.below)
    have HGA := Lib.hid hga
    have HW15 := Lib.hid hW15
    have hgg : g < ga ∧ h < ga := by
      obtain ⟨_, _, _, _, r1, r2, _⟩ := HK.out
      have := r1.lt
      have := r2.lt
      omega
    clear hx15 hga hW15 hbw hu hok hnw HK
    go_upto_block 2 with (fail)
    rw [← HW15.out, ← HGA.out]
    clear HW15 HGA c0 c1 c2 c3
    obtain ⟨B, hB⟩ : ∃ B, B = if a0 ≤ i then i + 1 else i := ⟨_, rfl⟩
    have hB5 : B ≤ 41 := by rw [hB]; split <;> omega
    rw [← hB] at HK15
    have HBE := Lib.hid hB
    clear hB
    obtain ⟨pd, hpd⟩ : ∃ pd, pd = decide (a0 ≤ i) := ⟨_, rfl⟩
    rw [← hpd] at HK15
    have HPD := Lib.hid hpd
    clear hpd
    go_cut [16, 17, 18, 19] from 82 to 143 (fun _ _ _ _ wx => KeepI X g h (B + 1) pd v w wx)
    case first =>
      obtain ⟨b, l, V, mp, h1, h2, h3, h4, h5, h6⟩ := HK15.out
      have HR := Lib.hid h1
      have HH := Lib.hid h2
      have HT := Lib.hid h3
      have HG := Lib.hid h4
      have HP := Lib.hid h5
      have HB := Lib.hid h6
      have hlen := h4.len
      clear h1 h2 h3 h4 h5 h6 HK15
      have j0 : W15.cell? ⟨ga, 0, none⟩ = some (.int .u8 (kd : Nat)) := HA15.out.cell 0
      have j1 : W15.cell? ⟨ga, 1, none⟩ = some (.int .i64 nj) := HA15.out.cell 1
      have j2 : W15.cell? ⟨ga, 2, none⟩ = some (.slice UA us.length UC) := HA15.out.cell 2
      have j3 := HA15.out.lt
      have k0 : W15.cell? ⟨g, 0, none⟩ = some (.map (some b)) := HR.out.cell 0
      have k1 : W15.cell? ⟨g, 1, none⟩ = some (.int .i64 l) := HR.out.cell 1
      have k2 := HR.out.lt
      have HPB : Hid (∀ (V : World) (b' : Nat), W15.heap.size ≤ V.heap.size → V.heap.size ≤ b' → b' ≠ g ∧ b' ≠ h) := fun V b' h1 h2 => by
        have := hgg.1; have := hgg.2; have := HA15.out.lt
        exact ⟨by omega, by omega⟩
      have hcase : kd % 5 = 2 ∨ kd % 5 = 3 ∨ kd % 5 = 4 ∨ (kd % 5 ≠ 2 ∧ kd % 5 ≠ 3 ∧ kd % 5 ≠ 4) := by omega
      rcases hcase with hc | hc | hc | ⟨hc2, hc3, hc4⟩
      · have q2 : (((kd : Int) % 5) == 2) = true := by have : (kd : Int) % 5 = 2 := by omega
                                                       rw [this]; rfl
        clear hc
        have HPN := Lib.hid (snPin_all (l := l) (n := nj) HT.out (fun b' hb' => HPB.out W15 b' (Nat.le_refl _) hb') HG.out (by omega) HNW.out)
        go_wp2_with fail
        refine HPN.out.mono ?_
        rintro e w14 ⟨m1, rfl, -, hst, hb⟩
        have HR14 := Lib.hid (HR.out.up hb)
        have HK14 : Hid (KeepI X g h (B + 1) pd v w ((w14.setCell ⟨g, 0, none⟩ (.map (some m1))).setCell ⟨g, 1, none⟩ (.int .i64 l))) :=
          KeepI.put (by omega) hgw HR14.out (HH.out.up hb) hst (HG.out.pin HT.out.asc nj) (fun hp => by obtain ⟨F, a, c⟩ := HP.out hp; exact ⟨F, a.pin HT.out.asc nj, c.up hb⟩) (Below.then HB.out hb HB.out.size)
        clear j0 j1 j2 j3 k0 k1 k2
        have j0 : w14.cell? ⟨g, 0, none⟩ = some (.map (some b)) := HR14.out.cell 0
        have j1 : w14.cell? ⟨g, 1, none⟩ = some (.int .i64 l) := HR14.out.cell 1
        have j2 := HR14.out.frozen 0
        have j3 := HR14.out.frozen 1
        have j4 := HR14.out.lt
        clear hst hb HPN HR HH HT HP HB
        go_wp2_with fail
        go_meet
        case rel => exact HK14.out
      · have q2 : (((kd : Int) % 5) == 2) = false := by have : (kd : Int) % 5 ≠ 2 := by omega
                                                        simpa using this
        have q3 : (((kd : Int) % 5) == 3) = true := by have : (kd : Int) % 5 = 3 := by omega
                                                       rw [this]; rfl
        clear hc
        have hsub : (i < a0) ∨ (¬ i < a0 ∧ nj ≠ v) ∨ (¬ i < a0 ∧ nj = v) := by
          rcases Decidable.em (i < a0) with h1 | h1
          · exact .inl h1
          · rcases Decidable.em (nj = v) with h2 | h2
            · exact .inr (.inr ⟨h1, h2⟩)
            · exact .inr (.inl ⟨h1, h2⟩)
        rcases hsub with hs | ⟨hs, hnv⟩ | ⟨hs, hnv⟩
        · have q5 : (i : Int) < (a0 : Int) := by omega
          have HUPD : Hid (pd = true → nj ≠ v) := fun h => absurd (of_decide_eq_true (HPD.out.symm.trans h)) (by omega)
          skip
          clear hs
          have HPN := Lib.hid (snUnpin_all (l := l) (n := nj) HT.out (fun b' hb' => HPB.out W15 b' (Nat.le_refl _) hb') HG.out (by omega) HNW.out)
          go_wp2_with fail
          refine HPN.out.mono ?_
          rintro e w14 ⟨m1, rfl, -, hst, hb⟩
          have HR14 := Lib.hid (HR.out.up hb)
          have HK14 : Hid (KeepI X g h (B + 1) pd v w ((w14.setCell ⟨g, 0, none⟩ (.map (some m1))).setCell ⟨g, 1, none⟩ (.int .i64 l))) :=
            KeepI.put (by omega) hgw HR14.out (HH.out.up hb) hst (HG.out.unpin HT.out.asc nj) (fun hp => by obtain ⟨F, a, c⟩ := HP.out hp; exact ⟨F, a.unpin HT.out.asc (HUPD.out hp), c.up hb⟩) (Below.then HB.out hb HB.out.size)
          clear j0 j1 j2 j3 k0 k1 k2
          have j0 : w14.cell? ⟨g, 0, none⟩ = some (.map (some b)) := HR14.out.cell 0
          have j1 : w14.cell? ⟨g, 1, none⟩ = some (.int .i64 l) := HR14.out.cell 1
          have j2 := HR14.out.frozen 0
          have j3 := HR14.out.frozen 1
          have j4 := HR14.out.lt
          clear hst hb HPN HR HH HT HP HB
          go_wp2_with fail
          go_meet
          case rel => exact HK14.out
        · have q5 : ¬ (i : Int) < (a0 : Int) := by omega
          have HUPD : Hid (pd = true → nj ≠ v) := fun _ => hnv
          have q6 : (nj != v) = true := by simpa using hnv
          clear hs hnv
          have HPN := Lib.hid (snUnpin_all (l := l) (n := nj) HT.out (fun b' hb' => HPB.out W15 b' (Nat.le_refl _) hb') HG.out (by omega) HNW.out)
          go_wp2_with fail
          refine HPN.out.mono ?_
          rintro e w14 ⟨m1, rfl, -, hst, hb⟩
          have HR14 := Lib.hid (HR.out.up hb)
          have HK14 : Hid (KeepI X g h (B + 1) pd v w ((w14.setCell ⟨g, 0, none⟩ (.map (some m1))).setCell ⟨g, 1, none⟩ (.int .i64 l))) :=
            KeepI.put (by omega) hgw HR14.out (HH.out.up hb) hst (HG.out.unpin HT.out.asc nj) (fun hp => by obtain ⟨F, a, c⟩ := HP.out hp; exact ⟨F, a.unpin HT.out.asc (HUPD.out hp), c.up hb⟩) (Below.then HB.out hb HB.out.size)
          clear j0 j1 j2 j3 k0 k1 k2
          have j0 : w14.cell? ⟨g, 0, none⟩ = some (.map (some b)) := HR14.out.cell 0
          have j1 : w14.cell? ⟨g, 1, none⟩ = some (.int .i64 l) := HR14.out.cell 1
          have j2 := HR14.out.frozen 0
          have j3 := HR14.out.frozen 1
          have j4 := HR14.out.lt
          clear hst hb HPN HR HH HT HP HB
          go_wp2_with fail
          go_meet
          case rel => exact HK14.out
        · have q5 : ¬ (i : Int) < (a0 : Int) := by omega
          have q6 : (nj != v) = false := by simpa using hnv
          have HK14 : Hid (KeepI X g h (B + 1) pd v w W15) := ⟨b, l, V, mp, HR.out, HH.out, HT.out, HG.out.more (by omega), HP.out, HB.out⟩
          clear hs hnv
          go_wp2_with fail
          go_meet
          case rel => exact HK14.out
      · have q2 : (((kd : Int) % 5) == 2) = false := by have : (kd : Int) % 5 ≠ 2 := by omega
                                                        simpa using this
        have q3 : (((kd : Int) % 5) == 3) = false := by have : (kd : Int) % 5 ≠ 3 := by omega
                                                        simpa using this
        have q4 : (((kd : Int) % 5) == 4) = true := by have : (kd : Int) % 5 = 4 := by omega
                                                       rw [this]; rfl
        clear hc
        have HCO := Lib.hid (snCollect_any (l := l) HT.out (fun b' hb' => HPB.out W15 b' (Nat.le_refl _) hb') (by omega))
        have HGA := Lib.hid (gone_again V l)
        have HG1 := Lib.hid (HG.out.gone)
        have HP1 : Hid (pd = true → ∃ F, PinV (V.filter fun x => !goneB l x) v F ∧ DbM (fun b => b ≠ g ∧ b ≠ h) X W15 mp F) := fun hp => by obtain ⟨F, a, c⟩ := HP.out hp; exact ⟨F, a.gone, c⟩
        have hlen1 : (V.filter fun x => !goneB l x).length ≤ 43 := Nat.le_trans (List.length_filter_le _ _) (by omega)
        go_wp2_with fail
        refine HCO.out.mono ?_
        rintro e w16 ⟨m1, A1, C1, rfl, hst, -, hb⟩
        obtain ⟨V1, hV1⟩ : ∃ V1, V1 = V.filter fun x => !goneB l x := ⟨_, rfl⟩
        rw [← hV1] at hst HGA HG1 HP1 hlen1
        obtain ⟨b1, rfl⟩ := hst.form
        obtain ⟨n1, hn1⟩ : ∃ n1, n1 = (V.filter (goneB l)).length := ⟨_, rfl⟩
        rw [← hn1]
        clear hV1 hn1
        obtain ⟨x1, hx1⟩ : ∃ x, x = w16.heap.size := ⟨_, rfl⟩
        obtain ⟨W17, hW17⟩ : ∃ W, W = w16.alloc (.cells #[.map (some b1), .int .i64 l] 31) := ⟨_, rfl⟩
        have hx17 : Ext w16 W17 := by rw [hW17]; exact (Ext.refl w16).alloc _
        have hb17 := Below.then hb hx17.below hb.size
        have HX17 : Hid (Row W17 x1 31 [.map (some b1), .int .i64 l]) := by show Row _ _ _ _; rw [hW17, hx1]; exact Row.new w16 31 _
        have HR17 := Lib.hid (HR.out.up hb17)
        have HH17 := Lib.hid (HH.out.up hb17)
        have HT17 := Lib.hid (hst.up hx17.below)
        have HP17 : Hid (pd = true → ∃ F, PinV V1 v F ∧ DbM (fun b => b ≠ g ∧ b ≠ h) X W17 mp F) := fun hp => by obtain ⟨F, a, c⟩ := HP1.out hp; exact ⟨F, a, c.up hb17⟩
        have HB17 := Lib.hid (Below.then HB.out hb17 HB.out.size)
        have hz17 : W15.heap.size ≤ W17.heap.size := hb17.size
        have HCO2 := Lib.hid (snCollect_any (l := l) HT17.out (fun b' hb' => HPB.out W17 b' hz17 hb') (by omega))
        have l0 : W17.cell? ⟨x1, 0, none⟩ = some (.map (some b1)) := HX17.out.cell 0
        have l1 : W17.cell? ⟨x1, 1, none⟩ = some (.int .i64 l) := HX17.out.cell 1
        have l2 := HX17.out.lt
        have HW17 := Lib.hid hW17
        have HXX := Lib.hid hx1
        clear j0 j1 j2 j3 k0 k1 k2 hst hb hx17 hb17 hW17 hx1 HCO HR HH HT HP HB HP1 hz17
        go_upto_region 28 with (fail)
        rw [← HW17.out, ← HXX.out]
        clear HW17 HXX
        go_wp2_with fail
        clear l0 l1 l2
        refine HCO2.out.mono ?_
        rintro e w18 ⟨m2, A2, C2, rfl, hst, -, hb⟩
        obtain ⟨b2, rfl⟩ := hst.form
        rw [HGA.out.1]
        rw [HGA.out.2] at hst
        obtain ⟨x2, hx2⟩ : ∃ x, x = w18.heap.size := ⟨_, rfl⟩
        obtain ⟨W19, hW19⟩ : ∃ W, W = w18.alloc (.cells #[.map (some b2), .int .i64 l] 31) := ⟨_, rfl⟩
        have hx19 : Ext w18 W19 := by rw [hW19]; exact (Ext.refl w18).alloc _
        have hb19 := Below.then hb hx19.below hb.size
        have HY19 : Hid (Row W19 x2 31 [.map (some b2), .int .i64 l]) := by show Row _ _ _ _; rw [hW19, hx2]; exact Row.new w18 31 _
        have HX19 := Lib.hid (HX17.out.up hb19)
        have HR19 := Lib.hid (HR17.out.up hb19)
        have HH19 := Lib.hid (HH17.out.up hb19)
        have HT19 := Lib.hid (HT17.out.up hb19)
        have HU19 := Lib.hid (hst.up hx19.below)
        have HP19 : Hid (pd = true → ∃ F, PinV V1 v F ∧ DbM (fun b => b ≠ g ∧ b ≠ h) X W19 mp F) := fun hp => by obtain ⟨F, a, c⟩ := HP17.out hp; exact ⟨F, a, c.up hb19⟩
        have HB19 := Lib.hid (Below.then HB17.out hb19 HB17.out.size)
        have HKP : Hid (∀ W, Below W19.heap.size W19 W → W.cell? ⟨x1, 0, none⟩ = some (.map (some b1)) ∧ W.cell? ⟨x1, 1, none⟩ = some (.int .i64 l) ∧ W.cell? ⟨x2, 0, none⟩ = some (.map (some b2)) ∧ W.cell? ⟨x2, 1, none⟩ = some (.int .i64 l)) := fun W hb => ⟨(HX19.out.up hb).cell 0, (HX19.out.up hb).cell 1, (HY19.out.up hb).cell 0, (HY19.out.up hb).cell 1⟩
        have HW19 := Lib.hid hW19
        have HXX := Lib.hid hx2
        clear hst hb hx19 hb19 hW19 hx2 HCO2 HR17 HH17 HT17 HP17 HB17 HX17
        go_upto_region 29 with (fail)
        try simp only [List.length_nil]
        rw [← HW19.out, ← HXX.out]
        clear HW19 HXX
        refine wp_region_held_drew (S := (fun w' => w'.cell? ⟨x1, 0, none⟩ = some (.map (some b1)) ∧ w'.cell? ⟨x1, 1, none⟩ = some (.int .i64 l) ∧ w'.cell? ⟨x2, 0, none⟩ = some (.map (some b2)) ∧ w'.cell? ⟨x2, 1, none⟩ = some (.int .i64 l))) (by kernel_rfl) (HKP.out W19.drew (Below.refl _ _).drew) (fun hHeld => ?_)
        refine takeOp (i := 0) (v := ?_) (some 132) rfl rfl (by kernel_rfl) (by kernel_rfl) (by kernel_rfl) (fun _ _ _ h => h) (Or.inl ⟨by rfl, ?_⟩) (by assumption) ?_
        rotate_left 1
        · (intro w0 hSw; (try dsimp only at hSw); go_simp; try (with_reducible rfl))
        try simp only [Act.put]
        try simp only [List.setIfInBounds_toArray]
        try simp only [List.set_cons_succ]
        try simp only [List.set_cons_zero]
        refine takeOp (i := 1) (v := ?_) (some 133) rfl rfl (by kernel_rfl) (by kernel_rfl) (by kernel_rfl) (fun _ _ _ h => h) (Or.inl ⟨by rfl, ?_⟩) (by assumption) ?_
        rotate_left 1
        · (intro w0 hSw; (try dsimp only at hSw); go_simp; try (with_reducible rfl))
        try simp only [Act.put]
        try simp only [List.setIfInBounds_toArray]
        try simp only [List.set_cons_succ]
        try simp only [List.set_cons_zero]
        refine takeOp (i := 2) (v := ?_) (some 134) rfl rfl (by kernel_rfl) (by kernel_rfl) (by kernel_rfl) (fun _ _ _ h => h) (Or.inl ⟨by rfl, ?_⟩) (by assumption) ?_
        rotate_left 1
        · (intro w0 hSw; (try dsimp only at hSw); go_simp; try (with_reducible rfl))
        try simp only [Act.put]
        try simp only [List.setIfInBounds_toArray]
        try simp only [List.set_cons_succ]
        try simp only [List.set_cons_zero]
        refine takeOp (i := 3) (v := ?_) (some 135) rfl rfl (by kernel_rfl) (by kernel_rfl) (by kernel_rfl) (fun _ _ _ h => h) (Or.inl ⟨by rfl, ?_⟩) (by assumption) ?_
        rotate_left 1
        · (intro w0 hSw; (try dsimp only at hSw); go_simp; try (with_reducible rfl))
        try simp only [Act.put]
        try simp only [List.setIfInBounds_toArray]
        try simp only [List.set_cons_succ]
        try simp only [List.set_cons_zero]
        refine takeOp (i := 4) (v := ?_) (some 136) rfl rfl (by kernel_rfl) (by kernel_rfl) (by kernel_rfl) (fun _ _ _ h => h) (Or.inl ⟨by rfl, ?_⟩) (by assumption) ?_
        rotate_left 1
        · (intro w0 hSw; (try dsimp only at hSw); go_simp; try (with_reducible rfl))
        try simp only [Act.put]
        try simp only [List.setIfInBounds_toArray]
        try simp only [List.set_cons_succ]
        try simp only [List.set_cons_zero]
        refine takeOp (i := 6) (v := ?_) (some 138) rfl rfl (by kernel_rfl) (by kernel_rfl) (by kernel_rfl) (fun _ _ _ h => h) (Or.inl ⟨by rfl, ?_⟩) (by assumption) ?_
        rotate_left 1
        · (intro w0 hSw; (try dsimp only at hSw); go_simp; try (with_reducible rfl))
        try simp only [Act.put]
        try simp only [List.setIfInBounds_toArray]
        try simp only [List.set_cons_succ]
        try simp only [List.set_cons_zero]
        refine wpAnyH_ready (rs := [5]) (by kernel_rfl) (by simp) ?_
        refine AllReadyH.cons rfl (fun K hK => ?_) AllReadyH.nil
        go_simp
        refine (snVersions_sl (l := l) (HT19.out.up (Below.refl _ _).drew) (by omega)).mono ?_
        rintro e V3 ⟨A3, C3, rfl, hs, hb⟩
        have HV3 : Hid (Below W19.heap.size W19 V3) := Below.undrew hb
        have HS3 := Lib.hid hs
        clear hs hb
        go_wp2_with fail
        refine hK.out _ _ (HKP.out V3 HV3.out) (fun hHeld => ?_)
        clear hK K
        try simp only [Act.put]
        try simp only [List.setIfInBounds_toArray]
        try simp only [List.set_cons_succ]
        try simp only [List.set_cons_zero]
        refine wpAnyH_ready (rs := [7]) (by kernel_rfl) (by simp) ?_
        refine AllReadyH.cons rfl (fun K hK => ?_) AllReadyH.nil
        go_simp
        refine (snVersions_sl (l := l) (HU19.out.up HV3.out) (by omega)).mono ?_
        rintro e V4 ⟨A4, C4, rfl, hs, hb⟩
        have HV4 : Hid (Below W19.heap.size W19 V4) := Below.then HV3.out hb HV3.out.size
        have HS4 := Lib.hid hs
        have HS34 : Hid (SlI .i64 V4.heap.size V4 A3 (V1.map (·.num))) := (Sl.below HS3.out hb (Nat.le_refl _)).more hb.size
        clear hs hb HS3
        go_wp2_with fail
        refine hK.out _ _ (HKP.out V4 HV4.out) (fun hHeld => ?_)
        clear hK K
        try simp only [Act.put]
        try simp only [List.setIfInBounds_toArray]
        try simp only [List.set_cons_succ]
        try simp only [List.set_cons_zero]
        refine wpAnyH_ready (rs := [8]) (by kernel_rfl) (by simp) ?_
        refine AllReadyH.cons rfl (fun K hK => ?_) AllReadyH.nil
        go_simp
        refine (r16Same_refl A3 A4 C3 C4 V1.length (V1.map (·.num)) V4 (by rw [List.length_map]) HS34.out HS4.out (by omega)).mono ?_
        rintro e V5 ⟨rfl, hx⟩
        have HV5 : Hid (Below W19.heap.size W19 V5) := Below.then HV4.out hx.below HV4.out.size
        clear hx HS34 HS4
        go_wp2_with fail
        refine hK.out _ _ (HKP.out V5 HV5.out) (fun hHeld => ?_)
        clear hK K
        try simp only [Act.put]
        try simp only [List.setIfInBounds_toArray]
        try simp only [List.set_cons_succ]
        try simp only [List.set_cons_zero]
        refine takeOp (i := 9) (v := ?_) (some 141) rfl rfl (by kernel_rfl) (by kernel_rfl) (by kernel_rfl) (fun _ _ _ h => h) (Or.inl ⟨by rfl, ?_⟩) (by assumption) ?_
        rotate_left 1
        · (intro w0 hSw; (try dsimp only at hSw); go_simp; try (with_reducible rfl))
        try simp only [Act.put]
        try simp only [List.setIfInBounds_toArray]
        try simp only [List.set_cons_succ]
        try simp only [List.set_cons_zero]
        refine takeOp (i := 10) (v := ?_) (some 142) rfl rfl (by kernel_rfl) (by kernel_rfl) (by kernel_rfl) (fun _ _ _ h => h) (Or.inl ⟨by rfl, ?_⟩) (by assumption) ?_
        rotate_left 1
        · (intro w0 hSw; (try dsimp only at hSw); go_simp; try (with_reducible rfl))
        try simp only [Act.put]
        try simp only [List.setIfInBounds_toArray]
        try simp only [List.set_cons_succ]
        try simp only [List.set_cons_zero]
        refine wpAnyH_done (by kernel_rfl) ?_ _
        have hkp := HKP.out V5 HV5.out
        have HR20 := Lib.hid (HR19.out.up HV5.out)
        have l0 := hkp.1
        have l1 := hkp.2.1
        have l2 := (HX19.out.up HV5.out).lt
        have HK14 : Hid (KeepI X g h (B + 1) pd v w ((V5.setCell ⟨g, 0, none⟩ (.map (some b1))).setCell ⟨g, 1, none⟩ (.int .i64 l))) :=
          KeepI.put (by omega) hgw HR20.out (HH19.out.up HV5.out) (HT19.out.up HV5.out) HG1.out (fun hp => by obtain ⟨F, a, c⟩ := HP19.out hp; exact ⟨F, a, c.up HV5.out⟩) (Below.then HB19.out HV5.out HB19.out.size)
        have j0 : V5.cell? ⟨g, 0, none⟩ = some (.map (some b)) := HR20.out.cell 0
        have j1 : V5.cell? ⟨g, 1, none⟩ = some (.int .i64 l) := HR20.out.cell 1
        have j2 := HR20.out.frozen 0
        have j3 := HR20.out.frozen 1
        have j4 := HR20.out.lt
        clear hkp HKP hHeld HV3 HV4 HV5 HR19 HH19 HT19 HU19 HP19 HB19 HX19 HY19
        go_wp2_with fail
        go_meet
        case rel => exact HK14.out
      · have q2 : (((kd : Int) % 5) == 2) = false := by have : (kd : Int) % 5 ≠ 2 := by omega
                                                        simpa using this
        have q3 : (((kd : Int) % 5) == 3) = false := by have : (kd : Int) % 5 ≠ 3 := by omega
                                                        simpa using this
        have q4 : (((kd : Int) % 5) == 4) = false := by have : (kd : Int) % 5 ≠ 4 := by omega
                                                        simpa using this
        clear hc2 hc3 hc4
        have HCM := Lib.hid (snCommit_all (l := l) (B := B) HT.out (fun b' hb' => HPB.out W15 b' (Nat.le_refl _) hb') HG.out (by omega) (by omega) (Nat.le_trans HOKS.out.1 (by decide)) UA UC us ((HU.out.below HB.out (Nat.le_refl _)).more HB.out.size) HOK.out (by omega))
        have HGC := Lib.hid (HG.out.commit HT.out.asc X us)
        have HPC : Hid (pd = true → ∃ F, PinV (commitR X V l us).2.1 v F ∧ DbM (fun b => b ≠ g ∧ b ≠ h) X W15 mp F) := fun hp => by obtain ⟨F, a, c⟩ := HP.out hp; exact ⟨F, a.commit HG.out HT.out.asc X us, c⟩
        obtain ⟨r, hr⟩ : ∃ r, r = commitR X V l us := ⟨_, rfl⟩
        rw [← hr] at HCM HGC HPC
        clear hr
        go_wp2_with fail
        refine HCM.out.mono ?_
        rintro e w14 ⟨m1, n1, rfl, -, -, hst, hb⟩
        have HR14 := Lib.hid (HR.out.up hb)
        have HK14 : Hid (KeepI X g h (B + 1) pd v w ((w14.setCell ⟨g, 0, none⟩ (.map (some m1))).setCell ⟨g, 1, none⟩ (.int .i64 r.2.2))) :=
          KeepI.put (by omega) hgw HR14.out (HH.out.up hb) hst HGC.out (fun hp => by obtain ⟨F, a, c⟩ := HPC.out hp; exact ⟨F, a, c.up hb⟩) (Below.then HB.out hb HB.out.size)
        clear j0 j1 j2 j3 k0 k1 k2
        have j0 : w14.cell? ⟨g, 0, none⟩ = some (.map (some b)) := HR14.out.cell 0
        have j1 : w14.cell? ⟨g, 1, none⟩ = some (.int .i64 l) := HR14.out.cell 1
        have j2 := HR14.out.frozen 0
        have j3 := HR14.out.frozen 1
        have j4 := HR14.out.lt
        clear hst hb HCM HR HH HT HP HB
        go_wp2_with fail
        go_meet
        case rel => exact HK14.out
    case rest =>
    have HK20 : Hid (KeepI X g h (if a0 < i + 1 then i + 1 + 1 else i + 1) (decide (a0 < i + 1)) v w wc) := by
      have hk := hcut
      rw [HBE.out, HPD.out] at hk
      have hiff : (a0 < i + 1) ↔ (a0 ≤ i) := by omega
      show KeepI _ _ _ _ _ _ _ _
      simp only [hiff]
      have e1 : (if a0 ≤ i then i + 1 else i) + 1 = if a0 ≤ i then i + 1 + 1 else i + 1 := by split <;> rfl
      rwa [e1] at hk
    clear hcut HK15
    obtain ⟨W20, hW20⟩ : ∃ W, W = wc := ⟨_, rfl⟩
    subst hW20
    by_cases hia : i < a0
    · have q5 : (i : Int) < (a0 : Int) := by omega
      clear hia
      go_wp2_with fail
      go_roundw
      case rel => exact ⟨i + 1, v, hil, by go_num, rfl, HVW.out, HK20.out⟩
      case measure => simp [intOf]; omega
    · have q5 : ¬ (i : Int) < (a0 : Int) := by omega
      obtain ⟨b, l, V, mp, h1, h2, h3, h4, h5, h6⟩ := HK20.out
      obtain ⟨F, hp1, hp2⟩ := h5 (decide_eq_true (by omega))
      obtain ⟨bp, rfl⟩ := hp2.form
      obtain ⟨x, hx1, hx2⟩ := hp1.find h3.asc
      have HR := Lib.hid h1
      have HH := Lib.hid h2
      have HT := Lib.hid h3
      have HD := Lib.hid hp2
      have HX := Lib.hid hx1
      have HX2 := Lib.hid hx2
      have j0 : W20.cell? ⟨g, 0, none⟩ = some (.map (some b)) := h1.cell 0
      have j1 : W20.cell? ⟨g, 1, none⟩ = some (.int .i64 l) := h1.cell 1
      have j2 := h1.lt
      clear h1 h2 h3 h4 h5 h6 hp1 hp2 hx1 hx2 hia
      go_wp2_with fail
      clear j0 j1 j2
      refine (snAt_all (l := l) (n := v) HT.out HVW.out).mono ?_
      rintro e w21 ⟨-, hat, hx⟩
      obtain ⟨d, rfl, hd⟩ := hat x HX.out
      rw [HX2.out] at hd
      obtain ⟨W22, hW22⟩ : ∃ W, W = w21.alloc (.cells #[.map (some d)] 25) := ⟨_, rfl⟩
      have hx22 : Ext w21 W22 := by rw [hW22]; exact (Ext.refl w21).alloc _
      have hb22 := (hx.trans hx22).below
      have hr22 : Row W22 w21.heap.size 25 [.map (some d)] := by rw [hW22]; exact Row.new w21 25 _
      have hh22 := HH.out.up hb22
      have l0 : W22.cell? ⟨w21.heap.size, 0, none⟩ = some (.map (some d)) := hr22.cell 0
      have l1 := hr22.lt
      have l2 : W22.cell? ⟨h, 0, none⟩ = some (.map (some bp)) := hh22.cell 0
      have l3 := hh22.lt
      have HEQ := Lib.hid (ctEqual_any W22 (hd.up hb22) (HD.out.up hb22) HOKS.out.2.2)
      rw [sameC_refl] at HEQ
      have HK22 := Lib.hid (HK20.out.up hb22)
      have HW22 := Lib.hid hW22
      clear hat hx hd hW22 hx22 hb22 hr22 hh22 HK20 HR HH HT HD
      go_upto_region 34 with (fail)
      rw [← HW22.out]
      clear HW22
      go_wp2_with fail
      clear l0 l1 l2 l3
      refine HEQ.out.mono ?_
      rintro e w23 ⟨rfl, hb⟩
      have HK23 := Lib.hid (HK22.out.up hb)
      clear hb HEQ HK22
      go_wp2_with fail
      go_roundw
      case rel => exact ⟨i + 1, v, hil, by go_num, rfl, HVW.out, HK23.out⟩
      case measure => simp [intOf]; omega

end Go.Proofs.Ytgaffbdcpkbdhaa
end

section
/- Words for the walk of do (the laws of chapter 16). -/
namespace Go.Proofs.Ytgaffbdcpkbdhaa
open Go.RowKit Go.Sort Go.ChangeMaps Go.WideShapes

theorem slip_sl {P : Nat → Prop} {w : World} {A : Option Addr} {ks : List Int} (h : SlIP P w A ks) : SlI .i64 w.heap.size w A ks := fun hne => by
  obtain ⟨b, o, e, hb, -, hc⟩ := h (fun e => hne (by rw [e]; rfl))
  exact ⟨b, o, e, hb, hc⟩
theorem Stay.sub {P P' : Nat → Prop} {w w1 w2 : World} (hb : Below w.heap.size w w1) (hP : ∀ b, b < w.heap.size → P b → P' b) (hs : Stay P' w1 w2) : Stay P w w2 :=
  ⟨Nat.le_trans hb.size hs.1, fun b hlt hp => (hs.2 b (Nat.lt_of_lt_of_le hlt hb.size) (hP b hlt hp)).trans (hb.block b hlt)⟩
section
variable {X : Sch} {V : List Ver} {l : Int} {vs : List RV} {bs : List (List Upd)} {B : Nat}
theorem RelR.facts (h : RelR X V l vs bs B) : vs.length = V.length ∧ vs.length ≤ B + 1 ∧ bs.length ≤ B ∧ vs.Pairwise (fun x y => x.num < y.num) ∧ ∀ r ∈ vs, 0 ≤ r.pins ∧ r.pins ≤ B := by
  have hl : vs.length = V.length := by rw [h.ver, List.length_map]
  refine ⟨hl, by have := h.good.len; omega, h.bl, ?_, fun r hr => ?_⟩
  · have ha := h.asc
    rw [h.ver, List.pairwise_map] at ha
    exact ha
  · have := h.good.all (verR X bs r) (by rw [h.ver]; exact List.mem_map.2 ⟨r, hr, rfl⟩)
    exact ⟨this.2.2.1, this.2.2.2⟩
theorem RelR.lastIdx (h : RelR X V l vs bs B) : ∀ i (hi : i < vs.length), (vs[i].num ≠ l ↔ i < vs.length - 1) := fun i hi => by
  obtain ⟨t, p, e⟩ := h.last
  have hp := h.facts.2.2.2.1
  have hl : vs.length = t.length + 1 := by rw [e, List.length_append]; rfl
  have hlast : vs[t.length]'(by omega) = ⟨l, p, bs.length⟩ := by simp [e]
  constructor
  · intro hn
    rcases Nat.lt_or_ge i (vs.length - 1) with h1 | h1
    · exact h1
    · have e1 : i = t.length := by omega
      subst e1
      rw [hlast] at hn
      exact absurd rfl hn
  · intro h1 e1
    have := List.pairwise_iff_getElem.1 hp i t.length hi (by omega) (by omega)
    rw [hlast, e1] at this
    have : l < l := this
    omega
end
theorem commitR_cases (X : Sch) (V : List Ver) (l : Int) (us : List Upd) : ∃ V2 l2, commitR X V l us = ((applyF X (dbV V l) 0 us).1, V2, l2) ∧ ((applyF X (dbV V l) 0 us).1 = 0 → l2 = l + 1) ∧ ((applyF X (dbV V l) 0 us).1 ≠ 0 → V2 = V ∧ l2 = l) := by
  unfold commitR
  by_cases h : (applyF X (dbV V l) 0 us).1 = 0
  · rw [if_pos h, h]
    exact ⟨_, _, rfl, fun _ => rfl, fun h0 => absurd rfl h0⟩
  · rw [if_neg h]
    exact ⟨_, _, rfl, fun h0 => absurd h0 h, fun _ => ⟨rfl, rfl⟩⟩
/-- Behind do. -/
def DoPost (P : Nat → Prop) (X : Sch) (B : Nat) (w : World) (e : Ending) (w' : World) : Prop :=
  ∃ m' l' rv V' vs' bs', e = .returned (.tuple #[.agg #[m', .int .i64 l'], rv, .bool true]) ∧ StM P X w' m' V' ∧ RStP P w' rv vs' bs' ∧ RelR X V' l' vs' bs' (B + 1) ∧ Below w.heap.size w w'
theorem DoPost.mk {P : Nat → Prop} {X : Sch} {B : Nat} {w w5 w9 : World} {g6 g7 : Nat} {m x y : Value} {l' : Int} {V : List Ver} {vs : List RV} {bs : List (List Upd)}
    (hst : StM (fun b => P b ∧ b ≠ g6 ∧ b ≠ g7) X w5 m V) (hrs : RStP (fun b => P b ∧ b ≠ g6 ∧ b ≠ g7) w5 (.agg #[x, y]) vs bs) (hrel : RelR X V l' vs bs (B + 1)) (hs : Stay (fun b => P b ∧ b ≠ g6 ∧ b ≠ g7) w5 w9) (hb : Below w.heap.size w w9) :
    DoPost P X B w (.returned (.tuple #[.agg #[m, .int .i64 l'], .agg #[x, y], .bool true])) w9 :=
  ⟨m, l', _, V, vs, bs, rfl, (hst.keep hs).weak fun _b _ hp => hp.1, (hrs.keep hs).weak fun _b hp => hp.1, hrel, hb⟩
theorem Stay.two6 {P : Nat → Prop} {w : World} {g6 g7 : Nat} (u v : Value) : Stay (fun b => P b ∧ b ≠ g6 ∧ b ≠ g7) w ((w.setCell ⟨g6, 0, none⟩ u).setCell ⟨g6, 1, none⟩ v) := (Stay.set (fun h => h.2.1 rfl) _ _).trans (Stay.set (fun h => h.2.1 rfl) _ _)
theorem Stay.two7 {P : Nat → Prop} {w : World} {g6 g7 : Nat} (u v : Value) : Stay (fun b => P b ∧ b ≠ g6 ∧ b ≠ g7) w ((w.setCell ⟨g7, 0, none⟩ u).setCell ⟨g7, 1, none⟩ v) := (Stay.set (fun h => h.2.2 rfl) _ _).trans (Stay.set (fun h => h.2.2 rfl) _ _)
theorem Stay.drawn {P : Nat → Prop} {w w' : World} (h : Stay P w w') : Stay P w w'.drew := h

end Go.Proofs.Ytgaffbdcpkbdhaa
end

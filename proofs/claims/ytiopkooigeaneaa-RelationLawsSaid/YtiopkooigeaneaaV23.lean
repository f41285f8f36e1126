/- Walk: relation's Insert. -/
import Derived.Test.YtiopkooigeaneaaV20
namespace Go.Proofs.Ytiopkooigeaneaa
open Go.RowKit Go.Sort

/-- The address of a tail of a slice of rows. -/
def tailA (A : Option Addr) (k cap : Nat) : Option Addr := if cap = k then A else A.map (·.add k)
theorem elemRows : Try.prog.elem 22 = 24 := by kernel_rfl
theorem underRows : Try.prog.underlying 22 = some (.slice (Try.prog.elem 22)) := by kernel_rfl
theorem slTail (A : Option Addr) (len cap k : Nat) (h : k ≤ len) (W : World) : (Instr.slice 22 (.slice A len cap) (some (.int .i64 (k : Int))) none none).run Try.prog W = .ok (.slice (tailA A k cap) (len - k) (cap - k)) W := by
  rw [run_slice_l W 22 A len cap underRows .i64 k (by omega) (by omega), elemRows, Try.sizeOf24]
  simp [tailA, sliced, Result.andThen]
theorem slHead (A : Option Addr) (len cap k : Nat) (h : k ≤ cap) (W : World) : (Instr.slice 22 (.slice A len cap) none (some (.int .i64 (k : Int))) none).run Try.prog W = .ok (.slice A k cap) W := by
  rw [run_slice_h W 22 A len cap underRows .i64 k (by omega) (by omega), elemRows, Try.sizeOf24]
  cases A <;> simp [sliced, Addr.add, Result.andThen]

theorem SlRsP.head {P : Nat → Prop} {B : Nat} {w : World} {A : Option Addr} {X : List RL.R} (h : SlRsP P B w A X) (k : Nat) : SlRsP P B w A (X.take k) := fun hn => by
  obtain ⟨b, o, e, hb, hp, hs, hH, hc⟩ := h (by intro h0; apply hn; rw [h0]; simp)
  refine ⟨b, o, e, hb, hp, hs.take k, hH.take k, fun i u hu => ?_⟩
  rw [List.getElem?_take] at hu
  split at hu
  · exact hc i u hu
  · cases hu
theorem SlRsP.tail {P : Nat → Prop} {B : Nat} {w : World} {A : Option Addr} {X : List RL.R} {cap : Nat} (h : SlRsP P B w A X) (hc : X.length ≤ cap) (k : Nat) : SlRsP P B w (tailA A k cap) (X.drop k) := fun hn => by
  have hk : k < X.length := by
    rcases Nat.lt_or_ge k X.length with h1 | h1
    · exact h1
    · exact absurd (List.drop_of_length_le h1) hn
  obtain ⟨b, o, rfl, hb, hp, hs, hH, hcell⟩ := h (by intro h0; apply hn; rw [h0]; simp)
  refine ⟨b, o + k, ?_, hb, hp, hs.drop k, hH.drop k, fun i u hu => ?_⟩
  · unfold tailA
    rw [if_neg (by omega)]
    simp only [Option.map_some, Addr.add_lit]
  · rw [List.getElem?_drop] at hu
    rw [Nat.add_assoc]
    exact hcell _ u hu

/-- The headers of a list of rows, for all later worlds. -/
theorem SlRsP.hdrs2 {P : Nat → Prop} {B : Nat} {w : World} {A : Option Addr} {X : List RL.R} (h : SlRsP P B w A X) : ∃ hs, Hdrs P B w hs X ∧ (∀ W : World, (∀ p : Addr, p.block < B → P p.block → W.cell? p = w.cell? p) → ∀ ad, A = some ad → ∀ j u, hs[j]? = some u → W.cell? (ad.add j) = some u) ∧ (A = none → hs = []) := by
  by_cases hn : X = []
  · subst hn
    exact ⟨[], Hdrs.nil, fun _ _ _ _ j u hu => by simp at hu, fun _ => rfl⟩
  obtain ⟨b, o, rfl, hb, hp, hs, hH, hc⟩ := h hn
  exact ⟨hs, hH, fun W hW ad e j u hu => by injection e with e; subst e; rw [Addr.add_lit]; exact (hW ⟨b, o + j, none⟩ hb hp).trans (hc j u hu), fun e => by cases e⟩

theorem makeRows0 (n : Nat) (hn : n ≤ 1000000) (w : World) : (Instr.makeSlice 22 (.int .i64 0) (.int .i64 ((n : Int) + 1))).run Try.prog w = .ok (.slice (some ⟨w.heap.size, 0, none⟩) 0 (n + 1)) (w.alloc (.cells (zerosA (.slice none 0 0) (n + 1)) 24)) := by
  obtain ⟨i0, hi0, hz0, hz1, hz2⟩ := info_parts rowInfo
  have := run_make (P := Try.prog) w 22 24 i0 _ Try.underlying22 hi0 hz0 .i64 .i64 0 ((n : Int) + 1) (by omega) (by omega) (by rw [hz2]; omega) (by omega)
  rw [this, hz1]
  rw [show ((n : Int) + 1).toNat = n + 1 by omega]
  rw [zeros_made _ _ rfl]
  rfl
theorem own_made (w : World) (n base : Nat) (hn : n ≤ 1000000) (hb : base ≤ w.heap.size) : (w.alloc (.cells (zerosA (.slice none 0 0) n) 24)).ownsRow base 24 1 (.slice (some ⟨w.heap.size, 0, none⟩) 0 n) 0 [] :=
  ⟨by simp, .inr ⟨w.heap.size, n, _, rfl, hb, heap_alloc_new w _, Nat.zero_le _, by simp only [maxLen]; omega, by simp [zerosA], by simp⟩⟩

/-- What relation's Insert leaves. -/
def InsPost (P : Nat → Prop) (w : World) (n : Int) (X : List RL.R) (x : RL.R) (e : Ending) (w' : World) : Prop :=
  (wrongF n x ≠ 0 → e = .returned (.tuple #[.agg #[.int .i64 0, .slice none 0 0], .bool false, .int .i64 (wrongF n x)])) ∧ (wrongF n x = 0 → ∃ v, e = .returned (.tuple #[v, .bool (!decide (x ∈ X)), .int .i64 0]) ∧ RelP P w' n (RL.insF X x) v) ∧ Below w.heap.size w w'

set_option maxHeartbeats 2000000 in
set_option maxRecDepth 100000 in
theorem rlInsert_any (P : Nat → Prop) (n : Int) (RA A : Option Addr) (RC C : Nat) (X : List RL.R) (x : RL.R) (w : World) (hX : SlRsP P w.heap.size w RA X) (hPn : ∀ b, w.heap.size ≤ b → P b) (hx : SlR w.heap.size w A x) (hXo : RsOk X) (hxo : ROk x) (hXl : X.length ≤ 60000) (hS : RL.SS X) (hXc : X.length ≤ RC) (hXm : RC ≤ 9223372036854775807) :
    Calls Try.prog 32 #[.agg #[.int .i64 n, .slice RA X.length RC], .slice A x.length C] w (InsPost P w n X x) := by
  have HX := Lib.hid hX
  have HPN := Lib.hid hPn
  have HXX := Lib.hid hx
  have HXO := Lib.hid hXo
  have HXO2 := Lib.hid hxo
  have HSS := Lib.hid hS
  have HMK := Lib.hid (makeRows0 X.length (by omega))
  clear hX hPn hx hXo hxo hS
  go_enter Try.func32, Try.ntmps32
  have q1 := (Row.new w 29 [.int .i64 n, .slice RA X.length RC]).alloc (.cells #[.int .i64 0, .slice none 0 0] 29)
  have q2 := Row.new (w.alloc (.cells #[.int .i64 n, .slice RA X.length RC] 29)) 29 [.int .i64 0, .slice none 0 0]
  simp only [World.size_alloc] at q2
  have HQ1 := Lib.hid q1
  have HQ2 := Lib.hid q2
  have HE0 := Lib.hid (((Ext.refl w).alloc (.cells #[.int .i64 n, .slice RA X.length RC] 29)).alloc (.cells #[.int .i64 0, .slice none 0 0] 29))
  clear q1 q2
  go_wp2_with fail
  generalize (w.alloc (.cells #[.int .i64 n, .slice RA X.length RC] 29)).alloc (.cells #[.int .i64 0, .slice none 0 0] 29) = W0 at *
  refine (rlAccepts_any n RA A X.length RC C x W0 (HXX.out.up HE0.out) HXO2.out).mono ?_
  rintro e w1 ⟨rfl, hx1⟩
  have HE1 := Lib.hid (HE0.out.trans hx1)
  have HR1 := Lib.hid (HQ1.out.below hx1.below HQ1.out.lt)
  have HR2 := Lib.hid (HQ2.out.below hx1.below HQ2.out.lt)
  have hz1 : w.heap.size + 1 < w1.heap.size := HR2.out.lt
  clear hx1 HE0 HQ1 HQ2
  by_cases hw : wrongF n x = 0
  rotate_left
  · have hw2 : (wrongF n x != 0) = true := by simpa using hw
    have HW := Lib.hid hw
    have c0 : w1.cell? ⟨w.heap.size + 1, 0, none⟩ = some (.int .i64 0) := HR2.out.cell 0
    have c1 : w1.cell? ⟨w.heap.size + 1, 1, none⟩ = some (.slice none 0 0) := HR2.out.cell 1
    have f0 := HR2.out.frozen 0
    have f1 := HR2.out.frozen 1
    clear hw
    obtain ⟨q, hqe⟩ : ∃ q, q = wrongF n x := ⟨_, rfl⟩
    rw [← hqe] at hw2
    rw [← hqe]
    have HQE := Lib.hid hqe
    clear hqe
    go_wp2
    refine bodyPost_ret (v := .tuple #[.agg #[.int .i64 0, .slice none 0 0], .bool false, .int .i64 q]) (by simp [results, Try.results32, go_sem, c0, c1]) rfl ⟨fun _ => by rw [← HQE.out], fun h => absurd h HW.out, ?_⟩
    exact (HE1.out.below.setCell (p := ⟨w.heap.size + 1, 0, none⟩) (show w.heap.size ≤ w.heap.size + 1 by omega) _).setCell (p := ⟨w.heap.size + 1, 1, none⟩) (show w.heap.size ≤ w.heap.size + 1 by omega) _
  have HW := Lib.hid hw
  rw [hw]
  clear hw
  have n0 : w1.cell? ⟨w.heap.size, 0, none⟩ = some (.int .i64 n) := HR1.out.cell 0
  have n1 : w1.cell? ⟨w.heap.size, 1, none⟩ = some (.slice RA X.length RC) := HR1.out.cell 1
  go_wp2_with fail
  refine (rlSearch_any n RA A RC C X x w1 (HX.out.sl.up HE1.out) (HXX.out.up HE1.out) (by omega) HXO.out HXO2.out.1 HSS.out).mono ?_
  rintro e w2 ⟨rfl, hx2⟩
  have HE2 := Lib.hid (HE1.out.trans hx2)
  have HR12 := Lib.hid (HR1.out.below hx2.below HR1.out.lt)
  have HR22 := Lib.hid (HR2.out.below hx2.below HR2.out.lt)
  have hz2 : w.heap.size + 1 < w2.heap.size := HR22.out.lt
  clear hx2 n0 n1 HR1 HR2 HE1
  have n0 : w2.cell? ⟨w.heap.size, 0, none⟩ = some (.int .i64 n) := HR12.out.cell 0
  have n1 : w2.cell? ⟨w.heap.size, 1, none⟩ = some (.slice RA X.length RC) := HR12.out.cell 1
  have c0 : w2.cell? ⟨w.heap.size + 1, 0, none⟩ = some (.int .i64 0) := HR22.out.cell 0
  have c1 : w2.cell? ⟨w.heap.size + 1, 1, none⟩ = some (.slice none 0 0) := HR22.out.cell 1
  have f0 := HR22.out.frozen 0
  have f1 := HR22.out.frozen 1
  by_cases hm : x ∈ X
  · have HI : Hid (RL.insF X x = X) := by show _ = _; unfold RL.insF; rw [if_pos hm]
    have hd : decide (x ∈ X) = true := by simpa using hm
    have HD := Lib.hid hd
    rw [hd]
    clear hm hd
    generalize RL.rank X x = k at *
    have z0 : (w2.setCell ⟨w.heap.size + 1, 0, none⟩ (.int .i64 n)).cell? ⟨w.heap.size + 1, 0, none⟩ = some (.int .i64 n) := World.cell?_setCell_same _ _ _ c0
    have z1 : ((w2.setCell ⟨w.heap.size + 1, 0, none⟩ (.int .i64 n)).setCell ⟨w.heap.size + 1, 1, none⟩ (.slice RA X.length RC)).cell? ⟨w.heap.size + 1, 1, none⟩ = some (.slice RA X.length RC) := World.cell?_setCell_same _ _ _ ((World.cell?_setCell_other _ _ _ _ (by simp)).trans c1)
    have Z0 := Lib.hid z0
    have Z1 := Lib.hid z1
    have HB := Lib.hid ((HE2.out.below.setCell (p := ⟨w.heap.size + 1, 0, none⟩) (show w.heap.size ≤ w.heap.size + 1 by omega) (.int .i64 n)).setCell (p := ⟨w.heap.size + 1, 1, none⟩) (show w.heap.size ≤ w.heap.size + 1 by omega) (.slice RA X.length RC))
    clear z0 z1
    go_wp2
    refine bodyPost_ret (v := .tuple #[.agg #[.int .i64 n, .slice RA X.length RC], .bool false, .int .i64 0]) (by simp [results, Try.results32, go_sem, Z0.out, Z1.out]) rfl ⟨fun h => absurd HW.out h, fun _ => ⟨_, by rw [HD.out]; rfl, ?_⟩, HB.out⟩
    rw [HI.out]
    refine ⟨RA, RC, rfl, hXc, hXm, ?_⟩
    exact (HX.out.keep (fun p hp _ => HB.out.cell hp)).more HB.out.size
  · have HI : Hid (RL.insF X x = X.take (RL.rank X x) ++ [x] ++ X.drop (RL.rank X x)) := by show _ = _; unfold RL.insF; rw [if_neg hm]; simp
    have hd : decide (x ∈ X) = false := by simpa using hm
    have HD := Lib.hid hd
    rw [hd]
    have hrk := RL.rank_le X x
    clear hm hd
    generalize RL.rank X x = k at *
    have hXl2 : decide ((65536 : Int) ≤ (X.length : Int)) = false := by simp; omega
    have hmk := HMK.out
    have hst := slTail RA X.length RC k hrk
    have hsh := slHead RA X.length RC k (by omega)
    obtain ⟨TA, hTA⟩ : ∃ TA, TA = tailA RA k RC := ⟨_, rfl⟩
    rw [← hTA] at hst
    have HX2 := Lib.hid ((HX.out.keep (w' := w2) (fun p hp _ => HE2.out.below.cell hp)))
    have HTAIL : Hid (SlRsP P w.heap.size w2 TA (X.drop k)) := by rw [hTA]; exact HX2.out.tail hXc k
    have HHEAD := Lib.hid (HX2.out.head k)
    have htl : (X.take k).length = k := by simp; omega
    have hdl : (X.drop k).length = X.length - k := by simp
    clear hTA
    obtain ⟨h1s, hH1, hc1, hnn1⟩ := HHEAD.out.hdrs2
    obtain ⟨h2s, hH2, hc2, hnn2⟩ := HTAIL.out.hdrs2
    have e1l := hH1.1
    have e2l := hH2.1
    rw [htl] at e1l
    rw [hdl] at e2l
    have HH1 := Lib.hid (hH1.weak (P' := fun b => P b ∧ b ≠ w.heap.size + 1) (fun b hb h => ⟨h, by omega⟩))
    have HH2 := Lib.hid (hH2.weak (P' := fun b => P b ∧ b ≠ w.heap.size + 1) (fun b hb h => ⟨h, by omega⟩))
    have HC1 := Lib.hid hc1
    have HC2 := Lib.hid hc2
    have HN1 := Lib.hid hnn1
    have HN2 := Lib.hid hnn2
    have HL1 := Lib.hid e1l
    have HL2 := Lib.hid e2l
    clear hH1 hH2 hc1 hc2 hnn1 hnn2 e1l e2l htl hdl HX2 HTAIL HHEAD
    have HO0 := Lib.hid (own_made w2 (X.length + 1) (w.heap.size + 2) (by omega) (by omega))
    have HB0 := Lib.hid ((Below.refl (w.heap.size + 2) w2).alloc (show w.heap.size + 2 ≤ w2.heap.size by omega) (.cells (zerosA (.slice none 0 0) (X.length + 1)) 24))
    have hz2' : w.heap.size < w2.heap.size := by omega
    go_wp2_with (at_builtin; refine appH rfl (.tmp 36) (.tmp 40) rfl (w.heap.size + 2) (.slice (some ⟨w2.heap.size, 0, none⟩) 0 (X.length + 1)) 0 [] rfl HO0.out RA k RC h1s HL1.out rfl (HC1.out _ (fun p hp _ => HB0.out.cell (by omega))) HN1.out HH1.out.cells (by omega) (by simp; omega) ?_
                 intro v3 w3 hown3 hg3 _
                 have HO3 := Lib.hid hown3
                 have HB3 := Lib.hid (Below.then HB0.out (app_grown (B := w.heap.size + 2) hg3 (fun g hk => own_base HO0.out hk) (by simp; omega)) (Nat.le_refl _))
                 clear hown3 hg3)
    have hz3 := HB3.out.size
    refine (cloneRow_any A C x w3 ((HXX.out.below (Below.then HE2.out.below HB3.out (by omega)) (Nat.le_refl _)).more (by omega)) HXO2.out.1).mono ?_
    rintro e w4 ⟨v4, rfl, hown4, hb4⟩
    obtain ⟨-, A4, C4, rfl, hc4, hm4, hs4, hfr4⟩ := SlR.of_own hown4
    have hb4' := Below.then HB3.out hb4 (by omega)
    have HB4 := Lib.hid (hb4'.alloc (show w.heap.size + 2 ≤ w4.heap.size by have := hb4.size; omega) (.cells #[.slice A4 x.length C4] 24))
    have HO4 := Lib.hid ((own_keep HO3.out hb4).alloc (.cells #[.slice A4 x.length C4] 24))
    have hz4 := hb4.size
    have HS4 := Lib.hid (hs4.alloc1 (.cells #[.slice A4 x.length C4] 24))
    have HFR4 := Lib.hid hfr4
    have HLT4 := Lib.hid hs4.lt_of
    have HOL := Lib.hid (own_lt HO3.out)
    have m1 : w4.cell? ⟨w.heap.size, 1, none⟩ = some (.slice RA X.length RC) := (hb4'.cell (p := ⟨w.heap.size, 1, none⟩) (show w.heap.size < w.heap.size + 2 by omega)).trans n1
    clear hown4 hb4 hs4 hfr4 n0 n1 c0 c1 f0 f1 hb4'
    have hz4' : w.heap.size < w4.heap.size := by omega
    go_wp2_with (first
      | (at_builtin; refine appH1 rfl (.tmp 42) (.tmp 45) rfl (w.heap.size + 2) v3 (0 + k) ([] ++ h1s) rfl HO4.out w4.heap.size (.slice A4 x.length C4) rfl (by go_simp) rfl (by omega) (by simp; omega) ?_
         intro v5 w5 hown5 hg5 hat5
         have HO5 := Lib.hid hown5
         have hb45 : Below (w.heap.size + 2) w4 w5 := Below.then ((Below.refl (w.heap.size + 2) w4).alloc (show w.heap.size + 2 ≤ w4.heap.size by omega) (.cells #[.slice A4 x.length C4] 24)) (app_grown (B := w.heap.size + 2) hg5 (fun g hk => own_base HO4.out hk) (by simp; omega)) (Nat.le_refl _)
         have HS5 := Lib.hid (HS4.out.grown hg5 (fun _ ad e e2 => by have h1 := HOL.out _ e2; have h2 := HFR4.out ad e; omega))
         have HAT5 := Lib.hid hat5
         clear hat5
         have HB5 := Lib.hid (Below.then HB4.out (app_grown (B := w.heap.size + 2) hg5 (fun g hk => own_base HO4.out hk) (by simp; omega)) (Nat.le_refl _))
         have m15 : w5.cell? ⟨w.heap.size, 1, none⟩ = some (.slice RA X.length RC) := (hb45.cell (p := ⟨w.heap.size, 1, none⟩) (show w.heap.size < w.heap.size + 2 by omega)).trans m1
         have hz5 := HB5.out.size
         clear hown5 hg5 hb45 m1)
      | (at_builtin; refine appH rfl (.tmp 47) (.tmp 51) rfl (w.heap.size + 2) v5 (0 + k + 1) ([] ++ h1s ++ [.slice A4 x.length C4]) rfl HO5.out TA (X.length - k) (RC - k) h2s HL2.out rfl (HC2.out _ (fun p hp _ => HB5.out.cell (by omega))) HN2.out HH2.out.cells (by omega) (by omega) ?_
         intro v6 w6 hown6 hg6 _
         have HO6 := Lib.hid hown6
         have hs6 := HS5.out.grown hg6 (fun hy ad e e2 => by
           have h2 := HFR4.out ad e
           have h3 := HLT4.out hy ad e
           rcases HAT5.out with h4 | h4
           · rw [h4] at e2; have h1 := HOL.out _ e2; omega
           · rw [h4] at e2; injection e2 with e2; simp only [World.size_alloc] at e2; omega)
         have hb6 := Below.then HB5.out (app_grown (B := w.heap.size + 2) hg6 (fun g hk => own_base HO5.out hk) (by omega)) (Nat.le_refl _)
         have HB6 := Lib.hid hb6
         have r16 := HR12.out.below hb6 (by omega)
         have r26 := HR22.out.below hb6 (by omega)
         have m06 : w6.cell? ⟨w.heap.size, 0, none⟩ = some (.int .i64 n) := r16.cell 0
         have c06 : w6.cell? ⟨w.heap.size + 1, 0, none⟩ = some (.int .i64 0) := r26.cell 0
         have c16 : w6.cell? ⟨w.heap.size + 1, 1, none⟩ = some (.slice none 0 0) := r26.cell 1
         have f06 := r26.frozen 0
         have f16 := r26.frozen 1
         have hz6 := hb6.size
         have hz56 := hg6.size
         have hH6 : Hdrs (fun b => P b ∧ b ≠ w.heap.size + 1) w6.heap.size w6 ([] ++ h1s ++ [.slice A4 x.length C4] ++ h2s) (X.take k ++ [x] ++ X.drop k) := by
           rw [List.nil_append]
           refine (((HH1.out.keep (fun p hp _ => hb6.cell (by omega))).more (by omega)).append (Hdrs.one ⟨A4, C4, rfl, hc4, hm4, hs6, fun _ ad e => ?_⟩)).append ((HH2.out.keep (fun p hp _ => hb6.cell (by omega))).more (by omega))
           have := HFR4.out ad e
           exact ⟨HPN.out _ (by omega), by omega⟩
         obtain ⟨Y, hY⟩ : ∃ Y, Y = X.take k ++ [x] ++ X.drop k := ⟨_, rfl⟩
         rw [← hY] at hH6
         have hlY : 0 + k + 1 + (X.length - k) = Y.length := by rw [hY]; simp; omega
         have HYE := Lib.hid hY
         rw [hlY] at hown6
         obtain ⟨A6, C6, rfl, hc6, hm6, hs6'⟩ := own_slrs hown6 hH6 (Nat.le_refl _) (fun b hb => ⟨HPN.out b (by omega), by omega⟩)
         clear hown6 hg6 hb6 r16 r26 m15 hY hlY hH6)
      | fail)
    refine bodyPost_ret (v := .tuple #[.agg #[.int .i64 n, .slice A6 Y.length C6], .bool true, .int .i64 0]) ?_ rfl ⟨fun h => absurd HW.out h, fun _ => ⟨_, by rw [HD.out]; rfl, ?_⟩, ?_⟩
    · have z0 : (w6.setCell ⟨w.heap.size + 1, 0, none⟩ (.int .i64 n)).cell? ⟨w.heap.size + 1, 0, none⟩ = some (.int .i64 n) := World.cell?_setCell_same _ _ _ c06
      have z1 : ((w6.setCell ⟨w.heap.size + 1, 0, none⟩ (.int .i64 n)).setCell ⟨w.heap.size + 1, 1, none⟩ (.slice A6 Y.length C6)).cell? ⟨w.heap.size + 1, 1, none⟩ = some (.slice A6 Y.length C6) := World.cell?_setCell_same _ _ _ ((World.cell?_setCell_other _ _ _ _ (by simp)).trans c16)
      simp [results, Try.results32, go_sem, z0, z1]
    · rw [HI.out, ← HYE.out]
      refine ⟨A6, C6, rfl, hc6, hm6, ?_⟩
      have h := (hs6'.keep (w' := (w6.setCell ⟨w.heap.size + 1, 0, none⟩ (.int .i64 n)).setCell ⟨w.heap.size + 1, 1, none⟩ (.slice A6 Y.length C6)) (fun p hp hne => far_cell (p := ⟨w.heap.size + 1, 1, none⟩) (fun e => hne.2 e.symm) (far_cell (p := ⟨w.heap.size + 1, 0, none⟩) (fun e => hne.2 e.symm) rfl))).weak (P' := P) (fun b _ h => h.1)
      rw [show w6.heap.size = ((w6.setCell ⟨w.heap.size + 1, 0, none⟩ (.int .i64 n)).setCell ⟨w.heap.size + 1, 1, none⟩ (.slice A6 Y.length C6)).heap.size by simp] at h
      exact h
    · exact ((Below.then HE2.out.below HB6.out (by omega)).setCell (p := ⟨w.heap.size + 1, 0, none⟩) (show w.heap.size ≤ w.heap.size + 1 by omega) _).setCell (p := ⟨w.heap.size + 1, 1, none⟩) (show w.heap.size ≤ w.heap.size + 1 by omega) _

end Go.Proofs.Ytiopkooigeaneaa

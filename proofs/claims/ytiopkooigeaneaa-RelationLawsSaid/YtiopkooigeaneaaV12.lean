/- Walks: ordinalref07.Insert, Of. -/
import Derived.Test.YtiopkooigeaneaaE4
namespace Go.Proofs.Ytiopkooigeaneaa
open Go.RowKit Go.Sort

/-- A value that reads as a list of rows. -/
def RowsIs (w : World) (X : List RL.R) (v : Value) : Prop := ∃ A C, v = .slice A X.length C ∧ X.length ≤ C ∧ C ≤ 9223372036854775807 ∧ SlRs w.heap.size w A X
theorem RowsIs.of_own {w : World} {B : Nat} {E : TypeId} {v : Value} {X : List RL.R} (h : OwnRs w B E v X) : RowsIs w X v := h.sl

theorem app_grown {w w' : World} {v : Value} {B : Nat} (h : w.grownBy w' v.ownBlock) (hv : ∀ k, v.ownBlock = some k → B ≤ k) (hB : B ≤ w.heap.size) : Below B w w' := (Below.refl B w).grown h hB hv

theorem ne_rcells {x : RL.R} (h : x ≠ []) : rcells x ≠ [] := fun h0 => by
  have := congrArg List.length h0
  rw [rcells_length] at this
  exact h (List.eq_nil_of_length_eq_zero (by simp only [List.length_nil] at this; omega))

set_option maxHeartbeats 2000000 in
set_option maxRecDepth 100000 in
theorem r7Insert_any (XA A : Option Addr) (XC C : Nat) (X : List RL.R) (r : RL.R) (w : World) (hX : SlRs w.heap.size w XA X) (hr : SlR w.heap.size w A r) (hXl : X.length ≤ 100000) (hXo : RsOk X) (hro : ROk r) (hXc : X.length ≤ XC) (hXm : XC ≤ 9223372036854775807) (hrc : r.length ≤ C) (hrm : C ≤ 9223372036854775807) :
    Calls Try.prog 40 #[.slice XA X.length XC, .slice A r.length C] w fun e w' => ∃ v, e = .returned v ∧ RowsIs w' (RL.insF X r) v ∧ Below w.heap.size w w' := by
  have HX := Lib.hid hX
  have HR := Lib.hid hr
  have HC := Lib.hid (r7Search_any XA A XC C X r w hX hr (by omega) hXo hro)
  have hrk := RL.rank_le X r
  clear hX hr hXo hro
  by_cases hm : r ∈ X
  · have HI : Hid (RL.insF X r = X) := by show _ = _; unfold RL.insF; rw [if_pos hm]
    have hd : decide (r ∈ X) = true := by simpa using hm
    rw [hd] at HC
    clear hm hd
    go_enter Try.func40, Try.ntmps40
    go_wp2_with fail
    refine HC.out.mono ?_
    rintro e w1 ⟨rfl, hx1⟩
    go_wp2
    go_ret
    refine ⟨_, rfl, ?_, hx1.below⟩
    rw [HI.out]
    exact ⟨XA, XC, rfl, hXc, hXm, HX.out.up hx1⟩
  · have HI : Hid (RL.insF X r = X.take (RL.rank X r) ++ [r] ++ X.drop (RL.rank X r)) := by show _ = _; unfold RL.insF; rw [if_neg hm]; simp
    have hd : decide (r ∈ X) = false := by simpa using hm
    rw [hd] at HC
    clear hm hd
    by_cases hlt : RL.rank X r < X.length
    · obtain ⟨b, o, -, -, rfl, hb, -, -, -, -⟩ := slRs_at HX.out hlt
      have HT := Lib.hid (HX.out.take (RL.rank X r))
      have HD := Lib.hid (HX.out.drop (RL.rank X r))
      have hle : RL.rank X r ≤ XC := by omega
      have hlt2 : RL.rank X r < XC := by omega
      have htl : (X.take (RL.rank X r)).length = RL.rank X r := by simp; omega
      have hdl : (X.drop (RL.rank X r)).length = X.length - RL.rank X r := by simp
      have HTL := Lib.hid htl
      have HDL := Lib.hid hdl
      clear htl hdl
      go_enter Try.func40, Try.ntmps40
      go_wp2_with fail
      refine HC.out.mono ?_
      rintro e w1 ⟨rfl, hx1⟩
      have hz1 := hx1.size
      have HB1 := Lib.hid hx1.below
      have HO1 := Lib.hid (OwnRs.nil w1 w.heap.size 39)
      go_wp2_with (first
        | (at_builtin; refine appManyR7 rfl (.tmp 16) (.tmp 19) rfl w.heap.size (.slice none 0 0) [] rfl HO1.out (some ⟨b, o, none⟩) XC (X.take (RL.rank X r)) (by rw [HTL.out]; rfl) (HT.out.ext (Nat.le_refl _) hx1) (by simp; omega) hz1 ?_
           intro v2 w2 hown2 hg2
           rw [List.nil_append] at hown2
           have HO2 := Lib.hid (hown2.keep ((Below.refl _ _).alloc (Nat.le_refl _) (.cells #[.slice A r.length C] 39)))
           have hb2 := Below.then HB1.out (app_grown (B := w.heap.size) hg2 (fun k hk => by simp [Value.ownBlock] at hk) hz1) (Nat.le_refl _)
           have hz2 := hb2.size
           have HB2 := Lib.hid (hb2.alloc hz2 (.cells #[.slice A r.length C] 39))
           clear hown2 hg2 hb2)
        | (at_builtin; refine app1R7 rfl (.tmp 21) (.tmp 23) rfl w.heap.size v2 (X.take (RL.rank X r)) rfl HO2.out w2.heap.size A C r rfl (by go_simp) ((HR.out.below HB2.out (Nat.le_refl _)).more (by simp; omega)) hrc hrm (fun hy ad e e2 => by have h4 := HO2.out.base _ e2; obtain ⟨b', o', e', hb', _⟩ := HR.out (ne_rcells hy); rw [e] at e'; injection e' with e'; rw [e'] at h4; simp only at h4; omega) (by have := HTL.out; omega) (by simp; omega) ?_
           intro v3 w3 hown3 hg3
           have HO3 := Lib.hid hown3
           have HB3 := Lib.hid (Below.then HB2.out (app_grown (B := w.heap.size) hg3 HO2.out.base (by simp; omega)) (Nat.le_refl _))
           have hz3 := HB3.out.size
           clear hown3 hg3)
        | (at_builtin; refine appManyR7 rfl (.tmp 25) (.tmp 28) rfl w.heap.size v3 (X.take (RL.rank X r) ++ [r]) rfl HO3.out (some ⟨b, o + RL.rank X r, none⟩) (XC - RL.rank X r) (X.drop (RL.rank X r)) (by rw [HDL.out]; rfl) (HD.out.below HB3.out (Nat.le_refl _)) (by simp; omega) hz3 ?_
           intro v4 w4 hown4 hg4
           have HO4 := Lib.hid hown4
           have HB4 := Lib.hid (Below.then HB3.out (app_grown (B := w.heap.size) hg4 HO3.out.base hz3) (Nat.le_refl _))
           clear hown4 hg4)
        | fail)
      go_ret
      exact ⟨_, rfl, by rw [HI.out]; exact HO4.out.sl, HB4.out⟩
    · have hrk2 : RL.rank X r = X.length := by omega
      rw [hrk2] at HI HC
      rw [List.take_of_length_le (Nat.le_refl _), List.drop_of_length_le (Nat.le_refl _), List.append_nil] at HI
      clear hrk hlt hrk2
      by_cases hcl : XC = X.length
      · subst hcl
        go_enter Try.func40, Try.ntmps40
        go_wp2_with fail
        refine HC.out.mono ?_
        rintro e w1 ⟨rfl, hx1⟩
        have hz1 := hx1.size
        have HB1 := Lib.hid hx1.below
        have HO1 := Lib.hid (OwnRs.nil w1 w.heap.size 39)
        go_wp2_with (first
          | (at_builtin; refine appManyR7 rfl (.tmp 16) (.tmp 19) rfl w.heap.size (.slice none 0 0) [] rfl HO1.out XA _ X rfl (HX.out.ext (Nat.le_refl _) hx1) (by simp; omega) hz1 ?_
             intro v2 w2 hown2 hg2
             rw [List.nil_append] at hown2
             have HO2 := Lib.hid (hown2.keep ((Below.refl _ _).alloc (Nat.le_refl _) (.cells #[.slice A r.length C] 39)))
             have hb2 := Below.then HB1.out (app_grown (B := w.heap.size) hg2 (fun k hk => by simp [Value.ownBlock] at hk) hz1) (Nat.le_refl _)
             have hz2 := hb2.size
             have HB2 := Lib.hid (hb2.alloc hz2 (.cells #[.slice A r.length C] 39))
             clear hown2 hg2 hb2)
          | (at_builtin; refine app1R7 rfl (.tmp 21) (.tmp 23) rfl w.heap.size v2 X rfl HO2.out w2.heap.size A C r rfl (by go_simp) ((HR.out.below HB2.out (Nat.le_refl _)).more (by simp; omega)) hrc hrm (fun hy ad e e2 => by have h4 := HO2.out.base _ e2; obtain ⟨b', o', e', hb', _⟩ := HR.out (ne_rcells hy); rw [e] at e'; injection e' with e'; rw [e'] at h4; simp only at h4; omega) (by omega) (by simp; omega) ?_
             intro v3 w3 hown3 hg3
             have HO3 := Lib.hid hown3
             have HB3 := Lib.hid (Below.then HB2.out (app_grown (B := w.heap.size) hg3 HO2.out.base (by simp; omega)) (Nat.le_refl _))
             have hz3 := HB3.out.size
             clear hown3 hg3)
          | (at_builtin; refine appManyR7 rfl (.tmp 25) (.tmp 28) rfl w.heap.size v3 (X ++ [r]) rfl HO3.out _ _ [] rfl SlRs.nil (by simp; omega) hz3 ?_
             intro v4 w4 hown4 hg4
             rw [List.append_nil] at hown4
             have HO4 := Lib.hid hown4
             have HB4 := Lib.hid (Below.then HB3.out (app_grown (B := w.heap.size) hg4 HO3.out.base hz3) (Nat.le_refl _))
             clear hown4 hg4)
          | fail)
        go_ret
        exact ⟨_, rfl, by rw [HI.out]; exact HO4.out.sl, HB4.out⟩
      · go_enter Try.func40, Try.ntmps40
        go_wp2_with fail
        refine HC.out.mono ?_
        rintro e w1 ⟨rfl, hx1⟩
        have hz1 := hx1.size
        have HB1 := Lib.hid hx1.below
        have HO1 := Lib.hid (OwnRs.nil w1 w.heap.size 39)
        go_wp2_with (first
          | (at_builtin; refine appManyR7 rfl (.tmp 16) (.tmp 19) rfl w.heap.size (.slice none 0 0) [] rfl HO1.out XA _ X rfl (HX.out.ext (Nat.le_refl _) hx1) (by simp; omega) hz1 ?_
             intro v2 w2 hown2 hg2
             rw [List.nil_append] at hown2
             have HO2 := Lib.hid (hown2.keep ((Below.refl _ _).alloc (Nat.le_refl _) (.cells #[.slice A r.length C] 39)))
             have hb2 := Below.then HB1.out (app_grown (B := w.heap.size) hg2 (fun k hk => by simp [Value.ownBlock] at hk) hz1) (Nat.le_refl _)
             have hz2 := hb2.size
             have HB2 := Lib.hid (hb2.alloc hz2 (.cells #[.slice A r.length C] 39))
             clear hown2 hg2 hb2)
          | (at_builtin; refine app1R7 rfl (.tmp 21) (.tmp 23) rfl w.heap.size v2 X rfl HO2.out w2.heap.size A C r rfl (by go_simp) ((HR.out.below HB2.out (Nat.le_refl _)).more (by simp; omega)) hrc hrm (fun hy ad e e2 => by have h4 := HO2.out.base _ e2; obtain ⟨b', o', e', hb', _⟩ := HR.out (ne_rcells hy); rw [e] at e'; injection e' with e'; rw [e'] at h4; simp only at h4; omega) (by omega) (by simp; omega) ?_
             intro v3 w3 hown3 hg3
             have HO3 := Lib.hid hown3
             have HB3 := Lib.hid (Below.then HB2.out (app_grown (B := w.heap.size) hg3 HO2.out.base (by simp; omega)) (Nat.le_refl _))
             have hz3 := HB3.out.size
             clear hown3 hg3)
          | (at_builtin; refine appManyR7 rfl (.tmp 25) (.tmp 28) rfl w.heap.size v3 (X ++ [r]) rfl HO3.out _ _ [] rfl SlRs.nil (by simp; omega) hz3 ?_
             intro v4 w4 hown4 hg4
             rw [List.append_nil] at hown4
             have HO4 := Lib.hid hown4
             have HB4 := Lib.hid (Below.then HB3.out (app_grown (B := w.heap.size) hg4 HO3.out.base hz3) (Nat.le_refl _))
             clear hown4 hg4)
          | fail)
        go_ret
        exact ⟨_, rfl, by rw [HI.out]; exact HO4.out.sl, HB4.out⟩

theorem ofF_snoc (X : List RL.R) (k : Nat) (h : k < X.length) : RL.ofF (X.take (k + 1)) = RL.insF (RL.ofF (X.take k)) X[k] := by
  unfold RL.ofF
  rw [List.take_succ_eq_append_getElem h, List.foldl_append]
  rfl
theorem RsOk.of_mem {X Y : List RL.R} (h : RsOk X) (hs : ∀ y ∈ Y, y ∈ X) : RsOk Y := fun y hy => h y (hs y hy)
theorem RowsIs.upB {w w' : World} {X : List RL.R} {v : Value} (h : RowsIs w X v) (hb : Below w.heap.size w w') : RowsIs w' X v := by
  obtain ⟨A, C, h1, h2, h3, h4⟩ := h
  exact ⟨A, C, h1, h2, h3, h4.upB hb⟩

set_option maxHeartbeats 1000000 in
set_option maxRecDepth 100000 in
theorem r7Of_any (XA : Option Addr) (XC : Nat) (X : List RL.R) (w : World) (hX : SlRs w.heap.size w XA X) (hXl : X.length ≤ 100000) (hXo : RsOk X) :
    Calls Try.prog 25 #[.slice XA X.length XC] w fun e w' => ∃ v, e = .returned v ∧ RowsIs w' (RL.ofF X) v ∧ Below w.heap.size w w' := by
  have HX := Lib.hid hX
  have HXO := Lib.hid hXo
  clear hX hXo
  go_enter Try.func25, Try.ntmps25
  go_wp2
  go_loopw [3, 4] (fun v i wr => ∃ k : Nat, k ≤ X.length ∧ i = .int .i64 k ∧ RowsIs wr (RL.ofF (X.take k)) v ∧ Below w.heap.size w wr) (fun _ i _ => X.length - (intOf i).toNat)
  case atStart => exact ⟨0, Nat.zero_le _, rfl, ⟨none, 0, rfl, by simp [RL.ofF], by omega, SlRs.nil⟩, Below.refl _ _⟩
  case round =>
    obtain ⟨k, hka, rfl, hrows, hbel⟩ := hrel
    have HB := Lib.hid hbel
    have hzz := hbel.size
    by_cases h1 : k < X.length
    · obtain ⟨b, o, A1, C1, rfl, hb, c1, hcap, hcm, s1⟩ := slRs_at HX.out h1
      obtain ⟨VA, VC, rfl, hv1, hv2, hv3⟩ := hrows
      have d1 := (hbel.cell (p := ⟨b, o + k, none⟩) hb).trans c1
      have HN := Lib.hid (ofF_snoc X k h1)
      have hll := RL.ofF_length_le (X.take k)
      have HC := Lib.hid (r7Insert_any VA A1 VC C1 (RL.ofF (X.take k)) X[k] wr hv3 ((s1.below hbel (Nat.le_refl _)).more hzz) (by simp at hll; omega) (HXO.out.of_mem (fun y hy => List.mem_of_mem_take ((RL.mem_ofF _ _).1 hy))) (HXO.out.at_ h1) hv1 hv2 hcap hcm)
      clear c1 s1 hbel hv3 hv1 hv2 hcap hcm hll
      generalize X[k] = x at d1 HN HC
      go_wp2_with fail
      refine HC.out.mono ?_
      rintro e w1 ⟨v1, rfl, hr1, hb1⟩
      have HR1 := Lib.hid hr1
      have HB1 := Lib.hid (Below.then HB.out hb1 hzz)
      clear hr1 hb1 d1 HC
      go_wp2
      go_roundw
      case rel => exact ⟨k + 1, by omega, by go_num, by rw [HN.out]; exact HR1.out, HB1.out⟩
      case measure => simp [intOf]; omega
    · have HT := Lib.hid (List.take_of_length_le (show X.length ≤ k by omega))
      rw [HT.out] at hrows
      have HR := Lib.hid hrows
      clear hrows
      go_wp2
      go_ret
      exact ⟨_, rfl, HR.out, hbel⟩

end Go.Proofs.Ytiopkooigeaneaa

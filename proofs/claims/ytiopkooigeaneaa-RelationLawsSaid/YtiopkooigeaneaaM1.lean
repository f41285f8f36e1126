/- Walk: the law RelationFinds. -/
import Derived.Test.YtiopkooigeaneaaV16
namespace Go.Proofs.Ytiopkooigeaneaa
open Go.RowKit Go.Sort

/-- What an argument's reading gives of its size. -/
def BigR (x : RL.R) : Prop := x.length ≤ 9223372036854775807 ∧ ∀ v ∈ x, v.str.size ≤ 9223372036854775807
def BigRs (X : List RL.R) : Prop := X.length * 24 ≤ 140737488351232 ∧ ∀ x ∈ X, BigR x

theorem greatR_false {x : RL.R} (h : greatR x = false) : x.length ≤ 8 ∧ ROk x := by
  unfold greatR at h
  simp only [Bool.or_eq_false_iff, decide_eq_false_iff_not, List.any_eq_false, decide_eq_true_eq] at h
  refine ⟨by omega, by omega, fun v hv => ?_⟩
  have := h.2 v hv
  omega
theorem greatF_false {X : List RL.R} (h : greatF X = false) : X.length ≤ 40 ∧ RsOk X ∧ ∀ x ∈ X, x.length ≤ 8 := by
  unfold greatF at h
  simp only [Bool.or_eq_false_iff, decide_eq_false_iff_not, List.any_eq_false] at h
  exact ⟨by omega, fun x hx => (greatR_false (by simpa using h.1 x hx)).2, fun x hx => (greatR_false (by simpa using h.1 x hx)).1⟩

theorem RelIs.sl {w : World} {n : Int} {X : List RL.R} {v : Value} (h : RelIs w n X v) : ∃ A C, v = .agg #[.int .i64 n, .slice A X.length C] ∧ X.length ≤ C ∧ C ≤ 9223372036854775807 ∧ SlRs w.heap.size w A X := h

set_option maxHeartbeats 4000000 in
set_option maxRecDepth 100000 in
theorem finds_walk (ar : Nat) (A XA : Option Addr) (C XC : Nat) (X : List RL.R) (x : RL.R) (w : World) (har : ar < 256) (hX : SlRs w.heap.size w A X) (hx : SlR w.heap.size w XA x) (hbX : BigRs X) (hbx : BigR x) (hxc : x.length ≤ XC) (hxm : XC ≤ 9223372036854775807) :
    Calls Try.prog 3 #[.int .u8 ar, .slice A X.length C, .slice XA x.length XC] w fun e w' => e = .returned (.bool true) ∧ Below w.heap.size w w' := by
  have HX := Lib.hid hX
  have HXX := Lib.hid hx
  have HBX := Lib.hid hbX
  have HBx := Lib.hid hbx
  have hXl := hbX.1
  have hxl := hbx.1
  have HO1 := Lib.hid (show OwnRs (w.alloc (.cells #[] 24)) w.heap.size 24 (.slice (some ⟨w.heap.size, 0, none⟩) 0 0) [] from ⟨[], ⟨rfl, .inr ⟨w.heap.size, 0, #[], rfl, Nat.le_refl _, heap_alloc_new w _, Nat.le_refl _, by simp [maxLen], rfl, rfl⟩⟩, fun i h => absurd h (by simp)⟩)
  clear hX hx hbX hbx
  go_enter Try.func3, Try.ntmps3
  go_wp2_with (first
    | (go_at_call 12; refine (l7width_any ar _ har).mono ?_; rintro e w' ⟨rfl, hw⟩; obtain rfl := hw.symm)
    | (at_builtin; refine appManyRow rfl (.tmp 21) (.tmp 22) rfl w.heap.size (.slice (some ⟨w.heap.size, 0, none⟩) 0 0) [] rfl HO1.out A C X rfl (HX.out.ext (Nat.le_refl _) ((Ext.refl w).alloc _)) (by simp; omega) (by simp) ?_
       intro v2 w2 hown2 hg2
       rw [List.nil_append] at hown2
       have hb2 : Below w.heap.size w w2 := ((Below.refl _ w).alloc (Nat.le_refl _) _).grown hg2 (by simp) HO1.out.base
       have hz2 := hb2.size
       have HO2 := Lib.hid (hown2.keep ((Below.refl _ _).alloc (Nat.le_refl _) (.cells #[.slice XA x.length XC] 24)))
       have HB2 := Lib.hid (hb2.alloc hz2 (.cells #[.slice XA x.length XC] 24))
       clear hown2 hg2 hb2)
    | (at_builtin; refine app1Row rfl (.tmp 23) (.tmp 25) rfl w.heap.size v2 X rfl HO2.out w2.heap.size XA XC x rfl (by go_simp) ((HXX.out.below HB2.out (Nat.le_refl _)).more (by simp; omega)) hxc hxm (fun hy ad e e2 => by have h4 := HO2.out.base _ e2; obtain ⟨b', o', e', hb', _⟩ := HXX.out (ne_rcells hy); rw [e] at e'; injection e' with e'; rw [e'] at h4; simp only at h4; omega) (by omega) (by simp; omega) ?_
       intro v3 w3 hown3 hg3
       have HO3 := Lib.hid hown3
       have HB3 := Lib.hid (Below.then HB2.out (app_grown (B := w.heap.size) hg3 HO2.out.base (by simp; omega)) (Nat.le_refl _))
       have hz3 := HB3.out.size
       clear hown3 hg3)
    | fail)
  obtain ⟨A3, C3, rfl, -, -, hs3⟩ := HO3.out.sl
  have HG := Lib.hid (l7Great_any A3 C3 (X ++ [x]) w3 hs3 (by simp; omega) (fun y hy => by
    rcases List.mem_append.1 hy with h | h
    · exact HBX.out.2 y h
    · simp at h; subst h; exact HBx.out))
  clear hs3 HO1 HO2 HO3
  refine HG.out.mono ?_
  rintro e w4 ⟨rfl, hx4⟩
  have HB4 := Lib.hid (Below.then HB3.out hx4.below hz3)
  clear hx4 HG HB3 HB2
  cases hgr : greatF (X ++ [x])
  rotate_left
  · clear hgr
    go_wp2_with fail
    refine (l7awake_any _).mono ?_
    rintro e w5 ⟨rfl, hb5⟩
    have HB5 := Lib.hid (Below.then HB4.out hb5 HB4.out.size)
    clear hb5
    go_wp2
    go_ret
    exact ⟨rfl, HB5.out⟩
  obtain ⟨g1, g2, g3⟩ := greatF_false hgr
  have HOK : Hid (RsOk X) := fun y hy => g2 y (by simp [hy])
  have HOx : Hid (ROk x) := g2 x (by simp)
  have hX40 : X.length ≤ 40 := by simp at g1; omega
  clear g1 g2 g3 hgr
  have HMA := Lib.hid (l7made_any ((ar % 5 : Nat) : Int) A C X w4 (by omega) (by omega) ((HX.out.below HB4.out (Nat.le_refl _)).more HB4.out.size) HOK.out (by omega))
  go_wp2_with fail
  refine HMA.out.mono ?_
  rintro e w5 ⟨rv, mv, rfl, ⟨RA, RC, rfl, hrc1, hrc2, hrs⟩, ⟨MA, MC, rfl, hmc1, hmc2, hms⟩, hb5⟩
  have hyl := Nat.le_trans (RL.ofF_length_le (validR ((ar % 5 : Nat) : Int) X)) (validR_length _ X)
  have HYO : Hid (RsOk (RL.ofF (validR ((ar % 5 : Nat) : Int) X))) := HOK.out.of_mem (fun y hy => validR_sub _ X y ((RL.mem_ofF _ _).1 hy))
  have HSS := Lib.hid (RL.SS.of (validR ((ar % 5 : Nat) : Int) X))
  generalize RL.ofF (validR ((ar % 5 : Nat) : Int) X) = Y at *
  have HB5 := Lib.hid (Below.then (Below.then HB4.out hb5 HB4.out.size) ((Below.refl _ w5).alloc (Nat.le_refl _) (.cells #[.int .i64 ((ar : Int) % 5), .slice RA Y.length RC] 29)) (by have := hb5.size; have := HB4.out.size; omega))
  have HRS := Lib.hid (hrs.alloc1 (.cells #[.int .i64 ((ar : Int) % 5), .slice RA Y.length RC] 29))
  have HMS := Lib.hid (hms.alloc1 (.cells #[.int .i64 ((ar : Int) % 5), .slice RA Y.length RC] 29))
  have HRB := Lib.hid (Row.new w5 29 [.int .i64 ((ar : Int) % 5), .slice RA Y.length RC])
  have HX6 := Lib.hid ((HXX.out.below HB5.out (Nat.le_refl _)).more HB5.out.size)
  clear hrs hms hb5 HMA HB4
  go_wp2_with fail
  have hzr := HRB.out.lt
  generalize hrb : w5.heap.size = rb at *
  generalize w5.alloc (.cells #[.int .i64 ((ar : Int) % 5), .slice RA Y.length RC] 29) = W6 at *
  clear hrb
  refine (rlSearch_any ((ar : Int) % 5) RA XA RC XC Y x W6 HRS.out HX6.out (by omega) HYO.out HOx.out.1 HSS.out).mono ?_
  rintro e w7 ⟨rfl, hx7⟩
  have r7 := HRB.out.below hx7.below hzr
  have r0 : w7.cell? ⟨rb, 0, none⟩ = some (.int .i64 ((ar : Int) % 5)) := r7.cell 0
  have r1 : w7.cell? ⟨rb, 1, none⟩ = some (.slice RA Y.length RC) := r7.cell 1
  have HE7 := Lib.hid hx7
  clear r7 hx7
  go_wp2_with fail
  refine (rlRange_any ((ar : Int) % 5) RA XA RC XC Y x w7 (HRS.out.up HE7.out) (HX6.out.up HE7.out) (by omega) HYO.out HOx.out.1 HSS.out hrc1 hrc2).mono ?_
  rintro e w8 ⟨rfl, hx8⟩
  have HE8 := Lib.hid (HE7.out.trans hx8)
  clear hx8 r0 r1 HE7
  go_wp2_with fail
  refine (l7Row_any XA XC x w8 (HX6.out.up HE8.out) HOx.out.1).mono ?_
  rintro e w9 ⟨v9, rfl, hown9, hb9⟩
  obtain ⟨-, A9, C9, rfl, -, -, hs9, -⟩ := SlR.of_own hown9
  have HB9 := Lib.hid (Below.then HE8.out.below hb9 HE8.out.size)
  have HS9 := Lib.hid hs9
  clear hown9 hb9 hs9 HE8
  go_wp2_with fail
  refine (r7Search_any MA A9 MC C9 Y x w9 (HMS.out.upB HB9.out) HS9.out (by omega) HYO.out HOx.out).mono ?_
  rintro e w10 ⟨rfl, hx10⟩
  have HB10 := Lib.hid (Below.then HB9.out hx10.below HB9.out.size)
  clear hx10 HB9 HS9
  go_wp2_with fail
  refine (l7Row_any XA XC x w10 (HX6.out.upB HB10.out) HOx.out.1).mono ?_
  rintro e w11 ⟨v11, rfl, hown11, hb11⟩
  obtain ⟨-, A11, C11, rfl, -, -, hs11, -⟩ := SlR.of_own hown11
  have HB11 := Lib.hid (Below.then HB10.out hb11 HB10.out.size)
  have HS11 := Lib.hid hs11
  clear hown11 hb11 hs11 HB10
  go_wp2_with fail
  refine (r7Range_any MA A11 MC C11 Y x w11 (HMS.out.upB HB11.out) HS11.out (by omega) HYO.out HOx.out HSS.out).mono ?_
  rintro e w12 ⟨rfl, hx12⟩
  have HB12 := Lib.hid (Below.then HB11.out hx12.below HB11.out.size)
  clear hx12 HB11 HS11
  generalize RL.rank Y x = k1 at *
  generalize RL.manyB Y x = k2 at *
  generalize decide (x ∈ Y) = dx at *
  go_wp2_with fail
  refine (l7awake_any _).mono ?_
  rintro e w13 ⟨rfl, hb13⟩
  have HB13 := Lib.hid (Below.then HB5.out (Below.then HB12.out hb13 HB12.out.size) HB5.out.size)
  clear hb13
  go_wp2
  go_ret
  exact ⟨rfl, HB13.out⟩

end Go.Proofs.Ytiopkooigeaneaa

/- Walk: the laws' own made. -/
import Derived.Test.YtiopkooigeaneaaV12
namespace Go.Proofs.Ytiopkooigeaneaa
open Go.RowKit Go.Sort

/-- The rows that a relation of arity n accepts. -/
def validR (n : Int) (X : List RL.R) : List RL.R := X.filter fun x => decide (wrongF n x = 0)
theorem validR_snoc (n : Int) (X : List RL.R) (k : Nat) (h : k < X.length) : validR n (X.take (k + 1)) = validR n (X.take k) ++ (if wrongF n X[k] = 0 then [X[k]] else []) := by
  unfold validR
  rw [List.take_succ_eq_append_getElem h, List.filter_append]
  by_cases hw : wrongF n X[k] = 0 <;> simp [hw]
theorem validR_err (n : Int) (X : List RL.R) : errF n (validR n X) = 0 := errF_zero.2 fun x hx => by
  unfold validR at hx
  rw [List.mem_filter] at hx
  simpa using hx.2
theorem validR_sub (n : Int) (X : List RL.R) : ∀ x ∈ validR n X, x ∈ X := fun x hx => (List.mem_filter.1 hx).1
theorem validR_length (n : Int) (X : List RL.R) : (validR n X).length ≤ X.length := List.length_filter_le _ _

theorem RelIs.upB {w w' : World} {n : Int} {X : List RL.R} {v : Value} (h : RelIs w n X v) (hb : Below w.heap.size w w') : RelIs w' n X v := by
  obtain ⟨A, C, h1, h2, h3, h4⟩ := h
  exact ⟨A, C, h1, h2, h3, h4.upB hb⟩

theorem setCell_id {w : World} {a : Addr} {v : Value} (h : w.cell? a = some v) : w.setCell a v = w := by
  unfold World.cell? at h
  split at h
  · rename_i c t f hc
    split at h
    · cases h
    · rename_i hs
      have hcs : (if a.spot.isSome then c else c.setIfInBounds a.off v) = c := by
        rw [if_neg hs]
        apply Array.ext_getElem?
        intro j
        rw [Array.getElem?_setIfInBounds]
        split
        · rename_i e2; subst e2; split
          · rw [h]
          · rename_i h3; rw [Array.getElem?_eq_none (by omega)]
        · rfl
      have hh : (w.setCell a v).heap = w.heap := by
        apply Array.ext_getElem?
        intro i
        unfold World.setCell
        rw [Array.getElem?_modify]
        split
        · rename_i e
          subst e
          rw [hc]
          rw [if_neg hs] at hcs
          simp [hs, hcs]
        · rfl
      have : w.setCell a v = { w with heap := (w.setCell a v).heap } := rfl
      rw [this, hh]
  · cases h

/-- A row of three cells and more does not lie in a block of two. -/
theorem SlR.not_pair {w : World} {A : Option Addr} {x : RL.R} {rb : Nat} {E : TypeId} {u0 u1 : Value} (h : SlR w.heap.size w A x) (hr : Row w rb E [u0, u1]) : x ≠ [] → ∀ ad, A = some ad → ad.block ≠ rb := fun hx ad e e2 => by
  cases x with
  | nil => exact hx rfl
  | cons v y =>
    obtain ⟨b, o, e', hb, _, _, c3⟩ := slR_at h (i := 0) (by simp)
    rw [e] at e'
    injection e' with e'
    subst e'
    simp only at e2
    subst e2
    rw [hr.cell] at c3
    simp at c3
theorem OwnRs.far {w : World} {B : Nat} {E : TypeId} {v : Value} {X : List RL.R} {rb i : Nat} {T : TypeId} {u0 u1 : Value} (h : OwnRs w B E v X) (hr : Row w rb T [u0, u1]) (hB : rb < B) (u : Value) : OwnRs (w.setCell ⟨rb, i, none⟩ u) B E v X := by
  have hbase := h.base
  obtain ⟨hs, h1, h2⟩ := h
  refine ⟨hs, own_far h1 (p := ⟨rb, i, none⟩) (fun e => by have := hbase _ e; simp only at this; omega) u, fun j hj => ?_⟩
  obtain ⟨A', C', g1, g2, g3, g4, g5⟩ := h2 j hj
  exact ⟨A', C', g1, g2, g3, g4.far (p := ⟨rb, i, none⟩) u (g4.not_pair hr), g5⟩

set_option maxHeartbeats 2000000 in
set_option maxRecDepth 100000 in
theorem l7made_any (n : Int) (A : Option Addr) (C : Nat) (X : List RL.R) (w : World) (h0 : 0 ≤ n) (h32 : n ≤ 32) (hX : SlRs w.heap.size w A X) (hok : RsOk X) (hl : X.length ≤ 60000) :
    Calls Try.prog 15 #[.int .i64 n, .slice A X.length C] w fun e w' => ∃ rv mv, e = .returned (.tuple #[rv, mv, .bool true]) ∧ RelIs w' n (RL.ofF (validR n X)) rv ∧ RowsIs w' (RL.ofF (validR n X)) mv ∧ Below w.heap.size w w' := by
  have HX := Lib.hid hX
  have HOK := Lib.hid hok
  clear hX hok
  go_enter Try.func15, Try.ntmps15
  have HR0 := Lib.hid (Row.new w 29 [.int .i64 0, .slice none 0 0])
  go_wp2
  go_loopw [7, 13] (fun v i wr => ∃ k : Nat, k ≤ X.length ∧ i = .int .i64 k ∧ OwnRs wr (w.heap.size + 1) 24 v (validR n (X.take k)) ∧ Row wr w.heap.size 29 [.int .i64 0, .slice none 0 0] ∧ Below w.heap.size w wr) (fun _ i _ => X.length - (intOf i).toNat)
  case atStart => exact ⟨0, Nat.zero_le _, rfl, OwnRs.nil _ _ _, HR0.out, (Below.refl _ _).alloc (Nat.le_refl _) _⟩
  case round =>
    obtain ⟨k, hka, rfl, hown, hrw, hbel⟩ := hrel
    have HO := Lib.hid hown
    have HRW := Lib.hid hrw
    have HB := Lib.hid hbel
    have hzz := hbel.size
    have hrl := hrw.lt
    have hvl := validR_length n (X.take k)
    clear hown hrw HR0
    by_cases h1 : k < X.length
    · obtain ⟨b, o, A1, C1, rfl, hb, c1, hcap, hcm, s1⟩ := slRs_at HX.out h1
      have d1 := (hbel.cell (p := ⟨b, o + k, none⟩) hb).trans c1
      have HS1 := Lib.hid (s1.below hbel (Nat.le_refl _))
      have HC := Lib.hid (l7Row_any A1 C1 X[k] wr (HS1.out.more hzz) (HOK.out.at_ h1).1)
      have HV := Lib.hid (validR_snoc n X k h1)
      have HK := Lib.hid (HOK.out.at_ h1)
      clear c1 s1 hbel
      generalize X[k] = x at d1 HC HV HS1 hcap HK
      go_wp2_with fail
      refine HC.out.mono ?_
      rintro e w1 ⟨v1, rfl, hown1, hb1⟩
      obtain ⟨-, A2, C2, rfl, hc2, hm2, hs2, -⟩ := SlR.of_own hown1
      have HB1 := Lib.hid hb1
      have HW := Lib.hid (r7Wrong_any n A2 C2 x w1 hs2 HK.out)
      clear hown1 hb1 hs2 HC d1
      go_wp2_with fail
      refine HW.out.mono ?_
      rintro e w2 ⟨rfl, hx2⟩
      have hb2 := Below.then HB1.out hx2.below HB1.out.size
      have hz2 := hb2.size
      have HO2 := Lib.hid (HO.out.keep hb2)
      have HRW2 := Lib.hid (HRW.out.below hb2 hrl)
      have HB2 := Lib.hid (Below.then HB.out hb2 hzz)
      have HS2 := Lib.hid (HS1.out.below hb2 hzz)
      clear hb2 hx2 HW HO HRW HB1
      by_cases hw : wrongF n x = 0
      · have hw2 : (wrongF n x == 0) = true := by simpa using hw
        have HV2 := Lib.hid (HV.out.trans (by rw [if_pos hw] : _ = validR n (X.take k) ++ [x]))
        have HO3 := Lib.hid (HO2.out.keep ((Below.refl _ _).alloc (Nat.le_refl _) (.cells #[.slice A1 x.length C1] 24)))
        have HB3 := Lib.hid (HB2.out.alloc HB2.out.size (.cells #[.slice A1 x.length C1] 24))
        have HRW3 := Lib.hid (HRW2.out.alloc (.cells #[.slice A1 x.length C1] 24))
        clear hw HV
        generalize wrongF n x = q at *
        go_wp2_with (first
          | (at_builtin; refine app1Row rfl (.tmp 22) (.tmp 24) rfl (w.heap.size + 1) u7 (validR n (X.take k)) rfl HO3.out w2.heap.size A1 C1 x rfl (by go_simp) ((HS2.out.ext HB2.out.size ((Ext.refl _).alloc _)).more (by have := HB2.out.size; simp; omega)) hcap hcm (fun hy ad e e2 => by have h4 := HO3.out.base _ e2; obtain ⟨b', o', e', hb', _⟩ := HS2.out (ne_rcells hy); rw [e] at e'; injection e' with e'; rw [e'] at h4; simp only at h4; omega) (by simp at hvl; omega) (by simp; omega) ?_
             intro v4 w4 hown4 hg4
             have HO4 := Lib.hid hown4
             have HB4 := Lib.hid (Below.then HB3.out (app_grown (B := w.heap.size) hg4 (fun k hk => by have := HO3.out.base k hk; omega) (by simp; omega)) (Nat.le_refl _))
             have HRW4 := Lib.hid (HRW3.out.grown hg4 (fun e => by have := HO3.out.base _ e.symm; omega))
             clear hown4 hg4)
          | fail)
        go_roundw
        case rel => exact ⟨k + 1, by omega, by go_num, by rw [HV2.out]; exact HO4.out, HRW4.out, HB4.out⟩
        case measure => simp [intOf]; omega
      · have hw2 : (wrongF n x == 0) = false := by simpa using hw
        have HV2 := Lib.hid (HV.out.trans (by rw [if_neg hw, List.append_nil] : _ = validR n (X.take k)))
        clear hw HV
        generalize wrongF n x = q at *
        go_wp2
        go_roundw
        case rel => exact ⟨k + 1, by omega, by go_num, by rw [HV2.out]; exact HO2.out, HRW2.out, HB2.out⟩
        case measure => simp [intOf]; omega
    · have HT := Lib.hid (List.take_of_length_le (show X.length ≤ k by omega))
      rw [HT.out] at HO
      rw [HT.out] at hvl
      clear HT
      obtain ⟨VA, VC, rfl, hvc, hvm, hvs⟩ := HO.out.sl
      have HVO : Hid (RsOk (validR n X)) := HOK.out.of_mem (validR_sub n X)
      have HE := Lib.hid (validR_err n X)
      have HOF := Lib.hid (rlOf_any n VA VC (validR n X) wr h0 h32 hvs HVO.out (by omega))
      clear hvs
      go_wp2_with fail
      refine HOF.out.mono ?_
      rintro e w1 ⟨hok1, -, hb1⟩
      obtain ⟨rv, rfl, RA, RC, rfl, hrc1, hrc2, hrs⟩ := hok1 HE.out
      have HRS := Lib.hid hrs
      have HB1 := Lib.hid (Below.then HB.out hb1 hzz)
      have r1 := HRW.out.below hb1 hrl
      have HO1 := Lib.hid (HO.out.keep hb1)
      have hz1 := hb1.size
      have c0 : w1.cell? ⟨w.heap.size, 0, none⟩ = some (.int .i64 0) := r1.cell 0
      have c1 : w1.cell? ⟨w.heap.size, 1, none⟩ = some (.slice none 0 0) := r1.cell 1
      have f0 := r1.frozen 0
      have f1 := r1.frozen 1
      have r2 := (r1.set 0 (.int .i64 n)).set 1 (.slice RA (RL.ofF (validR n X)).length RC)
      have HR2 := Lib.hid r2
      have HO2 := Lib.hid ((HO1.out.far r1 (by omega) (i := 0) (.int .i64 n)).far (r1.set 0 (.int .i64 n)) (by omega) (i := 1) (.slice RA (RL.ofF (validR n X)).length RC))
      have HB2 := Lib.hid ((HB1.out.setCell (p := ⟨w.heap.size, 0, none⟩) (Nat.le_refl _) (.int .i64 n)).setCell (p := ⟨w.heap.size, 1, none⟩) (Nat.le_refl _) (.slice RA (RL.ofF (validR n X)).length RC))
      have HRS2 : Hid (SlRs w1.heap.size ((w1.setCell ⟨w.heap.size, 0, none⟩ (.int .i64 n)).setCell ⟨w.heap.size, 1, none⟩ (.slice RA (RL.ofF (validR n X)).length RC)) RA (RL.ofF (validR n X))) := hrs _ fun p hp _ => by
        have hpn : p.block ≠ w.heap.size := by omega
        exact (far_cell (p := ⟨w.heap.size, 1, none⟩) (fun e => hpn e.symm) (far_cell (p := ⟨w.heap.size, 0, none⟩) (fun e => hpn e.symm) rfl))
      have hzs : ((w1.setCell ⟨w.heap.size, 0, none⟩ (.int .i64 n)).setCell ⟨w.heap.size, 1, none⟩ (.slice RA (RL.ofF (validR n X)).length RC)).heap.size = w1.heap.size := by simp
      clear hrs hb1 hok1 HOF HRS HO HRW HO1 r1 r2
      go_wp2
      clear c0 c1 f0 f1
      generalize (w1.setCell ⟨w.heap.size, 0, none⟩ (.int .i64 n)).setCell ⟨w.heap.size, 1, none⟩ (.slice RA (RL.ofF (validR n X)).length RC) = W2 at *
      have r0 : W2.cell? ⟨w.heap.size, 0, none⟩ = some (.int .i64 n) := HR2.out.cell 0
      have r1 : W2.cell? ⟨w.heap.size, 1, none⟩ = some (.slice RA (RL.ofF (validR n X)).length RC) := HR2.out.cell 1
      obtain ⟨VA', VC', e', -, -, hvs2⟩ := HO2.out.sl
      injection e' with e1 e2 e3
      subst e1
      rw [← hzs] at HRS2
      have HR := Lib.hid (l7Rows_any VA VC (validR n X) W2.drew hvs2 (by omega) HVO.out)
      have hrl2 := HR2.out.lt
      clear hvs2 e3 e2 hzs
      go_region_held3 (fun w' => w'.cell? ⟨w.heap.size, 0, none⟩ = some (.int .i64 n) ∧ w'.cell? ⟨w.heap.size, 1, none⟩ = some (.slice RA (RL.ofF (validR n X)).length RC)) (first | exact KEEP3 | exact KEEP2 | exact KEEP1 | go_keep)
        (first
          | (go_at_call 26; refine HR.out.mono ?_; rintro e w5 ⟨v5, rfl, hown5, hb5⟩
             obtain ⟨A5, C5, rfl, hc5, hm5, hs5⟩ := hown5.sl
             have HO5 := Lib.hid (r7Of_any A5 C5 (validR n X) w5 hs5 (by omega) HVO.out)
             have HB5 := Lib.hid (Below.undrew hb5)
             have KEEP1 : w5.cell? ⟨w.heap.size, 0, none⟩ = some (.int .i64 n) ∧ w5.cell? ⟨w.heap.size, 1, none⟩ = some (.slice RA (RL.ofF (validR n X)).length RC) := ⟨(hb5.cell (p := ⟨w.heap.size, 0, none⟩) hrl2).trans r0, (hb5.cell (p := ⟨w.heap.size, 1, none⟩) hrl2).trans r1⟩
             clear hown5 hb5 hs5)
          | (go_at_call 25; refine HO5.out.mono ?_; rintro e w6 ⟨v6, rfl, hr6, hb6⟩
             have HR6 := Lib.hid hr6
             have HB6 := Lib.hid (Below.then HB5.out hb6 HB5.out.size)
             have h5z := HB5.out.size
             have KEEP2 : w6.cell? ⟨w.heap.size, 0, none⟩ = some (.int .i64 n) ∧ w6.cell? ⟨w.heap.size, 1, none⟩ = some (.slice RA (RL.ofF (validR n X)).length RC) := ⟨(hb6.cell (p := ⟨w.heap.size, 0, none⟩) (show w.heap.size < w5.heap.size by omega)).trans KEEP1.1, (hb6.cell (p := ⟨w.heap.size, 1, none⟩) (show w.heap.size < w5.heap.size by omega)).trans KEEP1.2⟩
             have hfz6 : w6.frozen? ⟨w.heap.size, 0, none⟩ = false ∧ w6.frozen? ⟨w.heap.size, 1, none⟩ = false := ⟨(HB6.out.frozen (p := ⟨w.heap.size, 0, none⟩) hrl2).trans (HR2.out.frozen 0), (HB6.out.frozen (p := ⟨w.heap.size, 1, none⟩) hrl2).trans (HR2.out.frozen 1)⟩
             obtain ⟨hfz60, hfz61⟩ := hfz6
             have KEEP3 : ((w6.setCell ⟨w.heap.size, 0, none⟩ (.int .i64 n)).setCell ⟨w.heap.size, 1, none⟩ (.slice RA (RL.ofF (validR n X)).length RC)).cell? ⟨w.heap.size, 0, none⟩ = some (.int .i64 n) ∧ ((w6.setCell ⟨w.heap.size, 0, none⟩ (.int .i64 n)).setCell ⟨w.heap.size, 1, none⟩ (.slice RA (RL.ofF (validR n X)).length RC)).cell? ⟨w.heap.size, 1, none⟩ = some (.slice RA (RL.ofF (validR n X)).length RC) := ⟨(World.cell?_setCell_other _ _ _ _ (by simp)).trans (World.cell?_setCell_same _ _ _ KEEP2.1), World.cell?_setCell_same _ _ _ ((World.cell?_setCell_other _ _ _ _ (by simp)).trans KEEP2.2)⟩
             clear hr6 hb6)
          | fail)
      all_goals
        go_wp2
        have e6 : (w6.setCell ⟨w.heap.size, 0, none⟩ (.int .i64 n)).setCell ⟨w.heap.size, 1, none⟩ (.slice RA (RL.ofF (validR n X)).length RC) = w6 := by
          rw [setCell_id KEEP2.1, setCell_id KEEP2.2]
        rw [e6]
        refine bodyPost_ret (v := .tuple #[.agg #[.int .i64 n, .slice RA (RL.ofF (validR n X)).length RC], v6, .bool true]) (by simp [results, Try.results15, go_sem, KEEP2.1, KEEP2.2]) rfl ⟨_, v6, rfl, ?_, HR6.out, ?_⟩
        · exact ⟨RA, RC, rfl, hrc1, hrc2, HRS2.out.upB HB6.out⟩
        · exact Below.then HB2.out HB6.out (show w.heap.size ≤ W2.heap.size by omega)

end Go.Proofs.Ytiopkooigeaneaa

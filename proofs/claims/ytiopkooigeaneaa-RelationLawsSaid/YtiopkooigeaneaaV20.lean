/- Walk: relation's filter, for any function that answers by a row. -/
import Derived.Test.YtiopkooigeaneaaE5
namespace Go.Proofs.Ytiopkooigeaneaa
open Go.RowKit Go.Sort

theorem grown_keepP {P : Nat → Prop} {w w' : World} {cb B : Nat} (hg : w.grownBy w' (some cb)) (hB : B ≤ w.heap.size) (hP : ∀ b, P b → b ≠ cb) : ∀ p : Addr, p.block < B → P p.block → w'.cell? p = w.cell? p := fun p hp hne => grown_cell hg (by omega) (fun e => by injection e with e; exact hP _ hne e)
/-- A relation in memory, in blocks that P allows. -/
def RelP (P : Nat → Prop) (w' : World) (n : Int) (X : List RL.R) (v : Value) : Prop := ∃ A C, v = .agg #[.int .i64 n, .slice A X.length C] ∧ X.length ≤ C ∧ C ≤ 9223372036854775807 ∧ SlRsP P w'.heap.size w' A X
theorem RelP.is {P : Nat → Prop} {w' : World} {n : Int} {X : List RL.R} {v : Value} (h : RelP P w' n X v) : RelIs w' n X v := by
  obtain ⟨A, C, h1, h2, h3, h4⟩ := h
  exact ⟨A, C, h1, h2, h3, h4.sl⟩

theorem HR.sl {P : Nat → Prop} {B : Nat} {w : World} {A : Option Addr} {n C : Nat} {y : RL.R} (h : HR P B w (.slice A n C) y) : SlR B w A y := by
  obtain ⟨A', C', e, -, -, h4, -⟩ := h
  injection e with e1 _ _
  subst e1
  exact h4

set_option maxHeartbeats 2000000 in
set_option maxRecDepth 100000 in
theorem rlFilter_P (n : Int) (RA : Option Addr) (RC : Nat) (X : List RL.R) (F : Nat) (caps : Array Value) (p : RL.R → Bool) (P : Nat → Prop) (cb : Nat) (I : Nat → World → Prop) (w : World)
    (hen : ∀ args w, (callFunc F args).run Try.prog w = .ok (.enter F args) w)
    (hX : SlRsP P w.heap.size w RA X) (hXl : X.length ≤ 100000) (hPc : ∀ b, P b → b ≠ cb) (hPn : ∀ b, w.heap.size ≤ b → P b) (hcb : cb < w.heap.size) (hI0 : I 0 w)
    (hIk : ∀ k W W', I k W → Below w.heap.size W W' → w.heap.size ≤ W.heap.size → I k W')
    (hF : ∀ k (hk : k < X.length) W A' C', I k W → w.grownBy W (some cb) → HR P w.heap.size W (.slice A' X[k].length C') X[k] → Calls Try.prog F (#[.slice A' X[k].length C'] ++ caps) W fun e W' => e = .returned (.bool (p X[k])) ∧ I (k + 1) W' ∧ W.grownBy W' (some cb)) :
    Calls Try.prog 65 #[.agg #[.int .i64 n, .slice RA X.length RC], .func (.func F) #[] caps] w fun e w' => ∃ v, e = .returned v ∧ RelP P w' n (X.filter p) v ∧ w.grownBy w' (some cb) := by
  have HX := Lib.hid hX
  have HF := Lib.hid hF
  have HIK := Lib.hid hIk
  have HI0 := Lib.hid hI0
  have HPC := Lib.hid hPc
  have HPN := Lib.hid hPn
  clear hX hF hIk hI0 hPc hPn
  go_enter Try.func65, Try.ntmps65
  have q1 := (Row.new w 29 [.int .i64 n, .slice RA X.length RC]).alloc (.cells #[.int .i64 0, .slice none 0 0] 29)
  have q2 := Row.new (w.alloc (.cells #[.int .i64 n, .slice RA X.length RC] 29)) 29 [.int .i64 0, .slice none 0 0]
  simp only [World.size_alloc] at q2
  have HQ1 := Lib.hid q1
  have HQ2 := Lib.hid q2
  have HE0 := Lib.hid (((Ext.refl w).alloc (.cells #[.int .i64 n, .slice RA X.length RC] 29)).alloc (.cells #[.int .i64 0, .slice none 0 0] 29))
  clear q1 q2
  go_wp2
  generalize (w.alloc (.cells #[.int .i64 n, .slice RA X.length RC] 29)).alloc (.cells #[.int .i64 0, .slice none 0 0] 29) = W0 at *
  go_loopw [5, 10] (fun v i wr => ∃ (k : Nat) (hs : List Value), k ≤ X.length ∧ i = .int .i64 k ∧ wr.ownsRow (w.heap.size + 2) 24 1 v ((X.take k).filter p).length hs ∧ Hdrs P w.heap.size wr hs ((X.take k).filter p) ∧ I k wr ∧ Row wr w.heap.size 29 [.int .i64 n, .slice RA X.length RC] ∧ Row wr (w.heap.size + 1) 29 [.int .i64 0, .slice none 0 0] ∧ w.grownBy wr (some cb)) (fun _ i _ => X.length - (intOf i).toNat)
  case atStart => exact ⟨0, [], Nat.zero_le _, rfl, own_nil _ _ _ _, Hdrs.nil, HIK.out 0 w W0 HI0.out HE0.out.below (Nat.le_refl _), HQ1.out, HQ2.out, HE0.out.grown _⟩
  case round =>
    obtain ⟨k, hs, hka, rfl, hown, hH, hI, hr1, hr2, hg⟩ := hrel
    have HO := Lib.hid hown
    have HH := Lib.hid hH
    have HI := Lib.hid hI
    have HR1 := Lib.hid hr1
    have HR2 := Lib.hid hr2
    have HG := Lib.hid hg
    have hzz := hg.size
    have hz1 := hr1.lt
    have hz2 := hr2.lt
    have hfl := filt_take_le p X k
    clear hown hH hI hr2 HI0 HQ1 HQ2 HE0
    by_cases h1 : k < X.length
    · obtain ⟨b, o, A1, C1, rfl, hb, hbc, c1, hr⟩ := (HX.out.keep (grown_keepP hg (Nat.le_refl _) HPC.out)).at_ h1
      have HC := Lib.hid (HF.out k h1 wr A1 C1 HI.out hg hr)
      have HN := Lib.hid (filt_snoc p X k h1)
      have n1 : wr.cell? ⟨w.heap.size, 1, none⟩ = some (.slice (some ⟨b, o, none⟩) X.length RC) := hr1.cell 1
      have HHR := Lib.hid hr
      clear hr hr1 hg
      generalize X[k] = x at c1 HC HN HHR
      generalize (X.take k).filter p = Fk at HO HN hfl HH
      go_wp2_with fail
      refine HC.out.mono ?_
      rintro e w1 ⟨rfl, hI1, hg1⟩
      have c1' := (grown_cell hg1 (p := ⟨b, o + k, none⟩) (show b < wr.heap.size by omega) (fun e => by injection e with e; exact HPC.out b hbc e)).trans c1
      have HR11 := Lib.hid (HR1.out.grown hg1 (fun e => by injection e with e; omega))
      have HR21 := Lib.hid (HR2.out.grown hg1 (fun e => by injection e with e; omega))
      have n1' : w1.cell? ⟨w.heap.size, 1, none⟩ = some (.slice (some ⟨b, o, none⟩) X.length RC) := HR11.out.cell 1
      have HO1 := Lib.hid (own_grown HO.out hg1 (fun g hk e => by have := own_base HO.out hk; injection e with e; omega))
      have HH1 := Lib.hid (HH.out.keep (grown_keepP hg1 hzz HPC.out))
      have HHR1 := Lib.hid (HHR.out.keep (grown_keepP hg1 hzz HPC.out))
      have HG1 := Lib.hid (grown_trans HG.out hg1)
      have HI1 := Lib.hid hI1
      have hw1 := hg1.size
      clear hI1 hg1 HC c1 n1 HO HH HI HHR
      cases hp : p x
      · have HN2 := Lib.hid (HN.out.trans (by simp [hp] : _ = Fk))
        clear HN hp
        go_wp2
        go_roundw
        case rel => exact ⟨k + 1, hs, by omega, by go_num, by rw [HN2.out]; exact HO1.out, by rw [HN2.out]; exact HH1.out, HI1.out, HR11.out, HR21.out, HG1.out⟩
        case measure => simp [intOf]; omega
      · have HN2 := Lib.hid (HN.out.trans (by simp [hp] : _ = Fk ++ [x]))
        have HO2 := Lib.hid (HO1.out.alloc (.cells #[.slice A1 x.length C1] 24))
        clear HN hp
        go_wp2_with (at_builtin; refine appH1 rfl (.tmp 20) (.tmp 26) rfl (w.heap.size + 2) u5 Fk.length hs rfl HO2.out w1.heap.size (.slice A1 x.length C1) rfl (by go_simp) rfl (by omega) (by simp; omega) ?_
                     intro v4 w4 hown4 hg4 _
                     have HO4 := Lib.hid hown4
                     have HB4 := Lib.hid (Below.then ((Below.refl (w.heap.size + 2) w1).alloc (show w.heap.size + 2 ≤ w1.heap.size by omega) (.cells #[.slice A1 x.length C1] 24)) (app_grown (B := w.heap.size + 2) hg4 (fun g hk => own_base HO2.out hk) (by simp; omega)) (Nat.le_refl _))
                     clear hown4 hg4)
        go_roundw
        case rel =>
          have hb4 := HB4.out
          have hk4 : ∀ p : Addr, p.block < w.heap.size → P p.block → w4.cell? p = w1.cell? p := fun p hp _ => hb4.cell (by omega)
          refine ⟨k + 1, hs ++ [.slice A1 x.length C1], by omega, by go_num, by rw [HN2.out, List.length_append]; exact HO4.out, ?_, HIK.out _ w1 w4 HI1.out (hb4.mono (by omega)) (by omega), HR11.out.below hb4 (by omega), HR21.out.below hb4 (by omega), grown_below HG1.out hb4 (by omega)⟩
          rw [HN2.out]
          exact (HH1.out.keep hk4).append (Hdrs.one (HHR1.out.keep hk4))
        case measure => simp [intOf]; omega
    · have HT := Lib.hid (List.take_of_length_le (show X.length ≤ k by omega))
      rw [HT.out] at HO HH hfl
      obtain ⟨A5, C5, rfl, hc5, hm5, hs5⟩ := own_slrs (P := fun b => P b ∧ b ≠ w.heap.size + 1) HO.out (HH.out.weak (fun b hb h => ⟨h, by omega⟩)) hzz (fun b hb => ⟨HPN.out b (by omega), by omega⟩)
      have c0 : wr.cell? ⟨w.heap.size + 1, 0, none⟩ = some (.int .i64 0) := HR2.out.cell 0
      have c1 : wr.cell? ⟨w.heap.size + 1, 1, none⟩ = some (.slice none 0 0) := HR2.out.cell 1
      have f0 := HR2.out.frozen 0
      have f1 := HR2.out.frozen 1
      have n0 : wr.cell? ⟨w.heap.size, 0, none⟩ = some (.int .i64 n) := hr1.cell 0
      obtain ⟨Y, hY⟩ : ∃ Y, Y = X.filter p := ⟨_, rfl⟩
      have HYE := Lib.hid hY
      rw [← hY] at hc5 hs5
      rw [← hY]
      clear hY HO HH hfl HT
      have z0 : (wr.setCell ⟨w.heap.size + 1, 0, none⟩ (.int .i64 n)).cell? ⟨w.heap.size + 1, 0, none⟩ = some (.int .i64 n) := World.cell?_setCell_same _ _ _ c0
      have z1 : ((wr.setCell ⟨w.heap.size + 1, 0, none⟩ (.int .i64 n)).setCell ⟨w.heap.size + 1, 1, none⟩ (.slice A5 Y.length C5)).cell? ⟨w.heap.size + 1, 1, none⟩ = some (.slice A5 Y.length C5) := World.cell?_setCell_same _ _ _ ((World.cell?_setCell_other _ _ _ _ (by simp)).trans c1)
      have Z0 := Lib.hid z0
      have Z1 := Lib.hid z1
      have HS5 : Hid (SlRsP P wr.heap.size ((wr.setCell ⟨w.heap.size + 1, 0, none⟩ (.int .i64 n)).setCell ⟨w.heap.size + 1, 1, none⟩ (.slice A5 Y.length C5)) A5 Y) := (hs5.keep (fun p hp hne => far_cell (p := ⟨w.heap.size + 1, 1, none⟩) (fun e => hne.2 e.symm) (far_cell (p := ⟨w.heap.size + 1, 0, none⟩) (fun e => hne.2 e.symm) rfl))).weak (fun b _ h => h.1)
      clear hs5 z0 z1 hr1 hg HR1 HR2
      go_wp2
      refine bodyPost_ret (v := .agg #[.int .i64 n, .slice A5 Y.length C5]) (by simp [results, Try.results65, go_sem, Z0.out, Z1.out]) rfl ⟨_, rfl, by rw [← HYE.out]; exact ⟨A5, C5, rfl, hc5, hm5, by simpa using HS5.out⟩, ?_⟩
      exact grown_below HG.out (((Below.refl w.heap.size wr).setCell (p := ⟨w.heap.size + 1, 0, none⟩) (show w.heap.size ≤ w.heap.size + 1 by omega) _).setCell (p := ⟨w.heap.size + 1, 1, none⟩) (show w.heap.size ≤ w.heap.size + 1 by omega) _) (Nat.le_refl _)

theorem rlFilter_any (n : Int) (RA : Option Addr) (RC : Nat) (X : List RL.R) (F : Nat) (caps : Array Value) (p : RL.R → Bool) (P : Nat → Prop) (cb : Nat) (I : Nat → World → Prop) (w : World)
    (hen : ∀ args w, (callFunc F args).run Try.prog w = .ok (.enter F args) w)
    (hX : SlRsP P w.heap.size w RA X) (hXl : X.length ≤ 100000) (hPc : ∀ b, P b → b ≠ cb) (hPn : ∀ b, w.heap.size ≤ b → P b) (hcb : cb < w.heap.size) (hI0 : I 0 w)
    (hIk : ∀ k W W', I k W → Below w.heap.size W W' → w.heap.size ≤ W.heap.size → I k W')
    (hF : ∀ k (hk : k < X.length) W A' C', I k W → w.grownBy W (some cb) → SlR W.heap.size W A' X[k] → Calls Try.prog F (#[.slice A' X[k].length C'] ++ caps) W fun e W' => e = .returned (.bool (p X[k])) ∧ I (k + 1) W' ∧ W.grownBy W' (some cb)) :
    Calls Try.prog 65 #[.agg #[.int .i64 n, .slice RA X.length RC], .func (.func F) #[] caps] w fun e w' => ∃ v, e = .returned v ∧ RelP P w' n (X.filter p) v ∧ w.grownBy w' (some cb) :=
  rlFilter_P n RA RC X F caps p P cb I w hen hX hXl hPc hPn hcb hI0 hIk (fun k hk W A' C' hI hg hr => hF k hk W A' C' hI hg (hr.sl.more hg.size))

end Go.Proofs.Ytiopkooigeaneaa

import Derived.Test.YtfiegiifoekfmaaW15
import Derived.Test.YtfiegiifoekfmaaW8
namespace Go.Proofs.Ytfiegiifoekfmaa
open Go.RowKit

/-- A law's own box of its tree, and its argument, in a later world. -/
structure PB (w : World) (PA : Option Addr) (PC : Nat) (ps : List Int) (W : World) : Prop where
  c0 : W.cell? ⟨w.heap.size, 0, none⟩ = some (.slice PA ps.length PC)
  sP : SlI .i64 w.heap.size W PA ps
  bel : Below w.heap.size w W
  sz : w.heap.size < W.heap.size

section
variable {w W W' : World} {PA : Option Addr} {PC : Nat} {ps : List Int}
theorem PB.start (hP : SlI .i64 w.heap.size w PA ps) : PB w PA PC ps (w.alloc (.cells #[.slice PA ps.length PC] 34)) := by
  have r := Row.new w 34 [.slice PA ps.length PC]
  exact ⟨r.cell 0, hP.alloc (Nat.le_refl _) _, (Below.refl _ _).alloc (Nat.le_refl _) _, by simp⟩
theorem PB.keep (h : PB w PA PC ps W) (hb : Below W.heap.size W W') : PB w PA PC ps W' := by
  have hs := h.sz
  exact ⟨(hb.cell (p := ⟨w.heap.size, 0, none⟩) hs).trans h.c0, h.sP.below hb (by omega), Below.then h.bel hb (by omega), Nat.lt_of_lt_of_le hs hb.size⟩
theorem PB.alloc (h : PB w PA PC ps W) (o : Obj) : PB w PA PC ps (W.alloc o) := h.keep ((Below.refl _ _).alloc (Nat.le_refl _) o)
theorem PB.setCell (h : PB w PA PC ps W) {p : Addr} (hp : w.heap.size < p.block) (u : Value) : PB w PA PC ps (W.setCell p u) :=
  ⟨far_cell (by show p.block ≠ w.heap.size; omega) h.c0, h.sP.setCell (by omega) u, h.bel.setCell (by omega) u, by simp; exact h.sz⟩
theorem PB.drewN (h : PB w PA PC ps W) (n : Nat) : PB w PA PC ps (W.drewN n) := h.keep (Below.drewN' (Below.refl _ _) n)
theorem PB.P (h : PB w PA PC ps W) : SlI .i64 W.heap.size W PA ps := h.sP.more (Nat.le_of_lt h.sz)
end

theorem natV_slI {B : Nat} {w : World} {A : Option Addr} {D : List Nat} (h : Sl B w A (natV D)) : SlI .i64 B w A (D.map fun d : Nat => (d : Int)) := by
  unfold SlI
  rw [List.map_map]
  exact h

theorem own_slI {w : World} {base : Nat} {v : Value} {D : List Nat} (h : w.ownsRow base 3 1 v D.length (natV D)) : ∃ A c, v = .slice A (D.map fun d : Nat => (d : Int)).length c ∧ SlI .i64 w.heap.size w A (D.map fun d : Nat => (d : Int)) := by
  obtain ⟨A, c, hv, _, _, hs⟩ := Sl.of_own h
  exact ⟨A, c, by rw [hv]; simp, natV_slI hs⟩

set_option maxHeartbeats 4000000 in
set_option maxRecDepth 100000 in
theorem orders_walk (PA : Option Addr) (PC : Nat) (ps : List Int) (w : World) (hP : SlI .i64 w.heap.size w PA ps) (hpl : ps.length ≤ 9223372036854775807) :
    Calls Try.prog 6 #[.slice PA ps.length PC] w fun e w' => e = .returned (.bool true) ∧ Below w.heap.size w w' := by
  by_cases h2 : 12 < ps.length
  · clear hP
    go_enter Try.func6, Try.ntmps6
    go_wp2_with fail
    refine (awake_any _).mono ?_
    rintro e w2 ⟨rfl, hb2⟩
    go_wp2
    go_ret
    exact ⟨rfl, hb2⟩
  have hpl2 : ps.length ≤ 1000000 := by omega
  have H0 := Lib.hid (PB.start (PC := PC) hP)
  clear hP
  cases hr : JT.rootedB ps
  · have HR := Lib.hid hr
    clear hr
    go_enter Try.func6, Try.ntmps6
    go_wp2_with fail
    refine (jtOrder_bad PA PC ps _ H0.out.P hpl2 HR.out).mono ?_
    rintro e w1 ⟨rfl, hb1⟩
    have H1 := Lib.hid (H0.out.keep hb1)
    have hc1 := H1.out.c0
    clear hb1 H0
    go_wp2_with fail
    refine (root_any PA PC ps _ H1.out.P hpl2).mono ?_
    rintro e w2 ⟨rfl, hb2⟩
    have H2 := Lib.hid (H1.out.keep hb2)
    clear hb2 H1 hc1
    go_wp2_with fail
    refine (idxInt_any PA PC ps (-1) _ H2.out.P hpl2).mono ?_
    rintro e w3 ⟨rfl, rfl⟩
    have hs : (idxF ps (-1) != idxF ps (-1)) = false := by simp
    generalize idxF ps (-1) = ix at *
    go_wp2_with fail
    refine (refRooted_any PA PC ps _ H2.out.P hpl2).mono ?_
    rw [HR.out]
    rintro e w4 ⟨rfl, hb4⟩
    have H4 := Lib.hid (H2.out.keep hb4)
    clear hb4 H2 hs
    go_wp2_with fail
    refine (awake_any _).mono ?_
    rintro e w5 ⟨rfl, hb5⟩
    have H5 := Lib.hid (H4.out.keep hb5)
    clear hb5 H4
    go_wp2
    go_ret
    exact ⟨rfl, H5.out.bel⟩
  · have HR := Lib.hid hr
    clear hr
    go_enter Try.func6, Try.ntmps6
    go_wp2_with fail
    refine (jtOrder_ok PA PC ps _ H0.out.P hpl2 HR.out).mono ?_
    rintro e w1 ⟨A, c, rfl, hs1, hb1⟩
    have H1 := Lib.hid (H0.out.keep hb1)
    have HS1 := Lib.hid (natV_slI hs1)
    have hc1 := H1.out.c0
    clear hb1 H0 hs1
    go_wp2_with fail
    refine (root_any PA PC ps _ H1.out.P hpl2).mono ?_
    rintro e w2 ⟨rfl, hb2⟩
    have H2 := Lib.hid (H1.out.keep hb2)
    have HS2 := Lib.hid ((HS1.out.below hb2 (Nat.le_refl _)).more hb2.size)
    clear hb2 H1 hc1 HS1
    go_wp2_with fail
    refine (idxInt_any PA PC ps (-1) _ H2.out.P hpl2).mono ?_
    rintro e w3 ⟨rfl, rfl⟩
    have hs : (idxF ps (-1) != idxF ps (-1)) = false := by simp
    generalize idxF ps (-1) = ix at *
    go_wp2_with fail
    refine (refRooted_any PA PC ps _ H2.out.P hpl2).mono ?_
    rw [HR.out]
    rintro e w4 ⟨rfl, hb4⟩
    have H4 := Lib.hid (H2.out.keep hb4)
    have HS4 := Lib.hid ((HS2.out.below hb4 (Nat.le_refl _)).more hb4.size)
    clear hb4 H2 hs HS2
    go_wp2_with fail
    refine (refOrder_any PA PC ps _ H4.out.P hpl2 HR.out).mono ?_
    rintro e w5 ⟨v, rfl, hown, hb5⟩
    obtain ⟨A5, c5, hv5, hs5⟩ := own_slI hown
    subst hv5
    have H5 := Lib.hid (H4.out.keep hb5)
    have HS5 := Lib.hid ((HS4.out.below hb5 (Nat.le_refl _)).more hb5.size)
    have HT5 := Lib.hid hs5
    have hol : (JT.orderF ps).length ≤ 1000000 := by have := (JT.orderF_is ps).1.length; omega
    have heq := eqInt_any A A5 c c5 ((JT.orderF ps).map fun d : Nat => (d : Int)) ((JT.orderF ps).map fun d : Nat => (d : Int)) w5 HS5.out HT5.out (by simpa using hol) (by simpa using hol)
    rw [List.length_map, decide_eq_true rfl] at heq
    rw [List.length_map]
    have HEQ := Lib.hid heq
    clear hown hs5 hb5 H4 HS4 heq
    go_wp2_with fail
    refine HEQ.out.mono ?_
    rintro e w6 ⟨rfl, n6, rfl⟩
    have H6 := Lib.hid (H5.out.drewN n6)
    clear HEQ H5 HS5 HT5
    go_wp2_with fail
    refine (awake_any _).mono ?_
    rintro e w7 ⟨rfl, hb7⟩
    have H7 := Lib.hid (H6.out.keep hb7)
    clear hb7 H6
    go_wp2
    go_ret
    exact ⟨rfl, H7.out.bel⟩

end Go.Proofs.Ytfiegiifoekfmaa

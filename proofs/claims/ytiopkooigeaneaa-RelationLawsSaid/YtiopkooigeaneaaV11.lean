/- Walk: relation.Of. -/
import Derived.Test.YtiopkooigeaneaaV10
namespace Go.Proofs.Ytiopkooigeaneaa
open Go.RowKit Go.Sort Go.Shelf Go.Lib

set_option maxHeartbeats 400000 in
theorem rlBuild_nil (ar : Int) (A : Option Addr) (C : Nat) (w : World) :
    Calls Try.prog 59 #[.int .i64 ar, .slice A 0 C] w fun e w' => e = .returned (.tuple #[.agg #[.int .i64 ar, .slice A 0 C], .int .i64 0]) ∧ Ext w w' := by
  have HI := Lib.hid (fun W => Any.slices_IsSortedFunc_none lIsSorted A C (.func (.func 72) #[] #[]) W)
  have HC := Lib.hid (fun W => compact_small A 0 C (.func (.func 73) #[] #[]) W (by omega))
  go_enter Try.func59, Try.ntmps59
  go_wp2_with (first | (go_at_call 79; refine (HI.out _).mono ?_; rintro e w' ⟨rfl, rfl⟩) | (go_at_call 81; refine (HC.out _).mono ?_; rintro e w' ⟨rfl, rfl⟩) | fail)
  refine wp_loop_rounds 1 ?_
  rw [rounds_succ]
  go_wp2
  exact bodyPost_ret (v := .tuple #[.agg #[.int .i64 ar, .slice A 0 C], .int .i64 0]) (by simp [results, Try.results59, go_sem]) rfl ⟨rfl, (Ext.refl w).alloc _⟩

/-- The first error among rows, or 0. -/
def errF (n : Int) : List RL.R → Int
  | [] => 0
  | x :: X => if wrongF n x = 0 then errF n X else wrongF n x
theorem errF_zero {n : Int} : ∀ {X : List RL.R}, errF n X = 0 ↔ ∀ x ∈ X, wrongF n x = 0
  | [] => by simp [errF]
  | x :: X => by
    simp only [errF, List.mem_cons, forall_eq_or_imp]
    split
    · rename_i h; rw [errF_zero]; simp [h]
    · rename_i h; simp [h]

/-- What a call that builds a relation leaves: the struct, and its rows in memory. -/
def RelIs (w' : World) (n : Int) (X : List RL.R) (v : Value) : Prop := ∃ A C, v = .agg #[.int .i64 n, .slice A X.length C] ∧ X.length ≤ C ∧ C ≤ 9223372036854775807 ∧ SlRs w'.heap.size w' A X

/-- The list of rows takes only blocks from lo on. -/
def FreshRs (lo : Nat) (w' : World) (A : Option Addr) (X : List RL.R) : Prop := ∀ w'', (∀ p : Addr, lo ≤ p.block → p.block < w'.heap.size → w''.cell? p = w'.cell? p) → SlRs w'.heap.size w'' A X
theorem FreshRs.sl {lo : Nat} {w' : World} {A : Option Addr} {X : List RL.R} (h : FreshRs lo w' A X) : SlRs w'.heap.size w' A X := h w' fun _ _ _ => rfl
theorem FreshRs.nil {lo : Nat} {w' : World} {A : Option Addr} : FreshRs lo w' A [] := fun _ _ => SlRs.nil
/-- A relation in memory that lies in blocks from lo on. -/
def RelNew (lo : Nat) (w' : World) (n : Int) (X : List RL.R) (v : Value) : Prop := ∃ A C, v = .agg #[.int .i64 n, .slice A X.length C] ∧ X.length ≤ C ∧ C ≤ 9223372036854775807 ∧ FreshRs lo w' A X
theorem RelNew.is {lo : Nat} {w' : World} {n : Int} {X : List RL.R} {v : Value} (h : RelNew lo w' n X v) : RelIs w' n X v := by
  obtain ⟨A, C, h1, h2, h3, h4⟩ := h
  exact ⟨A, C, h1, h2, h3, h4.sl⟩

theorem OwnRs.hb {w : World} {B : Nat} {E : TypeId} {v : Value} {X : List RL.R} (h : OwnRs w B E v X) (hok : RsOk X) (hn : X ≠ []) :
    ∃ g cap, ∃ d : Array (El w g), v = .slice (some ⟨g, 0, none⟩) X.length cap ∧ X.length ≤ cap ∧ cap ≤ 9223372036854775807 ∧ B ≤ g ∧ d.size = X.length ∧ X = d.toList.map El.row ∧ HB w w g 0 d := by
  obtain ⟨hs, h1, h2⟩ := h
  have hl : hs.length = X.length := by have := h1.1; omega
  have hpos : 0 < X.length := by cases X with | nil => exact absurd rfl hn | cons _ _ => simp
  rcases h1.2 with ⟨_, h0⟩ | ⟨g, cap, cur, rfl, hg, hb, hnc, hcm, hsz, ht⟩
  · omega
  have pick : ∀ i (hi : i < X.length), ∃ e : El w g, hs[i]? = some e.val ∧ e.row = X[i] := fun i hi => by
    obtain ⟨A', C', g1, g2, g3, g4, g5⟩ := h2 i hi
    exact ⟨⟨.slice A' X[i].length C', X[i], A', C', rfl, g2, g3, g4, hok.at_ hi, fun hy ad e e2 => g5 hy ad e (by rw [← e2]; rfl)⟩, g1, rfl⟩
  obtain ⟨F, hF⟩ : ∃ F : Nat → El w g, ∀ i (hi : i < X.length), hs[i]? = some (F i).val ∧ (F i).row = X[i] :=
    ⟨fun i => if hi : i < X.length then (pick i hi).choose else default, fun i hi => by simp only [hi, dif_pos]; exact (pick i hi).choose_spec⟩
  refine ⟨g, cap, ((List.range X.length).map F).toArray, rfl, hnc, by unfold maxLen at hcm; omega, hg, by simp, ?_, ?_⟩
  · apply List.ext_getElem (by simp)
    intro i h3 h4
    simp only [List.getElem_map, List.getElem_range]
    exact (hF i h3).2.symm
  · refine ⟨⟨rfl, rfl, rfl, Nat.le_refl _, fun _ _ _ => rfl⟩, fun j hj => ?_, ?_⟩
    · have hj' : j < X.length := by simpa using hj
      have e : ((List.range X.length).map F).toArray[j]! = F j := by
        rw [getElem!_pos ((List.range X.length).map F).toArray j hj]
        simp
      rw [e]
      have hc := (hF j hj').1
      refine ⟨?_, ?_⟩
      · rw [Nat.mul_one] at ht
        have hc2 : (cur.toList.take X.length)[j]? = some (F j).val := by rw [ht]; exact hc
        rw [List.getElem?_take_of_lt hj'] at hc2
        simp only [World.cell?, hb, Nat.zero_add]
        simp only [Option.isSome_none, Bool.false_eq_true, if_false]
        rw [← Array.getElem?_toList]
        exact hc2
      · simp [World.frozen?, hb]
    · rcases Nat.lt_or_ge g w.heap.size with hlt | hge
      · exact hlt
      · rw [Array.getElem?_eq_none hge] at hb; cases hb

theorem rlOf_range (n : Int) (A : Option Addr) (l C : Nat) (w : World) (h : n < 0 ∨ 32 < n) :
    Calls Try.prog 21 #[.int .i64 n, .slice A l C] w fun e w' => e = .returned (.tuple #[.agg #[.int .i64 0, .slice none 0 0], .int .i64 3]) ∧ Below w.heap.size w w' := by
  have HC := Lib.hid (fun W => rlNew_bad n W h)
  clear h
  go_enter Try.func21, Try.ntmps21
  go_wp2_with fail
  refine (HC.out _).mono ?_
  rintro e w1 ⟨rfl, hx1⟩
  have r1 := (Row.new w 29 [.int .i64 0, .slice none 0 0]).below hx1.below (by simp)
  have c0 : w1.cell? ⟨w.heap.size, 0, none⟩ = some (.int .i64 0) := r1.cell 0
  have c1 : w1.cell? ⟨w.heap.size, 1, none⟩ = some (.slice none 0 0) := r1.cell 1
  have f0 := r1.frozen 0
  have f1 := r1.frozen 1
  have hz := r1.lt
  have HB := Lib.hid (Below.box hx1.below (by simp))
  clear r1 hx1
  go_wp2
  refine bodyPost_ret (v := .tuple #[.agg #[.int .i64 0, .slice none 0 0], .int .i64 3]) (by simp [results, Try.results21, go_sem, c0, c1, hz]) rfl ⟨rfl, ?_⟩
  exact (((HB.out.setCell (p := ⟨w.heap.size, 0, none⟩) (Nat.le_refl _) _).setCell (p := ⟨w.heap.size, 1, none⟩) (Nat.le_refl _) _).alloc (by simp; omega) _)

theorem wrongF_ne {n : Int} {x : RL.R} (h : wrongF n x ≠ 0) : wrongF n x = 6 ∨ wrongF n x = 4 := by
  unfold wrongF at *
  split
  · exact .inl rfl
  · split
    · rename_i h1 h2; rw [if_neg h1, if_pos h2] at h; exact absurd rfl h
    · exact .inr rfl

/-- What relation.Of leaves. -/
def OfPost (w : World) (n : Int) (X : List RL.R) (e : Ending) (w' : World) : Prop :=
  (errF n X = 0 → ∃ v, e = .returned (.tuple #[v, .int .i64 0]) ∧ RelNew w.heap.size w' n (RL.ofF X) v) ∧ (errF n X ≠ 0 → e = .returned (.tuple #[.agg #[.int .i64 0, .slice none 0 0], .int .i64 (errF n X)])) ∧ Below w.heap.size w w'

theorem errF_drop {n : Int} {X : List RL.R} {k : Nat} (h : k < X.length) : errF n (X.drop k) = if wrongF n X[k] = 0 then errF n (X.drop (k + 1)) else wrongF n X[k] := by
  rw [List.drop_eq_getElem_cons h]; rfl

set_option maxHeartbeats 2000000 in
set_option maxRecDepth 100000 in
/-- relation.Of, an arity in range: the first error of the rows, or the relation of the rows. -/
theorem rlOf_any (n : Int) (A : Option Addr) (C : Nat) (X : List RL.R) (w : World) (h0 : 0 ≤ n) (h32 : n ≤ 32) (hX : SlRs w.heap.size w A X) (hok : RsOk X) (hl : X.length ≤ 60000) :
    Calls Try.prog 21 #[.int .i64 n, .slice A X.length C] w (OfPost w n X) := by
  have HC := Lib.hid (fun W => rlNew_ok n W h0 h32)
  have HX := Lib.hid hX
  have HOK := Lib.hid hok
  clear hX hok
  go_enter Try.func21, Try.ntmps21
  go_wp2_with fail
  refine (HC.out _).mono ?_
  rintro e w1 ⟨rfl, hx1⟩
  have r1 := (Row.new w 29 [.int .i64 0, .slice none 0 0]).below hx1.below (by simp)
  have HR := Lib.hid (r1.alloc (.cells #[.int .i64 n, .slice none 0 0] 29))
  have hz := r1.lt
  have HB := Lib.hid ((Below.box hx1.below (by simp)).alloc (show w.heap.size ≤ w1.heap.size by omega) (.cells #[.int .i64 n, .slice none 0 0] 29))
  have HN := Lib.hid (Row.new w1 29 [.int .i64 n, .slice none 0 0])
  clear r1 hx1 HC
  have HE0 := Lib.hid (Ext.refl (w1.alloc (.cells #[.int .i64 n, .slice none 0 0] 29)))
  have hz2 : (w1.alloc (.cells #[.int .i64 n, .slice none 0 0] 29)).heap.size = w1.heap.size + 1 := by simp
  have HX1 := Lib.hid ((HX.out.below HB.out (Nat.le_refl _)).more HB.out.size)
  go_wp2
  generalize w1.alloc (.cells #[.int .i64 n, .slice none 0 0] 29) = W0 at *
  go_loopw [21] (fun i wr => ∃ k : Nat, k ≤ X.length ∧ i = .int .i64 k ∧ errF n X = errF n (X.drop k) ∧ Ext W0 wr) (fun i _ => X.length - (intOf i).toNat)
  case atStart => exact ⟨0, Nat.zero_le _, rfl, by simp, HE0.out⟩
  case round =>
    obtain ⟨k, hk, rfl, hd, he⟩ := hrel
    have HD := Lib.hid hd
    have HE := Lib.hid he
    clear hd HE0
    by_cases hlt : k < X.length
    · have HRw := Lib.hid (HR.out.below he.below (by omega))
      have HNw := Lib.hid (HN.out.below he.below (by omega))
      have n0 : wr.cell? ⟨w1.heap.size, 0, none⟩ = some (.int .i64 n) := HNw.out.cell 0
      have n1 : wr.cell? ⟨w1.heap.size, 1, none⟩ = some (.slice none 0 0) := HNw.out.cell 1
      obtain ⟨b, o, A1, C1, rfl, hb, c1, -, -, s1⟩ := slRs_at (HX1.out.up he) hlt
      have HC := Lib.hid (fun W (hx : Ext wr W) => rlAccepts_any n none A1 0 0 C1 X[k] W (s1.up hx) (HOK.out.at_ hlt))
      have HDK := Lib.hid (HD.out.trans (errF_drop hlt))
      clear s1
      generalize X[k] = x at c1 HC HDK
      go_wp2
      go_still_tail 5, (by kernel_rfl)
      go_wp2_with fail
      refine (HC.out _ (Ext.refl _).drew).mono ?_
      rintro e w3 ⟨rfl, hx3⟩
      have HE3 := Lib.hid (HE.out.drew.trans hx3)
      clear HC c1 n0 n1 hx3
      by_cases hw : wrongF n x = 0
      · have hw2 : (wrongF n x != 0) = false := by simpa using hw
        have HDK2 := Lib.hid (HDK.out.trans (if_pos hw))
        clear hw
        generalize wrongF n x = q at *
        go_wp2
        go_roundw
        case rel => exact ⟨k + 1, by omega, by go_num, HDK2.out, HE3.out⟩
        case measure => simp [intOf]; omega
      · have hw2 : (wrongF n x != 0) = true := by simpa using hw
        have HDK2 := Lib.hid (HDK.out.trans (if_neg hw))
        have HNE := Lib.hid hw
        have r3 := HR.out.below HE3.out.below (by omega)
        have c0 : w3.cell? ⟨w.heap.size, 0, none⟩ = some (.int .i64 0) := r3.cell 0
        have c1 : w3.cell? ⟨w.heap.size, 1, none⟩ = some (.slice none 0 0) := r3.cell 1
        have f0 := r3.frozen 0
        have f1 := r3.frozen 1
        have HB3 := Lib.hid (Below.then HB.out HE3.out.below (by omega))
        clear hw r3
        generalize wrongF n x = q at *
        go_wp2
        refine bodyPost_ret (v := .tuple #[.agg #[.int .i64 0, .slice none 0 0], .int .i64 q]) (by simp [results, Try.results21, go_sem, c0, c1]) rfl ⟨?_, ?_, ?_⟩
        · intro h; rw [HDK2.out] at h; exact absurd h HNE.out
        · intro _; rw [HDK2.out]
        · exact (HB3.out.setCell (p := ⟨w.heap.size, 0, none⟩) (Nat.le_refl _) _).setCell (p := ⟨w.heap.size, 1, none⟩) (Nat.le_refl _) _
    · have HZ : Hid (errF n X = 0) := by
        show _ = _
        rw [HD.out, List.drop_of_length_le (by omega)]; rfl
      have HCL := Lib.hid (cloneRows_any A C X wr (HX1.out.up he) (by omega))
      go_wp2_with fail
      refine HCL.out.mono ?_
      rintro e w3 ⟨v3, rfl, hown3, -, hb3⟩
      have HO3 := Lib.hid hown3
      have HB3 := Lib.hid (Below.then (Below.then HB.out he.below (by omega)) hb3 (by have := he.size; omega))
      have r3 := (HR.out.below he.below (by omega)).below hb3 (by have := he.size; omega)
      have hbase := hown3.base
      have HR3 := Lib.hid r3
      have hwz : w.heap.size < wr.heap.size := by have := he.size; omega
      clear hown3 hb3 HCL r3
      by_cases hnil : X = []
      · subst hnil
        obtain ⟨A3, C3, rfl, hc3, hm3, -⟩ := HO3.out.sl
        simp only [List.length_nil] at *
        go_wp2_with fail
        refine (rlBuild_nil n A3 C3 _).mono ?_
        rintro e w4 ⟨rfl, hx4⟩
        have r4 := HR3.out.below hx4.below HR3.out.lt
        have c0 : w4.cell? ⟨w.heap.size, 0, none⟩ = some (.int .i64 0) := r4.cell 0
        have c1 : w4.cell? ⟨w.heap.size, 1, none⟩ = some (.slice none 0 0) := r4.cell 1
        have f0 := r4.frozen 0
        have f1 := r4.frozen 1
        have hz4 := r4.lt
        have HB4 := Lib.hid (Below.then HB3.out hx4.below HB3.out.size)
        have z0 : (w4.setCell ⟨w.heap.size, 0, none⟩ (.int .i64 n)).cell? ⟨w.heap.size, 0, none⟩ = some (.int .i64 n) := World.cell?_setCell_same _ _ _ c0
        have z1 : ((w4.setCell ⟨w.heap.size, 0, none⟩ (.int .i64 n)).setCell ⟨w.heap.size, 1, none⟩ (.slice A3 0 C3)).cell? ⟨w.heap.size, 1, none⟩ = some (.slice A3 0 C3) := World.cell?_setCell_same _ _ _ ((World.cell?_setCell_other _ _ _ _ (by simp)).trans c1)
        have Z0 := Lib.hid z0
        have Z1 := Lib.hid z1
        clear r4 hx4 z0 z1
        go_wp2
        refine bodyPost_ret (v := .tuple #[.agg #[.int .i64 n, .slice A3 0 C3], .int .i64 0]) (by simp [results, Try.results21, go_sem, Z0.out, Z1.out]) rfl ⟨?_, ?_, ?_⟩
        · intro _
          exact ⟨_, rfl, A3, C3, rfl, by simp [RL.ofF], hm3, FreshRs.nil⟩
        · intro h; exact absurd HZ.out h
        · exact (HB4.out.setCell (p := ⟨w.heap.size, 0, none⟩) (Nat.le_refl _) _).setCell (p := ⟨w.heap.size, 1, none⟩) (Nat.le_refl _) _
      · obtain ⟨g, cap, d, rfl, hcap, hcm, hgB, hds, hrows, hHB⟩ := HO3.out.hb HOK.out hnil
        have hpos : 1 ≤ X.length := by cases X with | nil => exact absurd rfl hnil | cons _ _ => simp
        have HBU := Lib.hid (rlBuild_any n cap hHB (by omega) (by omega) (by omega) hcm X hrows)
        rw [hds] at HBU
        have HG := Lib.hid hHB.lt
        clear hHB hrows hds hnil
        go_wp2_with fail
        refine HBU.out.mono ?_
        rintro e w4 ⟨rfl, hs4, hg4⟩
        have hne : w.heap.size ≠ g := by omega
        have r4 := HR3.out.grown hg4 (fun e => hne (by injection e))
        have c0 : w4.cell? ⟨w.heap.size, 0, none⟩ = some (.int .i64 0) := r4.cell 0
        have c1 : w4.cell? ⟨w.heap.size, 1, none⟩ = some (.slice none 0 0) := r4.cell 1
        have f0 := r4.frozen 0
        have f1 := r4.frozen 1
        have hz4 := r4.lt
        have HB4 := Lib.hid (HB3.out.grown hg4 (by have := HR3.out.lt; omega) (fun k hk => by injection hk with hk; omega))
        have z0 : (w4.setCell ⟨w.heap.size, 0, none⟩ (.int .i64 n)).cell? ⟨w.heap.size, 0, none⟩ = some (.int .i64 n) := World.cell?_setCell_same _ _ _ c0
        have z1 : ((w4.setCell ⟨w.heap.size, 0, none⟩ (.int .i64 n)).setCell ⟨w.heap.size, 1, none⟩ (.slice (some ⟨g, 0, none⟩) (RL.ofF X).length cap)).cell? ⟨w.heap.size, 1, none⟩ = some (.slice (some ⟨g, 0, none⟩) (RL.ofF X).length cap) := World.cell?_setCell_same _ _ _ ((World.cell?_setCell_other _ _ _ _ (by simp)).trans c1)
        have Z0 := Lib.hid z0
        have Z1 := Lib.hid z1
        have h3z := HR3.out.lt
        have HSL : Hid (FreshRs w.heap.size ((w4.setCell ⟨w.heap.size, 0, none⟩ (.int .i64 n)).setCell ⟨w.heap.size, 1, none⟩ (.slice (some ⟨g, 0, none⟩) (RL.ofF X).length cap)) (some ⟨g, 0, none⟩) (RL.ofF X)) := fun w'' hk => by
          have h := hs4 w'' (fun p hpl hp => by
            have hpn : p.block ≠ w.heap.size := by rcases hp with hp | hp <;> omega
            rw [hk p (by rcases hp with hp | hp <;> omega) (by simpa using hpl)]
            exact (far_cell (p := ⟨w.heap.size, 1, none⟩) (fun e => hpn e.symm) (far_cell (p := ⟨w.heap.size, 0, none⟩) (fun e => hpn e.symm) rfl)))
          simpa using h
        clear r4 hs4 hg4 z0 z1
        have hofl := RL.ofF_length_le X
        go_wp2
        refine bodyPost_ret (v := .tuple #[.agg #[.int .i64 n, .slice (some ⟨g, 0, none⟩) (RL.ofF X).length cap], .int .i64 0]) (by simp [results, Try.results21, go_sem, Z0.out, Z1.out]) rfl ⟨?_, ?_, ?_⟩
        · intro _
          exact ⟨_, rfl, _, cap, rfl, by omega, hcm, HSL.out⟩
        · intro h; exact absurd HZ.out h
        · exact (HB4.out.setCell (p := ⟨w.heap.size, 0, none⟩) (Nat.le_refl _) _).setCell (p := ⟨w.heap.size, 1, none⟩) (Nat.le_refl _) _

end Go.Proofs.Ytiopkooigeaneaa

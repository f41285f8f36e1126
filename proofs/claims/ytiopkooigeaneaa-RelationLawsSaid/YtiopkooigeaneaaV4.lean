/- Walks: row.HasPrefix, row.Search, relation.Search, relation.Range. -/
import Derived.Test.YtiopkooigeaneaaE1
import Derived.Test.YtiopkooigeaneaaRSort
import Derived.Deep.RegionHeld3
namespace Go.Proofs.Ytiopkooigeaneaa
open Go.RowKit Go.Sort

set_option maxHeartbeats 400000 in
theorem rwHasPrefix_any (XA YA : Option Addr) (XC YC : Nat) (x y : RL.R) (w : World) (hx : SlR w.heap.size w XA x) (hy : SlR w.heap.size w YA y) (hxl : x.length ≤ 1000000) (hyl : y.length ≤ 1000000) (hxc : x.length ≤ XC) (hxm : XC ≤ 9223372036854775807) :
    Calls Try.prog 56 #[.slice XA x.length XC, .slice YA y.length YC] w fun e w' => e = .returned (.bool (RL.beginsB x y)) ∧ Ext w w' := by
  by_cases h : y.length ≤ x.length
  · have HC : Hid (∀ XC', Calls Try.prog 73 #[.slice XA y.length XC', .slice YA y.length YC] w fun e w' => e = .returned (.bool (decide (x.take y.length = y))) ∧ Ext w w') := fun XC' => by
      have h1 := rwEqual_any XA YA XC' YC (x.take y.length) y w (hx.take _) hy (by simp; omega) hyl
      rw [List.length_take, Nat.min_eq_left h] at h1
      exact h1
    have HB : Hid (RL.beginsB x y = decide (x.take y.length = y)) := by
      show _ = _
      simp [RL.beginsB, h]
    clear hx hy
    have hle : y.length ≤ XC := by omega
    generalize decide (x.take y.length = y) = c at *
    go_enter Try.func56, Try.ntmps56
    go_wp2_with (go_at_call 73; refine (HC.out _).mono ?_; rintro e w' ⟨rfl, hx⟩)
    go_ret
    exact ⟨ret_bool HB.out.symm, hx⟩
  · have HB : Hid (RL.beginsB x y = false) := by
      show _ = _
      simp [RL.beginsB, h]
    have hd : decide (y.length ≤ x.length) = false := by simpa using h
    clear hx hy h
    go_enter Try.func56, Try.ntmps56
    go_wp2
    go_ret
    exact ⟨ret_bool HB.out.symm, Ext.refl _⟩

set_option maxHeartbeats 400000 in
set_option maxRecDepth 100000 in
theorem rwSearch1_any (p1 p2 p3 : Nat) (RA A : Option Addr) (RC C : Nat) (X : List RL.R) (r : RL.R) (i : Nat) (W : World)
    (h1 : W.cell? ⟨p1, 0, none⟩ = some (.slice RA X.length RC)) (h2 : W.cell? ⟨p2, 0, none⟩ = some (.slice A r.length C)) (h3 : W.cell? ⟨p3, 0, none⟩ = some (.slice none 0 0))
    (hX : SlRs W.heap.size W RA X) (hr : SlR W.heap.size W A r) (hi : i < X.length) (hXl : X.length ≤ 1000000) (hok : RsOk X) (hrl : r.length ≤ 1000000) :
    Calls Try.prog 76 #[.int .i64 i, .pointer (some ⟨p1, 0, none⟩), .pointer (some ⟨p2, 0, none⟩), .pointer (some ⟨p3, 0, none⟩)] W fun e w' => e = .returned (.bool (decide (0 ≤ RL.cmpR X[i] r))) ∧ Ext W w' := by
  obtain ⟨b, o, A', C', rfl, hb, hc, -, -, hs⟩ := slRs_at hX hi
  have HC := Lib.hid (fun W' (he : Ext W W') => rwCompareBy_any A' A C' C X[i] r W' ((hs.ext (Nat.le_refl _) he).more he.size) ((hr.ext (Nat.le_refl _) he).more he.size) (hok.at_ hi).1 hrl)
  clear hX hr hs hok
  generalize X[i] = x at *
  generalize RL.cmpR x r = c at *
  go_enter Try.func76, Try.ntmps76
  go_wp2
  go_still_tail 6, (by kernel_rfl)
  go_wp2_with (go_at_call 77; refine (HC.out _ (Ext.refl _).drew).mono ?_; rintro e w' ⟨rfl, hx⟩)
  go_ret
  exact ⟨rfl, (Ext.refl _).drew.trans hx⟩

theorem cell_of_row {w : World} {g : Nat} {e : TypeId} {v : Value} (h : Row w g e [v]) : w.cell? ⟨g, 0, none⟩ = some v := h.cell 0

/-- What a search finds. -/
theorem search_val {X : List RL.R} (h : RL.SS X) (r : RL.R) (hi : RL.rank X r < X.length) : decide (X[RL.rank X r] = r) = decide (r ∈ X) := by
  rw [Bool.eq_iff_iff]
  simp only [decide_eq_true_eq]
  rw [RL.mem_iff_rank h r]
  exact ⟨fun e => ⟨hi, e⟩, fun ⟨_, e⟩ => e⟩

set_option maxHeartbeats 1000000 in
set_option maxRecDepth 100000 in
theorem rwSearch_any (RA A : Option Addr) (RC C : Nat) (X : List RL.R) (r : RL.R) (w : World)
    (hX : SlRs w.heap.size w RA X) (hr : SlR w.heap.size w A r) (hXl : X.length ≤ 1000000) (hok : RsOk X) (hrl : r.length ≤ 1000000) (hS : RL.SS X) :
    Calls Try.prog 53 #[.slice RA X.length RC, .slice A r.length C, .slice none 0 0] w fun e w' => e = .returned (.tuple #[.int .i64 (RL.rank X r), .bool (decide (r ∈ X))]) ∧ Ext w w' := by
  have E0 : ∀ o1 o2 o3 : Obj, Ext w (((w.alloc o1).alloc o2).alloc o3) := fun o1 o2 o3 => (((Ext.refl w).alloc o1).alloc o2).alloc o3
  -- the call of sort.Search, in the world behind the three boxes
  have HS : Hid (Calls Try.prog 54 #[.int .i64 X.length, .func (.func 76) #[] #[.pointer (some ⟨w.heap.size, 0, none⟩), .pointer (some ⟨w.heap.size + 1, 0, none⟩), .pointer (some ⟨w.heap.size + 1 + 1, 0, none⟩)]]
      (((w.alloc (.cells #[.slice RA X.length RC] 22)).alloc (.cells #[.slice A r.length C] 24)).alloc (.cells #[.slice none 0 0] 111)) fun e w' => e = .returned (.int .i64 (RL.rank X r)) ∧ Ext (((w.alloc (.cells #[.slice RA X.length RC] 22)).alloc (.cells #[.slice A r.length C] 24)).alloc (.cells #[.slice none 0 0] 111)) w') := by
    have q1 := ((Row.new w 22 [.slice RA X.length RC]).alloc (.cells #[.slice A r.length C] 24)).alloc (.cells #[.slice none 0 0] 111)
    have q2 := (Row.new (w.alloc (.cells #[.slice RA X.length RC] 22)) 24 [.slice A r.length C]).alloc (.cells #[.slice none 0 0] 111)
    have q3 := Row.new ((w.alloc (.cells #[.slice RA X.length RC] 22)).alloc (.cells #[.slice A r.length C] 24)) 111 [.slice none 0 0]
    simp only [World.size_alloc] at q2 q3
    have hE := E0 (.cells #[.slice RA X.length RC] 22) (.cells #[.slice A r.length C] 24) (.cells #[.slice none 0 0] 111)
    have hz : (((w.alloc (.cells #[.slice RA X.length RC] 22)).alloc (.cells #[.slice A r.length C] 24)).alloc (.cells #[.slice none 0 0] 111)).heap.size = w.heap.size + 1 + 1 + 1 := by simp
    generalize (((w.alloc (.cells #[.slice RA X.length RC] 22)).alloc (.cells #[.slice A r.length C] 24)).alloc (.cells #[.slice none 0 0] 111)) = W at *
    have h := Any.sort_Search lSearch 76 #[.pointer (some ⟨w.heap.size, 0, none⟩), .pointer (some ⟨w.heap.size + 1, 0, none⟩), .pointer (some ⟨w.heap.size + 1 + 1, 0, none⟩)] X.length (fun i => if hi : i < X.length then decide (0 ≤ RL.cmpR X[i] r) else true) W (enters_of Try.func76 (by kernel_rfl) rfl) (by omega) ?_ ?_
    · refine Calls.mono h fun e w' ⟨h1, h2⟩ => ⟨?_, h2⟩
      rw [h1, RL.rank_eq_count X r _ (fun i hi => by simp [hi])]
    · intro m os i hi
      have hE2 : Ext W (grow (W.drewN m) os) := ⟨m, os, rfl⟩
      have hE3 := hE.trans hE2
      have hg := rwSearch1_any w.heap.size (w.heap.size + 1) (w.heap.size + 1 + 1) RA A RC C X r i (grow (W.drewN m) os)
        ((hE2.cell (by omega)).trans (cell_of_row q1)) ((hE2.cell (by omega)).trans (cell_of_row q2)) ((hE2.cell (by omega)).trans (cell_of_row q3))
        ((hX.ext (Nat.le_refl _) hE3).more hE3.size) ((hr.ext (Nat.le_refl _) hE3).more hE3.size) hi hXl hok hrl
      refine Calls.mono hg fun e w' ⟨h1, h2⟩ => ⟨?_, h2⟩
      rw [h1]
      simp [hi]
    · intro a b hab hb ha
      have ha' : a < X.length := by omega
      simp only [ha', hb, dif_pos, decide_eq_true_eq] at ha ⊢
      exact RL.search_mono hS r hab hb ha
  have hrk := RL.rank_le X r
  have HX := Lib.hid (fun o1 o2 o3 => ((hX.ext (Nat.le_refl _) (E0 o1 o2 o3)).more (E0 o1 o2 o3).size))
  by_cases hlt : RL.rank X r < X.length
  · have HV := Lib.hid (search_val hS r hlt)
    obtain ⟨b, o, A', C', rfl, hb, hc, -, -, hs⟩ := slRs_at hX hlt
    have HC := Lib.hid (fun W' (he : Ext w W') => rwEqual_any A' A C' C X[RL.rank X r] r W' ((hs.ext (Nat.le_refl _) he).more he.size) ((hr.ext (Nat.le_refl _) he).more he.size) (hok.at_ hlt).1 hrl)
    have HE := Lib.hid E0
    clear hX hr hs hok hS E0
    generalize X[RL.rank X r] = x at *
    generalize RL.rank X r = k at *
    go_enter Try.func53, Try.ntmps53
    go_wp2_with fail
    refine HS.out.mono ?_
    rintro e w1 ⟨rfl, hx1⟩
    obtain ⟨hcc, hff⟩ := hx1.rules
    have HE1 := Lib.hid ((HE.out _ _ _).trans hx1)
    have e1 : w1.cell? ⟨w.heap.size, 0, none⟩ = some (.slice (some ⟨b, o, none⟩) X.length RC) := (hcc _ _ (by simp; omega)).trans (by go_simp)
    have e2 : w1.cell? ⟨w.heap.size + 1, 0, none⟩ = some (.slice A r.length C) := (hcc _ _ (by simp)).trans (by go_simp)
    have e3 : w1.cell? ⟨b, o + k, none⟩ = some (.slice A' x.length C') := (HE1.out.cell hb).trans hc
    have hz1 : w.heap.size + 1 < w1.heap.size := by have := hx1.size; simp at this; omega
    clear hcc hff
    go_wp2
    go_region_held3 (fun w' => w'.cell? ⟨w.heap.size, 0, none⟩ = some (.slice (some ⟨b, o, none⟩) X.length RC) ∧ w'.cell? ⟨w.heap.size + 1, 0, none⟩ = some (.slice A r.length C) ∧ w'.cell? ⟨b, o + k, none⟩ = some (.slice A' x.length C')) (first | exact KEEP | go_keep)
      (first | (go_at_call 73; refine (HC.out _ HE1.out.drew).mono ?_; rintro e w' ⟨rfl, hx⟩
                have KEEP : w'.cell? ⟨w.heap.size, 0, none⟩ = some (.slice (some ⟨b, o, none⟩) X.length RC) ∧ w'.cell? ⟨w.heap.size + 1, 0, none⟩ = some (.slice A r.length C) ∧ w'.cell? ⟨b, o + k, none⟩ = some (.slice A' x.length C') := ⟨(hx.cell (show w.heap.size < w1.heap.size by omega)).trans e1, (hx.cell hz1).trans e2, (hx.cell (show b < w1.heap.size by omega)).trans e3⟩)
             | fail)
    go_wp2
    go_ret2
    exact ⟨by rw [HV.out]; rfl, HE1.out.drew.trans hx⟩
  · have HV : Hid (decide (r ∈ X) = false) := by
      show _ = _
      simp only [decide_eq_false_iff_not]
      rw [RL.mem_iff_rank hS r]
      exact fun ⟨h, _⟩ => hlt h
    have HE := Lib.hid E0
    have hd : decide (RL.rank X r < X.length) = false := by simpa using hlt
    clear hX hr hok hS E0
    generalize RL.rank X r = k at *
    go_enter Try.func53, Try.ntmps53
    go_wp2_with fail
    refine HS.out.mono ?_
    rintro e w1 ⟨rfl, hx1⟩
    obtain ⟨hcc, hff⟩ := hx1.rules
    have HE1 := Lib.hid ((HE.out _ _ _).trans hx1)
    go_wp2
    go_quiet (fail)
    go_wp2
    go_ret2
    exact ⟨by rw [HV.out]; rfl, HE1.out.drewN _⟩

set_option maxHeartbeats 400000 in
theorem rlSearch_any (N : Int) (RA A : Option Addr) (RC C : Nat) (X : List RL.R) (r : RL.R) (w : World)
    (hX : SlRs w.heap.size w RA X) (hr : SlR w.heap.size w A r) (hXl : X.length ≤ 1000000) (hok : RsOk X) (hrl : r.length ≤ 1000000) (hS : RL.SS X) :
    Calls Try.prog 16 #[.agg #[.int .i64 N, .slice RA X.length RC], .slice A r.length C] w fun e w' => e = .returned (.tuple #[.int .i64 (RL.rank X r), .bool (decide (r ∈ X))]) ∧ Ext w w' := by
  have HC := Lib.hid (fun o1 => rwSearch_any RA A RC C X r (w.alloc o1) ((hX.ext (Nat.le_refl _) ((Ext.refl w).alloc o1)).more (by simp)) ((hr.ext (Nat.le_refl _) ((Ext.refl w).alloc o1)).more (by simp)) hXl hok hrl hS)
  clear hX hr hok hS
  generalize RL.rank X r = k at *
  generalize decide (r ∈ X) = d at *
  go_enter Try.func16, Try.ntmps16
  go_wp2_with (go_at_call 53; refine (HC.out _).mono ?_; rintro e w' ⟨rfl, hx⟩)
  go_ret2
  exact ⟨rfl, ((Ext.refl w).alloc _).trans hx⟩

set_option maxHeartbeats 400000 in
set_option maxRecDepth 100000 in
theorem rlRange1_any (p1 p2 : Nat) (RA A : Option Addr) (RC C : Nat) (X : List RL.R) (r : RL.R) (i : Nat) (W : World)
    (h1 : W.cell? ⟨p1, 0, none⟩ = some (.slice RA X.length RC)) (h2 : W.cell? ⟨p2, 0, none⟩ = some (.slice A r.length C))
    (hX : SlRs W.heap.size W RA X) (hr : SlR W.heap.size W A r) (hi : i < X.length) (hXl : X.length ≤ 1000000) (hok : RsOk X) (hrl : r.length ≤ 1000000) :
    Calls Try.prog 55 #[.int .i64 i, .pointer (some ⟨p1, 0, none⟩), .pointer (some ⟨p2, 0, none⟩)] W fun e w' => e = .returned (.bool (!RL.beginsB X[i] r)) ∧ Ext W w' := by
  obtain ⟨b, o, A', C', rfl, hb, hc, hcap, hcm, hs⟩ := slRs_at hX hi
  have HC := Lib.hid (fun W' (he : Ext W W') => rwHasPrefix_any A' A C' C X[i] r W' ((hs.ext (Nat.le_refl _) he).more he.size) ((hr.ext (Nat.le_refl _) he).more he.size) (hok.at_ hi).1 hrl hcap hcm)
  clear hX hr hs hok hcap hcm
  generalize X[i] = x at *
  generalize RL.beginsB x r = c at *
  go_enter Try.func55, Try.ntmps55
  go_wp2
  go_still_tail 5, (by kernel_rfl)
  go_wp2_with (go_at_call 56; refine (HC.out _ (Ext.refl _).drew).mono ?_; rintro e w' ⟨rfl, hx⟩)
  go_ret
  exact ⟨rfl, (Ext.refl _).drew.trans hx⟩

/-- sort.Search over the rest of the rows, in a world in which two boxes hold the rest and the prefix. -/
theorem rangeSearch_any (p1 p2 : Nat) (RA A : Option Addr) (RC C : Nat) (X : List RL.R) (r : RL.R) (W : World)
    (h1 : W.cell? ⟨p1, 0, none⟩ = some (.slice RA (X.drop (RL.rank X r)).length RC)) (h2 : W.cell? ⟨p2, 0, none⟩ = some (.slice A r.length C)) (g1 : p1 < W.heap.size) (g2 : p2 < W.heap.size)
    (hX : SlRs W.heap.size W RA (X.drop (RL.rank X r))) (hr : SlR W.heap.size W A r) (hXl : X.length ≤ 1000000) (hok : RsOk X) (hrl : r.length ≤ 1000000) (hS : RL.SS X) :
    Calls Try.prog 54 #[.int .i64 (X.drop (RL.rank X r)).length, .func (.func 55) #[] #[.pointer (some ⟨p1, 0, none⟩), .pointer (some ⟨p2, 0, none⟩)]] W fun e w' => e = .returned (.int .i64 (RL.manyB X r)) ∧ Ext W w' := by
  have h := Any.sort_Search lSearch 55 #[.pointer (some ⟨p1, 0, none⟩), .pointer (some ⟨p2, 0, none⟩)] (X.drop (RL.rank X r)).length (fun i => if hi : i < (X.drop (RL.rank X r)).length then !RL.beginsB (X.drop (RL.rank X r))[i] r else true) W (enters_of Try.func55 (by kernel_rfl) rfl) (by simp; omega) ?_ ?_
  · refine Calls.mono h fun e w' ⟨h1, h2⟩ => ⟨?_, h2⟩
    rw [h1, RL.many_eq_count _ r _ (fun i hi => by simp only [hi, dif_pos])]
    rfl
  · intro m os i hi
    have hE2 : Ext W (grow (W.drewN m) os) := ⟨m, os, rfl⟩
    have hg := rlRange1_any p1 p2 RA A RC C (X.drop (RL.rank X r)) r i (grow (W.drewN m) os) ((hE2.cell g1).trans h1) ((hE2.cell g2).trans h2)
      ((hX.ext (Nat.le_refl _) hE2).more hE2.size) ((hr.ext (Nat.le_refl _) hE2).more hE2.size) hi (by simp; omega) (fun x hx => hok x (List.mem_of_mem_drop hx)) hrl
    refine Calls.mono hg fun e w' ⟨h1, h2⟩ => ⟨?_, h2⟩
    rw [h1]
    simp only [hi, dif_pos]
  · intro a b hab hb ha
    have ha' : a < (X.drop (RL.rank X r)).length := by omega
    simp only [ha', hb, dif_pos, Bool.not_eq_true'] at ha ⊢
    simp only [List.getElem_drop] at ha ⊢
    exact RL.begins_mono hS r (Nat.le_add_right _ _) (by omega) (by simp at hb; omega) ha

set_option maxHeartbeats 1000000 in
set_option maxRecDepth 100000 in
theorem rlRange_any (N : Int) (RA A : Option Addr) (RC C : Nat) (X : List RL.R) (r : RL.R) (w : World)
    (hX : SlRs w.heap.size w RA X) (hr : SlR w.heap.size w A r) (hXl : X.length ≤ 1000000) (hok : RsOk X) (hrl : r.length ≤ 1000000) (hS : RL.SS X) (hcap : X.length ≤ RC) (hcm : RC ≤ 9223372036854775807) :
    Calls Try.prog 17 #[.agg #[.int .i64 N, .slice RA X.length RC], .slice A r.length C] w fun e w' => e = .returned (.tuple #[.int .i64 (RL.rank X r), .int .i64 (RL.rank X r + RL.manyB X r : Nat)]) ∧ Ext w w' := by
  have hrk := RL.rank_le X r
  have hmany := RL.manyB_le X r
  have HX := Lib.hid hX
  have HR := Lib.hid hr
  have HOK := Lib.hid hok
  have HSS := Lib.hid hS
  have HE : Hid (∀ o1 o2, Ext w ((w.alloc o1).alloc o2)) := fun o1 o2 => ((Ext.refl w).alloc o1).alloc o2
  have HC := Lib.hid (fun W' (he : Ext w W') => rlSearch_any N RA A RC C X r W' ((hX.ext (Nat.le_refl _) he).more he.size) ((hr.ext (Nat.le_refl _) he).more he.size) hXl hok hrl hS)
  clear hX hr hok hS
  by_cases hlt : RL.rank X r < X.length
  · obtain ⟨b, o, -, -, rfl, hb, -, -, -, -⟩ := slRs_at HX.out hlt
    have HD := Lib.hid (HX.out.drop (RL.rank X r))
    have HN : Hid (X.length - RL.rank X r = (X.drop (RL.rank X r)).length) := by show _ = _; simp
    have HG := Lib.hid (fun p1 p2 RC' W h1 h2 g1 g2 hX hr => rangeSearch_any p1 p2 (some ⟨b, o + RL.rank X r, none⟩) A RC' C X r W h1 h2 g1 g2 hX hr hXl HOK.out hrl HSS.out)
    rw [← HN.out] at HG
    go_enter Try.func17, Try.ntmps17
    go_wp2_with fail
    refine (HC.out _ (HE.out _ _)).mono ?_
    rintro e w1 ⟨rfl, hx1⟩
    obtain ⟨hcc, hff⟩ := hx1.rules
    have HE1 := Lib.hid ((HE.out _ _).trans hx1)
    go_wp2_with fail
    have hz1 : w.heap.size + 1 < w1.heap.size := by have := hx1.size; simp at this; omega
    have e2 : w1.cell? ⟨w.heap.size + 1, 0, none⟩ = some (.slice A r.length C) := (hcc _ _ (by simp)).trans (by go_simp)
    clear hcc hff
    have HD1 := Lib.hid (fun o => ((HD.out.ext (Nat.le_refl _) (HE1.out.alloc o)).more (HE1.out.alloc o).size))
    have HR1 := Lib.hid (fun o => ((HR.out.ext (Nat.le_refl _) (HE1.out.alloc o)).more (HE1.out.alloc o).size))
    refine (HG.out w1.heap.size (w.heap.size + 1) (RC - RL.rank X r) _ ?_ ?_ ?_ ?_ ?_ ?_).mono ?_
    · exact cell_of_row (Row.new w1 22 [_])
    · exact old_cell _ _ hz1 e2
    · simp
    · simp; omega
    · exact HD1.out _
    · exact HR1.out _
    rintro e w3 ⟨rfl, hx3⟩
    have HE3 := Lib.hid ((HE1.out.alloc _).trans hx3)
    clear hx3 HD1 HR1 HG HC e2
    go_wp2
    go_ret2
    exact ⟨by simp, HE3.out⟩
  · have hm0 : RL.manyB X r = 0 := by omega
    have hk0 : RL.rank X r = X.length := by omega
    have HG : Hid (∀ p1 p2 W, Calls Try.prog 54 #[.int .i64 0, .func (.func 55) #[] #[.pointer (some ⟨p1, 0, none⟩), .pointer (some ⟨p2, 0, none⟩)]] W fun e w' => e = .returned (.int .i64 0) ∧ Ext W w') := fun p1 p2 W => by
      have h := Any.sort_Search lSearch 55 #[.pointer (some ⟨p1, 0, none⟩), .pointer (some ⟨p2, 0, none⟩)] 0 (fun _ => true) W (enters_of Try.func55 (by kernel_rfl) rfl) (by omega) (fun m os i hi => absurd hi (by omega)) (fun a b _ hb => absurd hb (by omega))
      exact Calls.mono h fun e w' ⟨h1, h2⟩ => ⟨h1, h2⟩
    rw [hm0, hk0]
    rw [hk0] at HC
    clear hm0 hk0 hrk hmany hlt
    by_cases hcl : RC = X.length
    · subst hcl
      go_enter Try.func17, Try.ntmps17
      go_wp2_with fail
      refine (HC.out _ (HE.out _ _)).mono ?_
      rintro e w1 ⟨rfl, hx1⟩
      obtain ⟨hcc, hff⟩ := hx1.rules
      have HE1 := Lib.hid ((HE.out _ _).trans hx1)
      go_wp2_with fail
      refine (HG.out _ _ _).mono ?_
      rintro e w3 ⟨rfl, hx3⟩
      have HE3 := Lib.hid ((HE1.out.alloc _).trans hx3)
      clear hx3 HG HC hcc hff
      go_wp2
      go_ret2
      exact ⟨rfl, HE3.out⟩
    · go_enter Try.func17, Try.ntmps17
      go_wp2_with fail
      refine (HC.out _ (HE.out _ _)).mono ?_
      rintro e w1 ⟨rfl, hx1⟩
      obtain ⟨hcc, hff⟩ := hx1.rules
      have HE1 := Lib.hid ((HE.out _ _).trans hx1)
      go_wp2_with fail
      refine (HG.out _ _ _).mono ?_
      rintro e w3 ⟨rfl, hx3⟩
      have HE3 := Lib.hid ((HE1.out.alloc _).trans hx3)
      clear hx3 HG HC hcc hff
      go_wp2
      go_ret2
      exact ⟨rfl, HE3.out⟩

end Go.Proofs.Ytiopkooigeaneaa

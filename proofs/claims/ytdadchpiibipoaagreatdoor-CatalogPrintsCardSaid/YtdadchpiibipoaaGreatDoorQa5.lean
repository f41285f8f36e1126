/- Parts of the proof, merged: Z11, Z12, Z13, Z16, ShelfN, Z40, C9, C2, Z24, Z18, Z26, Z27, Z41. -/
import Derived.Test.YtdadchpiibipoaaGreatDoorQa4
import Derived.Test.YtdadchpiibipoaaGreatDoorQa1
import Derived.Deep.DeepCutAuto
import Derived.Sort.MapsRangeIn
import Derived.Shelf.SlIter.Nil
import Derived.Shelf.SortM.Plain
import Derived.Shelf.SortM.SortNone
import Derived.Test.YtdadchpiibipoaaGreatDoorProg
import Derived.Sort.OwnSorted
import Derived.Shelf.AbstractIn
import Derived.Lib.CutLaws
import Derived.Lib.Split
import Derived.Shelf.SlIterI.Nil
import Derived.Sort.OwnSortedInts
import Derived.Test.YtdadchpiibipoaaGreatDoorQa2

set_option maxRecDepth 100000
namespace Go.Proofs.YtdadchpiibipoaaGreatDoor
section
open Go.RowKit Go.Sort Go.ChangeMaps Go.WideShapes

def updF (del : Bool) (X : List RL.R) (x : RL.R) : Int × List RL.R × Bool :=
  if del then (0, RL.delF X x, decide (x ∈ X)) else if 4096 ≤ X.length then (if x ∈ X then (0, X, false) else (11, X, false)) else (0, RL.insF X x, !decide (x ∈ X))
theorem SlRsP.stay {P : Nat → Prop} {w w' : World} {A : Option Addr} {X : List RL.R} (h : SlRsP P w.heap.size w A X) (hk : Stay P w w') : SlRsP P w'.heap.size w' A X := (h.keep fun p hp hP => World.cell?_of_block (hk.2 p.block hp hP)).more hk.1
def UpdPost (P : Nat → Prop) (n : Nat) (r : Int × List RL.R × Bool) (w : World) (e : Ending) (w' : World) : Prop :=
  (r.1 = 0 → ∃ A C, e = .returned (.tuple #[.agg #[.int .i64 n, .slice A r.2.1.length C], .bool r.2.2, .int .i64 0]) ∧ r.2.1.length ≤ C ∧ C ≤ 9223372036854775807 ∧ SlRsP P w'.heap.size w' A r.2.1) ∧
  (r.1 ≠ 0 → e = .returned (.tuple #[.agg #[.int .i64 0, .slice none 0 0], .bool false, .int .i64 r.1])) ∧ Below w.heap.size w w'
theorem UpdPost.ok {P : Nat → Prop} {n : Nat} {r : List RL.R} {ch : Bool} {w w' : World} {A : Option Addr} {C : Nat} (h1 : r.length ≤ C) (h2 : C ≤ 9223372036854775807) (hs : SlRsP P w'.heap.size w' A r) (hb : Below w.heap.size w w') : UpdPost P n (0, r, ch) w (.returned (.tuple #[.agg #[.int .i64 n, .slice A r.length C], .bool ch, .int .i64 0])) w' :=
  ⟨fun _ => ⟨A, C, rfl, h1, h2, hs⟩, fun h => absurd rfl h, hb⟩
theorem wrong_ok {n : Nat} {x : RL.R} (h : wrongF (n : Int) x = 0) : x.length = n ∧ x.all RL.validV = true := by
  unfold wrongF at h
  split at h
  · cases h
  · rename_i h1
    split at h
    · rename_i h2
      exact ⟨by omega, h2⟩
    · cases h
theorem valid_str {v : RL.V} (h : RL.validV v = true) : v.str.size ≤ 24 := by
  unfold RL.validV at h
  rcases Bool.or_eq_true_iff.1 h with h | h
  · have := of_decide_eq_true (Bool.and_eq_true_iff.1 h).2
    omega
  · exact of_decide_eq_true (Bool.and_eq_true_iff.1 h).2
theorem rOk_of {n : Nat} (hn : n ≤ 1000000) {x : RL.R} (h : wrongF (n : Int) x = 0) : ROk x := by
  obtain ⟨h1, h2⟩ := wrong_ok h
  exact ⟨by omega, fun v hv => by have := valid_str (List.all_eq_true.1 h2 v hv); omega⟩
theorem RowsOk.rs {n : Nat} {X : List RL.R} (h : RowsOk n X) (hn : n ≤ 1000000) : RsOk X := fun x hx => rOk_of hn (h.ok x hx)

set_option maxHeartbeats 4000000 in
theorem ctUpdate_any (P : Nat → Prop) (n : Nat) (del : Bool) (nm : ByteArray) (A RA : Option Addr) (C RC : Nat) (X : List RL.R) (x : RL.R) (w : World) (hX : SlRsP P w.heap.size w A X) (hPn : ∀ b, w.heap.size ≤ b → P b) (hx : SlR w.heap.size w RA x) (hro : RowsOk n X) (hn : n ≤ 1000) (hxo : wrongF (n : Int) x = 0) (hXc : X.length ≤ C) (hXm : C ≤ 9223372036854775807) :
    Calls Tryz.prog 50 #[.agg #[.int .i64 n, .slice A X.length C], .agg #[.bool del, .string nm, .slice RA x.length RC]] w (UpdPost P n (updF del X x) w) := by
  obtain ⟨W0, hW0⟩ : ∃ W0, W0 = ((w.alloc (.cells #[.int .i64 (n : Nat), .slice A X.length C] 56)).alloc (.cells #[.bool del, .string nm, .slice RA x.length RC] 53)).alloc (.cells #[.int .i64 0, .slice none 0 0] 56) := ⟨_, rfl⟩
  have hx0 : Ext w W0 := by rw [hW0]; exact (((Ext.refl w).alloc _).alloc _).alloc _
  have hr1 : Row W0 w.heap.size 56 [.int .i64 (n : Nat), .slice A X.length C] := by rw [hW0]; exact ((Row.new w 56 _).alloc _).alloc _
  have hr2 : Row W0 (w.heap.size + 1) 53 [.bool del, .string nm, .slice RA x.length RC] := by
    have h := (Row.new (w.alloc (.cells #[.int .i64 (n : Nat), .slice A X.length C] 56)) 53 [.bool del, .string nm, .slice RA x.length RC]).alloc (.cells #[.int .i64 0, .slice none 0 0] 56)
    rw [World.size_alloc] at h
    rw [hW0]; exact h
  have hr3 : Row W0 (w.heap.size + 1 + 1) 56 [.int .i64 0, .slice none 0 0] := by
    have h := Row.new ((w.alloc (.cells #[.int .i64 (n : Nat), .slice A X.length C] 56)).alloc (.cells #[.bool del, .string nm, .slice RA x.length RC] 53)) 56 [.int .i64 0, .slice none 0 0]
    rw [World.size_alloc, World.size_alloc] at h
    rw [hW0]; exact h
  have hxo2 : ROk x := rOk_of (by omega) hxo
  have hrs : RsOk X := hro.rs (by omega)
  have hXP := (hX.weak (P' := fun b => P b ∧ b ≠ w.heap.size + 1 + 1) fun b hb hp => ⟨hp, by omega⟩).stay (Stay.of hx0.below)
  have hPn2 : ∀ b, W0.heap.size ≤ b → P b ∧ b ≠ w.heap.size + 1 + 1 := fun b hb => ⟨hPn b (Nat.le_trans hx0.size hb), by have := hr3.lt; omega⟩
  have hxx := (hx.ext (Nat.le_refl _) hx0).more hx0.size
  have hml : X.length ≤ 60000 := Nat.le_trans hro.many (by omega)
  have HDEL := Lib.hid (rlDelete_any (fun b => P b ∧ b ≠ w.heap.size + 1 + 1) n A RA C RC X x W0 hXP hPn2 hxx hrs hxo2 hml hro.ss hXc hXm)
  have HLEN := Lib.hid (rlLen_any (n : Nat) A X.length C W0)
  have HSEA := Lib.hid (fun W (h : Ext W0 W) => rlSearch_any (n : Nat) A RA C RC X x W (hXP.sl.up h) ((hxx.ext (Nat.le_refl _) h).more h.size) (by omega) hrs hxo2.1 hro.ss)
  have HINS := Lib.hid (fun W (h : Ext W0 W) => rlInsert_any (fun b => P b ∧ b ≠ w.heap.size + 1 + 1) n A RA C RC X x W (hXP.stay (Stay.of h.below)) (fun b hb => hPn2 b (Nat.le_trans h.size hb)) ((hxx.ext (Nat.le_refl _) h).more h.size) hrs hxo2 hml hro.ss hXc hXm)
  have HX := Lib.hid hX
  have HC2 := Lib.hid (And.intro hXc hXm)
  have HWR := Lib.hid hxo
  have HR1 := Lib.hid hr1
  have HR2 := Lib.hid hr2
  have HR3 := Lib.hid hr3
  have HX0 := Lib.hid hx0
  clear hX hPn hx hro hxo hrs hXP hPn2 hxx hml hxo2 hx0 hr1 hr2 hr3 hXc hXm
  obtain ⟨ch, hch⟩ : ∃ ch, ch = decide (x ∈ X) := ⟨_, rfl⟩
  cases del
  rotate_left
  · -- deletion
    have f0 : W0.cell? ⟨w.heap.size, 0, none⟩ = some (.int .i64 (n : Nat)) := HR1.out.cell 0
    have f1 : W0.cell? ⟨w.heap.size, 1, none⟩ = some (.slice A X.length C) := HR1.out.cell 1
    have f2 : W0.cell? ⟨w.heap.size + 1, 0, none⟩ = some (.bool true) := HR2.out.cell 0
    have f3 : W0.cell? ⟨w.heap.size + 1, 2, none⟩ = some (.slice RA x.length RC) := HR2.out.cell 2
    have z1 := HR1.out.lt
    have z2 := HR2.out.lt
    have z3 := HR3.out.lt
    have HU : Hid (updF true X x = (0, RL.delF X x, ch)) := by show _ = _; unfold updF; rw [if_pos rfl, hch]
    have HDEL2 := HDEL.out
    unfold DelPost at HDEL2
    rw [← hch] at HDEL2
    have HCALL := HDEL2
    clear HDEL HLEN HSEA HINS HDEL2 hch
    have HCALL := Lib.hid HCALL
    go_enter Tryz.func50, Tryz.ntmps50
    go_upto_region 1 with (fail)
    rw [← hW0]
    clear hW0
    go_wp2_with fail
    refine HCALL.out.mono ?_
    rintro e w1 ⟨-, hok, hb⟩
    obtain ⟨v, rfl, A', C', rfl, hc1, hc2, hsl⟩ := hok HWR.out
    have q3 := HR3.out.up hb
    have k0 : w1.cell? ⟨w.heap.size + 1 + 1, 0, none⟩ = some (.int .i64 0) := q3.cell 0
    have k1 : w1.cell? ⟨w.heap.size + 1 + 1, 1, none⟩ = some (.slice none 0 0) := q3.cell 1
    have k2 := q3.frozen 0
    have k3 := q3.frozen 1
    have k4 := q3.lt
    have HQ3 := Lib.hid q3
    have HB1 := Lib.hid (Below.then HX0.out.below hb HX0.out.size)
    have HSL := Lib.hid hsl
    clear q3 hb hsl hok
    generalize RL.delF X x = R at *
    go_wp2_with fail
    obtain ⟨W3, hW3⟩ : ∃ W3, W3 = (w1.setCell ⟨w.heap.size + 1 + 1, 0, none⟩ (.int .i64 (n : Nat))).setCell ⟨w.heap.size + 1 + 1, 1, none⟩ (.slice A' R.length C') := ⟨_, rfl⟩
    rw [← hW3]
    have q := HQ3.out.set2 (.int .i64 (n : Nat)) (.slice A' R.length C')
    rw [← hW3] at q
    have c0 := q.cell 0
    have c1 := q.cell 1
    have hb3 : Below w.heap.size w W3 := by
      rw [hW3]
      exact (HB1.out.setCell (by show w.heap.size ≤ w.heap.size + 1 + 1; omega) _).setCell (by show w.heap.size ≤ w.heap.size + 1 + 1; omega) _
    have hs3 : SlRsP P W3.heap.size W3 A' R := by
      have h : SlRsP (fun b => P b ∧ b ≠ w.heap.size + 1 + 1) W3.heap.size W3 A' R := by
        rw [hW3]
        exact (HSL.out.stay (Stay.set (fun e => e.2 rfl) 0 _)).stay (Stay.set (fun e => e.2 rfl) 1 _)
      exact h.weak fun b _ hp => hp.1
    exact bodyPost_ret (v := .tuple #[.agg #[.int .i64 (n : Nat), .slice A' R.length C'], .bool ch, .int .i64 0]) (by simp [results, Tryz.results50, go_sem, c0, c1]) rfl (by rw [HU.out]; exact UpdPost.ok hc1 hc2 hs3 hb3)
  have f0 : W0.cell? ⟨w.heap.size, 0, none⟩ = some (.int .i64 (n : Nat)) := HR1.out.cell 0
  have f1 : W0.cell? ⟨w.heap.size, 1, none⟩ = some (.slice A X.length C) := HR1.out.cell 1
  have f2 : W0.cell? ⟨w.heap.size + 1, 0, none⟩ = some (.bool false) := HR2.out.cell 0
  have z1 := HR1.out.lt
  have z2 := HR2.out.lt
  have z3 := HR3.out.lt
  go_enter Tryz.func50, Tryz.ntmps50
  go_upto_region 1 with (fail)
  rw [← hW0]
  clear hW0
  go_wp2_with fail
  refine HLEN.out.mono ?_
  rintro e w2 ⟨rfl, hx2⟩
  have HX2 := Lib.hid hx2
  have r1 := HR1.out.up hx2.below
  have r2 := HR2.out.up hx2.below
  have r3 := HR3.out.up hx2.below
  have f4 : w2.cell? ⟨w.heap.size, 0, none⟩ = some (.int .i64 (n : Nat)) := r1.cell 0
  have f5 : w2.cell? ⟨w.heap.size, 1, none⟩ = some (.slice A X.length C) := r1.cell 1
  have f6 : w2.cell? ⟨w.heap.size + 1, 2, none⟩ = some (.slice RA x.length RC) := r2.cell 2
  have z4 := r1.lt
  have z5 := r2.lt
  have z6 := r3.lt
  have HR1 := Lib.hid r1
  have HR3 := Lib.hid r3
  have HB2 := Lib.hid (Below.then HX0.out.below hx2.below HX0.out.size)
  clear hx2 r1 r2 r3 f0 f1 f2 z1 z2 z3 HLEN
  by_cases h4 : 4096 ≤ X.length
  · have hg : decide ((4096 : Int) ≤ (X.length : Int)) = true := decide_eq_true (by omega)
    have HSE := Lib.hid (HSEA.out w2 HX2.out)
    clear HSEA HDEL HINS
    rw [← hch] at HSE
    generalize RL.rank X x = rk at HSE
    go_wp2_with fail
    refine HSE.out.mono ?_
    rintro e w3 ⟨rfl, hx3⟩
    have r1 := HR1.out.up hx3.below
    have r3 := HR3.out.up hx3.below
    have k5 : w3.cell? ⟨w.heap.size, 0, none⟩ = some (.int .i64 (n : Nat)) := r1.cell 0
    have k6 : w3.cell? ⟨w.heap.size, 1, none⟩ = some (.slice A X.length C) := r1.cell 1
    have k0 : w3.cell? ⟨w.heap.size + 1 + 1, 0, none⟩ = some (.int .i64 0) := r3.cell 0
    have k1 : w3.cell? ⟨w.heap.size + 1 + 1, 1, none⟩ = some (.slice none 0 0) := r3.cell 1
    have k2 := r3.frozen 0
    have k3 := r3.frozen 1
    have k4 := r3.lt
    have k7 := r1.lt
    have HQ3 := Lib.hid r3
    have HB1 := Lib.hid (Below.then HB2.out hx3.below HB2.out.size)
    clear hx3 r1 r3 HSE
    cases ch
    · have HU : Hid (updF false X x = (11, X, false)) := by show _ = _; unfold updF; rw [if_neg (by decide), if_pos h4, if_neg (of_decide_eq_false hch.symm)]
      clear hch
      go_wp2_with fail
      obtain ⟨W3, hW3⟩ : ∃ W3, W3 = (w3.setCell ⟨w.heap.size + 1 + 1, 0, none⟩ (.int .i64 0)).setCell ⟨w.heap.size + 1 + 1, 1, none⟩ (.slice none 0 0) := ⟨_, rfl⟩
      rw [← hW3]
      have q := HQ3.out.set2 (.int .i64 0) (.slice none 0 0)
      rw [← hW3] at q
      have c0 := q.cell 0
      have c1 := q.cell 1
      have hb3 : Below w.heap.size w W3 := by
        rw [hW3]
        exact (HB1.out.setCell (by show w.heap.size ≤ w.heap.size + 1 + 1; omega) _).setCell (by show w.heap.size ≤ w.heap.size + 1 + 1; omega) _
      exact bodyPost_ret (v := .tuple #[.agg #[.int .i64 0, .slice none 0 0], .bool false, .int .i64 11]) (by simp [results, Tryz.results50, go_sem, c0, c1]) rfl (by rw [HU.out]; exact ⟨fun h => absurd (show (11 : Int) = 0 from h) (by decide), fun _ => rfl, hb3⟩)
    · have HU : Hid (updF false X x = (0, X, false)) := by show _ = _; unfold updF; rw [if_neg (by decide), if_pos h4, if_pos (of_decide_eq_true hch.symm)]
      clear hch
      go_wp2_with fail
      obtain ⟨W3, hW3⟩ : ∃ W3, W3 = (w3.setCell ⟨w.heap.size + 1 + 1, 0, none⟩ (.int .i64 (n : Nat))).setCell ⟨w.heap.size + 1 + 1, 1, none⟩ (.slice A X.length C) := ⟨_, rfl⟩
      rw [← hW3]
      have q := HQ3.out.set2 (.int .i64 (n : Nat)) (.slice A X.length C)
      rw [← hW3] at q
      have c0 := q.cell 0
      have c1 := q.cell 1
      have hb3 : Below w.heap.size w W3 := by
        rw [hW3]
        exact (HB1.out.setCell (by show w.heap.size ≤ w.heap.size + 1 + 1; omega) _).setCell (by show w.heap.size ≤ w.heap.size + 1 + 1; omega) _
      exact bodyPost_ret (v := .tuple #[.agg #[.int .i64 (n : Nat), .slice A X.length C], .bool false, .int .i64 0]) (by simp [results, Tryz.results50, go_sem, c0, c1]) rfl (by rw [HU.out]; exact UpdPost.ok HC2.out.1 HC2.out.2 (HX.out.stay (Stay.of hb3)) hb3)
  have hg : decide ((4096 : Int) ≤ (X.length : Int)) = false := decide_eq_false (by omega)
  have HU : Hid (updF false X x = (0, RL.insF X x, !ch)) := by show _ = _; unfold updF; rw [if_neg (by decide), if_neg h4, hch]
  have HINS2 := HINS.out w2 HX2.out
  unfold InsPost at HINS2
  rw [← hch] at HINS2
  have HCALL := Lib.hid HINS2
  clear HDEL HSEA HINS HINS2 hch
  generalize (!ch) = nch at *
  go_wp2_with fail
  refine HCALL.out.mono ?_
  rintro e w1 ⟨-, hok, hb⟩
  obtain ⟨v, rfl, A', C', rfl, hc1, hc2, hsl⟩ := hok HWR.out
  have q3 := HR3.out.up hb
  have k0 : w1.cell? ⟨w.heap.size + 1 + 1, 0, none⟩ = some (.int .i64 0) := q3.cell 0
  have k1 : w1.cell? ⟨w.heap.size + 1 + 1, 1, none⟩ = some (.slice none 0 0) := q3.cell 1
  have k2 := q3.frozen 0
  have k3 := q3.frozen 1
  have k4 := q3.lt
  have HQ3 := Lib.hid q3
  have HB1 := Lib.hid (Below.then HB2.out hb HB2.out.size)
  have HSL := Lib.hid hsl
  clear q3 hb hsl hok
  generalize RL.insF X x = R at *
  go_wp2_with fail
  obtain ⟨W3, hW3⟩ : ∃ W3, W3 = (w1.setCell ⟨w.heap.size + 1 + 1, 0, none⟩ (.int .i64 (n : Nat))).setCell ⟨w.heap.size + 1 + 1, 1, none⟩ (.slice A' R.length C') := ⟨_, rfl⟩
  rw [← hW3]
  have q := HQ3.out.set2 (.int .i64 (n : Nat)) (.slice A' R.length C')
  rw [← hW3] at q
  have c0 := q.cell 0
  have c1 := q.cell 1
  have hb3 : Below w.heap.size w W3 := by
    rw [hW3]
    exact (HB1.out.setCell (by show w.heap.size ≤ w.heap.size + 1 + 1; omega) _).setCell (by show w.heap.size ≤ w.heap.size + 1 + 1; omega) _
  have hs3 : SlRsP P W3.heap.size W3 A' R := by
    have h : SlRsP (fun b => P b ∧ b ≠ w.heap.size + 1 + 1) W3.heap.size W3 A' R := by
      rw [hW3]
      exact (HSL.out.stay (Stay.set (fun e => e.2 rfl) 0 _)).stay (Stay.set (fun e => e.2 rfl) 1 _)
    exact h.weak fun b _ hp => hp.1
  exact bodyPost_ret (v := .tuple #[.agg #[.int .i64 (n : Nat), .slice A' R.length C'], .bool nch, .int .i64 0]) (by simp [results, Tryz.results50, go_sem, c0, c1]) rfl (by rw [HU.out]; exact UpdPost.ok hc1 hc2 hs3 hb3)
end
section
open Go.RowKit Go.Sort Go.ChangeMaps Go.WideShapes

structure Upd where
  del : Bool
  rel : ByteArray
  row : RL.R
def UpdsM (B : Nat) (w : World) (A : Option Addr) (us : List Upd) : Prop :=
  us ≠ [] → ∃ b o, A = some ⟨b, o, none⟩ ∧ b < B ∧ ∀ i (h : i < us.length), ∃ RA RC, w.cell? ⟨b, o + i * 3, none⟩ = some (.bool us[i].del) ∧ w.cell? ⟨b, o + i * 3 + 1, none⟩ = some (.string us[i].rel) ∧ w.cell? ⟨b, o + i * 3 + 2, none⟩ = some (.slice RA us[i].row.length RC) ∧ SlR B w RA us[i].row
def UpdOk (u : Upd) : Prop := u.rel.size ≤ 9223372036854775807 ∧ u.row.length ≤ 1000000 ∧ ∀ v ∈ u.row, v.str.size ≤ 9223372036854775807
def updC (F : Cont) (nm : ByteArray) (X : List RL.R) : Cont := fun s => if s = nm then X else F s
def stepU (S : Sch) (F : Cont) (u : Upd) : Int × Cont × Bool :=
  if checkF S u.rel u.row = 0 then
    (if (updF u.del (F u.rel) u.row).1 = 0 then (0, if (updF u.del (F u.rel) u.row).2.2 then updC F u.rel (updF u.del (F u.rel) u.row).2.1 else F, (updF u.del (F u.rel) u.row).2.2) else ((updF u.del (F u.rel) u.row).1, F, false))
  else (checkF S u.rel u.row, F, false)
def applyF (S : Sch) : Cont → Nat → List Upd → Int × Cont × Nat
  | F, n, [] => (0, F, n)
  | F, n, u :: t => if (stepU S F u).1 = 0 then applyF S (stepU S F u).2.1 (if (stepU S F u).2.2 then n + 1 else n) t else ((stepU S F u).1, F, 0)
def ApPost (P : Nat → Prop) (S : Sch) (r : Int × Cont × Nat) (w : World) (e : Ending) (w' : World) : Prop :=
  (r.1 = 0 → ∃ m, e = .returned (.tuple #[.agg #[m], .int .i64 r.2.2, .int .i64 0]) ∧ DbM P S w' m r.2.1) ∧ (r.1 ≠ 0 → e = .returned (.tuple #[.agg #[.map none], .int .i64 0, .int .i64 r.1])) ∧ Below w.heap.size w w'
theorem ApPost.err {P : Nat → Prop} {S : Sch} {r : Int × Cont × Nat} {w w' : World} {k : Int} (he : r.1 = k) (hk : k ≠ 0) (hb : Below w.heap.size w w') : ApPost P S r w (.returned (.tuple #[.agg #[.map none], .int .i64 0, .int .i64 k])) w' :=
  ⟨fun h => absurd (he.symm.trans h) hk, fun _ => by rw [he], hb⟩
theorem checkF_zero {S : Sch} {nm : ByteArray} {x : RL.R} (h : checkF S nm x = 0) : ∃ ks, (nm, ks) ∈ S ∧ wrongF (ks.length : Nat) x = 0 := by
  unfold checkF at h
  split at h
  · cases h
  · rename_i p hf
    have hp := List.mem_of_find?_eq_some hf
    have hpe : p.1 = nm := by have := List.find?_some hf; simpa using this
    obtain ⟨n, ks⟩ := p
    have hpe : n = nm := hpe
    subst hpe
    refine ⟨ks, hp, ?_⟩
    unfold checkE at h
    split at h
    · cases h
    · rename_i h1
      split at h
      · cases h
      · rename_i h2
        unfold wrongF
        rw [if_neg (by have h1 : x.length = ks.length := by simpa using h1
                       omega), if_pos (by simpa using h2)]
theorem EntsM.put {P : Nat → Prop} {S : Sch} {w w' : World} {D : DataW Value} {F : Cont} (h : EntsM P S w D F) (ht : Maps.Tidy D) {nm : ByteArray} {val : Value} {X : List RL.R} (hn : nm ∈ S.map Prod.fst) (hk : Stay P w w') (he : ∀ ks, (nm, ks) ∈ S → EntM P w' val ks X) : EntsM P S w' (D.put (litS nm) (.held val)) (updC F nm X) := by
  have hh : Maps.has D (litS nm) = true := by rw [h.has nm]; exact memB_iff.2 hn
  refine ⟨?_, fun k hkk => ?_, fun q hq => ?_⟩
  · rw [Maps.size_put ht, hh, h.1]
    rfl
  · by_cases e : k = litS nm
    · obtain ⟨p, hp, e2⟩ := List.mem_map.1 hn
      exact ⟨p, hp, by rw [e, e2]⟩
    · rw [Maps.has_put_other e] at hkk
      exact h.2.1 k hkk
  · by_cases e : q.1 = nm
    · obtain ⟨n, ks⟩ := q
      have e : n = nm := e
      subst e
      refine ⟨val, fun z => Maps.atKey_put_same ht.isMap (isKeyS _) _ z, ?_⟩
      show EntM P w' val ks (updC F n X n)
      unfold updC
      rw [if_pos rfl]
      exact he ks hq
    · obtain ⟨v, g1, g2⟩ := h.2.2 q hq
      refine ⟨v, fun z => by rw [Maps.atKey_put_other (fun e2 => e (litS_inj e2))]; exact g1 z, ?_⟩
      unfold updC
      rw [if_neg e]
      exact g2.keep hk
theorem updF_ok {n : Nat} {X : List RL.R} {x : RL.R} {del : Bool} (hX : RowsOk n X) (hx : wrongF (n : Int) x = 0) : RowsOk n (updF del X x).2.1 := by
  unfold updF
  split
  · exact ⟨hX.ss.del x, fun y hy => hX.ok y ((RL.mem_delF _ _ _).1 hy).1, Nat.le_trans (List.length_filter_le _ _) hX.many⟩
  · split
    · split
      · exact hX
      · exact hX
    · rename_i h
      exact ⟨hX.ss.ins x, fun y hy => by
        rcases (RL.mem_insF _ _ _).1 hy with hy | rfl
        · exact hX.ok y hy
        · exact hx, Nat.le_trans (RL.insF_length_le _ _) (by show X.length + 1 ≤ 4096; omega)⟩

theorem UpdPost.shape {P : Nat → Prop} {n : Nat} {r : Int × List RL.R × Bool} {w w' : World} {e : Ending} (h : UpdPost P n r w e w') : Below w.heap.size w w' ∧ ∃ (q1 : Int) (A : Option Addr) (q2 C : Nat) (ch : Bool), e = .returned (.tuple #[.agg #[.int .i64 q1, .slice A q2 C], .bool ch, .int .i64 r.1]) ∧ (r.1 = 0 → q1 = (n : Nat) ∧ q2 = r.2.1.length ∧ ch = r.2.2 ∧ q2 ≤ C ∧ C ≤ 9223372036854775807 ∧ SlRsP P w'.heap.size w' A r.2.1) := by
  obtain ⟨h1, h2, hb⟩ := h
  refine ⟨hb, ?_⟩
  by_cases h0 : r.1 = 0
  · obtain ⟨A, C, rfl, a1, a2, a3⟩ := h1 h0
    exact ⟨_, A, _, C, _, by rw [h0], fun _ => ⟨rfl, rfl, rfl, a1, a2, a3⟩⟩
  · exact ⟨0, none, 0, 0, false, h2 h0, fun h => absurd h h0⟩
end
section
open Go.RowKit Go.Sort Go.ChangeMaps Go.WideShapes

set_option maxHeartbeats 8000000 in
theorem ctApply_any (P : Nat → Prop) (S : Sch) (m : Value) (F : Cont) (A : Option Addr) (C : Nat) (us : List Upd) (w : World) (hd : DbM P S w m F) (hPn : ∀ b, w.heap.size ≤ b → P b) (hU : UpdsM w.heap.size w A us) (hok : ∀ u ∈ us, UpdOk u) (hl : us.length ≤ 1000000) (hSl : S.length ≤ 1000000) :
    Calls Tryz.prog 19 #[.agg #[m], .slice A us.length C] w (ApPost P S (applyF S F 0 us) w) := by
  obtain ⟨b, D0, rfl, hPb, hown, hent⟩ := hd.ents
  obtain ⟨W0, hW0⟩ : ∃ W0, W0 = (w.alloc (.cells #[.map (some b)] 28)).alloc (.cells #[.map none] 28) := ⟨_, rfl⟩
  have hx0 : Ext w W0 := by rw [hW0]; exact ((Ext.refl w).alloc _).alloc _
  have hr1 : Row W0 w.heap.size 28 [.map (some b)] := by rw [hW0]; exact (Row.new w 28 _).alloc _
  have hr2 : Row W0 (w.heap.size + 1) 28 [.map none] := by
    have h := Row.new (w.alloc (.cells #[.map (some b)] 28)) 28 [.map none]
    rw [World.size_alloc] at h
    rw [hW0]; exact h
  have hz0 : W0.heap.size = w.heap.size + 1 + 1 := by rw [hW0]; simp
  have HCL := Lib.hid (ctClone_some b _ D0 W0 (map_up hown hx0.below))
  have HENT := Lib.hid (((hent.weak (P' := fun b => (P b ∧ b ≠ w.heap.size + 1) ∧ b ≠ W0.heap.size) fun b hb hp => ⟨⟨hp, by omega⟩, by omega⟩).keep (Stay.of hx0.below)))
  have HU := Lib.hid hU
  have HOK := Lib.hid hok
  have HPN := Lib.hid hPn
  have HR2 := Lib.hid hr2
  have HX0 := Lib.hid hx0
  have HZ0 := Lib.hid hz0
  have HSL := Lib.hid hSl
  have f0 : W0.cell? ⟨w.heap.size, 0, none⟩ = some (.map (some b)) := hr1.cell 0
  have z1 := hr1.lt
  clear hd hown hent hU hok hPn hr1 hr2 hx0 hz0 hPb hSl
  go_enter Tryz.func19, Tryz.ntmps19
  go_wp2_with fail
  rw [← hW0]
  clear hW0
  refine HCL.out.mono ?_
  rintro e w1 ⟨rfl, hown1, hx1⟩
  obtain ⟨bM, hbM⟩ : ∃ bM, bM = W0.heap.size := ⟨_, rfl⟩
  obtain ⟨W1, hW1⟩ : ∃ W1, W1 = w1.alloc (.cells #[.map (some bM)] 28) := ⟨_, rfl⟩
  have hx2 : Ext w1 W1 := by rw [hW1]; exact (Ext.refl w1).alloc _
  have hr7 : Row W1 w1.heap.size 28 [.map (some bM)] := by rw [hW1]; exact Row.new w1 28 _
  rw [← hbM] at hown1 HENT ⊢
  have HST : Hid (W1.ownsMap Tryz.prog 9 heldR bM (Maps.size D0) D0 ∧ EntsM (fun b => (P b ∧ b ≠ w.heap.size + 1) ∧ b ≠ bM) S W1 D0 F ∧ Row W1 (w.heap.size + 1) 28 [.map none] ∧ Row W1 w1.heap.size 28 [.map (some bM)] ∧ Below w.heap.size w W1) :=
    ⟨map_up hown1 hx2.below, HENT.out.keep (Stay.of (Below.then hx1.below hx2.below hx1.size)), (HR2.out.up hx1.below).up hx2.below, hr7, Below.then (Below.then HX0.out.below hx1.below HX0.out.size) hx2.below (Nat.le_trans HX0.out.size hx1.size)⟩
  obtain ⟨b7, hb7⟩ : ∃ b7, b7 = w1.heap.size := ⟨_, rfl⟩
  have hbz : w.heap.size + 1 < bM := by have := HZ0.out; omega
  have hb7z : bM < b7 := by have := hown1.lt; omega
  have hb7w : b7 < W1.heap.size := by rw [hb7]; exact hr7.lt
  rw [← hb7] at HST
  have HMB := Lib.hid hbM
  have HW1 := Lib.hid hW1
  have HB7 := Lib.hid hb7
  clear hown1 hx1 hx2 hr7 hbM hW1 hb7 HENT HCL HR2 f0
  go_wp2_with fail
  rw [← HW1.out, ← HB7.out]
  clear HW1 HB7
  go_loopw [8, 21] (fun n c wx => ∃ (i k : Nat) (D : DataW Value) (F' : Cont), i ≤ us.length ∧ k ≤ i ∧ c = .int .i64 i ∧ n = .int .i64 k ∧ applyF S F 0 us = applyF S F' k (us.drop i) ∧ wx.ownsMap Tryz.prog 9 heldR bM (Maps.size D) D ∧ EntsM (fun b => (P b ∧ b ≠ w.heap.size + 1) ∧ b ≠ bM) S wx D F' ∧ Row wx (w.heap.size + 1) 28 [.map none] ∧ Row wx b7 28 [.map (some bM)] ∧ Below w.heap.size w wx) (fun _ c _ => us.length - (intOf c).toNat)
  case atStart => exact ⟨0, 0, D0, F, Nat.zero_le _, Nat.le_refl _, rfl, rfl, rfl, HST.out.1, HST.out.2.1, HST.out.2.2.1, HST.out.2.2.2.1, HST.out.2.2.2.2⟩
  case round =>
    obtain ⟨i, k, D, F', hi, hki, rfl, rfl, hap, hown, hent, hrg, hr7, hbw⟩ := hrel
    have HAP := Lib.hid hap
    have HO := Lib.hid hown
    have HEN := Lib.hid hent
    have HRG := Lib.hid hrg
    have HR7 := Lib.hid hr7
    have HB := Lib.hid hbw
    have hzb := hbw.size
    have g0 : wr.cell? ⟨w.heap.size + 1, 0, none⟩ = some (.map none) := hrg.cell 0
    have g1 := hrg.frozen 0
    have g2 := hrg.lt
    have g3 : wr.cell? ⟨b7, 0, none⟩ = some (.map (some bM)) := hr7.cell 0
    have g4 := hr7.lt
    clear hap hown hent hrg hr7 hbw HST z1
    by_cases hil : i < us.length
    rotate_left
    · obtain rfl : i = us.length := by omega
      have HF : Hid (applyF S F 0 us = (0, F', k)) := by
        have h := HAP.out
        rw [List.drop_length] at h
        exact h
      clear hil
      go_wp2_with fail
      obtain ⟨W3, hW3⟩ : ∃ W3, W3 = wr.setCell ⟨w.heap.size + 1, 0, none⟩ (.map (some bM)) := ⟨_, rfl⟩
      rw [← hW3]
      have q := HRG.out.set 0 (.map (some bM))
      rw [← hW3] at q
      have c0 := q.cell 0
      have hb3 : Below w.heap.size w W3 := by rw [hW3]; exact HB.out.setCell (by show w.heap.size ≤ w.heap.size + 1; omega) _
      have hst : Stay (fun b => P b ∧ b ≠ w.heap.size + 1) wr W3 := by rw [hW3]; exact Stay.set (fun e => e.2 rfl) 0 _
      have hdb : DbM P S W3 (.map (some bM)) F' := by
        have h1 := (HEN.out.weak (P' := fun b => P b ∧ b ≠ w.heap.size + 1) fun b _ hb => hb.1).db (b := bM) ⟨HPN.out _ (by omega), by omega⟩ HO.out
        exact (h1.keep hst).weak fun b _ hb => hb.1
      exact bodyPost_ret (v := .tuple #[.agg #[.map (some bM)], .int .i64 (k : Nat), .int .i64 0]) (by simp [results, Tryz.results19, go_sem, c0]) rfl (by rw [HF.out]; exact ⟨fun _ => ⟨_, rfl, hdb⟩, fun h => absurd rfl h, hb3⟩)
    obtain ⟨ub, uo, rfl, hub, huc⟩ := HU.out (by intro h0; rw [h0] at hil; simp at hil)
    obtain ⟨RA, RC, u0, u1, u2, ur⟩ := huc i hil
    have u0 := (HB.out.cell (p := ⟨ub, uo + i * 3, none⟩) hub).trans u0
    have u1 := (HB.out.cell (p := ⟨ub, uo + i * 3 + 1, none⟩) hub).trans u1
    have u2 := (HB.out.cell (p := ⟨ub, uo + i * 3 + 2, none⟩) hub).trans u2
    have hub2 := Nat.lt_of_lt_of_le hub hzb
    have HUR := Lib.hid ((ur.below HB.out (Nat.le_refl _)).more hzb)
    have HOK1 := Lib.hid (HOK.out _ (List.getElem_mem hil))
    have HAT : Hid (applyF S F' k (us.drop i) = if (stepU S F' us[i]).1 = 0 then applyF S (stepU S F' us[i]).2.1 (if (stepU S F' us[i]).2.2 then k + 1 else k) (us.drop (i + 1)) else ((stepU S F' us[i]).1, F', 0)) := by
      show _ = _
      rw [List.drop_eq_getElem_cons hil]
      rfl
    have q1 : (0 : Int) ≤ (i : Int) := by omega
    have q2 : (i : Int) < (us.length : Int) := by omega
    have hw1 : IntKind.i64.wrap ((i : Int) + 1) = ((i + 1 : Nat) : Int) := by rw [IntWalk.i64_in _ (by omega)]; omega
    have hw2 : IntKind.i64.wrap ((k : Int) + 1) = ((k + 1 : Nat) : Int) := by rw [IntWalk.i64_in _ (by omega)]; omega
    clear huc ur
    generalize us[i] = u at *
    obtain ⟨del, nm, x⟩ := u
    have HBAD : Hid (∀ e, (stepU S F' ⟨del, nm, x⟩).1 = e → e ≠ 0 → (applyF S F 0 us).1 = e) := fun e he h0 => by
      rw [HAP.out, HAT.out, if_neg (by rw [he]; exact h0)]
      exact he
    have HGOOD : Hid ((stepU S F' ⟨del, nm, x⟩).1 = 0 → applyF S F 0 us = applyF S (stepU S F' ⟨del, nm, x⟩).2.1 (if (stepU S F' ⟨del, nm, x⟩).2.2 then k + 1 else k) (us.drop (i + 1))) := fun h0 => by
      rw [HAP.out, HAT.out, if_pos h0]
    clear HAT
    have HOK2 : Hid (nm.size ≤ 9223372036854775807 ∧ x.length ≤ 1000000 ∧ ∀ v ∈ x, v.str.size ≤ 9223372036854775807) := HOK1.out
    have u0 : wr.cell? ⟨ub, uo + i * 3, none⟩ = some (.bool del) := u0
    have u1 : wr.cell? ⟨ub, uo + i * 3 + 1, none⟩ = some (.string nm) := u1
    have u2 : wr.cell? ⟨ub, uo + i * 3 + 2, none⟩ = some (.slice RA x.length RC) := u2
    have HUX : Hid (SlR wr.heap.size wr RA x) := HUR.out
    clear HOK1 HUR
    obtain ⟨wo, hwo⟩ : ∃ wo, wo = wr := ⟨_, rfl⟩
    subst hwo
    have HKP : Hid (∀ V, Below wo.heap.size wo V → V.cell? ⟨b7, 0, none⟩ = some (.map (some bM)) ∧ V.cell? ⟨ub, uo + i * 3, none⟩ = some (.bool del) ∧ V.cell? ⟨ub, uo + i * 3 + 1, none⟩ = some (.string nm) ∧ V.cell? ⟨ub, uo + i * 3 + 2, none⟩ = some (.slice RA x.length RC)) := fun V hb =>
      ⟨(hb.cell (p := ⟨b7, 0, none⟩) g4).trans g3, (hb.cell (p := ⟨ub, uo + i * 3, none⟩) hub2).trans u0, (hb.cell (p := ⟨ub, uo + i * 3 + 1, none⟩) hub2).trans u1, (hb.cell (p := ⟨ub, uo + i * 3 + 2, none⟩) hub2).trans u2⟩
    have HCH : Hid (∀ V, Below wo.heap.size wo V → Calls Tryz.prog 21 #[.agg #[.map (some bM)], .agg #[.bool del, .string nm, .slice RA x.length RC]] V fun e w' => e = .returned (.int .i64 (checkF S nm x)) ∧ Ext V w') := fun V hb =>
      ctCheck_any (P := fun _ => True) (F := F') del nm RA RC x V (((HEN.out.weak (P' := fun _ => True) fun _ _ _ => trivial).keep (Stay.of hb)).db trivial (map_up HO.out hb)) HOK2.out.1 ((HUX.out.below hb (Nat.le_refl _)).more hb.size) HOK2.out.2.1 HOK2.out.2.2
    clear u0 u1 u2 g3
    go_upto_region 6 with (fail)
    refine wp_region_held_drew (S := (fun w' => w'.cell? ⟨b7, 0, none⟩ = some (.map (some bM)) ∧ w'.cell? ⟨ub, uo + i * 3, none⟩ = some (.bool del) ∧ w'.cell? ⟨ub, uo + i * 3 + 1, none⟩ = some (.string nm) ∧ w'.cell? ⟨ub, uo + i * 3 + 2, none⟩ = some (.slice RA x.length RC))) (by kernel_rfl) (HKP.out wo (Below.refl _ _)) (fun hHeld => ?_)
    refine takeOp (i := 0) (v := ?_) (some 24) rfl rfl (by kernel_rfl) (by kernel_rfl) (by kernel_rfl) (fun _ _ _ h => h) (Or.inl ⟨by rfl, ?_⟩) (by assumption) ?_
    rotate_left 1
    · (intro w0 hSw; (try dsimp only at hSw); go_simp; try (with_reducible rfl))
    try simp only [Act.put, List.setIfInBounds_toArray, List.set_cons_succ, List.set_cons_zero]
    refine takeOp (i := 1) (v := ?_) (some 25) rfl rfl (by kernel_rfl) (by kernel_rfl) (by kernel_rfl) (fun _ _ _ h => h) (Or.inl ⟨by rfl, ?_⟩) (by assumption) ?_
    rotate_left 1
    · (intro w0 hSw; (try dsimp only at hSw); go_simp; try (with_reducible rfl))
    try simp only [Act.put, List.setIfInBounds_toArray, List.set_cons_succ, List.set_cons_zero]
    refine takeOp (i := 2) (v := ?_) (some 26) rfl rfl (by kernel_rfl) (by kernel_rfl) (by kernel_rfl) (fun _ _ _ h => h) (Or.inl ⟨by rfl, ?_⟩) (by assumption) ?_
    rotate_left 1
    · (intro w0 hSw; (try dsimp only at hSw); go_simp; try (with_reducible rfl))
    try simp only [Act.put, List.setIfInBounds_toArray, List.set_cons_succ, List.set_cons_zero]
    refine takeOp (i := 3) (v := ?_) (some 27) rfl rfl (by kernel_rfl) (by kernel_rfl) (by kernel_rfl) (fun _ _ _ h => h) (Or.inl ⟨by rfl, ?_⟩) (by assumption) ?_
    rotate_left 1
    · (intro w0 hSw; (try dsimp only at hSw); go_simp; try (with_reducible rfl))
    try simp only [Act.put, List.setIfInBounds_toArray, List.set_cons_succ, List.set_cons_zero]
    refine takeOp (i := 4) (v := ?_) (some 28) rfl rfl (by kernel_rfl) (by kernel_rfl) (by kernel_rfl) (fun _ _ _ h => h) (Or.inl ⟨by rfl, ?_⟩) (by assumption) ?_
    rotate_left 1
    · (intro w0 hSw; (try dsimp only at hSw); go_simp; try (with_reducible rfl))
    try simp only [Act.put, List.setIfInBounds_toArray, List.set_cons_succ, List.set_cons_zero]
    refine wpAnyH_ready (rs := [5]) (by kernel_rfl) (by simp) ?_
    refine AllReadyH.cons rfl (fun K hK => ?_) AllReadyH.nil
    go_simp
    refine (HCH.out wo.drew (Below.refl _ _).drew).mono ?_
    rintro e V1 ⟨rfl, hx⟩
    have HV1 : Hid (Below wo.heap.size wo V1) := Below.undrew hx.below
    clear hx
    go_wp2_with fail
    refine hK.out _ _ (HKP.out V1 HV1.out) (fun hHeld => ?_)
    clear hK K
    try simp only [Act.put, List.setIfInBounds_toArray, List.set_cons_succ, List.set_cons_zero]
    refine takeOp (i := 6) (v := ?_) (some 10) rfl rfl (by kernel_rfl) (by kernel_rfl) (by kernel_rfl) (fun _ _ _ h => h) (Or.inl ⟨by rfl, ?_⟩) (by assumption) ?_
    rotate_left 1
    · (intro w0 hSw; (try dsimp only at hSw); go_simp; try (with_reducible rfl))
    try simp only [Act.put, List.setIfInBounds_toArray, List.set_cons_succ, List.set_cons_zero]
    refine wpAnyH_done (by kernel_rfl) ?_ _
    have HRG1 := Lib.hid (HRG.out.up HV1.out)
    have HBV1 := Lib.hid (Below.then HB.out HV1.out hzb)
    by_cases hce : checkF S nm x = 0
    rotate_left
    · have hne : (checkF S nm x != 0) = true := by simpa using hce
      have HSE : Hid ((stepU S F' ⟨del, nm, x⟩).1 = checkF S nm x) := by show _ = _; unfold stepU; rw [if_neg hce]
      have HCE : Hid (checkF S nm x ≠ 0) := hce
      have g5 : V1.cell? ⟨w.heap.size + 1, 0, none⟩ = some (.map none) := HRG1.out.cell 0
      have g6 := HRG1.out.frozen 0
      have g7 := HRG1.out.lt
      clear hce
      generalize checkF S nm x = ce at *
      go_wp2_with fail
      obtain ⟨W9, hW9⟩ : ∃ W9, W9 = V1.setCell ⟨w.heap.size + 1, 0, none⟩ (.map none) := ⟨_, rfl⟩
      rw [← hW9]
      have q := HRG1.out.set 0 (.map none)
      rw [← hW9] at q
      have c9 := q.cell 0
      have hb9 : Below w.heap.size w W9 := by rw [hW9]; exact HBV1.out.setCell (by show w.heap.size ≤ w.heap.size + 1; omega) _
      exact bodyPost_ret (v := .tuple #[.agg #[.map none], .int .i64 0, .int .i64 ce]) (by simp [results, Tryz.results19, go_sem, c9]) rfl (ApPost.err (HBAD.out ce HSE.out HCE.out) HCE.out hb9)
    obtain ⟨ks, hks, hwr⟩ := checkF_zero hce
    obtain ⟨val, hv1, KA, KC, A2, C2, rfl, hk6, hki, hxc, hxm, hsl, hro⟩ := HEN.out.2.2 (nm, ks) hks
    have hv1 : ∀ z, D.atKey (litS nm) z = .held (.agg #[.slice KA ks.length KC, .int .i64 (ks.length : Nat), .slice A2 (F' nm).length C2]) := hv1
    have hk6 : ks.length ≤ 6 := hk6
    have HKI : Hid (SlIP (fun b => (P b ∧ b ≠ w.heap.size + 1) ∧ b ≠ bM) wo KA ks) := hki
    have HSL2 : Hid (SlRsP (fun b => (P b ∧ b ≠ w.heap.size + 1) ∧ b ≠ bM) wo.heap.size wo A2 (F' nm)) := hsl
    have HRO : Hid (RowsOk ks.length (F' nm)) := hro
    have HC2 : Hid ((F' nm).length ≤ C2 ∧ C2 ≤ 9223372036854775807) := ⟨hxc, hxm⟩
    have HKS2 : Hid (∀ ks', (nm, ks') ∈ S → ks'.length = ks.length ∧ SlIP (fun b => (P b ∧ b ≠ w.heap.size + 1) ∧ b ≠ bM) wo KA ks') := fun ks' h' => by
      obtain ⟨val', hv', KA', KC', A', C', e', -, hki', -⟩ := HEN.out.2.2 (nm, ks') h'
      have e2 : DataW.held val' = .held _ := (hv' .nil).symm.trans (hv1 .nil)
      injection e2 with e2
      rw [e'] at e2
      simp at e2
      obtain ⟨⟨e3, e4, e5⟩, -⟩ := e2
      subst e3
      exact ⟨e4, hki'⟩
    have HWR := Lib.hid hwr
    have HKS := Lib.hid hks
    have HCE := Lib.hid hce
    rw [hce]
    have HLK : Hid (∀ V, Below wo.heap.size wo V → (Instr.lookup 26 (.map (some bM)) (.string nm) false).run Tryz.prog V = .ok (.agg #[.slice KA ks.length KC, .int .i64 (ks.length : Nat), .slice A2 (F' nm).length C2]) V) := fun V hb => (look_yes keyedS Tryz.underlying26 zeroEnt (map_up HO.out hb) (keyS HOK2.out.1) hv1).2
    have HKP2 : Hid (∀ V, Below wo.heap.size wo V → V.cell? ⟨b7, 0, none⟩ = some (.map (some bM)) ∧ V.cell? ⟨ub, uo + i * 3 + 1, none⟩ = some (.string nm) ∧ (Instr.lookup 26 (.map (some bM)) (.string nm) false).run Tryz.prog V = .ok (.agg #[.slice KA ks.length KC, .int .i64 (ks.length : Nat), .slice A2 (F' nm).length C2]) V) := fun V hb => ⟨(HKP.out V hb).1, (HKP.out V hb).2.2.1, HLK.out V hb⟩
    obtain ⟨XL, hXL⟩ : ∃ XL, XL = (F' nm).length := ⟨_, rfl⟩
    rw [← hXL] at HKP2
    have HXL := Lib.hid hXL
    clear hce hks hwr hv1 hki hsl hro hxc hxm hXL HLK
    have hV1z := HV1.out.size
    have hb71 : b7 < V1.heap.size := by omega
    have hub1 : ub < V1.heap.size := by omega
    go_upto_region 9 with (fail)
    refine wp_region_held_drew (S := (fun w' => w'.cell? ⟨b7, 0, none⟩ = some (.map (some bM)) ∧ w'.cell? ⟨ub, uo + i * 3 + 1, none⟩ = some (.string nm) ∧ (Instr.lookup 26 (.map (some bM)) (.string nm) false).run Tryz.prog w' = .ok (.agg #[.slice KA ks.length KC, .int .i64 (ks.length : Nat), .slice A2 XL C2]) w')) (by kernel_rfl) (HKP2.out V1.drew HV1.out.drew) (fun hHeld => ?_)
    refine takeOp (i := 0) (v := ?_) (some 34) rfl rfl (by kernel_rfl) (by kernel_rfl) (by kernel_rfl) (fun _ _ _ h => h) (Or.inl ⟨by rfl, ?_⟩) (by assumption) ?_
    rotate_left 1
    · (intro w0 hSw; (try dsimp only at hSw); go_simp; try (with_reducible rfl))
    try simp only [Act.put, List.setIfInBounds_toArray, List.set_cons_succ, List.set_cons_zero]
    refine takeOp (i := 1) (v := ?_) (some 35) rfl rfl (by kernel_rfl) (by kernel_rfl) (by kernel_rfl) (fun _ _ _ h => h) (Or.inl ⟨by rfl, ?_⟩) (by assumption) ?_
    rotate_left 1
    · (intro w0 hSw; (try dsimp only at hSw); go_simp; try (with_reducible rfl))
    try simp only [Act.put, List.setIfInBounds_toArray, List.set_cons_succ, List.set_cons_zero]
    refine takeOp (i := 2) (v := ?_) (some 36) rfl rfl (by kernel_rfl) (by kernel_rfl) (by kernel_rfl) (fun _ _ _ h => h) (Or.inl ⟨by rfl, ?_⟩) (by assumption) ?_
    rotate_left 1
    · (intro w0 hSw; (try dsimp only at hSw); go_simp; try (with_reducible rfl))
    try simp only [Act.put, List.setIfInBounds_toArray, List.set_cons_succ, List.set_cons_zero]
    refine takeOp (i := 3) (v := ?_) (some 37) rfl rfl (by kernel_rfl) (by kernel_rfl) (by kernel_rfl) (fun _ _ _ h => h) (Or.inl ⟨by rfl, ?_⟩) (by assumption) ?_
    rotate_left 1
    · (intro w0 hSw; (try dsimp only at hSw); go_simp; try (with_reducible rfl))
    try simp only [Act.put, List.setIfInBounds_toArray, List.set_cons_succ, List.set_cons_zero]
    refine takeOp (i := 4) (v := ?_) (some 38) rfl rfl (by kernel_rfl) (by kernel_rfl) (by kernel_rfl) (fun _ _ _ h => h) (Or.inl ⟨by rfl, ?_⟩) (by assumption) ?_
    rotate_left 1
    · (intro w0 hSw; (try dsimp only at hSw); go_simp; try (with_reducible rfl))
    try simp only [Act.put, List.setIfInBounds_toArray, List.set_cons_succ, List.set_cons_zero]
    refine takeOp (i := 5) (v := ?_) (some 39) rfl rfl (by kernel_rfl) (by kernel_rfl) (by kernel_rfl) (fun _ _ _ h => h) (Or.inl ⟨by rfl, ?_⟩) (by assumption) ?_
    rotate_left 1
    · (intro w0 hSw; (try dsimp only at hSw); go_simp; try (with_reducible rfl))
    try simp only [Act.put, List.setIfInBounds_toArray, List.set_cons_succ, List.set_cons_zero]
    refine takeOp (i := 6) (v := ?_) (some 40) rfl rfl (by kernel_rfl) (by kernel_rfl) (by kernel_rfl) (fun _ _ _ h => h) (Or.inl ⟨by rfl, ?_⟩) (by assumption) ?_
    rotate_left 1
    · (intro w0 hSw; (try dsimp only at hSw); go_simp; try (with_reducible rfl))
    try simp only [Act.put, List.setIfInBounds_toArray, List.set_cons_succ, List.set_cons_zero]
    refine takeOp (i := 7) (v := ?_) (some 41) rfl rfl (by kernel_rfl) (by kernel_rfl) (by kernel_rfl) (fun _ _ _ h => h) (Or.inl ⟨by rfl, ?_⟩) (by assumption) ?_
    rotate_left 1
    · (intro w0 hSw; (try dsimp only at hSw); go_simp; try (with_reducible rfl))
    try simp only [Act.put, List.setIfInBounds_toArray, List.set_cons_succ, List.set_cons_zero]
    refine wpAnyH_ready (rs := [8]) (by kernel_rfl) (by simp) ?_
    refine AllReadyH.cons rfl (fun K hK => ?_) AllReadyH.nil
    go_simp
    obtain ⟨V2, hV⟩ : ∃ V', V' = (V1.alloc (.cells #[.slice none 0 0, .int .i64 0, .slice none 0 0] 99)).drew := ⟨_, rfl⟩
    rw [← hV]
    have HV2 : Hid (Below wo.heap.size wo V2) := by show Below _ _ _; rw [hV]; exact (HV1.out.alloc hV1z _).drew
    have HE2 : Hid (Row V2 V1.heap.size 99 [.slice none 0 0, .int .i64 0, .slice none 0 0]) := by show Row _ _ _ _; rw [hV]; exact (Row.new V1 99 [.slice none 0 0, .int .i64 0, .slice none 0 0]).drew
    clear hV
    refine hK.out _ _ (HKP2.out V2 HV2.out) (fun hHeld => ?_)
    clear hK K
    try simp only [Act.put, List.setIfInBounds_toArray, List.set_cons_succ, List.set_cons_zero]
    refine wpAnyH_ready (rs := [9]) (by kernel_rfl) (by simp) ?_
    refine AllReadyH.cons rfl (fun K hK => ?_) AllReadyH.nil
    have m0 : V2.cell? ⟨V1.heap.size, 0, none⟩ = some (.slice none 0 0) := HE2.out.cell 0
    have m1 : V2.cell? ⟨V1.heap.size, 1, none⟩ = some (.int .i64 0) := HE2.out.cell 1
    have m2 : V2.cell? ⟨V1.heap.size, 2, none⟩ = some (.slice none 0 0) := HE2.out.cell 2
    have m3 := HE2.out.frozen 0
    have m4 := HE2.out.frozen 1
    have m5 := HE2.out.frozen 2
    have m6 := HE2.out.lt
    go_simp
    obtain ⟨V3, hV⟩ : ∃ V', V' = ((V2.setCell ⟨V1.heap.size, 0, none⟩ (.slice KA ks.length KC)).setCell ⟨V1.heap.size, 1, none⟩ (.int .i64 (ks.length : Nat))).setCell ⟨V1.heap.size, 2, none⟩ (.slice A2 XL C2) := ⟨_, rfl⟩
    rw [← hV]
    have HV3 : Hid (Below wo.heap.size wo V3) := by show Below _ _ _; rw [hV]; exact ((HV2.out.setCell hV1z _).setCell hV1z _).setCell hV1z _
    have HE3 : Hid (Row V3 V1.heap.size 99 [.slice KA ks.length KC, .int .i64 (ks.length : Nat), .slice A2 XL C2]) := by show Row _ _ _ _; rw [hV]; exact ((HE2.out.set 0 _).set 1 _).set 2 _
    have HZ3 : Hid (V1.heap.size < V3.heap.size) := HE3.out.lt
    clear hV m0 m1 m2 m3 m4 m5 m6
    refine hK.out _ _ (HKP2.out V3 HV3.out) (fun hHeld => ?_)
    clear hK K
    try simp only [Act.put, List.setIfInBounds_toArray, List.set_cons_succ, List.set_cons_zero]
    refine wpAnyH_done (by kernel_rfl) ?_ _
    clear HE2 HV2 HKP2
    go_upto_region 10 with (fail)
    have HKU : Hid (∀ V, Below V3.heap.size V3 V → V.cell? ⟨V1.heap.size, 1, none⟩ = some (.int .i64 (ks.length : Nat)) ∧ V.cell? ⟨V1.heap.size, 2, none⟩ = some (.slice A2 XL C2) ∧ V.cell? ⟨ub, uo + i * 3, none⟩ = some (.bool del) ∧ V.cell? ⟨ub, uo + i * 3 + 1, none⟩ = some (.string nm) ∧ V.cell? ⟨ub, uo + i * 3 + 2, none⟩ = some (.slice RA x.length RC)) := fun V hb =>
      ⟨(HE3.out.up hb).cell 1, (HE3.out.up hb).cell 2, (HKP.out V (Below.then HV3.out hb HV3.out.size)).2⟩
    have HPB : Hid (∀ b, V3.heap.size ≤ b → (P b ∧ b ≠ w.heap.size + 1) ∧ b ≠ bM) := fun b hb => by
      have h1 := HV3.out.size
      exact ⟨⟨HPN.out _ (by omega), by omega⟩, by omega⟩
    obtain ⟨R, hR⟩ : ∃ R, R = updF del (F' nm) x := ⟨_, rfl⟩
    have HUP : Hid (∀ (V : World) (hb : Below V3.heap.size V3 V) (O : Nat → Prop) (h1 : ∀ b, b < V3.heap.size → ((P b ∧ b ≠ w.heap.size + 1) ∧ b ≠ bM) → O b) (h2 : ∀ b, V.heap.size ≤ b → O b), Calls Tryz.prog 50 #[.agg #[.int .i64 (ks.length : Nat), .slice A2 XL C2], .agg #[.bool del, .string nm, .slice RA x.length RC]] V fun e w' => Below V.heap.size V w' ∧ ∃ (q1 : Int) (A : Option Addr) (q2 C : Nat) (ch : Bool), e = .returned (.tuple #[.agg #[.int .i64 q1, .slice A q2 C], .bool ch, .int .i64 R.1]) ∧ (R.1 = 0 → q1 = (ks.length : Nat) ∧ q2 = R.2.1.length ∧ ch = R.2.2 ∧ q2 ≤ C ∧ C ≤ 9223372036854775807 ∧ SlRsP O w'.heap.size w' A R.2.1)) := fun V hb O h1 h2 => by
      rw [HXL.out, hR]
      have hV := Below.then HV3.out hb HV3.out.size
      exact (ctUpdate_any O ks.length del nm A2 RA C2 RC (F' nm) x V (((HSL2.out.stay (Stay.of HV3.out)).weak h1).stay (Stay.of hb)) h2 ((HUX.out.below hV (Nat.le_refl _)).more hV.size) HRO.out (by omega) HWR.out HC2.out.1 HC2.out.2).mono fun e w' h => h.shape
    have HR := Lib.hid hR
    clear hR
    go_cut [12, 13, 14] from 42 to 52 (fun r c e wx => Below V3.heap.size V3 wx ∧ ∃ (b12 : Nat) (q1 : Int) (AR : Option Addr) (q2 CR : Nat) (ch : Bool), r = .pointer (some ⟨b12, 0, none⟩) ∧ c = .bool ch ∧ e = .int .i64 R.1 ∧ V3.heap.size ≤ b12 ∧ Row wx b12 56 [.int .i64 q1, .slice AR q2 CR] ∧ (R.1 = 0 → q1 = (ks.length : Nat) ∧ q2 = R.2.1.length ∧ ch = R.2.2 ∧ q2 ≤ CR ∧ CR ≤ 9223372036854775807 ∧ SlRsP (fun b => (P b ∧ b ≠ w.heap.size + 1) ∧ b ≠ bM) wx.heap.size wx AR R.2.1))
    case first =>
      refine wp_region_held_drew (S := (fun w' => w'.cell? ⟨V1.heap.size, 1, none⟩ = some (.int .i64 (ks.length : Nat)) ∧ w'.cell? ⟨V1.heap.size, 2, none⟩ = some (.slice A2 XL C2) ∧ w'.cell? ⟨ub, uo + i * 3, none⟩ = some (.bool del) ∧ w'.cell? ⟨ub, uo + i * 3 + 1, none⟩ = some (.string nm) ∧ w'.cell? ⟨ub, uo + i * 3 + 2, none⟩ = some (.slice RA x.length RC))) (by kernel_rfl) (HKU.out V3 (Below.refl _ _)) (fun hHeld => ?_)
      obtain ⟨U0, hV0⟩ : ∃ V, V = V3.drew := ⟨_, rfl⟩
      have HV : Hid (Below V3.heap.size V3 U0) := by show Below _ _ _; rw [hV0]; exact ((Ext.refl V3).drew).below
      rw [← hV0]
      clear hV0
      have hHeld0 := HKU.out U0 HV.out
      refine takeOp (i := 0) (v := ?_) (some 43) rfl rfl (by kernel_rfl) (by kernel_rfl) (by kernel_rfl) (fun _ _ _ h => h) (Or.inl ⟨by rfl, ?_⟩) (by assumption) ?_
      rotate_left 1
      · (intro w0 hSw; (try dsimp only at hSw); go_simp; try (with_reducible rfl))
      try simp only [Act.put, List.setIfInBounds_toArray, List.set_cons_succ, List.set_cons_zero]
      refine takeOp (i := 1) (v := ?_) (some 44) rfl rfl (by kernel_rfl) (by kernel_rfl) (by kernel_rfl) (fun _ _ _ h => h) (Or.inl ⟨by rfl, ?_⟩) (by assumption) ?_
      rotate_left 1
      · (intro w0 hSw; (try dsimp only at hSw); go_simp; try (with_reducible rfl))
      try simp only [Act.put, List.setIfInBounds_toArray, List.set_cons_succ, List.set_cons_zero]
      refine takeOp (i := 2) (v := ?_) (some 45) rfl rfl (by kernel_rfl) (by kernel_rfl) (by kernel_rfl) (fun _ _ _ h => h) (Or.inl ⟨by rfl, ?_⟩) (by assumption) ?_
      rotate_left 1
      · (intro w0 hSw; (try dsimp only at hSw); go_simp; try (with_reducible rfl))
      try simp only [Act.put, List.setIfInBounds_toArray, List.set_cons_succ, List.set_cons_zero]
      refine takeOp (i := 3) (v := ?_) (some 46) rfl rfl (by kernel_rfl) (by kernel_rfl) (by kernel_rfl) (fun _ _ _ h => h) (Or.inl ⟨by rfl, ?_⟩) (by assumption) ?_
      rotate_left 1
      · (intro w0 hSw; (try dsimp only at hSw); go_simp; try (with_reducible rfl))
      try simp only [Act.put, List.setIfInBounds_toArray, List.set_cons_succ, List.set_cons_zero]
      refine takeOp (i := 4) (v := ?_) (some 47) rfl rfl (by kernel_rfl) (by kernel_rfl) (by kernel_rfl) (fun _ _ _ h => h) (Or.inl ⟨by rfl, ?_⟩) (by assumption) ?_
      rotate_left 1
      · (intro w0 hSw; (try dsimp only at hSw); go_simp; try (with_reducible rfl))
      try simp only [Act.put, List.setIfInBounds_toArray, List.set_cons_succ, List.set_cons_zero]
      refine takeOp (i := 5) (v := ?_) (some 48) rfl rfl (by kernel_rfl) (by kernel_rfl) (by kernel_rfl) (fun _ _ _ h => h) (Or.inl ⟨by rfl, ?_⟩) (by assumption) ?_
      rotate_left 1
      · (intro w0 hSw; (try dsimp only at hSw); go_simp; try (with_reducible rfl))
      try simp only [Act.put, List.setIfInBounds_toArray, List.set_cons_succ, List.set_cons_zero]
      refine wpAnyH_ready (rs := [6, 11]) (by kernel_rfl) (by simp) ?_
      refine (AllReadyH.cons rfl (fun K hK => ?_) (AllReadyH.cons rfl (fun K hK => ?_) AllReadyH.nil))
      · go_simp
        refine (HUP.out U0 HV.out (fun b => (P b ∧ b ≠ w.heap.size + 1) ∧ b ≠ bM) (fun b hb hp => hp) (fun b hb => HPB.out b (Nat.le_trans HV.out.size hb))).mono ?_
        rintro e U1 ⟨hb, q1, AR, q2, CR, ch, rfl, hs⟩
        have HS := Lib.hid hs
        have HV := Lib.hid (Below.then HV.out hb HV.out.size)
        clear hs hb
        go_wp2_with fail
        refine hK.out _ _ (HKU.out _ HV.out) (fun hHeld => ?_)
        clear hK K
        try simp only [Act.put, List.setIfInBounds_toArray, List.set_cons_succ, List.set_cons_zero]
        refine takeOp (i := 7) (v := ?_) (some 42) rfl rfl (by kernel_rfl) (by kernel_rfl) (by kernel_rfl) (fun _ _ _ h => h) (Or.inl ⟨by rfl, ?_⟩) (by assumption) ?_
        rotate_left 1
        · (intro w0 hSw; (try dsimp only at hSw); go_simp; try (with_reducible rfl))
        try simp only [Act.put, List.setIfInBounds_toArray, List.set_cons_succ, List.set_cons_zero]
        refine takeOp (i := 8) (v := ?_) (some 50) rfl rfl (by kernel_rfl) (by kernel_rfl) (by kernel_rfl) (fun _ _ _ h => h) (Or.inl ⟨by rfl, ?_⟩) (by assumption) ?_
        rotate_left 1
        · (intro w0 hSw; (try dsimp only at hSw); go_simp; try (with_reducible rfl))
        try simp only [Act.put, List.setIfInBounds_toArray, List.set_cons_succ, List.set_cons_zero]
        refine takeOp (i := 9) (v := ?_) (some 51) rfl rfl (by kernel_rfl) (by kernel_rfl) (by kernel_rfl) (fun _ _ _ h => h) (Or.inl ⟨by rfl, ?_⟩) (by assumption) ?_
        rotate_left 1
        · (intro w0 hSw; (try dsimp only at hSw); go_simp; try (with_reducible rfl))
        try simp only [Act.put, List.setIfInBounds_toArray, List.set_cons_succ, List.set_cons_zero]
        refine takeOp (i := 10) (v := ?_) (some 52) rfl rfl (by kernel_rfl) (by kernel_rfl) (by kernel_rfl) (fun _ _ _ h => h) (Or.inl ⟨by rfl, ?_⟩) (by assumption) ?_
        rotate_left 1
        · (intro w0 hSw; (try dsimp only at hSw); go_simp; try (with_reducible rfl))
        try simp only [Act.put, List.setIfInBounds_toArray, List.set_cons_succ, List.set_cons_zero]
        refine wpAnyH_ready (rs := [11]) (by kernel_rfl) (by simp) ?_
        refine (AllReadyH.cons rfl (fun K hK => ?_) AllReadyH.nil)
        go_simp
        obtain ⟨U2, hV⟩ : ∃ V', V' = U1.alloc (.cells #[.int .i64 0, .slice none 0 0] 56) := ⟨_, rfl⟩
        rw [← hV]
        have hx : Ext U1 U2 := by rw [hV]; exact (Ext.refl U1).alloc _
        have HM : Hid (Row U2 U1.heap.size 56 [.int .i64 0, .slice none 0 0]) := by show Row _ _ _ _; rw [hV]; exact Row.new U1 56 _
        have HLO : Hid (V3.heap.size ≤ U1.heap.size) := HV.out.size
        have HS : Hid (R.1 = 0 → q1 = (ks.length : Nat) ∧ q2 = R.2.1.length ∧ ch = R.2.2 ∧ q2 ≤ CR ∧ CR ≤ 9223372036854775807 ∧ SlRsP (fun x => (fun b => (P b ∧ b ≠ w.heap.size + 1) ∧ b ≠ bM) x ∧ x ≠ U1.heap.size) U2.heap.size U2 AR R.2.1) := fun h => by
          obtain ⟨a1, a2, a3, a4, a5, a6⟩ := HS.out h
          exact ⟨a1, a2, a3, a4, a5, (a6.weak fun b hb hp => ⟨hp, by omega⟩).stay (Stay.of hx.below)⟩
        have HV := Lib.hid (Below.then HV.out hx.below HV.out.size)
        clear hx hV
        refine hK.out _ _ (HKU.out _ HV.out) (fun hHeld => ?_)
        clear hK K
        try simp only [Act.put, List.setIfInBounds_toArray, List.set_cons_succ, List.set_cons_zero]
        refine wpAnyH_ready (rs := [12]) (by kernel_rfl) (by simp) ?_
        refine (AllReadyH.cons rfl (fun K hK => ?_) AllReadyH.nil)
        have m0 := HM.out.cell 0
        have m1 := HM.out.cell 1
        have m2 := HM.out.frozen 0
        have m3 := HM.out.frozen 1
        have m4 := HM.out.lt
        simp only [List.getElem?_cons_zero, List.getElem?_cons_succ] at m0 m1
        go_simp
        obtain ⟨U3, hV⟩ : ∃ V', V' = (U2.setCell ⟨U1.heap.size, 0, none⟩ (.int .i64 q1)).setCell ⟨U1.heap.size, 1, none⟩ (.slice AR q2 CR) := ⟨_, rfl⟩
        rw [← hV]
        have HM : Hid (Row U3 U1.heap.size 56 [.int .i64 q1, .slice AR q2 CR]) := by show Row _ _ _ _; rw [hV]; exact HM.out.set2 _ _
        have HS : Hid (R.1 = 0 → q1 = (ks.length : Nat) ∧ q2 = R.2.1.length ∧ ch = R.2.2 ∧ q2 ≤ CR ∧ CR ≤ 9223372036854775807 ∧ SlRsP (fun b => (P b ∧ b ≠ w.heap.size + 1) ∧ b ≠ bM) U3.heap.size U3 AR R.2.1) := fun h => by
          obtain ⟨a1, a2, a3, a4, a5, a6⟩ := HS.out h
          refine ⟨a1, a2, a3, a4, a5, ?_⟩
          rw [hV]
          exact ((a6.stay (Stay.set (fun e => e.2 rfl) 0 _)).stay (Stay.set (fun e => e.2 rfl) 1 _)).weak fun _ _ hb => hb.1
        have HV : Hid (Below V3.heap.size V3 U3) := by show Below _ _ _; rw [hV]; exact (HV.out.setCell (by show V3.heap.size ≤ U1.heap.size; exact HLO.out) _).setCell (by show V3.heap.size ≤ U1.heap.size; exact HLO.out) _
        clear hV m0 m1 m2 m3 m4
        refine hK.out _ _ (HKU.out _ HV.out) (fun hHeld => ?_)
        clear hK K
        try simp only [Act.put, List.setIfInBounds_toArray, List.set_cons_succ, List.set_cons_zero]
        refine takeOp (i := 13) (v := ?_) (some 13) rfl rfl (by kernel_rfl) (by kernel_rfl) (by kernel_rfl) (fun _ _ _ h => h) (Or.inl ⟨by rfl, ?_⟩) (by assumption) ?_
        rotate_left 1
        · (intro w0 hSw; (try dsimp only at hSw); go_simp; try (with_reducible rfl))
        try simp only [Act.put, List.setIfInBounds_toArray, List.set_cons_succ, List.set_cons_zero]
        refine takeOp (i := 14) (v := ?_) (some 14) rfl rfl (by kernel_rfl) (by kernel_rfl) (by kernel_rfl) (fun _ _ _ h => h) (Or.inl ⟨by rfl, ?_⟩) (by assumption) ?_
        rotate_left 1
        · (intro w0 hSw; (try dsimp only at hSw); go_simp; try (with_reducible rfl))
        try simp only [Act.put, List.setIfInBounds_toArray, List.set_cons_succ, List.set_cons_zero]
        refine wpAnyH_done (by kernel_rfl) ?_ _
        go_wp2_with fail
        go_meet
        case rel => exact ⟨HV.out, U1.heap.size, q1, AR, q2, CR, ch, rfl, rfl, rfl, HLO.out, HM.out, HS.out⟩
      · go_simp
        obtain ⟨U1, hV⟩ : ∃ V', V' = U0.alloc (.cells #[.int .i64 0, .slice none 0 0] 56) := ⟨_, rfl⟩
        rw [← hV]
        have hx : Ext U0 U1 := by rw [hV]; exact (Ext.refl U0).alloc _
        have HM : Hid (Row U1 U0.heap.size 56 [.int .i64 0, .slice none 0 0]) := by show Row _ _ _ _; rw [hV]; exact Row.new U0 56 _
        have HLO : Hid (V3.heap.size ≤ U0.heap.size) := HV.out.size
        have HV := Lib.hid (Below.then HV.out hx.below HV.out.size)
        clear hx hV
        refine hK.out _ _ (HKU.out _ HV.out) (fun hHeld => ?_)
        clear hK K
        try simp only [Act.put, List.setIfInBounds_toArray, List.set_cons_succ, List.set_cons_zero]
        refine wpAnyH_ready (rs := [6]) (by kernel_rfl) (by simp) ?_
        refine (AllReadyH.cons rfl (fun K hK => ?_) AllReadyH.nil)
        go_simp
        refine (HUP.out U1 HV.out (fun x => (fun b => (P b ∧ b ≠ w.heap.size + 1) ∧ b ≠ bM) x ∧ x ≠ U0.heap.size) (fun b hb hp => ⟨hp, by have := HLO.out; omega⟩) (fun b hb => ⟨HPB.out b (Nat.le_trans HV.out.size hb), by have := HM.out.lt; omega⟩)).mono ?_
        rintro e U2 ⟨hb, q1, AR, q2, CR, ch, rfl, hs⟩
        have HM := Lib.hid (HM.out.up hb)
        have HS := Lib.hid hs
        have HV := Lib.hid (Below.then HV.out hb HV.out.size)
        clear hs hb
        go_wp2_with fail
        refine hK.out _ _ (HKU.out _ HV.out) (fun hHeld => ?_)
        clear hK K
        try simp only [Act.put, List.setIfInBounds_toArray, List.set_cons_succ, List.set_cons_zero]
        refine takeOp (i := 7) (v := ?_) (some 42) rfl rfl (by kernel_rfl) (by kernel_rfl) (by kernel_rfl) (fun _ _ _ h => h) (Or.inl ⟨by rfl, ?_⟩) (by assumption) ?_
        rotate_left 1
        · (intro w0 hSw; (try dsimp only at hSw); go_simp; try (with_reducible rfl))
        try simp only [Act.put, List.setIfInBounds_toArray, List.set_cons_succ, List.set_cons_zero]
        refine takeOp (i := 8) (v := ?_) (some 50) rfl rfl (by kernel_rfl) (by kernel_rfl) (by kernel_rfl) (fun _ _ _ h => h) (Or.inl ⟨by rfl, ?_⟩) (by assumption) ?_
        rotate_left 1
        · (intro w0 hSw; (try dsimp only at hSw); go_simp; try (with_reducible rfl))
        try simp only [Act.put, List.setIfInBounds_toArray, List.set_cons_succ, List.set_cons_zero]
        refine takeOp (i := 9) (v := ?_) (some 51) rfl rfl (by kernel_rfl) (by kernel_rfl) (by kernel_rfl) (fun _ _ _ h => h) (Or.inl ⟨by rfl, ?_⟩) (by assumption) ?_
        rotate_left 1
        · (intro w0 hSw; (try dsimp only at hSw); go_simp; try (with_reducible rfl))
        try simp only [Act.put, List.setIfInBounds_toArray, List.set_cons_succ, List.set_cons_zero]
        refine takeOp (i := 10) (v := ?_) (some 52) rfl rfl (by kernel_rfl) (by kernel_rfl) (by kernel_rfl) (fun _ _ _ h => h) (Or.inl ⟨by rfl, ?_⟩) (by assumption) ?_
        rotate_left 1
        · (intro w0 hSw; (try dsimp only at hSw); go_simp; try (with_reducible rfl))
        try simp only [Act.put, List.setIfInBounds_toArray, List.set_cons_succ, List.set_cons_zero]
        refine wpAnyH_ready (rs := [12]) (by kernel_rfl) (by simp) ?_
        refine (AllReadyH.cons rfl (fun K hK => ?_) AllReadyH.nil)
        have m0 := HM.out.cell 0
        have m1 := HM.out.cell 1
        have m2 := HM.out.frozen 0
        have m3 := HM.out.frozen 1
        have m4 := HM.out.lt
        simp only [List.getElem?_cons_zero, List.getElem?_cons_succ] at m0 m1
        go_simp
        obtain ⟨U3, hV⟩ : ∃ V', V' = (U2.setCell ⟨U0.heap.size, 0, none⟩ (.int .i64 q1)).setCell ⟨U0.heap.size, 1, none⟩ (.slice AR q2 CR) := ⟨_, rfl⟩
        rw [← hV]
        have HM : Hid (Row U3 U0.heap.size 56 [.int .i64 q1, .slice AR q2 CR]) := by show Row _ _ _ _; rw [hV]; exact HM.out.set2 _ _
        have HS : Hid (R.1 = 0 → q1 = (ks.length : Nat) ∧ q2 = R.2.1.length ∧ ch = R.2.2 ∧ q2 ≤ CR ∧ CR ≤ 9223372036854775807 ∧ SlRsP (fun b => (P b ∧ b ≠ w.heap.size + 1) ∧ b ≠ bM) U3.heap.size U3 AR R.2.1) := fun h => by
          obtain ⟨a1, a2, a3, a4, a5, a6⟩ := HS.out h
          refine ⟨a1, a2, a3, a4, a5, ?_⟩
          rw [hV]
          exact ((a6.stay (Stay.set (fun e => e.2 rfl) 0 _)).stay (Stay.set (fun e => e.2 rfl) 1 _)).weak fun _ _ hb => hb.1
        have HV : Hid (Below V3.heap.size V3 U3) := by show Below _ _ _; rw [hV]; exact (HV.out.setCell (by show V3.heap.size ≤ U0.heap.size; exact HLO.out) _).setCell (by show V3.heap.size ≤ U0.heap.size; exact HLO.out) _
        clear hV m0 m1 m2 m3 m4
        refine hK.out _ _ (HKU.out _ HV.out) (fun hHeld => ?_)
        clear hK K
        try simp only [Act.put, List.setIfInBounds_toArray, List.set_cons_succ, List.set_cons_zero]
        refine takeOp (i := 13) (v := ?_) (some 13) rfl rfl (by kernel_rfl) (by kernel_rfl) (by kernel_rfl) (fun _ _ _ h => h) (Or.inl ⟨by rfl, ?_⟩) (by assumption) ?_
        rotate_left 1
        · (intro w0 hSw; (try dsimp only at hSw); go_simp; try (with_reducible rfl))
        try simp only [Act.put, List.setIfInBounds_toArray, List.set_cons_succ, List.set_cons_zero]
        refine takeOp (i := 14) (v := ?_) (some 14) rfl rfl (by kernel_rfl) (by kernel_rfl) (by kernel_rfl) (fun _ _ _ h => h) (Or.inl ⟨by rfl, ?_⟩) (by assumption) ?_
        rotate_left 1
        · (intro w0 hSw; (try dsimp only at hSw); go_simp; try (with_reducible rfl))
        try simp only [Act.put, List.setIfInBounds_toArray, List.set_cons_succ, List.set_cons_zero]
        refine wpAnyH_done (by kernel_rfl) ?_ _
        go_wp2_with fail
        go_meet
        case rel => exact ⟨HV.out, U0.heap.size, q1, AR, q2, CR, ch, rfl, rfl, rfl, HLO.out, HM.out, HS.out⟩
    case rest =>
      obtain ⟨hbc, b12, n1, AR, n2, CR, ch, rfl, rfl, rfl, hlo, hrm, hsm⟩ := hcut
      have HBC := Lib.hid hbc
      have HRM := Lib.hid hrm
      have HSM := Lib.hid hsm
      have HBV := Lib.hid (Below.then HV3.out hbc HV3.out.size)
      have HBW := Lib.hid (Below.then HB.out (Below.then HV3.out hbc HV3.out.size) hzb)
      have HRG2 := Lib.hid (HRG.out.up (Below.then HV3.out hbc HV3.out.size))
      have hlt1 := (HE3.out.up hbc).lt
      have hlt2 := hrm.lt
      clear hbc hrm hsm
      by_cases he : R.1 = 0
      rotate_left
      · have hne : (R.1 != 0) = true := by simpa using he
        have HSE : Hid ((stepU S F' ⟨del, nm, x⟩).1 = R.1) := by
          show _ = _
          unfold stepU
          rw [if_pos HCE.out, if_neg (by rw [← HR.out]; exact he), ← HR.out]
        have HEE : Hid (R.1 ≠ 0) := he
        have g5 : wc.cell? ⟨w.heap.size + 1, 0, none⟩ = some (.map none) := HRG2.out.cell 0
        have g6 := HRG2.out.frozen 0
        have g7 := HRG2.out.lt
        clear he
        generalize R.1 = ce at *
        go_wp2_with fail
        obtain ⟨W9, hW9⟩ : ∃ W9, W9 = wc.setCell ⟨w.heap.size + 1, 0, none⟩ (.map none) := ⟨_, rfl⟩
        rw [← hW9]
        have q := HRG2.out.set 0 (.map none)
        rw [← hW9] at q
        have c9 := q.cell 0
        have hb9 : Below w.heap.size w W9 := by rw [hW9]; exact HBW.out.setCell (by show w.heap.size ≤ w.heap.size + 1; omega) _
        exact bodyPost_ret (v := .tuple #[.agg #[.map none], .int .i64 0, .int .i64 ce]) (by simp [results, Tryz.results19, go_sem, c9]) rfl (ApPost.err (HBAD.out ce HSE.out HEE.out) HEE.out hb9)
      obtain ⟨rfl, rfl, rfl, ha4, ha5, ha6⟩ := HSM.out he
      have HA := Lib.hid (And.intro ha4 (And.intro ha5 ha6))
      have HSE : Hid (stepU S F' ⟨del, nm, x⟩ = (0, if R.2.2 then updC F' nm R.2.1 else F', R.2.2)) := by
        show _ = _
        unfold stepU
        rw [if_pos HCE.out, if_pos (by rw [← HR.out]; exact he), ← HR.out]
      rw [he]
      have HRR : Hid (RowsOk ks.length R.2.1) := by show RowsOk _ _; rw [HR.out]; exact updF_ok HRO.out HWR.out
      clear he ha4 ha5 ha6 HSM HUP
      obtain ⟨rows, hrows⟩ : ∃ rows, rows = R.2.1 := ⟨_, rfl⟩
      obtain ⟨ch, hch⟩ : ∃ ch, ch = R.2.2 := ⟨_, rfl⟩
      rw [← hrows] at HA HSE HRM HRR
      rw [← hch] at HSE ⊢
      clear hrows hch
      cases ch
      · have HG := HGOOD.out (by rw [HSE.out])
        rw [HSE.out] at HG
        have HG2 : Hid (applyF S F 0 us = applyF S F' k (us.drop (i + 1))) := HG
        have HO2 := Lib.hid (map_up HO.out HBV.out)
        have HEN2 := Lib.hid (HEN.out.keep (Stay.of HBV.out))
        have HR72 := Lib.hid (HR7.out.up HBV.out)
        clear HG
        go_wp2_with fail
        go_roundw
        case rel => exact ⟨i + 1, k, D, F', hil, by omega, by go_num, rfl, HG2.out, HO2.out, HEN2.out, HRG2.out, HR72.out, HBW.out⟩
        case measure => simp [intOf]; omega
      · have HG := HGOOD.out (by rw [HSE.out])
        rw [HSE.out] at HG
        have HG2 : Hid (applyF S F 0 us = applyF S (updC F' nm rows) (k + 1) (us.drop (i + 1))) := HG
        clear HG
        have HKF : Hid (∀ V, Below wc.heap.size wc V → V.cell? ⟨b7, 0, none⟩ = some (.map (some bM)) ∧ V.cell? ⟨ub, uo + i * 3 + 1, none⟩ = some (.string nm) ∧ V.cell? ⟨V1.heap.size, 0, none⟩ = some (.slice KA ks.length KC) ∧ V.cell? ⟨b12, 0, none⟩ = some (.int .i64 (ks.length : Nat)) ∧ V.cell? ⟨b12, 1, none⟩ = some (.slice AR rows.length CR)) := fun V hb => by
          have h1 := HKP.out V (Below.then HBV.out hb HBV.out.size)
          exact ⟨h1.1, h1.2.2.1, (HE3.out.up (Below.then HBC.out hb HBC.out.size)).cell 0, (HRM.out.up hb).cell 0, (HRM.out.up hb).cell 1⟩
        have hwcz := HBV.out.size
        have hb7c : b7 < wc.heap.size := by omega
        have hubc : ub < wc.heap.size := by omega
        go_upto_region 14 with (fail)
        refine wp_region_held_drew (S := (fun w' => w'.cell? ⟨b7, 0, none⟩ = some (.map (some bM)) ∧ w'.cell? ⟨ub, uo + i * 3 + 1, none⟩ = some (.string nm) ∧ w'.cell? ⟨V1.heap.size, 0, none⟩ = some (.slice KA ks.length KC) ∧ w'.cell? ⟨b12, 0, none⟩ = some (.int .i64 (ks.length : Nat)) ∧ w'.cell? ⟨b12, 1, none⟩ = some (.slice AR rows.length CR))) (by kernel_rfl) (HKF.out wc (Below.refl _ _)) (fun hHeld => ?_)
        refine takeOp (i := 0) (v := ?_) (some 58) rfl rfl (by kernel_rfl) (by kernel_rfl) (by kernel_rfl) (fun _ _ _ h => h) (Or.inl ⟨by rfl, ?_⟩) (by assumption) ?_
        rotate_left 1
        · (intro w0 hSw; (try dsimp only at hSw); go_simp; try (with_reducible rfl))
        try simp only [Act.put, List.setIfInBounds_toArray, List.set_cons_succ, List.set_cons_zero]
        refine takeOp (i := 1) (v := ?_) (some 59) rfl rfl (by kernel_rfl) (by kernel_rfl) (by kernel_rfl) (fun _ _ _ h => h) (Or.inl ⟨by rfl, ?_⟩) (by assumption) ?_
        rotate_left 1
        · (intro w0 hSw; (try dsimp only at hSw); go_simp; try (with_reducible rfl))
        try simp only [Act.put, List.setIfInBounds_toArray, List.set_cons_succ, List.set_cons_zero]
        refine takeOp (i := 2) (v := ?_) (some 60) rfl rfl (by kernel_rfl) (by kernel_rfl) (by kernel_rfl) (fun _ _ _ h => h) (Or.inl ⟨by rfl, ?_⟩) (by assumption) ?_
        rotate_left 1
        · (intro w0 hSw; (try dsimp only at hSw); go_simp; try (with_reducible rfl))
        try simp only [Act.put, List.setIfInBounds_toArray, List.set_cons_succ, List.set_cons_zero]
        refine takeOp (i := 3) (v := ?_) (some 61) rfl rfl (by kernel_rfl) (by kernel_rfl) (by kernel_rfl) (fun _ _ _ h => h) (Or.inl ⟨by rfl, ?_⟩) (by assumption) ?_
        rotate_left 1
        · (intro w0 hSw; (try dsimp only at hSw); go_simp; try (with_reducible rfl))
        try simp only [Act.put, List.setIfInBounds_toArray, List.set_cons_succ, List.set_cons_zero]
        refine takeOp (i := 4) (v := ?_) (some 62) rfl rfl (by kernel_rfl) (by kernel_rfl) (by kernel_rfl) (fun _ _ _ h => h) (Or.inl ⟨by rfl, ?_⟩) (by assumption) ?_
        rotate_left 1
        · (intro w0 hSw; (try dsimp only at hSw); go_simp; try (with_reducible rfl))
        try simp only [Act.put, List.setIfInBounds_toArray, List.set_cons_succ, List.set_cons_zero]
        refine takeOp (i := 5) (v := ?_) (some 63) rfl rfl (by kernel_rfl) (by kernel_rfl) (by kernel_rfl) (fun _ _ _ h => h) (Or.inl ⟨by rfl, ?_⟩) (by assumption) ?_
        rotate_left 1
        · (intro w0 hSw; (try dsimp only at hSw); go_simp; try (with_reducible rfl))
        try simp only [Act.put, List.setIfInBounds_toArray, List.set_cons_succ, List.set_cons_zero]
        refine takeOp (i := 6) (v := ?_) (some 64) rfl rfl (by kernel_rfl) (by kernel_rfl) (by kernel_rfl) (fun _ _ _ h => h) (Or.inl ⟨by rfl, ?_⟩) (by assumption) ?_
        rotate_left 1
        · (intro w0 hSw; (try dsimp only at hSw); go_simp; try (with_reducible rfl))
        try simp only [Act.put, List.setIfInBounds_toArray, List.set_cons_succ, List.set_cons_zero]
        refine takeOp (i := 7) (v := ?_) (some 65) rfl rfl (by kernel_rfl) (by kernel_rfl) (by kernel_rfl) (fun _ _ _ h => h) (Or.inl ⟨by rfl, ?_⟩) (by assumption) ?_
        rotate_left 1
        · (intro w0 hSw; (try dsimp only at hSw); go_simp; try (with_reducible rfl))
        try simp only [Act.put, List.setIfInBounds_toArray, List.set_cons_succ, List.set_cons_zero]
        refine takeOp (i := 8) (v := ?_) (some 66) rfl rfl (by kernel_rfl) (by kernel_rfl) (by kernel_rfl) (fun _ _ _ h => h) (Or.inl ⟨by rfl, ?_⟩) (by assumption) ?_
        rotate_left 1
        · (intro w0 hSw; (try dsimp only at hSw); go_simp; try (with_reducible rfl))
        try simp only [Act.put, List.setIfInBounds_toArray, List.set_cons_succ, List.set_cons_zero]
        refine takeOp (i := 9) (v := ?_) (some 67) rfl rfl (by kernel_rfl) (by kernel_rfl) (by kernel_rfl) (fun _ _ _ h => h) (Or.inl ⟨by rfl, ?_⟩) (by assumption) ?_
        rotate_left 1
        · (intro w0 hSw; (try dsimp only at hSw); go_simp; try (with_reducible rfl))
        try simp only [Act.put, List.setIfInBounds_toArray, List.set_cons_succ, List.set_cons_zero]
        refine takeOp (i := 10) (v := ?_) (some 68) rfl rfl (by kernel_rfl) (by kernel_rfl) (by kernel_rfl) (fun _ _ _ h => h) (Or.inl ⟨by rfl, ?_⟩) (by assumption) ?_
        rotate_left 1
        · (intro w0 hSw; (try dsimp only at hSw); go_simp; try (with_reducible rfl))
        try simp only [Act.put, List.setIfInBounds_toArray, List.set_cons_succ, List.set_cons_zero]
        refine wpAnyH_ready (rs := [11]) (by kernel_rfl) (by simp) ?_
        refine AllReadyH.cons rfl (fun K hK => ?_) AllReadyH.nil
        refine stepUpd (w := wc.drew) rfl (.tmp 59) (.tmp 64) (.tmp 68) 26 rfl 9 99 keyedS Tryz.underlying26 bM (Maps.size D) D (by simp [Act.eval]) (map_up HO.out HBV.out.drew) (by rw [HEN.out.1]; have := HSL.out; simp only [maxLen]; omega) (.string nm) (.agg #[.slice KA ks.length KC, .int .i64 (ks.length : Nat), .slice AR rows.length CR]) (litS nm) (by simp [Act.eval]) (by simp [Act.eval]) (keyS HOK2.out.1) ?_
        intro V5 hown2 hg2
        have HG5 : Hid (wc.drew.grownBy V5 (some bM)) := hg2
        have HS5 : Hid (Stay (fun b => (P b ∧ b ≠ w.heap.size + 1) ∧ b ≠ bM) wc V5) := Stay.grown (w := wc.drew) hg2 (fun e => e.2 rfl)
        have HO5 := Lib.hid hown2
        have KEEP8 : V5.cell? ⟨b7, 0, none⟩ = some (.map (some bM)) ∧ V5.cell? ⟨ub, uo + i * 3 + 1, none⟩ = some (.string nm) ∧ V5.cell? ⟨V1.heap.size, 0, none⟩ = some (.slice KA ks.length KC) ∧ V5.cell? ⟨b12, 0, none⟩ = some (.int .i64 (ks.length : Nat)) ∧ V5.cell? ⟨b12, 1, none⟩ = some (.slice AR rows.length CR) := by
          have h1 := HKF.out wc (Below.refl _ _)
          have hV3z := HV3.out.size
          have c := fun (p : Addr) (hp : p.block < wc.heap.size) (hne : p.block ≠ bM) => World.cell?_of_block (HG5.out.block p.block hp (fun e => hne (by injection e)))
          have hubM : ub ≠ bM := by omega
          exact ⟨(c ⟨b7, 0, none⟩ hb7c (by show b7 ≠ bM; omega)).trans h1.1, (c ⟨ub, uo + i * 3 + 1, none⟩ hubc (by show ub ≠ bM; omega)).trans h1.2.1, (c ⟨V1.heap.size, 0, none⟩ hlt1 (by show V1.heap.size ≠ bM; omega)).trans h1.2.2.1, (c ⟨b12, 0, none⟩ hlt2 (by show b12 ≠ bM; omega)).trans h1.2.2.2.1, (c ⟨b12, 1, none⟩ hlt2 (by show b12 ≠ bM; omega)).trans h1.2.2.2.2⟩
        clear hown2 hg2
        refine hK.out _ _ KEEP8 (fun hHeld => ?_)
        clear hK K
        try simp only [Act.put]
        try simp only [List.setIfInBounds_toArray]
        try simp only [List.set_cons_succ]
        try simp only [List.set_cons_zero]
        refine wpAnyH_done (by kernel_rfl) ?_ _
        have HST5 : Hid (Stay (fun b => (P b ∧ b ≠ w.heap.size + 1) ∧ b ≠ bM) wo V5) := (Stay.of HBV.out).trans HS5.out
        have HEN5 : Hid (EntsM (fun b => (P b ∧ b ≠ w.heap.size + 1) ∧ b ≠ bM) S V5 (D.put (litS nm) (.held (.agg #[.slice KA ks.length KC, .int .i64 (ks.length : Nat), .slice AR rows.length CR]))) (updC F' nm rows)) :=
          EntsM.put HEN.out (HO.out.tidy keyedS) (List.mem_map.2 ⟨(nm, ks), HKS.out, rfl⟩) HST5.out fun ks' hk' => by
            obtain ⟨e1, e2⟩ := HKS2.out ks' hk'
            refine ⟨KA, KC, AR, CR, by rw [e1], by omega, e2.keep HST5.out, HA.out.1, HA.out.2.1, HA.out.2.2.stay HS5.out, by rw [e1]; exact HRR.out⟩
        have HRG5 : Hid (Row V5 (w.heap.size + 1) 28 [.map none]) := HRG2.out.drew.grown HG5.out (by intro e; injection e with e; omega)
        have HR75 : Hid (Row V5 b7 28 [.map (some bM)]) := (HR7.out.up HBV.out).drew.grown HG5.out (by intro e; injection e with e; omega)
        have HBW5 : Hid (Below w.heap.size w V5) := HBW.out.drew.grown HG5.out (by show w.heap.size ≤ wc.heap.size; omega) (fun k hk => by injection hk with hk; omega)
        go_wp2_with fail
        go_roundw
        case rel => exact ⟨i + 1, k + 1, _, updC F' nm rows, hil, by omega, by go_num, by go_num, HG2.out, map_tight HO5.out, HEN5.out, HRG5.out, HR75.out, HBW5.out⟩
        case measure => simp [intOf]; omega
end
section
open Go.RowKit Go.Sort Go.ChangeMaps Go.WideShapes

def sumL : Sch → Cont → (Lit → Bool) → Nat
  | [], _, _ => 0
  | q :: t, F, left => (if left (litS q.1) = true then (F q.1).length else 0) + sumL t F left
theorem sumL_none (F : Cont) (left : Lit → Bool) (h : ∀ k, left k = false) : ∀ S : Sch, sumL S F left = 0
  | [] => rfl
  | q :: t => by rw [sumL, sumL_none F left h t, h, if_neg (by decide)]
theorem strike_ne {s t : ByteArray} (h : s ≠ t) : (litS s).sameKey (litS t) = false := Maps.sameKey_ne (fun e => h (litS_inj e))
theorem sumL_congr (F : Cont) (left left' : Lit → Bool) : ∀ S : Sch, (∀ p ∈ S, left (litS p.1) = left' (litS p.1)) → sumL S F left = sumL S F left'
  | [], _ => rfl
  | q :: t, h => by rw [sumL, sumL, h q List.mem_cons_self, sumL_congr F left left' t fun p hp => h p (List.mem_cons_of_mem _ hp)]
theorem sumL_step : ∀ (S : Sch) (F : Cont) (left : Lit → Bool) (p : ByteArray × List Int), (S.map Prod.fst).Nodup → p ∈ S → left (litS p.1) = true → sumL S F left = (F p.1).length + sumL S F (fun z => left z && !z.sameKey (litS p.1))
  | q :: t, F, left, p, hn, hp, hl => by
    rw [List.map_cons, List.nodup_cons] at hn
    have hsame : (litS p.1).sameKey (litS p.1) = true := WideAt.sameKey_self (isKeyS _)
    rw [sumL, sumL]
    rcases List.mem_cons.1 hp with rfl | hp
    · have ht : sumL t F (fun z => left z && !z.sameKey (litS p.1)) = sumL t F left := sumL_congr F _ _ t fun r hr => by
        have hne : r.1 ≠ p.1 := fun e => hn.1 (by rw [← e]; exact List.mem_map.2 ⟨r, hr, rfl⟩)
        show (left (litS r.1) && !(litS r.1).sameKey (litS p.1)) = _
        rw [strike_ne hne]
        simp
      rw [ht, if_pos hl]
      show _ = (F p.1).length + ((if (left (litS p.1) && !(litS p.1).sameKey (litS p.1)) = true then _ else 0) + _)
      rw [hsame, if_neg (by simp), Nat.zero_add]
    · have ih := sumL_step t F left p hn.2 hp hl
      have hne : q.1 ≠ p.1 := fun e => hn.1 (by rw [e]; exact List.mem_map.2 ⟨p, hp, rfl⟩)
      show _ = (F p.1).length + ((if (left (litS q.1) && !(litS q.1).sameKey (litS p.1)) = true then (F q.1).length else 0) + _)
      rw [strike_ne hne, ih, Bool.not_false, Bool.and_true]
      omega
theorem sumL_le (F : Cont) (left : Lit → Bool) : ∀ S : Sch, (∀ p ∈ S, (F p.1).length ≤ 4096) → sumL S F left ≤ S.length * 4096
  | [], _ => Nat.zero_le _
  | q :: t, h => by
    have h1 := h q List.mem_cons_self
    have h2 := sumL_le F left t fun p hp => h p (List.mem_cons_of_mem _ hp)
    rw [sumL, List.length_cons]
    split <;> omega
theorem ranges_up {k : TypeId} {w w' : World} {b r n : Nat} {D : DataW Value} {left : Lit → Bool} {cnt : Nat} (h : w.ranges Tryz.prog k heldR b r n D left cnt) (hb : Below w.heap.size w w') : w'.ranges Tryz.prog k heldR b r n D left cnt := by
  have h1 := h.owns.lt
  have h2 := h.lt
  obtain ⟨es, clock, since, seen, c0, g1, F, hs, hD, g2, rest⟩ := h
  exact ⟨es, clock, since, seen, c0, (hb.block b h1).trans g1, F, hs, hD, (hb.block r h2).trans g2, rest⟩
def rowsF (S : Sch) (F : Cont) : Nat := sumL S F fun _ => true

set_option maxHeartbeats 4000000 in
theorem ctRows_any {P : Nat → Prop} {S : Sch} {m : Value} {F : Cont} (w : World) (hd : DbM P S w m F) (hnd : (S.map Prod.fst).Nodup) (hS : S.length ≤ 1000000) :
    Calls Tryz.prog 38 #[.agg #[m]] w fun e w' => e = .returned (.int .i64 (rowsF S F)) ∧ Below w.heap.size w w' := by
  obtain ⟨b, D, rfl, -, hown, hent⟩ := hd.ents
  obtain ⟨W0, hW0⟩ : ∃ W0, W0 = w.alloc (.cells #[.map (some b)] 28) := ⟨_, rfl⟩
  have hr1 : Row W0 w.heap.size 28 [.map (some b)] := by rw [hW0]; exact Row.new w 28 _
  have hx0 : Ext w W0 := by rw [hW0]; exact (Ext.refl w).alloc _
  have f0 : W0.cell? ⟨w.heap.size, 0, none⟩ = some (.map (some b)) := hr1.cell 0
  have z0 := hr1.lt
  have hml : ∀ p ∈ S, (F p.1).length ≤ 4096 := fun p hp => by
    obtain ⟨v, _, _, _, _, _, _, _, _, _, _, _, hro⟩ := hent.2.2 p hp
    exact hro.many
  have HSUM : Hid (∀ left, sumL S F left ≤ 4096000000) := fun left => by have := sumL_le F left S hml; omega
  have HENT := Lib.hid hent
  have HOW := Lib.hid (map_up hown hx0.below)
  have HX0 := Lib.hid hx0
  have HND := Lib.hid hnd
  have HTOT : Hid (sumL S F (Maps.has D) = rowsF S F) := sumL_congr F _ _ S fun p hp => by
    obtain ⟨v, g, _⟩ := hent.2.2 p hp
    exact Maps.has_true_of_atKey g
  clear hd hown hent hnd hr1 hx0 hml hS
  go_enter Tryz.func38, Tryz.ntmps38
  go_upto_region 1 with (fail)
  rw [← hW0]
  clear hW0
  go_wp2_with (first
    | (at_range; refine wpList_range_own _ rfl _ 26 rfl 9 99 keyedS Tryz.underlying26 heldR b (Maps.size D) D rfl HOW.out ?_; intro w0 hrg0 hg0 hs0)
    | fail)
  go_frame
  have HRG0 := Lib.hid hrg0
  have HB0 : Hid (Below w.heap.size w w0) := HX0.out.below.grown hg0 HX0.out.size (fun j hj => by cases hj)
  obtain ⟨r, hr⟩ : ∃ r, r = W0.heap.size := ⟨_, rfl⟩
  rw [← hr] at HRG0 ⊢
  have hrw : w.heap.size ≤ r := by rw [hr]; exact HX0.out.size
  clear hrg0 hg0 hs0 hr
  go_loopw [3] (fun c wx => ∃ (left : Lit → Bool) (cnt n : Nat), c = .int .i64 n ∧ n + sumL S F left = rowsF S F ∧ wx.ranges Tryz.prog 9 heldR b r (Maps.size D) D left cnt ∧ Below w.heap.size w wx) (fun _ wx => wx.rangeLeft b r)
  case atStart => exact ⟨_, _, 0, rfl, by rw [Nat.zero_add]; exact HTOT.out, HRG0.out, HB0.out⟩
  case round =>
    obtain ⟨left, cnt, n, rfl, hn, hrg, hb⟩ := hrel
    have HN := Lib.hid hn
    have HRG := Lib.hid hrg
    have HB := Lib.hid hb
    clear hn hb
    go_wp2_with (first
      | (at_next; refine wpList_next_ranges _ rfl _ rfl 9 keyedS heldR Value.string (fun v : Value => v) (fun key kl h => by obtain ⟨x, e⟩ := Maps.keyOf_string_inv Tryz.underlying9 h; exact ⟨x, e⟩) (fun v y _ => ⟨v, rfl⟩) b r (Maps.size D) D left cnt rfl HRG.out ?_ ?_)
      | fail)
    · intro hc0 hl0
      have HF : Hid (n = rowsF S F) := by have h := HN.out; rw [sumL_none F left hl0 S] at h; exact h
      clear hc0 hl0 hrg
      go_wp2_with fail
      exact bodyPost_ret (v := .int .i64 (n : Nat)) (by simp [results, Tryz.results38, go_sem]) rfl ⟨by rw [HF.out], HB.out⟩
    · intro nm c kl y ps w1 cnt1 hkey hlk hv hat hrg1 hlt hg1 hs1 hen
      have hy : y = .held c := by
        unfold heldR at hv
        injection hv with hv
        injection hv with hv
        exact hv.symm
      have hat2 : ∀ z, D.atKey kl z = .held c := fun z => (hat z).trans hy
      obtain ⟨p, hp, rfl⟩ := HENT.out.2.1 kl (Maps.has_true_of_atKey hat2)
      obtain ⟨val, hv1, KA, KC, A, C, rfl, -, -, -, -, -, -⟩ := HENT.out.2.2 p hp
      have hcv : DataW.held c = .held (.agg #[.slice KA p.2.length KC, .int .i64 (p.2.length : Nat), .slice A (F p.1).length C]) := (hat2 .nil).symm.trans (hv1 .nil)
      injection hcv with hcv
      subst hcv
      have HSTEP := Lib.hid (sumL_step S F left p HND.out hp hlk)
      have HSM := Lib.hid (HSUM.out left)
      have HSM2 := Lib.hid (HSUM.out (Maps.has D))
      have HRG1 := Lib.hid hrg1
      have HB1 : Hid (Below w.heap.size w w1) := HB.out.grown hg1 HB.out.size (fun j hj => by injection hj with hj; omega)
      have HLE := Lib.hid (HRG.out.left_eq)
      have hlt2 := hlt
      clear hkey hlk hv hat hrg1 hg1 hs1 hy hat2 hp hv1 hrg hlt
      generalize p.2.length = kn at *
      obtain ⟨L, hL⟩ : ∃ L, L = (F p.1).length := ⟨_, rfl⟩
      rw [← hL] at hen HSTEP ⊢
      clear hL
      obtain ⟨W2, hW2⟩ : ∃ W2, W2 = w1.alloc (.cells #[.slice KA kn KC, .int .i64 (kn : Nat), .slice A L C] 99) := ⟨_, rfl⟩
      have hx2 : Ext w1 W2 := by rw [hW2]; exact (Ext.refl w1).alloc _
      have hr2 : Row W2 w1.heap.size 99 [.slice KA kn KC, .int .i64 (kn : Nat), .slice A L C] := by rw [hW2]; exact Row.new w1 99 _
      have e1 : W2.cell? ⟨w1.heap.size, 1, none⟩ = some (.int .i64 (kn : Nat)) := hr2.cell 1
      have e2 : W2.cell? ⟨w1.heap.size, 2, none⟩ = some (.slice A L C) := hr2.cell 2
      have e3 := hr2.lt
      have hNN := HN.out
      have hTT := HTOT.out
      have hS1 := HSM2.out
      have hSS := HSTEP.out
      have hwr : IntKind.i64.wrap ((n : Int) + (L : Int)) = ((n + L : Nat) : Int) := by rw [IntWalk.i64_in _ ⟨by omega, by omega⟩]; omega
      have HN2 : Hid (n + L + sumL S F (fun z => left z && !z.sameKey (litS p.1)) = rowsF S F) := by show _ = _; omega
      have HX2 := Lib.hid hx2
      have HW2 := Lib.hid hW2
      clear hx2 hr2 hNN hTT hS1 hSS hW2
      go_upto_region 5 with (fail)
      rw [← HW2.out]
      clear hen HW2
      go_wp2_with fail
      refine (rlLen_any (kn : Nat) A L C W2).mono ?_
      rintro e w3 ⟨rfl, hx3⟩
      have HB13 := Lib.hid (Below.then HX2.out.below hx3.below HX2.out.size)
      clear hx3 e1 e2 e3
      go_wp2_with fail
      go_roundw
      case rel => exact ⟨_, cnt1, n + L, by go_num, HN2.out, ranges_up HRG1.out HB13.out, Below.then HB1.out HB13.out HB1.out.size⟩
      case measure => rw [(ranges_up HRG1.out HB13.out).left_eq, HLE.out]; exact hlt2
end
end Go.Proofs.YtdadchpiibipoaaGreatDoor
section
namespace Go.Proofs
open Go.Shelf
def YtdadchpiibipoaaGreatDoor.keysN_ren : Go.Shelf.Ren := ⟨fun | 7 => 77 | 10 => 102 | n => n, fun | 23 => 26 | 26 => 9 | 3 => 99 | 28 => 133 | 0 => 0 | 27 => 132 | 33 => 66 | 4 => 4 | n => n, fun | n => n⟩
theorem YtdadchpiibipoaaGreatDoor.keysN : Go.Proofs.SlLaysZ.n7 Tryz.prog YtdadchpiibipoaaGreatDoor.keysN_ren := {
  mixed := by kernel_rfl
  f7 := ⟨Tryz.f77.name, by decide, Tryz.func77.trans (congrArg some (by kernel_rfl))⟩
  f10 := ⟨Tryz.f102.name, by decide, Tryz.func102.trans (congrArg some (by kernel_rfl))⟩
  t0 := Tryz.underlying0
  a0 := Tryz.isAgg0
  z0 := Tryz.sizeOf0
  v0 := Tryz.zeroValue0
  t4 := Tryz.underlying4
  a4 := Tryz.isAgg4
  z4 := Tryz.sizeOf4
  v4 := Tryz.zeroValue4
  t23 := Tryz.underlying26
  a23 := Tryz.isAgg26
  z23 := Tryz.sizeOf26
  v23 := Tryz.zeroValue26
  t26 := Tryz.underlying9
  a26 := Tryz.isAgg9
  z26 := Tryz.sizeOf9
  v26 := Tryz.zeroValue9
  t27 := Tryz.underlying132
  a27 := Tryz.isAgg132
  z27 := Tryz.sizeOf132
  v27 := Tryz.zeroValue132
  t28 := Tryz.underlying133
  a28 := Tryz.isAgg133
  z28 := Tryz.sizeOf133
  v28 := Tryz.zeroValue133
  t33 := Tryz.underlying66
  a33 := Tryz.isAgg66
  z33 := Tryz.sizeOf66
  v33 := Tryz.zeroValue66 }
def YtdadchpiibipoaaGreatDoor.sortedN_ren : Go.Shelf.Ren := ⟨fun | 6 => 76 | 8 => 100 | 9 => 101 | 11 => 117 | 13 => 119 | 12 => 118 | 23 => 151 | 24 => 138 | 14 => 142 | 15 => 143 | 16 => 144 | 17 => 145 | 18 => 146 | 19 => 147 | 20 => 148 | 21 => 149 | 22 => 150 | 25 => 168 | 26 => 169 | 27 => 170 | 28 => 171 | 29 => 172 | 30 => 173 | 31 => 188 | n => n, fun | 26 => 9 | 28 => 133 | 24 => 34 | 0 => 0 | 3 => 3 | 37 => 154 | 48 => 187 | 50 => 167 | 4 => 4 | 40 => 191 | 39 => 190 | 45 => 59 | 5 => 5 | 9 => 9 | 51 => 209 | 55 => 213 | 57 => 223 | 58 => 224 | 33 => 66 | n => n, fun | n => n⟩
theorem YtdadchpiibipoaaGreatDoor.sortedN : Go.Proofs.SlLaysZ.n6 Tryz.prog YtdadchpiibipoaaGreatDoor.sortedN_ren := {
  mixed := by kernel_rfl
  f6 := ⟨Tryz.f76.name, by decide, Tryz.func76.trans (congrArg some (by kernel_rfl))⟩
  f8 := ⟨Tryz.f100.name, by decide, Tryz.func100.trans (congrArg some (by kernel_rfl))⟩
  f11 := ⟨Tryz.f117.name, by decide, Tryz.func117.trans (congrArg some (by kernel_rfl))⟩
  t0 := Tryz.underlying0
  a0 := Tryz.isAgg0
  z0 := Tryz.sizeOf0
  v0 := Tryz.zeroValue0
  t24 := Tryz.underlying34
  a24 := Tryz.isAgg34
  z24 := Tryz.sizeOf34
  v24 := Tryz.zeroValue34
  t26 := Tryz.underlying9
  a26 := Tryz.isAgg9
  z26 := Tryz.sizeOf9
  v26 := Tryz.zeroValue9
  t28 := Tryz.underlying133
  a28 := Tryz.isAgg133
  z28 := Tryz.sizeOf133
  v28 := Tryz.zeroValue133
  i26 := by kernel_rfl }
def YtdadchpiibipoaaGreatDoor.sortN_ren : Go.Shelf.Ren := ⟨fun | 6 => 101 | 8 => 119 | 9 => 118 | 19 => 151 | 20 => 138 | 21 => 142 | 22 => 143 | 23 => 144 | 24 => 145 | 25 => 146 | 26 => 147 | 27 => 148 | 28 => 149 | 29 => 150 | 36 => 168 | 31 => 169 | 32 => 170 | 37 => 171 | 38 => 172 | 39 => 173 | 41 => 188 | n => n, fun | 27 => 34 | 29 => 9 | 3 => 3 | 32 => 154 | 26 => 34 | 0 => 0 | 44 => 187 | 46 => 167 | 4 => 4 | 36 => 191 | 35 => 190 | 41 => 59 | 5 => 5 | 9 => 9 | 53 => 209 | 57 => 213 | 63 => 223 | 64 => 224 | n => n, fun | n => n⟩
theorem YtdadchpiibipoaaGreatDoor.sortN : Go.Proofs.SlLaysM.n6 Tryz.prog YtdadchpiibipoaaGreatDoor.sortN_ren := {
  mixed := by kernel_rfl
  f6 := ⟨Tryz.f101.name, by decide, Tryz.func101.trans (congrArg some (by kernel_rfl))⟩
  f8 := Tryz.func119.trans (congrArg some (by kernel_rfl))
  f9 := ⟨Tryz.f118.name, by decide, Tryz.func118.trans (congrArg some (by kernel_rfl))⟩
  f19 := Tryz.func151.trans (congrArg some (by kernel_rfl))
  f20 := Tryz.func138.trans (congrArg some (by kernel_rfl))
  f21 := ⟨Tryz.f142.name, by decide, Tryz.func142.trans (congrArg some (by kernel_rfl))⟩
  f22 := ⟨Tryz.f143.name, by decide, Tryz.func143.trans (congrArg some (by kernel_rfl))⟩
  f23 := ⟨Tryz.f144.name, by decide, Tryz.func144.trans (congrArg some (by kernel_rfl))⟩
  f24 := ⟨Tryz.f145.name, by decide, Tryz.func145.trans (congrArg some (by kernel_rfl))⟩
  f25 := ⟨Tryz.f146.name, by decide, Tryz.func146.trans (congrArg some (by kernel_rfl))⟩
  f26 := ⟨Tryz.f147.name, by decide, Tryz.func147.trans (congrArg some (by kernel_rfl))⟩
  f27 := ⟨Tryz.f148.name, by decide, Tryz.func148.trans (congrArg some (by kernel_rfl))⟩
  f28 := ⟨Tryz.f149.name, by decide, Tryz.func149.trans (congrArg some (by kernel_rfl))⟩
  f29 := ⟨Tryz.f150.name, by decide, Tryz.func150.trans (congrArg some (by kernel_rfl))⟩
  f31 := Tryz.func169.trans (congrArg some (by kernel_rfl))
  f32 := Tryz.func170.trans (congrArg some (by kernel_rfl))
  f36 := ⟨Tryz.f168.name, by decide, Tryz.func168.trans (congrArg some (by kernel_rfl))⟩
  f37 := ⟨Tryz.f171.name, by decide, Tryz.func171.trans (congrArg some (by kernel_rfl))⟩
  f38 := ⟨Tryz.f172.name, by decide, Tryz.func172.trans (congrArg some (by kernel_rfl))⟩
  f39 := ⟨Tryz.f173.name, by decide, Tryz.func173.trans (congrArg some (by kernel_rfl))⟩
  f41 := ⟨Tryz.f188.name, by decide, Tryz.func188.trans (congrArg some (by kernel_rfl))⟩
  t0 := Tryz.underlying0
  a0 := Tryz.isAgg0
  z0 := Tryz.sizeOf0
  v0 := Tryz.zeroValue0
  t3 := Tryz.underlying3
  a3 := Tryz.isAgg3
  z3 := Tryz.sizeOf3
  v3 := Tryz.zeroValue3
  t4 := Tryz.underlying4
  a4 := Tryz.isAgg4
  z4 := Tryz.sizeOf4
  v4 := Tryz.zeroValue4
  t5 := Tryz.underlying5
  a5 := Tryz.isAgg5
  z5 := Tryz.sizeOf5
  v5 := Tryz.zeroValue5
  t9 := Tryz.underlying9
  a9 := Tryz.isAgg9
  z9 := Tryz.sizeOf9
  v9 := Tryz.zeroValue9
  t26 := Tryz.underlying34
  a26 := Tryz.isAgg34
  z26 := Tryz.sizeOf34
  v26 := Tryz.zeroValue34
  t27 := Tryz.underlying34
  a27 := Tryz.isAgg34
  z27 := Tryz.sizeOf34
  v27 := Tryz.zeroValue34
  t29 := Tryz.underlying9
  a29 := Tryz.isAgg9
  z29 := Tryz.sizeOf9
  v29 := Tryz.zeroValue9
  t32 := Tryz.underlying154
  a32 := Tryz.isAgg154
  z32 := Tryz.sizeOf154
  v32 := Tryz.zeroValue154
  t35 := Tryz.underlying190
  a35 := Tryz.isAgg190
  z35 := Tryz.sizeOf190
  v35 := Tryz.zeroValue190
  t36 := Tryz.underlying191
  a36 := Tryz.isAgg191
  z36 := Tryz.sizeOf191
  v36 := Tryz.zeroValue191
  t41 := Tryz.underlying59
  a41 := Tryz.isAgg59
  z41 := Tryz.sizeOf59
  v41 := Tryz.zeroValue59
  t44 := Tryz.underlying187
  a44 := Tryz.isAgg187
  z44 := Tryz.sizeOf187
  v44 := Tryz.zeroValue187
  t46 := Tryz.underlying167
  a46 := Tryz.isAgg167
  z46 := Tryz.sizeOf167
  v46 := Tryz.zeroValue167
  t53 := Tryz.underlying209
  a53 := Tryz.isAgg209
  z53 := Tryz.sizeOf209
  v53 := Tryz.zeroValue209
  t57 := Tryz.underlying213
  a57 := Tryz.isAgg213
  z57 := Tryz.sizeOf213
  v57 := Tryz.zeroValue213
  t63 := Tryz.underlying223
  a63 := Tryz.isAgg223
  z63 := Tryz.sizeOf223
  v63 := Tryz.zeroValue223
  t64 := Tryz.underlying224
  a64 := Tryz.isAgg224
  z64 := Tryz.sizeOf224
  v64 := Tryz.zeroValue224 }
end Go.Proofs
end
namespace Go.Proofs.YtdadchpiibipoaaGreatDoor
end Go.Proofs.YtdadchpiibipoaaGreatDoor
section
namespace Go.Proofs
open Go.RowKit Go.Maps Go.Sort Go.Shelf

theorem YtdadchpiibipoaaGreatDoor.sortsN (m : Nat) : AnyZ.SortsIn Tryz.prog YtdadchpiibipoaaGreatDoor.sortedN_ren Fence.wide m :=
  ⟨fun blk off cap ss W hH hblk hsz => callsIn_wide.2 (AnyM.slices_Sort_string YtdadchpiibipoaaGreatDoor.sortN blk off cap ss W hH hblk hsz),
   fun p cap W => callsIn_wide.2 (AnyM.slices_Sort_string_none YtdadchpiibipoaaGreatDoor.sortN p cap W)⟩

set_option maxHeartbeats 2000000 in
theorem YtdadchpiibipoaaGreatDoor.namesD (b nn : Nat) (D0 : DataW Value) (R : Value → Option (DataW Value × List MemPlace)) (w : World) (hown : w.ownsMap Tryz.prog 9 R b nn D0) (hmax : Maps.size D0 ≤ maxLen) (hbytes : Maps.size D0 * 16 ≤ 140737488355328) :
    Calls Tryz.prog 45 #[.agg #[.map (some b)]] w fun e w' => ∃ (v : Value) (ss : List (List UInt8)), e = .returned v ∧ ss.Perm (strKeys D0) ∧
      w'.ownsRow w.heap.size 9 1 v ss.length ((ss.mergeSort (fun x y => decide (x ≤ y))).map encStr) ∧ (v = .slice none 0 0 ↔ ss = []) ∧ Below w.heap.size w w' := by
  refine (callsIn_wide (n := 6)).1 ?_
  have hbl := hown.lt
  obtain ⟨W0, hW0⟩ : ∃ W0, W0 = w.alloc (.cells #[.map (some b)] 28) := ⟨_, rfl⟩
  have hb0 : Below w.heap.size w W0 := by rw [hW0]; exact (Below.refl _ w).alloc (Nat.le_refl _) _
  have hseq : SeqGives Fence.wide 2 Tryz.prog 102 #[.pointer (some ⟨W0.heap.size, 0, none⟩)] encStr (fun ss => ss.Perm (strKeys D0)) (Maps.size D0) (W0.alloc (.cells #[.map (some b)] 26)) :=
    AnyZ.keys_gives (ρ := YtdadchpiibipoaaGreatDoor.keysN_ren) { YtdadchpiibipoaaGreatDoor.keysN with } Fence.wide _ trivial rfl (by have := hb0.size; omega) W0.heap.size b nn D0 _ (by simp) (by simp) (by
      obtain ⟨es, clock, hb, Ft, hs, hD⟩ := hown
      exact ⟨es, clock, (Below.heap_alloc _ _ b (Nat.lt_of_lt_of_le hbl hb0.size)).trans ((hb0.block b hbl).trans hb), Ft, hs, hD⟩)
  have cK : ∀ mb W, CallsIn Fence.wide 5 Tryz.prog 77 #[.map mb] W fun e w' => e = .returned (.func (.func 102) #[] #[.pointer (some ⟨W.heap.size, 0, none⟩)]) ∧ w' = W.alloc (.cells #[.map mb] 26) := fun mb W => AnyZ.keys_in YtdadchpiibipoaaGreatDoor.keysN Fence.wide 5 trivial rfl mb W
  have cS := AnyZ.sorted_in YtdadchpiibipoaaGreatDoor.sortedN Fence.wide 5 trivial trivial trivial trivial rfl (by omega) (YtdadchpiibipoaaGreatDoor.sortsN _) (enters_of Tryz.func101 (by kernel_rfl) rfl) 102 #[.pointer (some ⟨W0.heap.size, 0, none⟩)] trivial (enters_of Tryz.func102 (by kernel_rfl) rfl) _ _ hmax hbytes _ hseq
  change CallsIn _ _ Tryz.prog 76 _ _ _ at cS
  have HW0 := Lib.hid hW0
  clear hW0
  have hfK : Fence.wide.fn 77 := trivial
  have hfS : Fence.wide.fn 76 := trivial
  refine callsIn_of_wp Tryz.func45 rfl trivial ?_ rfl
  simp only [Tryz.ntmps45, List.size_toArray, List.length_cons, List.length_nil, Nat.reduceAdd, Nat.reduceSub, Array.replicate_succ, Array.replicate_zero, List.push_toArray, List.append_toArray, List.nil_append, List.cons_append]
  gi_wp2_with (first
    | (gi_at_call 77; rw [← HW0.out]; refine (cK _ _).mono ?_; rintro e w' ⟨rfl, rfl⟩)
    | (gi_at_call 76; go_loud (refine cS.mono ?_); rintro e w' ⟨v, ss, rfl, hS, hrow, hnil, hb⟩))
  go_ret
  exact ⟨v, ss, rfl, hS, ownsRow_base_a hrow (by have := hb0.size; simp; omega), hnil, (hb0.trans ((Below.refl _ W0).alloc (Nat.le_refl _) _ |>.mono hb0.size)).trans (hb.mono (by have := hb0.size; simp; omega))⟩

end Go.Proofs
namespace Go.Proofs.YtdadchpiibipoaaGreatDoor
open Go.RowKit Go.Sort Go.ChangeMaps Go.WideShapes

end Go.Proofs.YtdadchpiibipoaaGreatDoor
end
namespace Go.Proofs.YtdadchpiibipoaaGreatDoor
section
open Go.RowKit Go.Sort Go.ChangeMaps Go.WideShapes

theorem cmpL_lt : ∀ (x y : List UInt8), RL.cmpL RL.cmpB x y < 0 ↔ x < y
  | [], [] => by simp [RL.cmpL]
  | [], b :: y => by simp [RL.cmpL]
  | a :: x, [] => by simp [RL.cmpL]
  | a :: x, b :: y => by
    rw [List.cons_lt_cons_iff]
    unfold RL.cmpL
    split
    · rename_i h
      have e := (RL.tot_cmpB.z a b).1 h
      subst e
      rw [cmpL_lt x y]
      simp
    · rename_i h
      unfold RL.cmpB at h ⊢
      split
      · rename_i h1; simp [h1]
      · rename_i h1
        split
        · rename_i h2
          constructor
          · intro h3; omega
          · rintro (h3 | ⟨h3, -⟩)
            · exact absurd h3 h1
            · subst h3; exact absurd h2 h1
        · rename_i h2; rw [if_neg h1, if_neg h2] at h; exact absurd rfl h
def NamesOf (S : Sch) (ns : List ByteArray) : Prop := ns.Perm (S.map Prod.fst) ∧ ns.Pairwise (fun a b => RL.cmpS a b < 0)
theorem NamesOf.eq {S : Sch} {ns ms : List ByteArray} (h : NamesOf S ns) (k : NamesOf S ms) : ns = ms :=
  (h.1.trans k.1.symm).eq_of_pairwise (fun a b _ _ h1 h2 => absurd h2 (by have := RL.tot_cmpS.sw a b; omega)) h.2 k.2
theorem ctNames2_any {P : Nat → Prop} {S : Sch} {w : World} {m : Value} {F : Cont} (hd : DbM P S w m F) (hnd : (S.map Prod.fst).Nodup) (hSl : S.length ≤ 1000) :
    Calls Tryz.prog 45 #[.agg #[m]] w fun e w' => ∃ A C, ∃ ns : List ByteArray, e = .returned (.slice A ns.length C) ∧ NamesOf S ns ∧ Sl w'.heap.size w' A (ns.map Value.string) ∧ (∀ ad, A = some ad → w.heap.size ≤ ad.block) ∧ Below w.heap.size w w' := by
  obtain ⟨b, D, rfl, -, hown, hsz, hk1, hk2⟩ := hd
  refine (YtdadchpiibipoaaGreatDoor.namesD b _ D heldR w hown (by rw [hsz]; simp only [maxLen]; omega) (by rw [hsz]; omega)).mono ?_
  rintro e w' ⟨v, ss, rfl, hp, hrow, -, hb⟩
  obtain ⟨es, rfl, hpw, hkl⟩ := hown.entries keyedS
  have hks : ∀ p ∈ es, ∃ x, p.1 = .string x := fun p hp => by
    have : Maps.has (.map es) p.1 = true := List.any_eq_true.2 ⟨p, hp, WideAt.sameKey_self (hkl p hp)⟩
    obtain ⟨x, _, e⟩ := hk1 _ this
    exact ⟨_, e⟩
  have hinj : ∀ a b : ByteArray, a.data.toList = b.data.toList → a = b := fun a b h => by
    have := congrArg (fun l : List UInt8 => (⟨l.toArray⟩ : ByteArray)) h
    exact ByteArray.ext (by simpa using this)
  have hnd2 : (S.map fun p => p.1.data.toList).Nodup := List.pairwise_map.2 ((List.pairwise_map.1 hnd).imp fun hne e => hne (hinj _ _ e))
  have hm : ∀ x, x ∈ (S.map fun p => p.1.data.toList) ↔ Maps.has (.map es) (.string x) = true := fun x => by
    rw [List.mem_map]
    constructor
    · rintro ⟨p, hp, rfl⟩
      obtain ⟨val, g, -⟩ := hk2 p hp
      exact Maps.has_true_of_atKey g
    · intro h
      obtain ⟨p, hp, e⟩ := hk1 _ h
      injection e with e
      exact ⟨p, hp, e.symm⟩
  have hq : ss.Perm (S.map fun p => p.1.data.toList) := hp.trans (perm_strKeys hpw hks hnd2 hm).symm
  have hms := List.mergeSort_perm ss (fun x y => decide (x ≤ y))
  have hsorted : (ss.mergeSort (fun x y => decide (x ≤ y))).Pairwise (fun x y => x < y) := by
    have h1 : (ss.mergeSort (fun x y => decide (x ≤ y))).Pairwise (fun x y => decide (x ≤ y) = true) := List.pairwise_mergeSort (le := fun x y : List UInt8 => decide (x ≤ y)) (fun a b c h1 h2 => decide_eq_true (List.le_trans (of_decide_eq_true h1) (of_decide_eq_true h2))) (fun a b => by
      rcases List.le_total a b with h | h
      · exact Bool.or_eq_true_iff.2 (Or.inl (decide_eq_true h))
      · exact Bool.or_eq_true_iff.2 (Or.inr (decide_eq_true h))) ss
    have h2 : (ss.mergeSort (fun x y => decide (x ≤ y))).Nodup := (hms.trans hq).nodup_iff.2 hnd2
    exact (h1.and h2).imp fun {a b} ⟨q1, q2⟩ => by
      have q1 := of_decide_eq_true q1
      rcases Classical.em (a < b) with h | h
      · exact h
      · exact absurd (List.le_antisymm q1 (List.not_lt.1 h)) q2
  have hof : ∀ ad, v = .slice (some ad) ss.length 0 → True := fun _ _ => trivial
  obtain ⟨A, C, rfl, -, -, hs⟩ := Sl.of_own hrow
  have hbase : ∀ ad, A = some ad → w.heap.size ≤ ad.block := fun ad had => own_base hrow (k := ad.block) (by rw [had]; rfl)
  refine ⟨A, C, (ss.mergeSort (fun x y => decide (x ≤ y))).map fun l => (⟨l.toArray⟩ : ByteArray), by simp [List.length_mergeSort], ⟨?_, ?_⟩, ?_, hbase, hb⟩
  · have h1 := ((hms.trans hq).map fun l => (⟨l.toArray⟩ : ByteArray))
    have e : ((S.map fun p => p.1.data.toList).map fun l => (⟨l.toArray⟩ : ByteArray)) = S.map Prod.fst := by
      rw [List.map_map]
      exact List.map_congr_left fun p _ => by simp
    rw [e] at h1
    exact h1
  · refine List.pairwise_map.2 (hsorted.imp fun h => ?_)
    unfold RL.cmpS
    rw [RL.compareBytes_eq]
    exact (cmpL_lt _ _).2 h
  · rw [List.map_map]
    exact hs
end
section
def relW : List UInt8 := [114, 101, 108, 97, 116, 105, 111, 110, 32]
def kindW (k : Int) : List UInt8 := if k = 1 then [32, 105, 110, 116] else [32, 115, 116, 114]
def rowsW (X : List RL.R) : List UInt8 := X.flatMap fun x => textR x ++ [10]
def textRel (nm : ByteArray) (ks : List Int) (X : List RL.R) : List UInt8 := relW ++ (nm.data.toList ++ (ks.flatMap kindW ++ (10 :: rowsW X)))
def kindsOf (S : Sch) (nm : ByteArray) : List Int := match S.find? (fun p => decide (p.1 = nm)) with
  | some p => p.2
  | none => []
def textD (S : Sch) (F : Cont) (ns : List ByteArray) : List UInt8 := ns.flatMap fun nm => textRel nm (kindsOf S nm) (F nm)

structure Rd where
  line : Nat
  S : Sch
  F : Cont
  X : List RL.R
def closeRd (r : Rd) : Rd := match r.S.getLast? with
  | none => r
  | some p => { r with F := updC r.F p.1 r.X, X := [] }
def kindP (w : ByteArray) : Option Int := if w = ⟨#[105, 110, 116]⟩ then some 1 else if w = ⟨#[115, 116, 114]⟩ then some 2 else none
def kindsP : List ByteArray → Option (List Int)
  | [] => some []
  | w :: t => match kindP w with
    | none => none
    | some k => (kindsP t).map (k :: ·)
def wordsP (l : List UInt8) : List ByteArray := Lib.splitB ⟨#[32]⟩ 0 (Lib.countB (toB l) ⟨#[32]⟩) (toB l)
def relRd (r0 : Rd) (text : List UInt8) : Int × Rd :=
  let r := closeRd r0
  let ws := wordsP text
  let nm := ws.headD ⟨#[]⟩
  match kindsP (ws.drop 1) with
  | none => (15, r)
  | some ks =>
    let S' := r.S ++ [(nm, ks)]
    if errS S' ≠ 0 then (errS S', r) else
    if (match r.S.getLast? with | none => false | some p => decide (0 ≤ RL.cmpS p.1 nm)) then (16, r) else (0, { r with S := S' })
def rowRd (r : Rd) (text : List UInt8) : Int × Rd :=
  match parseR text with
  | none => (15, r)
  | some x =>
    let nm := (r.S.getLastD (⟨#[]⟩, [])).1
    if checkF r.S nm x ≠ 0 then (checkF r.S nm x, r) else
    if 4096 ≤ r.X.length then (11, r) else
    if (match r.X.getLast? with | none => false | some y => decide (0 ≤ RL.cmpR y x)) then (16, r) else (0, { r with X := r.X ++ [x] })
def lineRd (r : Rd) (text : List UInt8) (ended : Bool) : Int × Rd :=
  if ended && Lib.hasPrefix text relW then relRd { r with line := r.line + 1 } (text.drop 9)
  else if ended && Lib.hasPrefix text [40] && !r.S.isEmpty then rowRd { r with line := r.line + 1 } text
  else (15, { r with line := r.line + 1 })
def parseGo : Nat → Rd → List UInt8 → Int × Rd
  | 0, r, _ => (15, r)
  | f + 1, r, s => if s = [] then (0, closeRd r) else
    if (lineRd r (Lib.cut s [10]).1 (Lib.cut s [10]).2.2).1 = 0 then parseGo f (lineRd r (Lib.cut s [10]).1 (Lib.cut s [10]).2.2).2 (Lib.cut s [10]).2.1
    else lineRd r (Lib.cut s [10]).1 (Lib.cut s [10]).2.2
def Rd.zero : Rd := ⟨0, [], fun _ => [], []⟩
def parseD (s : List UInt8) : Int × Rd := if 65536 < s.length then (13, Rd.zero) else parseGo (s.length + 1) Rd.zero s
end
section
open Go.RowKit Go.Sort Go.ChangeMaps Go.WideShapes

def fewU (u : Upd) : Bool := decide (u.row.length ≤ 20) && decide (u.rel.size ≤ 100)
def fewB (us : List Upd) : Bool := (us.take 60).all fewU && decide (us.length ≤ 60)
theorem fewB_iff {us : List Upd} : fewB us = true ↔ us.length ≤ 60 ∧ ∀ u ∈ us, u.row.length ≤ 20 ∧ u.rel.size ≤ 100 := by
  unfold fewB
  rw [Bool.and_eq_true, decide_eq_true_eq, List.all_eq_true]
  constructor
  · rintro ⟨h1, h2⟩
    rw [List.take_of_length_le h2] at h1
    exact ⟨h2, fun u hu => by have := h1 u hu; unfold fewU at this; rw [Bool.and_eq_true, decide_eq_true_eq, decide_eq_true_eq] at this; exact this⟩
  · rintro ⟨h1, h2⟩
    rw [List.take_of_length_le h1]
    exact ⟨fun u hu => by unfold fewU; rw [Bool.and_eq_true, decide_eq_true_eq, decide_eq_true_eq]; exact h2 u hu, h1⟩
theorem all_take_succ {α : Type} (p : α → Bool) (l : List α) (k : Nat) (h : k < l.length) : (l.take (k + 1)).all p = ((l.take k).all p && p l[k]) := by
  rw [List.take_succ_eq_append_getElem h, List.all_append]
  simp
theorem all_bad {α : Type} (p : α → Bool) (l : List α) (k n : Nat) (h : k < l.length) (hn : k < n) (hb : p l[k] = false) : (l.take n).all p = false := by
  rw [List.all_eq_false]
  refine ⟨l[k], ?_, by rw [hb]; decide⟩
  rw [List.mem_iff_getElem]
  exact ⟨k, by rw [List.length_take]; omega, by rw [List.getElem_take]⟩

theorem UpdsM.below {B C : Nat} {w w' : World} {A : Option Addr} {us : List Upd} (h : UpdsM B w A us) (hb : Below C w w') (hC : B ≤ C) : UpdsM B w' A us := fun hn => by
  obtain ⟨b, o, e, hlt, hc⟩ := h hn
  exact ⟨b, o, e, hlt, fun i hi => by
    obtain ⟨RA, RC, g0, g1, g2, g3⟩ := hc i hi
    have hb' : b < C := Nat.lt_of_lt_of_le hlt hC
    exact ⟨RA, RC, (hb.cell hb').trans g0, (hb.cell hb').trans g1, (hb.cell hb').trans g2, g3.below hb hC⟩⟩
theorem UpdsM.more {B B' : Nat} {w : World} {A : Option Addr} {us : List Upd} (h : UpdsM B w A us) (hB : B ≤ B') : UpdsM B' w A us := fun hn => by
  obtain ⟨b, o, e, hlt, hc⟩ := h hn
  exact ⟨b, o, e, Nat.lt_of_lt_of_le hlt hB, fun i hi => by
    obtain ⟨RA, RC, g0, g1, g2, g3⟩ := hc i hi
    exact ⟨RA, RC, g0, g1, g2, g3.more hB⟩⟩
end
section
open Go.RowKit Go.Sort Go.ChangeMaps Go.WideShapes

theorem SlIP.sl {P : Nat → Prop} {w : World} {A : Option Addr} {ks : List Int} (h : SlIP P w A ks) : SlI .i64 w.heap.size w A ks := fun hn => by
  obtain ⟨b, o, e, hb, _, hc⟩ := h (by intro h0; subst h0; exact hn rfl)
  exact ⟨b, o, e, hb, hc⟩
end
section
open Go.RowKit Go.Sort Go.ChangeMaps Go.WideShapes

structure UpdCs (B : Nat) (w : World) (us : List Upd) (cs : List Value) : Prop where
  len : cs.length = us.length * 3
  one : ∀ u ∈ cs, u.oneCell' = true
  at_ : ∀ i (h : i < us.length), ∃ RA RC, cs[i * 3]? = some (.bool us[i].del) ∧ cs[i * 3 + 1]? = some (.string us[i].rel) ∧ cs[i * 3 + 2]? = some (.slice RA us[i].row.length RC) ∧ SlR B w RA us[i].row
theorem UpdCs.one1 {B : Nat} {w : World} (u : Upd) (RA : Option Addr) (RC : Nat) (h : SlR B w RA u.row) : UpdCs B w [u] [.bool u.del, .string u.rel, .slice RA u.row.length RC] := by
  refine ⟨rfl, fun x hx => ?_, fun i hi => ?_⟩
  · simp at hx
    rcases hx with rfl | rfl | rfl <;> rfl
  · obtain rfl : i = 0 := by simp at hi; exact hi
    exact ⟨RA, RC, rfl, rfl, rfl, h⟩
theorem UpdsM.of_cs {B : Nat} {w : World} {A : Option Addr} {us : List Upd} {cs : List Value} (h : UpdCs B w us cs) (hs : Sl B w A cs) : UpdsM B w A us := fun hn => by
  have hpos : 0 < us.length := List.length_pos_iff.2 hn
  have hl := h.len
  obtain ⟨b, o, rfl, hb, hc⟩ := hs (fun h0 => by rw [h0] at hl; simp only [List.length_nil] at hl; omega)
  exact ⟨b, o, rfl, hb, fun i hi => by
    obtain ⟨RA, RC, c0, c1, c2, c3⟩ := h.at_ i hi
    exact ⟨RA, RC, hc _ _ c0, by rw [Nat.add_assoc]; exact hc _ _ c1, by rw [Nat.add_assoc]; exact hc _ _ c2, c3⟩⟩
end
section
open Go.RowKit Go.Sort Go.ChangeMaps Go.WideShapes

-- snapshot.New of the zero database
theorem SchsM.more {B B' : Nat} {w : World} {A : Option Addr} {X : Sch} (h : SchsM B w A X) (hB : B ≤ B') : SchsM B' w A X := fun hn => by
  obtain ⟨b, o, e, hlt, hc⟩ := h hn
  exact ⟨b, o, e, Nat.lt_of_lt_of_le hlt hB, fun i hi => by
    obtain ⟨KA, KC, g0, g1, g2⟩ := hc i hi
    exact ⟨KA, KC, g0, g1, Sl.more g2 hB⟩⟩
end
section
open Go.RowKit Go.Sort Go.ChangeMaps Go.WideShapes

def ContOk (S : Sch) (F : Cont) : Prop := ∀ p ∈ S, RL.SS (F p.1) ∧ (F p.1).length ≤ 4096 ∧ ∀ x ∈ F p.1, checkF S p.1 x = 0
theorem ContOk.zero {S : Sch} : ContOk S (fun _ => []) := fun _ _ => ⟨RL.ss_nil, Nat.zero_le _, fun x hx => by cases hx⟩
theorem updC_self (F : Cont) (nm : ByteArray) (X : List RL.R) : updC F nm X nm = X := if_pos rfl
theorem updC_ne (F : Cont) {nm s : ByteArray} (X : List RL.R) (h : s ≠ nm) : updC F nm X s = F s := if_neg h
theorem ContOk.step {S : Sch} {F : Cont} (h : ContOk S F) (u : Upd) : ContOk S (stepU S F u).2.1 := by
  unfold stepU
  by_cases h0 : checkF S u.rel u.row = 0
  · rw [if_pos h0]
    by_cases h1 : (updF u.del (F u.rel) u.row).1 = 0
    · rw [if_pos h1]
      show ContOk S (if (updF u.del (F u.rel) u.row).2.2 = true then updC F u.rel (updF u.del (F u.rel) u.row).2.1 else F)
      split
      · intro p hp
        by_cases e : p.1 = u.rel
        · obtain ⟨a, b, c⟩ := h p hp
          rw [e] at a b c
          rw [e, updC_self]
          unfold updF at h1 ⊢
          by_cases hd : u.del = true
          · rw [if_pos hd]
            exact ⟨a.del _, Nat.le_trans (List.length_filter_le _ _) b, fun x hx => c x ((RL.mem_delF _ _ _).1 hx).1⟩
          · rw [if_neg hd] at h1 ⊢
            by_cases hf : 4096 ≤ (F u.rel).length
            · rw [if_pos hf] at h1 ⊢
              by_cases hm : u.row ∈ F u.rel
              · rw [if_pos hm]; exact ⟨a, b, c⟩
              · rw [if_neg hm]; exact ⟨a, b, c⟩
            · rw [if_neg hf]
              refine ⟨a.ins _, by have := RL.insF_length_le (F u.rel) u.row; show (RL.insF (F u.rel) u.row).length ≤ 4096; omega, fun x hx => ?_⟩
              rcases (RL.mem_insF _ _ _).1 hx with hx | hx
              · exact c x hx
              · rw [hx]; exact h0
        · rw [updC_ne _ _ e]
          exact h p hp
      · exact h
    · rw [if_neg h1]; exact h
  · rw [if_neg h0]; exact h
theorem step_del {S : Sch} {H : Cont} {nm : ByteArray} {x : RL.R} (hc : checkF S nm x = 0) (hx : x ∈ H nm) : stepU S H ⟨true, nm, x⟩ = (0, updC H nm (RL.delF (H nm) x), true) := by
  unfold stepU updF
  simp only [hc, if_true, decide_eq_true hx]
theorem step_ins {S : Sch} {H : Cont} {nm : ByteArray} {x : RL.R} (hc : checkF S nm x = 0) (hx : x ∉ H nm) (hl : (H nm).length < 4096) : stepU S H ⟨false, nm, x⟩ = (0, updC H nm (RL.insF (H nm) x), true) := by
  have h4 : ¬ 4096 ≤ (H nm).length := by omega
  unfold stepU updF
  simp only [hc, if_true, decide_eq_false hx, Bool.false_eq_true, if_false, if_neg h4, Bool.not_false]
end
end Go.Proofs.YtdadchpiibipoaaGreatDoor

import Derived.Test.YtfiegiifoekfmaaW5
import Derived.Test.YtfiegiifoekfmaaJRer
import Derived.Deep.LoopGhost
namespace Go.Proofs.Ytfiegiifoekfmaa
open Go.RowKit

theorem own_form {w : World} {base : Nat} {e : TypeId} {v : Value} {n : Nat} {xs : List Value} (h : w.ownsRow base e 1 v n xs) (hn : 0 < n) :
    ∃ g cap, v = .slice (some ⟨g, 0, none⟩) n cap ∧ base ≤ g ∧ g < w.heap.size ∧ n ≤ cap ∧ w.ownsRow base e 1 (.slice (some ⟨g, 0, none⟩) n cap) n xs := by
  have h0 := h
  rcases h.2 with ⟨rfl, h0⟩ | ⟨g, cap, cur, rfl, hg, hh, hnc, _⟩
  · omega
  · refine ⟨g, cap, rfl, hg, ?_, hnc, h0⟩
    rcases Nat.lt_or_ge g w.heap.size with hlt | hge
    · exact hlt
    · rw [Array.getElem?_eq_none hge] at hh; cases hh

theorem own_cell {w : World} {base : Nat} {e : TypeId} {n g cap : Nat} {xs : List Value} (h : w.ownsRow base e 1 (.slice (some ⟨g, 0, none⟩) n cap) n xs) {j : Nat} (hj : j < xs.length) : w.cell? ⟨g, j, none⟩ = some xs[j] := by
  rw [h.cellAt j (by rw [← h.1]; exact hj), List.getElem?_eq_getElem hj]

set_option maxHeartbeats 400000 in
theorem jtOrder_ok (PA : Option Addr) (PC : Nat) (ps : List Int) (w : World) (hp : SlI .i64 w.heap.size w PA ps) (hpl : ps.length ≤ 1000000) (hr : JT.rootedB ps = true) :
    Calls Try.prog 18 #[.agg #[.slice PA ps.length PC]] w fun e w' => ∃ A c, e = .returned (.tuple #[.slice A (JT.orderF ps).length c, .int .i64 0]) ∧ Sl w'.heap.size w' A (natV (JT.orderF ps)) ∧ Below w.heap.size w w' := by
  have HP : Hid (∀ o, SlI .i64 (w.alloc o).heap.size (w.alloc o) PA ps) := fun o => (hp.alloc (Nat.le_refl _) o).more (by simp)
  have HV := Lib.hid (JT.rooted_parts hr).1
  have HR := Lib.hid hr
  clear hp hr
  go_enter Try.func18, Try.ntmps18
  go_wp2_with fail
  refine (rooted_any PA PC ps _ (HP.out _) hpl).mono ?_
  rw [HR.out]
  rintro e w1 ⟨rfl, hb1⟩
  have hc1 : w1.cell? ⟨w.heap.size, 0, none⟩ = some (.slice PA ps.length PC) := (hb1.cell (p := ⟨w.heap.size, 0, none⟩) (by simp)).trans (by go_simp)
  have HP1 := Lib.hid ((HP.out _).below hb1 (Nat.le_refl _))
  have hbw := Below.box hb1 (by simp)
  have hsz := hb1.size
  clear hb1 HP
  go_wp2_with fail
  refine (order_sl PA PC ps _ (HP1.out.more hsz) hpl HV.out).mono ?_
  rintro e w2 ⟨A, c, rfl, hs, hb2⟩
  have HS := Lib.hid hs
  have hbw2 := Below.then hbw hb2 hbw.size
  clear hs hb2 hbw
  go_wp2
  go_ret2
  exact ⟨_, _, rfl, HS.out, hbw2⟩

set_option maxHeartbeats 400000 in
theorem jtOrder_bad (PA : Option Addr) (PC : Nat) (ps : List Int) (w : World) (hp : SlI .i64 w.heap.size w PA ps) (hpl : ps.length ≤ 1000000) (hr : JT.rootedB ps = false) :
    Calls Try.prog 18 #[.agg #[.slice PA ps.length PC]] w fun e w' => e = .returned (.tuple #[.slice none 0 0, .int .i64 15]) ∧ Below w.heap.size w w' := by
  have HP : Hid (∀ o, SlI .i64 (w.alloc o).heap.size (w.alloc o) PA ps) := fun o => (hp.alloc (Nat.le_refl _) o).more (by simp)
  have HR := Lib.hid hr
  clear hp hr
  go_enter Try.func18, Try.ntmps18
  go_wp2_with fail
  refine (rooted_any PA PC ps _ (HP.out _) hpl).mono ?_
  rw [HR.out]
  rintro e w1 ⟨rfl, hb1⟩
  have hbw := Below.box hb1 (by simp)
  clear hb1 HP
  go_wp2
  go_ret2
  exact ⟨rfl, hbw⟩

set_option maxHeartbeats 1000000 in
set_option maxRecDepth 100000 in
theorem jtReroot_ok (PA : Option Addr) (PC : Nat) (ps : List Int) (root : Nat) (w : World) (hp : SlI .i64 w.heap.size w PA ps) (hpl : ps.length ≤ 1000000) (hr : JT.rootedB ps = true) (hroot : root < ps.length) :
    Calls Try.prog 26 #[.agg #[.slice PA ps.length PC], .int .i64 root] w fun e w' => ∃ A c, e = .returned (.tuple #[.agg #[.slice A ps.length c], .int .i64 0]) ∧ (JT.rerootF ps root).length = ps.length ∧ SlI .i64 w'.heap.size w' A (JT.rerootF ps root) ∧ (∀ ad : Addr, A = some ad → w.heap.size ≤ ad.block) ∧ Below w.heap.size w w' := by
  have HP : Hid (∀ o1 o2, SlI .i64 ((w.alloc o1).alloc o2).heap.size ((w.alloc o1).alloc o2) PA ps) := fun o1 o2 => ((hp.alloc (Nat.le_refl _) o1).alloc (by simp) o2).more (by simp; omega)
  obtain ⟨hv, _, hup⟩ := JT.rooted_parts hr
  have HV := Lib.hid hv
  have HR := Lib.hid hr
  have HUP := Lib.hid (hup root hroot)
  have HW := Lib.hid hp
  clear hp hr hv hup
  go_enter Try.func26, Try.ntmps26
  go_wp2_with fail
  refine (rooted_any PA PC ps _ (HP.out _ _) hpl).mono ?_
  rw [HR.out]
  rintro e w1 ⟨rfl, hb1⟩
  have hc1 : w1.cell? ⟨w.heap.size, 0, none⟩ = some (.slice PA ps.length PC) := (hb1.cell (p := ⟨w.heap.size, 0, none⟩) (by simp; omega)).trans (by go_simp)
  have hc2 : w1.cell? ⟨w.heap.size + 1, 0, none⟩ = some (.slice none 0 0) := (hb1.cell (p := ⟨w.heap.size + 1, 0, none⟩) (by simp)).trans (by go_simp)
  have hf2 : w1.frozen? ⟨w.heap.size + 1, 0, none⟩ = false := (hb1.frozen (p := ⟨w.heap.size + 1, 0, none⟩) (by simp)).trans (by go_simp)
  have HP1 := Lib.hid ((HP.out _ _).below hb1 (Nat.le_refl _))
  have hbw := Below.box2 hb1 (by simp; omega)
  have hsz : w.heap.size + 2 ≤ w1.heap.size := by have := hb1.size; simp at this; omega
  have HPs := Lib.hid (HP1.out.more (show _ ≤ w1.heap.size by simp; omega))
  clear hb1 HP HP1
  go_wp2_with fail
  refine (cloneInt_any PA PC ps _ HPs.out hpl).mono ?_
  rintro e w2 ⟨v, rfl, hown, hb2⟩
  obtain ⟨g, cap, rfl, hg1, hg2, hncap, hown⟩ := own_form hown (by omega)
  have hd1 := (hb2.cell (p := ⟨w.heap.size, 0, none⟩) (by show w.heap.size < _; omega)).trans hc1
  have hd2 := (hb2.cell (p := ⟨w.heap.size + 1, 0, none⟩) (by show w.heap.size + 1 < _; omega)).trans hc2
  have hdf2 := (hb2.frozen (p := ⟨w.heap.size + 1, 0, none⟩) (by show w.heap.size + 1 < _; omega)).trans hf2
  have hbw2 := Below.then hbw hb2 hbw.size
  have hsz2 := hb2.size
  have HO := Lib.hid hown
  clear hbw hb2 hc1 hc2 hf2 hown HPs
  go_wp2
  go_loopg [7, 8] ps.length (fun gk a f wr => ∃ (av ab : Int) (out : List Int), a = .int .i64 av ∧ f = .int .i64 ab ∧ -1 ≤ av ∧ av < ps.length ∧ -1 ≤ ab ∧ ab < ps.length ∧ JT.up ps gk av < 0 ∧ JT.rerootGo ps gk av ab out = JT.rerootF ps root ∧ out.length = ps.length ∧ wr.ownsRow (w.heap.size + 2) 3 1 (.slice (some ⟨g, 0, none⟩) ps.length cap) ps.length (out.map (Value.int .i64)) ∧ Below w.heap.size w wr ∧ w2.heap.size < wr.heap.size ∧ wr.cell? ⟨w.heap.size, 0, none⟩ = some (.slice PA ps.length PC) ∧ wr.cell? ⟨w.heap.size + 1, 0, none⟩ = some (.slice none 0 0) ∧ wr.frozen? ⟨w.heap.size + 1, 0, none⟩ = false ∧ wr.cell? ⟨w2.heap.size, 0, none⟩ = some (.slice (some ⟨g, 0, none⟩) ps.length cap))
  case atStart => exact ⟨root, -1, ps, rfl, rfl, by omega, by omega, by omega, by omega, HUP.out, rfl, rfl, own_weaken (HO.out.alloc _) (by omega), hbw2.alloc (by omega) _, by simp, old_cell _ _ (by show w.heap.size < _; omega) hd1, old_cell _ _ (by show w.heap.size + 1 < _; omega) hd2, old_frozen _ _ (by show w.heap.size + 1 < _; omega) hdf2, by go_simp⟩
  case round =>
    clear hd1 hd2 hdf2 HO hbw2
    obtain ⟨av, ab, out, rfl, rfl, ha1, ha2, hb1, hb2, hup, hgo, hol, hown, hb, hwz, hc1, hc2, hf2, hc3⟩ := hrel
    have HO := Lib.hid hown
    have HU := Lib.hid hup
    have HGO := Lib.hid hgo
    have HOL := Lib.hid hol
    clear hown hup hgo hol
    by_cases hneg : av < 0
    · have hout : out = JT.rerootF ps root := by rw [← HGO.out, JT.rerootGo_neg hneg]
      have HOUT := Lib.hid hout
      clear hout
      go_wp2
      refine bodyPost_ret (v := .tuple #[.agg #[.slice (some ⟨g, 0, none⟩) ps.length cap], .int .i64 0]) (by simp [results, Try.results26, go_sem, World.cell?_setCell_same _ _ _ hc2]) rfl ⟨_, _, rfl, by rw [← HOUT.out]; exact HOL.out, ?_, (fun ad h => by injection h with h; subst h; show w.heap.size ≤ g; omega), hb.setCell (by simp) _⟩
      rw [← HOUT.out]
      obtain ⟨A, c, e, _, _, hs⟩ := Sl.of_own (ownsRow_setCell_below HO.out (a := ⟨w.heap.size + 1, 0, none⟩) (by show w.heap.size + 1 < _; omega) (.slice (some ⟨g, 0, none⟩) ps.length cap))
      injection e with e1 e2 e3
      subst e1
      exact hs
    · obtain ⟨q, rfl⟩ := Int.eq_ofNat_of_zero_le (show 0 ≤ av by omega)
      have hq : q < ps.length := by omega
      obtain ⟨b, o, rfl, hbb, hc⟩ := slI_at (HW.out.below hb (Nat.le_refl _)) hq
      obtain ⟨gk', rfl, hup'⟩ := JT.up_pos HU.out hq
      have hgo' := HGO.out
      rw [JT.rerootGo_step hq] at hgo'
      have hvq := HV.out ps[q] (List.getElem_mem hq)
      have hqo : q < out.length := by rw [HOL.out]; exact hq
      have hcq := own_cell HO.out (j := q) (by simpa using hqo)
      have hfq := HO.out.frozenAt q
      have HST := Lib.hid (HO.out.stored q (.int .i64 ab))
      have HU' := Lib.hid hup'
      have HGO' := Lib.hid hgo'
      rw [List.getElem_map] at hcq
      generalize ps[q] = p at *
      generalize out[q] = oq at *
      clear hup' hgo' HU HGO
      go_wp2
      go_roundg gk'
      case measure => omega
      case rel =>
        refine ⟨p, q, out.set q ab, rfl, rfl, by omega, by omega, by omega, by omega, HU'.out, HGO'.out, by rw [List.length_set]; exact HOL.out, ?_, hb.setCell (by show w.heap.size ≤ g; omega) _, by simp [World.setCell]; exact hwz, ?_, ?_, ?_, ?_⟩
        · rw [List.map_set]; exact HST.out.1
        · exact far_cell (by show g ≠ w.heap.size; omega) hc1
        · exact far_cell (by show g ≠ w.heap.size + 1; omega) hc2
        · rw [World.frozen?_setCell]; exact hf2
        · exact far_cell (by show g ≠ w2.heap.size; omega) hc3

set_option maxHeartbeats 1000000 in
theorem jtReroot_bad (PA : Option Addr) (PC : Nat) (ps : List Int) (root : Int) (w : World) (hp : SlI .i64 w.heap.size w PA ps) (hpl : ps.length ≤ 1000000) (hr : JT.rootedB ps = false) :
    Calls Try.prog 26 #[.agg #[.slice PA ps.length PC], .int .i64 root] w fun e w' => e = .returned (.tuple #[.agg #[.slice none 0 0], .int .i64 15]) ∧ Below w.heap.size w w' := by
  have HP : Hid (∀ o1 o2, SlI .i64 ((w.alloc o1).alloc o2).heap.size ((w.alloc o1).alloc o2) PA ps) := fun o1 o2 => ((hp.alloc (Nat.le_refl _) o1).alloc (by simp) o2).more (by simp; omega)
  have HR := Lib.hid hr
  clear hp hr
  go_enter Try.func26, Try.ntmps26
  go_wp2_with fail
  refine (rooted_any PA PC ps _ (HP.out _ _) hpl).mono ?_
  rw [HR.out]
  rintro e w1 ⟨rfl, hb1⟩
  have hc2 : w1.cell? ⟨w.heap.size + 1, 0, none⟩ = some (.slice none 0 0) := (hb1.cell (p := ⟨w.heap.size + 1, 0, none⟩) (by simp)).trans (by go_simp)
  have hf2 : w1.frozen? ⟨w.heap.size + 1, 0, none⟩ = false := (hb1.frozen (p := ⟨w.heap.size + 1, 0, none⟩) (by simp)).trans (by go_simp)
  have hbw := Below.box2 hb1 (by simp; omega)
  clear hb1 HP
  go_wp2
  exact bodyPost_ret (v := .tuple #[.agg #[.slice none 0 0], .int .i64 15]) (by simp [results, Try.results26, go_sem, World.cell?_setCell_same _ _ _ hc2]) rfl ⟨rfl, hbw.setCell (by simp) _⟩

set_option maxHeartbeats 1000000 in
theorem jtReroot_range (PA : Option Addr) (PC : Nat) (ps : List Int) (root : Int) (w : World) (hp : SlI .i64 w.heap.size w PA ps) (hpl : ps.length ≤ 1000000) (hr : JT.rootedB ps = true) (hroot : root < 0 ∨ (ps.length : Int) ≤ root) :
    Calls Try.prog 26 #[.agg #[.slice PA ps.length PC], .int .i64 root] w fun e w' => e = .returned (.tuple #[.agg #[.slice none 0 0], .int .i64 3]) ∧ Below w.heap.size w w' := by
  have HP : Hid (∀ o1 o2, SlI .i64 ((w.alloc o1).alloc o2).heap.size ((w.alloc o1).alloc o2) PA ps) := fun o1 o2 => ((hp.alloc (Nat.le_refl _) o1).alloc (by simp) o2).more (by simp; omega)
  have HR := Lib.hid hr
  clear hp hr
  go_enter Try.func26, Try.ntmps26
  go_wp2_with fail
  refine (rooted_any PA PC ps _ (HP.out _ _) hpl).mono ?_
  rw [HR.out]
  rintro e w1 ⟨rfl, hb1⟩
  have hc1 : w1.cell? ⟨w.heap.size, 0, none⟩ = some (.slice PA ps.length PC) := (hb1.cell (p := ⟨w.heap.size, 0, none⟩) (by simp; omega)).trans (by go_simp)
  have hc2 : w1.cell? ⟨w.heap.size + 1, 0, none⟩ = some (.slice none 0 0) := (hb1.cell (p := ⟨w.heap.size + 1, 0, none⟩) (by simp)).trans (by go_simp)
  have hf2 : w1.frozen? ⟨w.heap.size + 1, 0, none⟩ = false := (hb1.frozen (p := ⟨w.heap.size + 1, 0, none⟩) (by simp)).trans (by go_simp)
  have hbw := Below.box2 hb1 (by simp; omega)
  clear hb1 HP
  rcases hroot with hroot | hroot
  · go_wp2
    exact bodyPost_ret (v := .tuple #[.agg #[.slice none 0 0], .int .i64 3]) (by simp [results, Try.results26, go_sem, World.cell?_setCell_same _ _ _ hc2]) rfl ⟨rfl, hbw.setCell (by simp) _⟩
  · have h0 : ¬ root < 0 := by omega
    go_wp2
    exact bodyPost_ret (v := .tuple #[.agg #[.slice none 0 0], .int .i64 3]) (by simp [results, Try.results26, go_sem, World.cell?_setCell_same _ _ _ hc2]) rfl ⟨rfl, hbw.setCell (by simp) _⟩

end Go.Proofs.Ytfiegiifoekfmaa

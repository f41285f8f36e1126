import Derived.Test.YtfiegiifoekfmaaW13
import Derived.Test.YtfiegiifoekfmaaJSound
namespace Go.Proofs.Ytfiegiifoekfmaa
open Go.RowKit

theorem stepCells_at (S : List JT.Stp) {k : Nat} (hk : k < S.length) : (stepCells S)[k * 3]? = some (.int .i64 (S[k].1 : Int)) ∧ (stepCells S)[k * 3 + 1]? = some (.int .i64 S[k].2.1) ∧ (stepCells S)[k * 3 + 2]? = some (.int .i64 S[k].2.2) := by
  induction S generalizing k with
  | nil => simp at hk
  | cons a S ih =>
    have e : stepCells (a :: S) = [.int .i64 (a.1 : Int), .int .i64 a.2.1, .int .i64 a.2.2] ++ stepCells S := rfl
    cases k with
    | zero => rw [e]; exact ⟨rfl, rfl, rfl⟩
    | succ k =>
      have := ih (k := k) (by simpa using hk)
      rw [e]
      refine ⟨?_, ?_, ?_⟩
      · rw [List.getElem?_append_right (by simp; omega)]; simpa [show (k + 1) * 3 - 3 = k * 3 by omega] using this.1
      · rw [List.getElem?_append_right (by simp; omega)]; simpa [show (k + 1) * 3 + 1 - 3 = k * 3 + 1 by omega] using this.2.1
      · rw [List.getElem?_append_right (by simp; omega)]; simpa [show (k + 1) * 3 + 2 - 3 = k * 3 + 2 by omega] using this.2.2

set_option maxHeartbeats 1000000 in
theorem build_err (N : Int) (EA : Option Addr) (EC : Nat) (es : List Nat) (w : World)
   (hE : SlN .u32 w.heap.size w EA es) (hu : JT.U32 es) (hel : es.length ≤ 1000000) (hk : JT.hgCheckF N es ≠ 0) :
    Calls Try.prog 16 #[.agg #[.int .i64 N, .slice EA es.length EC]] w fun r w' => r = .returned (.tuple #[.agg #[.slice none 0 0], .int .i64 (JT.hgCheckF N es)]) ∧ Below w.heap.size w w' := by
  have HE : Hid (∀ o1 o2, SlN .u32 ((w.alloc o1).alloc o2).heap.size ((w.alloc o1).alloc o2) EA es) := fun o1 o2 => ((hE.alloc (Nat.le_refl _) o1).alloc (by simp) o2).more (by simp; omega)
  have HU := Lib.hid hu
  have hs : (JT.hgCheckF N es != 0) = true := by simpa using hk
  clear hE hu hk
  go_enter Try.func16, Try.ntmps16
  go_wp2_with fail
  refine (hgCheck_any N EA EC es _ (HE.out _ _) HU.out hel).mono ?_
  rintro e w1 ⟨rfl, hb1⟩
  have hc2 : w1.cell? ⟨w.heap.size + 1, 0, none⟩ = some (.slice none 0 0) := (hb1.cell (p := ⟨w.heap.size + 1, 0, none⟩) (by simp)).trans (by go_simp)
  have hf2 : w1.frozen? ⟨w.heap.size + 1, 0, none⟩ = false := (hb1.frozen (p := ⟨w.heap.size + 1, 0, none⟩) (by simp)).trans (by go_simp)
  have hbw := Below.box2 hb1 (by simp; omega)
  clear hb1 HE
  generalize hq : JT.hgCheckF N es = q at *
  have HQ := Lib.hid hq
  clear hq
  go_wp2
  exact bodyPost_ret (v := .tuple #[.agg #[.slice none 0 0], .int .i64 q]) (by simp [results, Try.results16, go_sem, World.cell?_setCell_same _ _ _ hc2]) rfl ⟨by rw [HQ.out], hbw.setCell (by simp) _⟩

set_option maxHeartbeats 1000000 in
theorem build_empty (N : Int) (EA : Option Addr) (EC : Nat) (w : World) (hk : JT.hgCheckF N [] = 0) :
    Calls Try.prog 16 #[.agg #[.int .i64 N, .slice EA 0 EC]] w fun r w' => r = .returned (.tuple #[.agg #[.slice none 0 0], .int .i64 10]) ∧ Below w.heap.size w w' := by
  have HK := Lib.hid hk
  clear hk
  go_enter Try.func16, Try.ntmps16
  go_wp2_with fail
  refine (hgCheck_any N EA EC [] _ Sl.nil (by simp [U32s]) (by simp)).mono ?_
  rw [HK.out]
  rintro e w1 ⟨rfl, hb1⟩
  have hc1 : w1.cell? ⟨w.heap.size, 1, none⟩ = some (.slice EA 0 EC) := (hb1.cell (p := ⟨w.heap.size, 1, none⟩) (by simp; omega)).trans (by go_simp)
  have hc2 : w1.cell? ⟨w.heap.size + 1, 0, none⟩ = some (.slice none 0 0) := (hb1.cell (p := ⟨w.heap.size + 1, 0, none⟩) (by simp)).trans (by go_simp)
  have hf2 : w1.frozen? ⟨w.heap.size + 1, 0, none⟩ = false := (hb1.frozen (p := ⟨w.heap.size + 1, 0, none⟩) (by simp)).trans (by go_simp)
  have hbw := Below.box2 hb1 (by simp; omega)
  clear hb1
  go_wp2
  exact bodyPost_ret (v := .tuple #[.agg #[.slice none 0 0], .int .i64 10]) (by simp [results, Try.results16, go_sem, World.cell?_setCell_same _ _ _ hc2]) rfl ⟨rfl, hbw.setCell (by simp) _⟩

set_option maxHeartbeats 1000000 in
theorem build_cyc (n : Nat) (EA : Option Addr) (EC : Nat) (es : List Nat) (w : World)
   (hE : SlN .u32 w.heap.size w EA es) (hu : JT.U32 es) (hk : JT.hgCheckF n es = 0) (hm : 0 < es.length) (hz : ((JT.reduceF n es).rest.all fun z => z == 0) = false) :
    Calls Try.prog 16 #[.agg #[.int .i64 n, .slice EA es.length EC]] w fun r w' => r = .returned (.tuple #[.agg #[.slice none 0 0], .int .i64 24]) ∧ Below w.heap.size w w' := by
  obtain ⟨n', hn0, hn32, hm64, -⟩ := JT.hgCheckF_zero hk
  have hel : es.length ≤ 1000000 := by omega
  have HE : Hid (∀ o1 o2, SlN .u32 ((w.alloc o1).alloc o2).heap.size ((w.alloc o1).alloc o2) EA es) := fun o1 o2 => ((hE.alloc (Nat.le_refl _) o1).alloc (by simp) o2).more (by simp; omega)
  have HU := Lib.hid hu
  have HK := Lib.hid hk
  have HZ := Lib.hid hz
  have hs0 : ((es.length : Int) == 0) = false := beq_eq_false_iff_ne.2 (by omega)
  clear hE hu hk hz hn0
  go_enter Try.func16, Try.ntmps16
  go_wp2_with fail
  refine (hgCheck_any n EA EC es _ (HE.out _ _) HU.out hel).mono ?_
  rw [HK.out]
  rintro e w1 ⟨rfl, hb1⟩
  have hc0 : w1.cell? ⟨w.heap.size, 0, none⟩ = some (.int .i64 n) := (hb1.cell (p := ⟨w.heap.size, 0, none⟩) (by simp; omega)).trans (by go_simp)
  have hc1 : w1.cell? ⟨w.heap.size, 1, none⟩ = some (.slice EA es.length EC) := (hb1.cell (p := ⟨w.heap.size, 1, none⟩) (by simp; omega)).trans (by go_simp)
  have hc2 : w1.cell? ⟨w.heap.size + 1, 0, none⟩ = some (.slice none 0 0) := (hb1.cell (p := ⟨w.heap.size + 1, 0, none⟩) (by simp)).trans (by go_simp)
  have hf2 : w1.frozen? ⟨w.heap.size + 1, 0, none⟩ = false := (hb1.frozen (p := ⟨w.heap.size + 1, 0, none⟩) (by simp)).trans (by go_simp)
  have hbw := Below.box2 hb1 (by simp; omega)
  have hsz1 : w.heap.size + 2 ≤ w1.heap.size := by have := hb1.size; simp at this; omega
  have HE1 := Lib.hid (((HE.out _ _).below hb1 (Nat.le_refl _)).more (show _ ≤ w1.heap.size by simp; omega))
  clear hb1 HE
  go_wp2_with fail
  refine (acyclic_any n EA EC es _ HE1.out HU.out HK.out hm).mono ?_
  rw [HZ.out]
  rintro e w2 ⟨rfl, hb2⟩
  have hd2 := (hb2.cell (p := ⟨w.heap.size + 1, 0, none⟩) (by show w.heap.size + 1 < _; omega)).trans hc2
  have hdf2 := (hb2.frozen (p := ⟨w.heap.size + 1, 0, none⟩) (by show w.heap.size + 1 < _; omega)).trans hf2
  have hbw2 := Below.then hbw hb2 hbw.size
  clear hb2 hbw hc0 hc1 hc2 hf2
  go_wp2
  exact bodyPost_ret (v := .tuple #[.agg #[.slice none 0 0], .int .i64 24]) (by simp [results, Try.results16, go_sem, World.cell?_setCell_same _ _ _ hd2]) rfl ⟨rfl, hbw2.setCell (by simp) _⟩

def fillL (m k : Nat) : List Int := (List.range m).map fun i => if i < k then -1 else 0
theorem fillL_zero (m : Nat) : fillL m 0 = List.replicate m 0 := by
  apply List.ext_getElem <;> simp [fillL]
theorem fillL_whole (m : Nat) : fillL m m = List.replicate m (-1) := by
  apply List.ext_getElem
  · simp [fillL]
  · intro i h1 h2
    simp [fillL] at h1 ⊢
    omega
theorem fillL_set (m k : Nat) : (fillL m k).set k (-1) = fillL m (k + 1) := by
  apply List.ext_getElem
  · simp [fillL]
  · intro i h1 h2
    rw [List.getElem_set]
    simp only [fillL, List.getElem_map, List.getElem_range]
    split
    · next h => subst h; rw [if_pos (by omega)]
    · next h =>
      by_cases hik : i < k
      · rw [if_pos hik, if_pos (by omega)]
      · rw [if_neg hik, if_neg (by omega)]

set_option maxHeartbeats 4000000 in
set_option maxRecDepth 100000 in
theorem build_ok (n : Nat) (EA : Option Addr) (EC : Nat) (es : List Nat) (w : World)
   (hE : SlN .u32 w.heap.size w EA es) (hu : JT.U32 es) (hk : JT.hgCheckF n es = 0) (hm : 0 < es.length) (hz : ((JT.reduceF n es).rest.all fun z => z == 0) = true) :
    Calls Try.prog 16 #[.agg #[.int .i64 n, .slice EA es.length EC]] w fun r w' => ∃ A c, r = .returned (.tuple #[.agg #[.slice A es.length c], .int .i64 0]) ∧ SlI .i64 w'.heap.size w' A (JT.buildPar es.length (JT.reduceF n es).steps) ∧ Below w.heap.size w w' := by
  obtain ⟨n', hn0, hn32, hm64, -⟩ := JT.hgCheckF_zero hk
  have hn : n ≤ 32 := by omega
  have hel : es.length ≤ 1000000 := by omega
  have HE : Hid (∀ o1 o2, SlN .u32 ((w.alloc o1).alloc o2).heap.size ((w.alloc o1).alloc o2) EA es) := fun o1 o2 => ((hE.alloc (Nat.le_refl _) o1).alloc (by simp) o2).more (by simp; omega)
  have HU := Lib.hid hu
  have HK := Lib.hid hk
  have HZ := Lib.hid hz
  have hs0 : ((es.length : Int) == 0) = false := beq_eq_false_iff_ne.2 (by omega)
  have hmk := makeInts es.length hel
  clear hE hu hk hz hn0
  go_enter Try.func16, Try.ntmps16
  go_wp2_with fail
  refine (hgCheck_any n EA EC es _ (HE.out _ _) HU.out hel).mono ?_
  rw [HK.out]
  rintro e w1 ⟨rfl, hb1⟩
  have hc0 : w1.cell? ⟨w.heap.size, 0, none⟩ = some (.int .i64 n) := (hb1.cell (p := ⟨w.heap.size, 0, none⟩) (by simp; omega)).trans (by go_simp)
  have hc1 : w1.cell? ⟨w.heap.size, 1, none⟩ = some (.slice EA es.length EC) := (hb1.cell (p := ⟨w.heap.size, 1, none⟩) (by simp; omega)).trans (by go_simp)
  have hc2 : w1.cell? ⟨w.heap.size + 1, 0, none⟩ = some (.slice none 0 0) := (hb1.cell (p := ⟨w.heap.size + 1, 0, none⟩) (by simp)).trans (by go_simp)
  have hf2 : w1.frozen? ⟨w.heap.size + 1, 0, none⟩ = false := (hb1.frozen (p := ⟨w.heap.size + 1, 0, none⟩) (by simp)).trans (by go_simp)
  have hbw := Below.box2 hb1 (by simp; omega)
  have hsz1 : w.heap.size + 2 ≤ w1.heap.size := by have := hb1.size; simp at this; omega
  have HE1 := Lib.hid (((HE.out _ _).below hb1 (Nat.le_refl _)).more (show _ ≤ w1.heap.size by simp; omega))
  clear hb1 HE
  go_wp2_with fail
  refine (acyclic_any n EA EC es _ HE1.out HU.out HK.out hm).mono ?_
  rw [HZ.out]
  rintro e w2 ⟨rfl, hb2⟩
  have hd0 := (hb2.cell (p := ⟨w.heap.size, 0, none⟩) (by show w.heap.size < _; omega)).trans hc0
  have hd1 := (hb2.cell (p := ⟨w.heap.size, 1, none⟩) (by show w.heap.size < _; omega)).trans hc1
  have hd2 := (hb2.cell (p := ⟨w.heap.size + 1, 0, none⟩) (by show w.heap.size + 1 < _; omega)).trans hc2
  have hdf2 := (hb2.frozen (p := ⟨w.heap.size + 1, 0, none⟩) (by show w.heap.size + 1 < _; omega)).trans hf2
  have hbw2 := Below.then hbw hb2 hbw.size
  have hsz2 := hb2.size
  have HE2 := Lib.hid ((HE1.out.below hb2 (Nat.le_refl _)).more hsz2)
  clear hb2 hbw hc0 hc1 hc2 hf2 HE1
  go_wp2
  go_loopw [32] (fun i wr => ∃ k : Nat, k ≤ es.length ∧ i = .int .i64 k ∧ Row wr w2.heap.size 3 ((fillL es.length k).map (Value.int .i64)) ∧ Below w2.heap.size w2 wr) (fun i _ => es.length - (intOf i).toNat)
  case atStart =>
    refine ⟨0, Nat.zero_le _, rfl, ?_, (Below.refl _ _).alloc (Nat.le_refl _) _⟩
    have := Row.zeros w2 3 (.int .i64 0) es.length
    rw [fillL_zero, List.map_replicate]
    exact this
  case round =>
    obtain ⟨k, hk, rfl, hrow, hb⟩ := hrel
    have HR := Lib.hid hrow
    have HB := Lib.hid hb
    clear hrow hb
    by_cases hlt : k < es.length
    · have hfl : k < (fillL es.length k).length := by simp [fillL]; exact hlt
      have hck := HR.out.cell_ (i := k) (by simpa using hfl)
      have hfk := HR.out.frozen k
      rw [List.getElem_map] at hck
      generalize (fillL es.length k)[k] = fk at hck
      go_wp2
      go_roundw
      case rel =>
        refine ⟨k + 1, by omega, by go_num, ?_, HB.out.setCell (by show w2.heap.size ≤ w2.heap.size; omega) _⟩
        rw [← fillL_set, List.map_set]
        exact HR.out.set k _
      case measure => simp [intOf]; omega
    · obtain rfl : k = es.length := by omega
      have hrow := HR.out
      rw [fillL_whole] at hrow
      have HR2 := Lib.hid hrow
      clear hrow HR
      have hb := HB.out
      have he0 := (hb.cell (p := ⟨w.heap.size, 0, none⟩) (by show w.heap.size < _; omega)).trans hd0
      have he1 := (hb.cell (p := ⟨w.heap.size, 1, none⟩) (by show w.heap.size < _; omega)).trans hd1
      have he2 := (hb.cell (p := ⟨w.heap.size + 1, 0, none⟩) (by show w.heap.size + 1 < _; omega)).trans hd2
      have hef2 := (hb.frozen (p := ⟨w.heap.size + 1, 0, none⟩) (by show w.heap.size + 1 < _; omega)).trans hdf2
      have hbw3 := Below.then hbw2 hb hbw2.size
      have hsz3 : w2.heap.size < wr.heap.size := HR2.out.lt
      have HE3 := Lib.hid ((HE2.out.below hb (Nat.le_refl _)).more (show w2.heap.size ≤ wr.heap.size by omega))
      clear hb HB hd0 hd1 hd2 hdf2 hbw2 HE2
      go_wp2_with fail
      refine (reduce_walk n EA EC es _ HE3.out HU.out HK.out hm).mono ?_
      rintro e w4 ⟨sv, g, cap, rfl, hst, -, hb4⟩
      have hf0 := (hb4.cell (p := ⟨w.heap.size, 0, none⟩) (by show w.heap.size < _; omega)).trans he0
      have hf2 := (hb4.cell (p := ⟨w.heap.size + 1, 0, none⟩) (by show w.heap.size + 1 < _; omega)).trans he2
      have hff2 := (hb4.frozen (p := ⟨w.heap.size + 1, 0, none⟩) (by show w.heap.size + 1 < _; omega)).trans hef2
      have hbw4 := Below.then hbw3 hb4 hbw3.size
      have hsz4 := hb4.size
      have HR4 := Lib.hid (HR2.out.below hb4 hsz3)
      obtain ⟨SA, SC, hsv, -, -⟩ := Sl.of_own_n hst
      subst hsv
      have hslen := JT.reduceF_steps HU.out hn
      have HSH := Lib.hid (JT.reduce_snd HU.out hn hm).shape
      generalize hSS : (JT.reduceF n es).steps = S at *
      have HSS := Lib.hid hSS
      clear hSS
      have HST := Lib.hid hst
      clear hb4 he0 he1 he2 hef2 hbw3 HE3 hst HR2
      go_wp2
      obtain ⟨w3, rfl⟩ : ∃ w3 : World, w3 = wr := ⟨_, rfl⟩
      go_loopw [46] (fun i wr => ∃ k : Nat, k ≤ S.length ∧ i = .int .i64 k ∧ Row wr w2.heap.size 3 ((JT.buildPar es.length (S.take k)).map (Value.int .i64)) ∧ (JT.buildPar es.length (S.take k)).length = es.length ∧ wr.ownsRow w3.heap.size 62 3 (.slice SA S.length SC) S.length (stepCells S) ∧ Below w.heap.size w wr ∧ wr.cell? ⟨w.heap.size + 1, 0, none⟩ = some (.slice none 0 0) ∧ wr.frozen? ⟨w.heap.size + 1, 0, none⟩ = false) (fun i _ => S.length - (intOf i).toNat)
      case atStart => exact ⟨0, Nat.zero_le _, rfl, HR4.out, by simp [JT.buildPar], HST.out, hbw4, hf2, hff2⟩
      case round =>
        clear HR4 HST hbw4 hf2 hff2 hf0
        obtain ⟨k, hk, rfl, hrow, hpl, hst, hb, hc2, hf2⟩ := hrel
        have HR := Lib.hid hrow
        have HPL := Lib.hid hpl
        have HST := Lib.hid hst
        have hszr : w2.heap.size < wr.heap.size := hrow.lt
        clear hrow hpl hst hlt
        by_cases hlt : k < S.length
        · have hsk := HSH.out S[k] (List.getElem_mem hlt)
          obtain ⟨_, _, e0, -, hsl⟩ := Sl.of_own_n HST.out
          injection e0 with e1 e2 e3
          subst e1 e3
          clear e2
          obtain ⟨b, o, rfl, hbb, hcells⟩ := hsl (by intro h; have := stepCells_length S; rw [h] at this; simp at this; omega)
          obtain ⟨q1, q2, q3⟩ := stepCells_at S hlt
          have hs1 := hcells _ _ q1
          have hs2 := hcells _ _ q2
          have hs3 := hcells _ _ q3
          have htk : JT.buildPar es.length (S.take (k + 1)) = JT.putPar (JT.buildPar es.length (S.take k)) S[k] := by
            rw [List.take_succ_eq_append_getElem hlt, JT.buildPar_snoc]
          have HTK := Lib.hid htk
          have hbb3 : w3.heap.size ≤ b := by
            have := own_base HST.out (k := b) rfl
            exact this
          clear hcells q1 q2 q3 htk
          generalize S[k] = t at *
          obtain ⟨te, ti, tv⟩ := t
          simp only at hsk hs1 hs2 hs3
          rw [← Nat.add_assoc] at hs2 hs3
          have hsp : w.heap.size + 1 < wr.heap.size := by omega
          by_cases hti : ti < 0
          · go_wp2
            go_roundw
            case rel =>
              refine ⟨k + 1, by omega, by go_num, ?_, ?_, HST.out.alloc _, hb.alloc hb.size _, old_cell _ _ hsp hc2, old_frozen _ _ hsp hf2⟩
              · rw [HTK.out, JT.putPar, if_neg (by simp only; omega)]; exact HR.out.alloc _
              · rw [HTK.out, JT.putPar, if_neg (by simp only; omega)]; exact HPL.out
            case measure => simp [intOf]; omega
          · obtain ⟨ii, rfl⟩ := Int.eq_ofNat_of_zero_le (show 0 ≤ ti by omega)
            have htl : te < (JT.buildPar es.length (S.take k)).length := by rw [HPL.out]; omega
            have hct := HR.out.cell_ (i := te) (by simpa using htl)
            have hft := HR.out.frozen te
            rw [List.getElem_map] at hct
            generalize (JT.buildPar es.length (S.take k))[te] = pt at hct
            go_wp2
            go_roundw
            case rel =>
              refine ⟨k + 1, by omega, by go_num, ?_, ?_, ?_, ?_, ?_, ?_⟩
              · rw [HTK.out, JT.putPar, if_pos (by simp only; omega), List.map_set]; exact (HR.out.set te _).alloc _
              · rw [HTK.out, JT.putPar, if_pos (by simp only; omega), List.length_set]; exact HPL.out
              · exact (own_far HST.out (p := ⟨w2.heap.size, te, none⟩) (by simp [Value.ownBlock]; omega) _).alloc _
              · exact (hb.setCell (p := ⟨w2.heap.size, te, none⟩) (by show w.heap.size ≤ w2.heap.size; omega) _).alloc (by simp; exact hb.size) _
              · exact old_cell _ _ (by simp; exact hsp) (far_cell (by show w2.heap.size ≠ w.heap.size + 1; omega) hc2)
              · refine old_frozen _ _ (by simp; exact hsp) ?_
                rw [World.frozen?_setCell]; exact hf2
            case measure => simp [intOf]; omega
        · obtain rfl : k = S.length := by omega
          have hrow := HR.out
          have hpl := HPL.out
          rw [List.take_length] at hrow hpl
          have HR2 := Lib.hid hrow
          have HPL2 := Lib.hid hpl
          clear hrow HR hpl HPL
          go_wp2
          refine bodyPost_ret (v := .tuple #[.agg #[.slice (some ⟨w2.heap.size, 0, none⟩) es.length es.length], .int .i64 0]) (by simp [results, Try.results16, go_sem, World.cell?_setCell_same _ _ _ hc2]) rfl ⟨_, _, rfl, ?_, hb.setCell (by simp) _⟩
          rw [HSS.out]
          exact (HR2.out.far (p := ⟨w.heap.size + 1, 0, none⟩) (by show w2.heap.size ≠ w.heap.size + 1; omega) _).sl

end Go.Proofs.Ytfiegiifoekfmaa

import Derived.Test.YtfiegiifoekfmaaW2
import Derived.Test.YtfiegiifoekfmaaW6
import Derived.Test.YtfiegiifoekfmaaW14
namespace Go.Proofs.Ytfiegiifoekfmaa
open Go.RowKit

/-- The example of the chapter, as it lies in memory from block B on. -/
structure Awk (B : Nat) (W : World) : Prop where
  g0 : W.cell? ⟨B + 1, 0, none⟩ = some (.int .i64 4)
  g1 : W.cell? ⟨B + 1, 1, none⟩ = some (.slice (some ⟨B, 0, none⟩) 3 3)
  t0 : W.cell? ⟨B + 3, 0, none⟩ = some (.slice (some ⟨B + 2, 0, none⟩) 3 3)
  se : SlN .u32 (B + 4) W (some ⟨B, 0, none⟩) [3, 6, 10]
  sp : SlI .i64 (B + 4) W (some ⟨B + 2, 0, none⟩) [-1, 0, 0]
  sz : B + 4 ≤ W.heap.size

theorem Awk.keep {B : Nat} {W W' : World} (h : Awk B W) (hb : Below W.heap.size W W') : Awk B W' := by
  have hs := h.sz
  exact ⟨(hb.cell (p := ⟨B + 1, 0, none⟩) (by show B + 1 < _; omega)).trans h.g0, (hb.cell (p := ⟨B + 1, 1, none⟩) (by show B + 1 < _; omega)).trans h.g1,
    (hb.cell (p := ⟨B + 3, 0, none⟩) (by show B + 3 < _; omega)).trans h.t0, h.se.below hb hs, h.sp.below hb hs, Nat.le_trans hs hb.size⟩
theorem Awk.alloc {B : Nat} {W : World} (h : Awk B W) (o : Obj) : Awk B (W.alloc o) := h.keep ((Below.refl _ _).alloc (Nat.le_refl _) o)
theorem Awk.drewN {B : Nat} {W : World} (h : Awk B W) (n : Nat) : Awk B (W.drewN n) := ⟨h.g0, h.g1, h.t0, h.se, h.sp, h.sz⟩

theorem awkStart (w : World) : Awk w.heap.size ((((w.alloc (.cells #[.int .u32 3, .int .u32 6, .int .u32 10] 44)).alloc (.cells #[.int .i64 4, .slice (some ⟨w.heap.size, 0, none⟩) 3 3] 24)).alloc (.cells #[.int .i64 (-1), .int .i64 0, .int .i64 0] 3)).alloc (.cells #[.slice (some ⟨w.heap.size + 2, 0, none⟩) 3 3] 34)) := by
  have r1 := (((Row.new w 44 [.int .u32 3, .int .u32 6, .int .u32 10]).alloc (.cells #[.int .i64 4, .slice (some ⟨w.heap.size, 0, none⟩) 3 3] 24)).alloc (.cells #[.int .i64 (-1), .int .i64 0, .int .i64 0] 3)).alloc (.cells #[.slice (some ⟨w.heap.size + 2, 0, none⟩) 3 3] 34)
  have r2 := ((Row.new (w.alloc (.cells #[.int .u32 3, .int .u32 6, .int .u32 10] 44)) 24 [.int .i64 4, .slice (some ⟨w.heap.size, 0, none⟩) 3 3]).alloc (.cells #[.int .i64 (-1), .int .i64 0, .int .i64 0] 3)).alloc (.cells #[.slice (some ⟨w.heap.size + 2, 0, none⟩) 3 3] 34)
  have r3 := (Row.new ((w.alloc (.cells #[.int .u32 3, .int .u32 6, .int .u32 10] 44)).alloc (.cells #[.int .i64 4, .slice (some ⟨w.heap.size, 0, none⟩) 3 3] 24)) 3 [.int .i64 (-1), .int .i64 0, .int .i64 0]).alloc (.cells #[.slice (some ⟨w.heap.size + 2, 0, none⟩) 3 3] 34)
  have r4 := Row.new (((w.alloc (.cells #[.int .u32 3, .int .u32 6, .int .u32 10] 44)).alloc (.cells #[.int .i64 4, .slice (some ⟨w.heap.size, 0, none⟩) 3 3] 24)).alloc (.cells #[.int .i64 (-1), .int .i64 0, .int .i64 0] 3)) 34 [.slice (some ⟨w.heap.size + 2, 0, none⟩) 3 3]
  simp only [World.size_alloc] at r2 r3 r4
  refine ⟨r2.cell 0, r2.cell 1, r4.cell 0, ?_, ?_, by simp⟩
  · exact fun _ => ⟨w.heap.size, 0, rfl, by omega, fun i u hu => by rw [Nat.zero_add, r1.cell]; exact hu⟩
  · exact fun _ => ⟨w.heap.size + 2, 0, rfl, by omega, fun i u hu => by rw [Nat.zero_add, r3.cell]; exact hu⟩

theorem awk_u32 : JT.U32 [3, 6, 10] := by intro e he; simp at he; omega
theorem awk_rooted : JT.rootedB [-1, 0, 0] = true := by decide
theorem awk_order : JT.orderF [-1, 0, 0] = [1, 2, 0] := by decide
theorem awk_chk : JT.chkF 4 [3, 6, 10] [-1, 0, 0] = 0 := by decide
theorem awk_hg : JT.hgCheckF (4 : Nat) [3, 6, 10] = 0 := by decide
theorem awk_sep1 : JT.sepF [3, 6, 10] [-1, 0, 0] 1 = 2 := by decide
theorem awk_sep2 : JT.sepF [3, 6, 10] [-1, 0, 0] 2 = 2 := by decide
theorem awk_sep0 : JT.sepF [3, 6, 10] [-1, 0, 0] 0 = 0 := by decide
theorem awk_root : idxF [-1, 0, 0] (-1) = 0 := by decide
theorem awk_red : ((JT.reduceF 4 [3, 6, 10]).rest.all fun z => z == 0) = true := by decide +kernel

set_option maxHeartbeats 4000000 in
set_option maxRecDepth 100000 in
theorem awake_any (w : World) : Calls Try.prog 11 #[] w fun e w' => e = .returned (.bool true) ∧ Below w.heap.size w w' := by
  have h0 := awkStart w
  have hb0 : Below w.heap.size w ((((w.alloc (.cells #[.int .u32 3, .int .u32 6, .int .u32 10] 44)).alloc (.cells #[.int .i64 4, .slice (some ⟨w.heap.size, 0, none⟩) 3 3] 24)).alloc (.cells #[.int .i64 (-1), .int .i64 0, .int .i64 0] 3)).alloc (.cells #[.slice (some ⟨w.heap.size + 2, 0, none⟩) 3 3] 34)) :=
    ((((Below.refl _ _).alloc (Nat.le_refl _) _).alloc (by simp) _).alloc (by simp; omega) _).alloc (by simp; omega) _
  have H0 := Lib.hid h0
  have HB0 := Lib.hid hb0
  clear h0 hb0
  go_enter Try.func11, Try.ntmps11
  go_wp2_with fail
  refine (jtOrder_ok _ 3 [-1, 0, 0] _ (H0.out.sp.more H0.out.sz) (by decide) awk_rooted).mono ?_
  rw [awk_order]
  rintro e w1 ⟨A, c, rfl, hs1, hb1⟩
  have h1 := H0.out.keep hb1
  have hbw1 := Below.then HB0.out hb1 HB0.out.size
  have HS1 := Lib.hid hs1
  have H1 := Lib.hid h1
  have hg0 := h1.g0
  have hg1 := h1.g1
  have ht0 := h1.t0
  clear hs1 h1 hb1 H0 HB0
  go_wp2_with fail
  refine (build_ok 4 _ 3 [3, 6, 10] _ (H1.out.se.more H1.out.sz) awk_u32 awk_hg (by decide) awk_red).mono ?_
  rintro e w2 ⟨A2, c2, rfl, -, hb2⟩
  have h2 := (H1.out.keep hb2).alloc (.cells #[.slice A2 3 c2] 34)
  have hbw2 := (Below.then hbw1 hb2 hbw1.size).alloc (Below.then hbw1 hb2 hbw1.size).size (.cells #[.slice A2 3 c2] 34)
  have HS2 := Lib.hid ((HS1.out.below hb2 (Nat.le_refl _)).alloc hb2.size (.cells #[.slice A2 3 c2] 34))
  have hsz1 := hb2.size
  have H2 := Lib.hid h2
  clear h2 hg0 hg1 ht0 hb2 H1 HS1 hbw1
  go_wp2_with fail
  refine (eqInt_any A _ c 3 [1, 2, 0] [1, 2, 0] _ ?_ ?_ (by decide) (by decide)).mono ?_
  · exact (HS2.out.alloc (by simp; omega) _).more (by simp; omega)
  · have r := Row.new (w2.alloc (.cells #[.slice A2 3 c2] 34)) 3 [.int .i64 1, .int .i64 2, .int .i64 0]
    simp only [World.size_alloc] at r
    exact r.sl
  rintro e w3 ⟨rfl, n3, rfl⟩
  have h3 := (H2.out.alloc (.cells #[.int .i64 1, .int .i64 2, .int .i64 0] 3)).drewN n3
  have hbw3 := Below.drewN' (hbw2.alloc hbw2.size (.cells #[.int .i64 1, .int .i64 2, .int .i64 0] 3)) n3
  have H3 := Lib.hid h3
  clear h3 hbw2 H2 HS2
  generalize ((w2.alloc (.cells #[.slice A2 3 c2] 34)).alloc (.cells #[.int .i64 1, .int .i64 2, .int .i64 0] 3)).drewN n3 = w3 at *
  have hg0 := H3.out.g0
  have hg1 := H3.out.g1
  have ht0 : w3.cell? ⟨w.heap.size + 1 + 1 + 1, 0, none⟩ = some (.slice (some ⟨w.heap.size + 2, 0, none⟩) 3 3) := H3.out.t0
  have hd : decide (([1, 2, 0] : List Int) = [1, 2, 0]) = true := by decide
  rw [hd]
  clear hd
  go_wp2_with fail
  refine (jtCheck_any 4 _ _ 3 3 [3, 6, 10] [-1, 0, 0] _ (H3.out.se.more H3.out.sz) awk_u32 (H3.out.sp.more H3.out.sz) (by decide) (by decide)).mono ?_
  rw [awk_chk]
  rintro e w4 ⟨rfl, hb4⟩
  have H4 := Lib.hid (H3.out.keep hb4)
  have hbw4 := Below.then hbw3 hb4 hbw3.size
  have hg0' := H4.out.g0
  have hg1' := H4.out.g1
  have ht0' : w4.cell? ⟨w.heap.size + 1 + 1 + 1, 0, none⟩ = some (.slice (some ⟨w.heap.size + 2, 0, none⟩) 3 3) := H4.out.t0
  clear hb4 H3 hbw3 hg0 hg1 ht0
  have hg0 := hg0'
  have hg1 := hg1'
  have ht0 := ht0'
  clear hg0' hg1' ht0'
  go_wp2_with fail
  refine (sep_any 4 _ _ 3 3 [3, 6, 10] [-1, 0, 0] 1 _ (H4.out.se.more H4.out.sz) awk_u32 (H4.out.sp.more H4.out.sz) (by decide) (by decide)).mono ?_
  rw [awk_sep1]
  rintro e w5 ⟨rfl, hb5⟩
  have H5 := Lib.hid (H4.out.keep hb5)
  have hbw5 := Below.then hbw4 hb5 hbw4.size
  have hg0' := H5.out.g0
  have hg1' := H5.out.g1
  have ht0' : w5.cell? ⟨w.heap.size + 1 + 1 + 1, 0, none⟩ = some (.slice (some ⟨w.heap.size + 2, 0, none⟩) 3 3) := H5.out.t0
  clear hb5 H4 hbw4 hg0 hg1 ht0
  have hg0 := hg0'
  have hg1 := hg1'
  have ht0 := ht0'
  clear hg0' hg1' ht0'
  go_wp2_with fail
  refine (sep_any 4 _ _ 3 3 [3, 6, 10] [-1, 0, 0] 2 _ (H5.out.se.more H5.out.sz) awk_u32 (H5.out.sp.more H5.out.sz) (by decide) (by decide)).mono ?_
  rw [awk_sep2]
  rintro e w6 ⟨rfl, hb6⟩
  have H6 := Lib.hid (H5.out.keep hb6)
  have hbw6 := Below.then hbw5 hb6 hbw5.size
  have hg0' := H6.out.g0
  have hg1' := H6.out.g1
  have ht0' : w6.cell? ⟨w.heap.size + 1 + 1 + 1, 0, none⟩ = some (.slice (some ⟨w.heap.size + 2, 0, none⟩) 3 3) := H6.out.t0
  clear hb6 H5 hbw5 hg0 hg1 ht0
  have hg0 := hg0'
  have hg1 := hg1'
  have ht0 := ht0'
  clear hg0' hg1' ht0'
  go_wp2_with fail
  refine (sep_any 4 _ _ 3 3 [3, 6, 10] [-1, 0, 0] 0 _ (H6.out.se.more H6.out.sz) awk_u32 (H6.out.sp.more H6.out.sz) (by decide) (by decide)).mono ?_
  rw [awk_sep0]
  rintro e w7 ⟨rfl, hb7⟩
  have H7 := Lib.hid (H6.out.keep hb7)
  have hbw7 := Below.then hbw6 hb7 hbw6.size
  have hg0' := H7.out.g0
  have hg1' := H7.out.g1
  have ht0' : w7.cell? ⟨w.heap.size + 1 + 1 + 1, 0, none⟩ = some (.slice (some ⟨w.heap.size + 2, 0, none⟩) 3 3) := H7.out.t0
  clear hb7 H6 hbw6 hg0 hg1 ht0
  have hg0 := hg0'
  have hg1 := hg1'
  have ht0 := ht0'
  clear hg0' hg1' ht0'
  go_wp2_with fail
  refine (root_any _ 3 [-1, 0, 0] _ (H7.out.sp.more H7.out.sz) (by decide)).mono ?_
  rw [awk_root]
  rintro e w8 ⟨rfl, hb8⟩
  have H8 := Lib.hid (H7.out.keep hb8)
  have hbw8 := Below.then hbw7 hb8 hbw7.size
  have hg0' := H8.out.g0
  have hg1' := H8.out.g1
  have ht0' : w8.cell? ⟨w.heap.size + 1 + 1 + 1, 0, none⟩ = some (.slice (some ⟨w.heap.size + 2, 0, none⟩) 3 3) := H8.out.t0
  clear hb8 H7 hbw7 hg0 hg1 ht0
  have hg0 := hg0'
  have hg1 := hg1'
  have ht0 := ht0'
  clear hg0' hg1' ht0'
  go_wp2
  go_ret
  exact ⟨rfl, hbw8⟩

end Go.Proofs.Ytfiegiifoekfmaa

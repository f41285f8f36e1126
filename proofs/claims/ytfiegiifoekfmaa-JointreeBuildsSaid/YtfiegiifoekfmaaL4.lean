import Derived.Test.YtfiegiifoekfmaaL2
namespace Go.Proofs.Ytfiegiifoekfmaa
open Go.RowKit

set_option maxHeartbeats 4000000 in
set_option maxRecDepth 100000 in
theorem builds_walk (N : Int) (EA : Option Addr) (EC : Nat) (es : List Nat) (w : World)
   (hE : SlN .u32 w.heap.size w EA es) (hu : JT.U32 es) (hel : es.length ≤ 9223372036854775807) :
    Calls Try.prog 4 #[.agg #[.int .i64 N, .slice EA es.length EC]] w fun e w' => e = .returned (.bool true) ∧ Below w.heap.size w w' := by
  have H0 := Lib.hid (GP.start (N := N) (EC := EC) (PA := none) (ps := []) hE Sl.nil)
  have HU := Lib.hid hu
  clear hE hu
  go_enter Try.func4, Try.ntmps4
  go_wp2_with fail
  refine (great_any N EA es.length EC _ hel).mono ?_
  rintro e w1 ⟨rfl, hb1⟩
  have H1 := Lib.hid (H0.out.keep hb1)
  clear hb1 H0
  by_cases h1 : 12 < es.length
  · have hd : decide (12 < es.length) = true := by simpa using h1
    rw [hd]
    clear hd
    go_wp2_with fail
    refine (awake_any _).mono ?_
    rintro e w2 ⟨rfl, hb2⟩
    have H2 := Lib.hid (H1.out.keep hb2)
    clear hb2
    go_wp2
    go_ret
    exact ⟨rfl, H2.out.bel⟩
  have hd : decide (12 < es.length) = false := by simpa using h1
  rw [hd]
  clear hd
  have hel2 : es.length ≤ 1000000 := by omega
  have hc0 := H1.out.c0
  have hc1 := H1.out.c1
  by_cases h3 : JT.hgCheckF N es = 0
  rotate_left
  · have HK := Lib.hid h3
    go_wp2_with fail
    refine (build_err N EA EC es _ H1.out.E HU.out hel2 HK.out).mono ?_
    rintro e w2 ⟨rfl, hb2⟩
    have H2 := Lib.hid ((H1.out.keep hb2).alloc (.cells #[.slice none 0 0] 34))
    have hsz2 := (H1.out.keep hb2).sz
    have hd0 := (H1.out.keep hb2).c0
    have hd1 := (H1.out.keep hb2).c1
    clear hb2 H1 hc0 hc1
    go_wp2_with fail
    refine (hgCheck_any N EA EC es _ H2.out.E HU.out hel2).mono ?_
    rintro e w3 ⟨rfl, hb3⟩
    have H3 := Lib.hid (H2.out.keep hb3)
    have ht3 : w3.cell? ⟨w2.heap.size, 0, none⟩ = some (.slice none 0 0) := (hb3.cell (p := ⟨w2.heap.size, 0, none⟩) (by simp)).trans (by go_simp)
    have hs : (JT.hgCheckF N es != 0) = true := by simpa using h3
    have hs2 : (JT.hgCheckF N es == JT.hgCheckF N es) = true := by simp
    clear hb3 H2 hd0 hd1 HK h3
    generalize JT.hgCheckF N es = q at *
    go_wp2_with fail
    refine (awake_any _).mono ?_
    rintro e w4 ⟨rfl, hb4⟩
    have H4 := Lib.hid (H3.out.keep hb4)
    clear hb4 H3
    go_wp2
    go_ret
    exact ⟨rfl, H4.out.bel⟩
  have HK := Lib.hid h3
  by_cases hm : es.length = 0
  · have hnil : es = [] := List.eq_nil_of_length_eq_zero hm
    subst hnil
    clear h3 hm
    simp only [List.length_nil] at *
    go_wp2_with fail
    refine (build_empty N EA EC _ HK.out).mono ?_
    rintro e w2 ⟨rfl, hb2⟩
    have H2 := Lib.hid ((H1.out.keep hb2).alloc (.cells #[.slice none 0 0] 34))
    have hsz2 := (H1.out.keep hb2).sz
    have hd0 := (H1.out.keep hb2).c0
    have hd1 : w2.cell? ⟨w.heap.size, 1, none⟩ = some (.slice EA 0 EC) := (H1.out.keep hb2).c1
    clear hb2 H1 hc0 hc1
    go_wp2_with fail
    refine (hgCheck_any N EA EC [] _ H2.out.E HU.out (by simp)).mono ?_
    rw [HK.out]
    rintro e w3 ⟨rfl, hb3⟩
    have H3 := Lib.hid (H2.out.keep hb3)
    have ht3 : w3.cell? ⟨w2.heap.size, 0, none⟩ = some (.slice none 0 0) := (hb3.cell (p := ⟨w2.heap.size, 0, none⟩) (by simp)).trans (by go_simp)
    have hd1 : w3.cell? ⟨w.heap.size, 1, none⟩ = some (.slice EA 0 EC) := H3.out.c1
    clear hb3 H2 hd0
    go_wp2_with fail
    refine (awake_any _).mono ?_
    rintro e w4 ⟨rfl, hb4⟩
    have H4 := Lib.hid (H3.out.keep hb4)
    clear hb4 H3
    go_wp2
    go_ret
    exact ⟨rfl, H4.out.bel⟩
  obtain ⟨n, rfl, hn, -, -⟩ := JT.hgCheckF_zero h3
  have HM : Hid (0 < es.length) := by show 0 < es.length; omega
  have hs0 : ((es.length : Int) == 0) = false := beq_eq_false_iff_ne.2 (by omega)
  clear h3
  cases hz : ((JT.reduceF n es).rest.all fun z => z == 0)
  · have HZ := Lib.hid hz
    clear hz
    go_wp2_with fail
    refine (build_cyc n EA EC es _ H1.out.E HU.out HK.out HM.out HZ.out).mono ?_
    rintro e w2 ⟨rfl, hb2⟩
    have H2 := Lib.hid ((H1.out.keep hb2).alloc (.cells #[.slice none 0 0] 34))
    have hsz2 := (H1.out.keep hb2).sz
    have hd0 := (H1.out.keep hb2).c0
    have hd1 := (H1.out.keep hb2).c1
    clear hb2 H1 hc0 hc1
    go_wp2_with fail
    refine (hgCheck_any n EA EC es _ H2.out.E HU.out hel2).mono ?_
    rw [HK.out]
    rintro e w3 ⟨rfl, hb3⟩
    have H3 := Lib.hid (H2.out.keep hb3)
    have ht3 : w3.cell? ⟨w2.heap.size, 0, none⟩ = some (.slice none 0 0) := (hb3.cell (p := ⟨w2.heap.size, 0, none⟩) (by simp)).trans (by go_simp)
    have hsz3 : w2.heap.size < w3.heap.size := by have := hb3.size; simp at this; omega
    have he0 := H3.out.c0
    have he1 := H3.out.c1
    clear hb3 H2 hd0 hd1
    go_wp2_with fail
    refine (acyclic_any n EA EC es _ H3.out.E HU.out HK.out HM.out).mono ?_
    rw [HZ.out]
    rintro e w4 ⟨rfl, hb4⟩
    have H4 := Lib.hid (H3.out.keep hb4)
    have ht4 := (hb4.cell (p := ⟨w2.heap.size, 0, none⟩) hsz3).trans ht3
    clear hb4 H3 ht3 he0 he1
    go_wp2_with fail
    refine (awake_any _).mono ?_
    rintro e w5 ⟨rfl, hb5⟩
    have H5 := Lib.hid (H4.out.keep hb5)
    clear hb5 H4
    go_wp2
    go_ret
    exact ⟨rfl, H5.out.bel⟩
  · have HZ := Lib.hid hz
    obtain ⟨hl, hchk⟩ := JT.gyo_sound HK.out HM.out hz
    have hr : JT.rootedB (JT.buildPar es.length (JT.reduceF n es).steps) = true := by
      cases h : JT.rootedB (JT.buildPar es.length (JT.reduceF n es).steps) with
      | true => rfl
      | false => rw [JT.chkF_root HK.out hl h] at hchk; omega
    have hj : JT.joinB n es (JT.buildPar es.length (JT.reduceF n es).steps) = true := by
      cases h : JT.joinB n es (JT.buildPar es.length (JT.reduceF n es).steps) with
      | true => rfl
      | false =>
        unfold JT.chkF at hchk
        rw [HK.out, if_neg (by simp), if_neg (by simp [hl]), if_neg (by simp [hr]), Int.toNat_natCast, h] at hchk
        simp at hchk
    have HR := Lib.hid hr
    have HJ := Lib.hid hj
    have HL := Lib.hid hl
    have HV := Lib.hid (JT.rooted_parts hr).1
    clear hz hchk hr hj hl
    go_wp2_with fail
    refine (build_ok n EA EC es _ H1.out.E HU.out HK.out HM.out HZ.out).mono ?_
    generalize JT.buildPar es.length (JT.reduceF n es).steps = bp at *
    rintro e w2 ⟨A2, c2, rfl, hs2, hb2⟩
    have H2 := Lib.hid ((H1.out.keep hb2).alloc (.cells #[.slice A2 es.length c2] 34))
    have HS2 := Lib.hid (hs2.alloc (Nat.le_refl _) (.cells #[.slice A2 es.length c2] 34))
    have hsz2 := (H1.out.keep hb2).sz
    have hd0 := (H1.out.keep hb2).c0
    have hd1 := (H1.out.keep hb2).c1
    clear hb2 H1 hc0 hc1 hs2
    go_wp2_with fail
    refine (hgCheck_any n EA EC es _ H2.out.E HU.out hel2).mono ?_
    rw [HK.out]
    rintro e w3 ⟨rfl, hb3⟩
    have H3 := Lib.hid (H2.out.keep hb3)
    have ht3 : w3.cell? ⟨w2.heap.size, 0, none⟩ = some (.slice A2 es.length c2) := (hb3.cell (p := ⟨w2.heap.size, 0, none⟩) (by simp)).trans (by go_simp)
    have hsz3 : w2.heap.size < w3.heap.size := by have := hb3.size; simp at this; omega
    have HS3 := Lib.hid (HS2.out.below hb3 (by simp))
    have he0 := H3.out.c0
    have he1 := H3.out.c1
    clear hb3 H2 hd0 hd1 HS2
    go_wp2_with fail
    refine (acyclic_any n EA EC es _ H3.out.E HU.out HK.out HM.out).mono ?_
    rw [HZ.out]
    rintro e w4 ⟨rfl, hb4⟩
    have H4 := Lib.hid (H3.out.keep hb4)
    have ht4 := (hb4.cell (p := ⟨w2.heap.size, 0, none⟩) hsz3).trans ht3
    have hsz4 : w2.heap.size < w4.heap.size := by have := hb4.size; omega
    have HS4 := Lib.hid (HS3.out.below hb4 (by omega))
    have hf0 := H4.out.c0
    have hf1 := H4.out.c1
    have hee : ((es.length : Int) == (es.length : Int)) = true := by simp
    have hrr := refRooted_any A2 c2 bp w4 (HS4.out.more (by omega)) (by rw [HL.out]; omega)
    rw [HL.out, HR.out] at hrr
    have HRR := Lib.hid hrr
    clear hb4 H3 ht3 he0 he1 HS3 hrr
    go_wp2_with fail
    refine HRR.out.mono ?_
    rintro e w5 ⟨rfl, hb5⟩
    have H5 := Lib.hid (H4.out.keep hb5)
    have ht5 := (hb5.cell (p := ⟨w2.heap.size, 0, none⟩) hsz4).trans ht4
    have HS5 := Lib.hid (HS4.out.below hb5 (by omega))
    have hsz5 : w2.heap.size < w5.heap.size := by have := hb5.size; omega
    have hg0 := H5.out.c0
    have hg1 := H5.out.c1
    have hjj := refJoin_any n EA A2 EC c2 es bp w5 H5.out.E HU.out (HS5.out.more (by omega)) hel2 hn HL.out HV.out
    rw [HL.out, HJ.out] at hjj
    have HJJ := Lib.hid hjj
    clear hb5 H4 ht4 hf0 hf1 HS4 hjj HRR
    go_wp2_with fail
    refine HJJ.out.mono ?_
    rintro e w6 ⟨rfl, rfl⟩
    clear HJJ
    go_wp2_with fail
    refine (awake_any _).mono ?_
    rintro e w7 ⟨rfl, hb7⟩
    have H7 := Lib.hid (H5.out.keep hb7)
    clear hb7 H5
    go_wp2
    go_ret
    exact ⟨rfl, H7.out.bel⟩

end Go.Proofs.Ytfiegiifoekfmaa

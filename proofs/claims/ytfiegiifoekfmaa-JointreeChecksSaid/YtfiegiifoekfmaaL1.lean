import Derived.Test.YtfiegiifoekfmaaW15
import Derived.Test.YtfiegiifoekfmaaW8
namespace Go.Proofs.Ytfiegiifoekfmaa
open Go.RowKit

set_option maxHeartbeats 4000000 in
set_option maxRecDepth 100000 in
theorem checks_walk (N : Int) (EA PA : Option Addr) (EC PC : Nat) (es : List Nat) (ps : List Int) (w : World)
   (hE : SlN .u32 w.heap.size w EA es) (hu : JT.U32 es) (hP : SlI .i64 w.heap.size w PA ps) (hel : es.length ≤ 9223372036854775807) (hpl : ps.length ≤ 9223372036854775807) :
    Calls Try.prog 3 #[.agg #[.int .i64 N, .slice EA es.length EC], .slice PA ps.length PC] w fun e w' => e = .returned (.bool true) ∧ Below w.heap.size w w' := by
  have HE : Hid (∀ o1, SlN .u32 w.heap.size (w.alloc o1) EA es) := fun o1 => hE.alloc (Nat.le_refl _) o1
  have HP : Hid (∀ o1, SlI .i64 w.heap.size (w.alloc o1) PA ps) := fun o1 => hP.alloc (Nat.le_refl _) o1
  have HU := Lib.hid hu
  clear hE hP hu
  by_cases h1 : 12 < es.length
  · have hd : decide (12 < es.length) = true := by simpa using h1
    have HD := Lib.hid hd
    clear hd HE HP HU
    go_enter Try.func3, Try.ntmps3
    go_wp2_with fail
    refine (great_any N EA es.length EC _ hel).mono ?_
    rw [HD.out]
    rintro e w1 ⟨rfl, hb1⟩
    have hbw := Below.box hb1 (by simp)
    clear hb1
    go_wp2_with fail
    refine (awake_any _).mono ?_
    rintro e w2 ⟨rfl, hb2⟩
    have hbw2 := Below.then hbw hb2 hbw.size
    go_wp2
    go_ret
    exact ⟨rfl, hbw2⟩
  have hd : decide (12 < es.length) = false := by simpa using h1
  have HD := Lib.hid hd
  clear hd
  by_cases h2 : 12 < ps.length
  · clear HE HP HU
    go_enter Try.func3, Try.ntmps3
    go_wp2_with fail
    refine (great_any N EA es.length EC _ hel).mono ?_
    rw [HD.out]
    rintro e w1 ⟨rfl, hb1⟩
    have hbw := Below.box hb1 (by simp)
    clear hb1
    go_wp2_with fail
    refine (awake_any _).mono ?_
    rintro e w2 ⟨rfl, hb2⟩
    have hbw2 := Below.then hbw hb2 hbw.size
    go_wp2
    go_ret
    exact ⟨rfl, hbw2⟩
  have hel2 : es.length ≤ 1000000 := by omega
  have hpl2 : ps.length ≤ 1000000 := by omega
  go_enter Try.func3, Try.ntmps3
  go_wp2_with fail
  refine (great_any N EA es.length EC _ hel).mono ?_
  rw [HD.out]
  rintro e w1 ⟨rfl, hb1⟩
  have hc0 : w1.cell? ⟨w.heap.size, 0, none⟩ = some (.int .i64 N) := (hb1.cell (p := ⟨w.heap.size, 0, none⟩) (by simp)).trans (by go_simp)
  have hc1 : w1.cell? ⟨w.heap.size, 1, none⟩ = some (.slice EA es.length EC) := (hb1.cell (p := ⟨w.heap.size, 1, none⟩) (by simp)).trans (by go_simp)
  have hbw := Below.box hb1 (by simp)
  have hsz : w.heap.size < w1.heap.size := by have := hb1.size; simp at this; omega
  have HE1 := Lib.hid ((HE.out _).below hb1 (by simp))
  have HP1 := Lib.hid ((HP.out _).below hb1 (by simp))
  clear hb1 HE HP HD
  go_wp2_with fail
  refine (hgCheck_any N EA EC es _ (HE1.out.more (by omega)) HU.out hel2).mono ?_
  rintro e w2 ⟨rfl, hb2⟩
  have hd0 := (hb2.cell (p := ⟨w.heap.size, 0, none⟩) hsz).trans hc0
  have hd1 := (hb2.cell (p := ⟨w.heap.size, 1, none⟩) hsz).trans hc1
  have hbw2 := Below.then hbw hb2 hbw.size
  have hsz2 : w.heap.size < w2.heap.size := by have := hb2.size; omega
  have HE2 := Lib.hid (HE1.out.below hb2 (by omega))
  have HP2 := Lib.hid (HP1.out.below hb2 (by omega))
  clear hb2 HE1 HP1 hbw hc0 hc1
  by_cases h3 : JT.hgCheckF N es = 0
  rotate_left
  · have hs : (JT.hgCheckF N es != 0) = true := by simpa using h3
    have HF := Lib.hid (JT.chkF_hg (ps := ps) h3)
    generalize hq : JT.hgCheckF N es = q at *
    clear h3 hq
    go_wp2_with fail
    refine (jtCheck_any N EA PA EC PC es ps _ (HE2.out.more (by omega)) HU.out (HP2.out.more (by omega)) hel2 hpl2).mono ?_
    rw [HF.out]
    rintro e w8 ⟨rfl, hb8⟩
    have hbw8 := Below.then hbw2 hb8 hbw2.size
    have hqq : ((q : Int) == q) = true := by simp
    clear hb8
    go_wp2_with fail
    refine (awake_any _).mono ?_
    rintro e w9 ⟨rfl, hb9⟩
    have hbw9 := Below.then hbw8 hb9 hbw8.size
    clear hb9
    go_wp2
    go_ret
    exact ⟨rfl, hbw9⟩
  by_cases h4 : ps.length = es.length
  rotate_left
  · have HF := Lib.hid (JT.chkF_len h3 h4)
    have hs : ((ps.length : Int) != (es.length : Int)) = true := by simp; omega
    rw [h3]
    clear h3 h4
    go_wp2_with fail
    refine (jtCheck_any N EA PA EC PC es ps _ (HE2.out.more (by omega)) HU.out (HP2.out.more (by omega)) hel2 hpl2).mono ?_
    rw [HF.out]
    rintro e w8 ⟨rfl, hb8⟩
    have hbw8 := Below.then hbw2 hb8 hbw2.size
    have hqq : ((28 : Int) == 28) = true := by simp
    clear hb8
    go_wp2_with fail
    refine (awake_any _).mono ?_
    rintro e w9 ⟨rfl, hb9⟩
    have hbw9 := Below.then hbw8 hb9 hbw8.size
    clear hb9
    go_wp2
    go_ret
    exact ⟨rfl, hbw9⟩
  have hs : ((ps.length : Int) != (es.length : Int)) = false := by simp; omega
  have H3 := Lib.hid h3
  have H4 := Lib.hid h4
  rw [h3]
  clear h3 h4
  go_wp2_with fail
  refine (refRooted_any PA PC ps _ (HP2.out.more (by omega)) hpl2).mono ?_
  rintro e w3 ⟨rfl, hb3⟩
  have hf0 := (hb3.cell (p := ⟨w.heap.size, 0, none⟩) hsz2).trans hd0
  have hf1 := (hb3.cell (p := ⟨w.heap.size, 1, none⟩) hsz2).trans hd1
  have hbw3 := Below.then hbw2 hb3 hbw2.size
  have hsz3 : w.heap.size < w3.heap.size := by have := hb3.size; omega
  have HE3 := Lib.hid (HE2.out.below hb3 (by omega))
  have HP3 := Lib.hid (HP2.out.below hb3 (by omega))
  clear hb3 HE2 HP2 hbw2 hd0 hd1
  cases h5 : JT.rootedB ps
  · have HF := Lib.hid (JT.chkF_root H3.out H4.out h5)
    clear h5
    go_wp2_with fail
    refine (jtCheck_any N EA PA EC PC es ps _ (HE3.out.more (by omega)) HU.out (HP3.out.more (by omega)) hel2 hpl2).mono ?_
    rw [HF.out]
    rintro e w8 ⟨rfl, hb8⟩
    have hbw8 := Below.then hbw3 hb8 hbw3.size
    have hqq : ((15 : Int) == 15) = true := by simp
    clear hb8
    go_wp2_with fail
    refine (awake_any _).mono ?_
    rintro e w9 ⟨rfl, hb9⟩
    have hbw9 := Below.then hbw8 hb9 hbw8.size
    clear hb9
    go_wp2
    go_ret
    exact ⟨rfl, hbw9⟩
  have H5 := Lib.hid h5
  have HV := Lib.hid (JT.rooted_parts h5).1
  obtain ⟨n, rfl, hn, -, -⟩ := JT.hgCheckF_zero H3.out
  have hch : ∀ b, JT.joinB n es ps = b → JT.chkF n es ps = if b then 0 else 24 := by
    intro b hb
    unfold JT.chkF
    rw [H3.out, if_neg (by simp), if_neg (by simp [H4.out]), if_neg (by simp [H5.out]), Int.toNat_natCast, hb]
    cases b <;> simp
  have HCH := Lib.hid hch
  clear h5 hch
  go_wp2_with fail
  refine (refJoin_any n EA PA EC PC es ps _ (HE3.out.more (by omega)) HU.out (HP3.out.more (by omega)) hel2 hn H4.out HV.out).mono ?_
  rintro e w4 ⟨rfl, rfl⟩
  cases h6 : JT.joinB n es ps
  · have HF := Lib.hid (HCH.out false h6)
    simp only [Bool.false_eq_true, if_false] at HF
    clear h6
    go_wp2_with fail
    refine (jtCheck_any n EA PA EC PC es ps _ (HE3.out.more (by omega)) HU.out (HP3.out.more (by omega)) hel2 hpl2).mono ?_
    rw [HF.out]
    rintro e w8 ⟨rfl, hb8⟩
    have hbw8 := Below.then hbw3 hb8 hbw3.size
    have hqq : ((24 : Int) == 24) = true := by simp
    clear hb8
    go_wp2_with fail
    refine (awake_any _).mono ?_
    rintro e w9 ⟨rfl, hb9⟩
    have hbw9 := Below.then hbw8 hb9 hbw8.size
    clear hb9
    go_wp2
    go_ret
    exact ⟨rfl, hbw9⟩
  · have HF := Lib.hid (HCH.out true h6)
    simp only [if_true] at HF
    clear h6
    go_wp2_with fail
    refine (jtCheck_any n EA PA EC PC es ps _ (HE3.out.more (by omega)) HU.out (HP3.out.more (by omega)) hel2 hpl2).mono ?_
    rw [HF.out]
    rintro e w8 ⟨rfl, hb8⟩
    have hbw8 := Below.then hbw3 hb8 hbw3.size
    have hqq : ((0 : Int) == 0) = true := by simp
    clear hb8
    go_wp2_with fail
    refine (awake_any _).mono ?_
    rintro e w9 ⟨rfl, hb9⟩
    have hbw9 := Below.then hbw8 hb9 hbw8.size
    clear hb9
    go_wp2
    go_ret
    exact ⟨rfl, hbw9⟩

end Go.Proofs.Ytfiegiifoekfmaa

import Derived.Test.YtfiegiifoekfmaaW15
import Derived.Test.YtfiegiifoekfmaaW8
import Derived.Test.YtfiegiifoekfmaaJComp
namespace Go.Proofs.Ytfiegiifoekfmaa
open Go.RowKit

/-- A law's own box of its graph, and its two arguments, in a later world. -/
structure GP (w : World) (N : Int) (EA : Option Addr) (EC : Nat) (es : List Nat) (PA : Option Addr) (ps : List Int) (W : World) : Prop where
  c0 : W.cell? ⟨w.heap.size, 0, none⟩ = some (.int .i64 N)
  c1 : W.cell? ⟨w.heap.size, 1, none⟩ = some (.slice EA es.length EC)
  sE : SlN .u32 w.heap.size W EA es
  sP : SlI .i64 w.heap.size W PA ps
  bel : Below w.heap.size w W
  sz : w.heap.size < W.heap.size

section
variable {w W W' : World} {N : Int} {EA PA : Option Addr} {EC : Nat} {es : List Nat} {ps : List Int}
theorem GP.start (hE : SlN .u32 w.heap.size w EA es) (hP : SlI .i64 w.heap.size w PA ps) : GP w N EA EC es PA ps (w.alloc (.cells #[.int .i64 N, .slice EA es.length EC] 24)) := by
  have r := Row.new w 24 [.int .i64 N, .slice EA es.length EC]
  exact ⟨r.cell 0, r.cell 1, hE.alloc (Nat.le_refl _) _, hP.alloc (Nat.le_refl _) _, (Below.refl _ _).alloc (Nat.le_refl _) _, by simp⟩
theorem GP.keep (h : GP w N EA EC es PA ps W) (hb : Below W.heap.size W W') : GP w N EA EC es PA ps W' := by
  have hs := h.sz
  exact ⟨(hb.cell (p := ⟨w.heap.size, 0, none⟩) hs).trans h.c0, (hb.cell (p := ⟨w.heap.size, 1, none⟩) hs).trans h.c1, h.sE.below hb (by omega), h.sP.below hb (by omega), Below.then h.bel hb (by omega), Nat.lt_of_lt_of_le hs hb.size⟩
theorem GP.alloc (h : GP w N EA EC es PA ps W) (o : Obj) : GP w N EA EC es PA ps (W.alloc o) := h.keep ((Below.refl _ _).alloc (Nat.le_refl _) o)
theorem GP.E (h : GP w N EA EC es PA ps W) : SlN .u32 W.heap.size W EA es := h.sE.more (Nat.le_of_lt h.sz)
theorem GP.P (h : GP w N EA EC es PA ps W) : SlI .i64 W.heap.size W PA ps := h.sP.more (Nat.le_of_lt h.sz)
end

set_option maxHeartbeats 4000000 in
set_option maxRecDepth 100000 in
theorem none_walk (N : Int) (EA PA : Option Addr) (EC PC : Nat) (es : List Nat) (ps : List Int) (w : World)
   (hE : SlN .u32 w.heap.size w EA es) (hu : JT.U32 es) (hP : SlI .i64 w.heap.size w PA ps) (hel : es.length ≤ 9223372036854775807) (hpl : ps.length ≤ 9223372036854775807) :
    Calls Try.prog 5 #[.agg #[.int .i64 N, .slice EA es.length EC], .slice PA ps.length PC] w fun e w' => e = .returned (.bool true) ∧ Below w.heap.size w w' := by
  have H0 := Lib.hid (GP.start (N := N) (EC := EC) hE hP)
  have HU := Lib.hid hu
  clear hE hP hu
  go_enter Try.func5, Try.ntmps5
  go_wp2_with fail
  refine (great_any N EA es.length EC _ hel).mono ?_
  rintro e w1 ⟨rfl, hb1⟩
  have H1 := Lib.hid (H0.out.keep hb1)
  clear hb1 H0
  by_cases h1 : 12 < es.length
  · have hd : decide (12 < es.length) = true := by simpa using h1
    rw [hd]
    clear hd
    go_wp2_with fail
    refine (awake_any _).mono ?_
    rintro e w2 ⟨rfl, hb2⟩
    have H2 := Lib.hid (H1.out.keep hb2)
    clear hb2
    go_wp2
    go_ret
    exact ⟨rfl, H2.out.bel⟩
  have hd : decide (12 < es.length) = false := by simpa using h1
  rw [hd]
  clear hd
  by_cases h2 : 12 < ps.length
  · go_wp2_with fail
    refine (awake_any _).mono ?_
    rintro e w2 ⟨rfl, hb2⟩
    have H2 := Lib.hid (H1.out.keep hb2)
    clear hb2
    go_wp2
    go_ret
    exact ⟨rfl, H2.out.bel⟩
  have hel2 : es.length ≤ 1000000 := by omega
  have hpl2 : ps.length ≤ 1000000 := by omega
  have hsz := H1.out.sz
  have hc0 := H1.out.c0
  have hc1 := H1.out.c1
  go_wp2_with fail
  have H2 := Lib.hid (H1.out.alloc (.cells #[.slice PA ps.length PC] 34))
  refine (jtCheck_any N EA PA EC PC es ps _ H2.out.E HU.out H2.out.P hel2 hpl2).mono ?_
  rintro e w3 ⟨rfl, hb3⟩
  have H3 := Lib.hid (H2.out.keep hb3)
  clear hb3 H2 H1 hc0 hc1
  by_cases h3 : JT.chkF N es ps = 0
  rotate_left
  · have hs : (JT.chkF N es ps != 0) = true := by simpa using h3
    generalize JT.chkF N es ps = q at *
    clear h3
    go_wp2_with fail
    refine (awake_any _).mono ?_
    rintro e w4 ⟨rfl, hb4⟩
    have H4 := Lib.hid (H3.out.keep hb4)
    clear hb4
    go_wp2
    go_ret
    exact ⟨rfl, H4.out.bel⟩
  have hg : JT.hgCheckF N es = 0 := by
    refine Classical.byContradiction fun h => ?_
    rw [JT.chkF_hg h] at h3; exact h h3
  obtain ⟨n, rfl, hn, -, -⟩ := JT.hgCheckF_zero hg
  have HG := Lib.hid hg
  have HM := Lib.hid (JT.cmp_start h3).2
  have HZ := Lib.hid (JT.gyo_complete h3)
  rw [h3]
  clear h3 hg
  have hc0 := H3.out.c0
  have hc1 := H3.out.c1
  go_wp2_with fail
  refine (build_ok n EA EC es _ H3.out.E HU.out HG.out HM.out HZ.out).mono ?_
  rintro e w4 ⟨A2, c2, rfl, -, hb4⟩
  have H4 := Lib.hid ((H3.out.keep hb4).alloc (.cells #[.slice A2 es.length c2] 34))
  have hsz4 := (H3.out.keep hb4).sz
  have hd0 := (H3.out.keep hb4).c0
  have hd1 := (H3.out.keep hb4).c1
  clear hb4 H3 hc0 hc1
  go_wp2_with fail
  refine (acyclic_any n EA EC es _ H4.out.E HU.out HG.out HM.out).mono ?_
  rw [HZ.out]
  rintro e w5 ⟨rfl, hb5⟩
  have H5 := Lib.hid (H4.out.keep hb5)
  clear hb5 H4 hd0 hd1
  go_wp2_with fail
  refine (awake_any _).mono ?_
  rintro e w6 ⟨rfl, hb6⟩
  have H6 := Lib.hid (H5.out.keep hb6)
  clear hb6 H5
  go_wp2
  go_ret
  exact ⟨rfl, H6.out.bel⟩

end Go.Proofs.Ytfiegiifoekfmaa

import Derived.Test.YtfiegiifoekfmaaW1
import Derived.Test.YtfiegiifoekfmaaW5
import Derived.Test.YtfiegiifoekfmaaJJoin
namespace Go.Proofs.Ytfiegiifoekfmaa
open Go.RowKit

set_option maxHeartbeats 1000000 in
set_option maxRecDepth 100000 in
theorem jtCheck_any (N : Int) (EA PA : Option Addr) (EC PC : Nat) (es : List Nat) (ps : List Int) (w : World)
   (he : SlN .u32 w.heap.size w EA es) (hu : U32s es) (hp : SlI .i64 w.heap.size w PA ps) (hel : es.length ≤ 1000000) (hpl : ps.length ≤ 1000000) :
    Calls Try.prog 15 #[.agg #[.int .i64 N, .slice EA es.length EC], .agg #[.slice PA ps.length PC]] w fun e w' => e = .returned (.int .i64 (JT.chkF N es ps)) ∧ Below w.heap.size w w' := by
  have he2 : ∀ o1 o2, SlN .u32 ((w.alloc o1).alloc o2).heap.size ((w.alloc o1).alloc o2) EA es := fun o1 o2 => ((he.alloc (Nat.le_refl _) o1).alloc (by simp) o2).more (by simp; omega)
  have hp2 : ∀ o1 o2, SlI .i64 ((w.alloc o1).alloc o2).heap.size ((w.alloc o1).alloc o2) PA ps := fun o1 o2 => ((hp.alloc (Nat.le_refl _) o1).alloc (by simp) o2).more (by simp; omega)
  have HE := Lib.hid he2
  have HP := Lib.hid hp2
  have HU := Lib.hid hu
  clear he2 hp2 hu
  go_enter Try.func15, Try.ntmps15
  go_wp2_with fail
  refine (hgCheck_any N EA EC es _ (HE.out _ _) HU.out hel).mono ?_
  rintro e w1 ⟨rfl, hb1⟩
  have hc1 : w1.cell? ⟨w.heap.size, 0, none⟩ = some (.int .i64 N) := (hb1.cell (p := ⟨w.heap.size, 0, none⟩) (by simp; omega)).trans (by go_simp)
  have hc2 : w1.cell? ⟨w.heap.size, 1, none⟩ = some (.slice EA es.length EC) := (hb1.cell (p := ⟨w.heap.size, 1, none⟩) (by simp; omega)).trans (by go_simp)
  have hc3 : w1.cell? ⟨w.heap.size + 1, 0, none⟩ = some (.slice PA ps.length PC) := (hb1.cell (p := ⟨w.heap.size + 1, 0, none⟩) (by simp)).trans (by go_simp)
  have hbw : Below w.heap.size w w1 := Below.box2 hb1 (by simp; omega)
  have hsz := hb1.size
  simp at hsz
  clear hb1
  by_cases h1 : JT.hgCheckF N es = 0
  rotate_left
  · have hs : (JT.hgCheckF N es != 0) = true := by simpa using h1
    have HF := Lib.hid (JT.chkF_hg (ps := ps) h1)
    clear h1
    generalize JT.hgCheckF N es = q at *
    go_wp2
    go_ret
    exact ⟨ret_int HF.out.symm, hbw⟩
  rw [h1]
  by_cases h2 : ps.length = es.length
  rotate_left
  · have hs : ((ps.length : Int) != (es.length : Int)) = true := by simp; omega
    have HF := Lib.hid (JT.chkF_len h1 h2)
    clear h1 h2
    go_wp2
    go_ret
    exact ⟨ret_int HF.out.symm, hbw⟩
  have hs : ((ps.length : Int) != (es.length : Int)) = false := by simp; omega
  have H1 := Lib.hid h1
  have H2 := Lib.hid h2
  clear h1 h2
  have hep := he.below hbw (Nat.le_refl _)
  have hpp := hp.below hbw (Nat.le_refl _)
  have HE1 := Lib.hid hep
  have HP1 := Lib.hid hpp
  clear he hp hep hpp HE HP
  go_wp2_with fail
  refine (rooted_any PA PC ps _ (HP1.out.more (by omega)) hpl).mono ?_
  rintro e w2 ⟨rfl, hb2⟩
  have hd1 := (hb2.cell (p := ⟨w.heap.size, 0, none⟩) (by show w.heap.size < _; omega)).trans hc1
  have hd2 := (hb2.cell (p := ⟨w.heap.size, 1, none⟩) (by show w.heap.size < _; omega)).trans hc2
  have hd3 := (hb2.cell (p := ⟨w.heap.size + 1, 0, none⟩) (by show w.heap.size + 1 < _; omega)).trans hc3
  have hbw2 : Below w.heap.size w w2 := Below.then hbw hb2 hbw.size
  have HE2 := Lib.hid (HE1.out.below hb2 hbw.size)
  have HP2 := Lib.hid (HP1.out.below hb2 hbw.size)
  have hsz2 := hb2.size
  clear hb2 hbw hc1 hc2 hc3 HE1 HP1
  by_cases h3 : JT.rootedB ps = true
  rotate_left
  · have h4 : JT.rootedB ps = false := by simpa using h3
    have HF := Lib.hid (JT.chkF_root H1.out H2.out h4)
    rw [h4]
    clear h3 h4
    go_wp2
    go_ret
    exact ⟨ret_int HF.out.symm, hbw2⟩
  rw [h3]
  have H3 := Lib.hid h3
  clear h3
  go_wp2
  go_loopw [6, 28] (fun s i wr => ∃ k : Nat, k ≤ es.length ∧ i = .int .i64 k ∧ s = .int .u32 (JT.seenTo es ps k : Nat) ∧ (∀ i, i < k → JT.seenTo es ps i &&& JT.topF es ps i = 0) ∧ Below w.heap.size w wr ∧ w.heap.size + 2 ≤ wr.heap.size ∧ SlN .u32 w.heap.size wr EA es ∧ SlI .i64 w.heap.size wr PA ps ∧ wr.cell? ⟨w.heap.size, 0, none⟩ = some (.int .i64 N) ∧ wr.cell? ⟨w.heap.size, 1, none⟩ = some (.slice EA es.length EC) ∧ wr.cell? ⟨w.heap.size + 1, 0, none⟩ = some (.slice PA ps.length PC)) (fun _ i _ => es.length - (intOf i).toNat)
  case atStart => exact ⟨0, Nat.zero_le _, rfl, rfl, by omega, hbw2, by omega, HE2.out, HP2.out, hd1, hd2, hd3⟩
  case round =>
    clear hbw2 HE2 HP2 hd1 hd2 hd3
    obtain ⟨k, hk, rfl, rfl, hall, hb, hs4, hsE, hsP, hc1, hc2, hc3⟩ := hrel
    have HA := Lib.hid hall
    have HSP := Lib.hid hsP
    have HSE := Lib.hid hsE
    clear hall hsP hsE
    by_cases hlt : k < es.length
    · obtain ⟨b, o, rfl, hbb, hc⟩ := slN_at HSE.out hlt
      have hu32 : JT.U32 es := HU.out
      have hek := hu32.get k
      have hsl := JT.sepF_le es ps k
      have hst := JT.seenTo_lt (ps := ps) hu32 k
      have htt := JT.topF_lt (ps := ps) hu32 k
      have htop : JT.topF es ps k = JT.dif (es[k]?.getD 0) (JT.sepF es ps (k : Int)) := rfl
      have hge : es[k]?.getD 0 = es[k] := by simp [hlt]
      rw [hge] at hek hsl htop
      have hseen : JT.seenTo es ps (k + 1) = JT.seenTo es ps k ||| JT.topF es ps k := rfl
      generalize hekk : es[k] = ek at *
      generalize hsp : JT.sepF es ps (k : Int) = sp at *
      generalize htp : JT.topF es ps k = tp at *
      generalize hsn : JT.seenTo es ps k = sn at *
      have hb1 : bits .andNot .u32 (ek : Int) (sp : Int) = (tp : Int) := by rw [htop]; exact u32_andNot_nat ek sp (by omega) (by omega)
      have hb2 : bits .and .u32 (sn : Int) (tp : Int) = ((sn &&& tp : Nat) : Int) := u32_and_nat sn tp (by omega) (by omega)
      have hb3 : bits .or .u32 (sn : Int) (tp : Int) = ((sn ||| tp : Nat) : Int) := u32_or_nat sn tp (by omega) (by omega)
      have HSEEN := Lib.hid hseen
      have HSPK := Lib.hid hsp
      have HTP := Lib.hid htp
      have HSN := Lib.hid hsn
      clear hge hekk hsp htp hsn htop hseen hsl hu32
      by_cases h0 : sn &&& tp = 0
      · have H0 := Lib.hid h0
        rw [h0] at hb2
        clear h0
        go_wp2_with fail
        refine (sep_any N _ PA EC PC es ps k _ (HSE.out.more (by omega)) HU.out (HSP.out.more (by omega)) hel hpl).mono ?_
        rw [HSPK.out]
        rintro e w3 ⟨rfl, hb3'⟩
        have hd1 := (hb3'.cell (p := ⟨w.heap.size, 0, none⟩) (by show w.heap.size < _; omega)).trans hc1
        have hd2 := (hb3'.cell (p := ⟨w.heap.size, 1, none⟩) (by show w.heap.size < _; omega)).trans hc2
        have hd3 := (hb3'.cell (p := ⟨w.heap.size + 1, 0, none⟩) (by show w.heap.size + 1 < _; omega)).trans hc3
        have hbw3 : Below w.heap.size w w3 := Below.then hb hb3' hb.size
        have HE3 := Lib.hid (HSE.out.below hb3' hb.size)
        have HP3 := Lib.hid (HSP.out.below hb3' hb.size)
        have hsz3 := hb3'.size
        clear hb3' hc1 hc2 hc3 HSE HSP hc
        go_wp2
        go_roundw
        case rel =>
          refine ⟨k + 1, by omega, by go_num, ?_, ?_, hbw3, by omega, HE3.out, HP3.out, hd1, hd2, hd3⟩
          · rw [HSEEN.out]
          · intro i hi
            by_cases hik : i < k
            · exact HA.out i hik
            · obtain rfl : i = k := by omega
              rw [HSN.out, HTP.out]; exact H0.out
        case measure => simp [intOf]; omega
      · have hne : (((sn &&& tp : Nat) : Int) != 0) = true := by simp; omega
        have HF : Hid (JT.chkF N es ps = 24) := JT.chkF_tops H1.out H2.out H3.out fun ht => h0 (by rw [← HSN.out, ← HTP.out]; exact ht k hlt)
        clear h0
        generalize sn &&& tp = st at *
        go_wp2_with fail
        refine (sep_any N _ PA EC PC es ps k _ (HSE.out.more (by omega)) HU.out (HSP.out.more (by omega)) hel hpl).mono ?_
        rw [HSPK.out]
        rintro e w3 ⟨rfl, hb3'⟩
        have hbw3 : Below w.heap.size w w3 := Below.then hb hb3' hb.size
        clear hb3' hc1 hc2 hc3 HSE HSP hc
        go_wp2
        go_ret
        exact ⟨ret_int HF.out.symm, hbw3⟩
    · have HF : Hid (JT.chkF N es ps = 0) := JT.chkF_ok H1.out H2.out H3.out fun i hi => HA.out i (by omega)
      go_wp2
      go_ret
      exact ⟨ret_int HF.out.symm, hb⟩

end Go.Proofs.Ytfiegiifoekfmaa

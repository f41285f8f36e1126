import Derived.Test.YtfiegiifoekfmaaL7a
import Derived.Deep.RegionHeld3
import Derived.Deep.DeepCutAuto
namespace Go.Proofs.Ytfiegiifoekfmaa
open Go.RowKit

theorem idxP {ps : List Int} {i : Nat} (h : i < ps.length) : ps[i]?.getD 0 = ps[i] := by simp [h]

set_option maxHeartbeats 4000000 in
set_option maxRecDepth 100000 in
theorem separates_walk (N : Int) (EA PA : Option Addr) (EC PC : Nat) (es : List Nat) (ps : List Int) (root : Int) (w : World)
   (hE : SlN .u32 w.heap.size w EA es) (hu : JT.U32 es) (hP : SlI .i64 w.heap.size w PA ps) (hel : es.length ≤ 9223372036854775807) (hpl : ps.length ≤ 9223372036854775807) :
    Calls Try.prog 9 #[.agg #[.int .i64 N, .slice EA es.length EC], .slice PA ps.length PC, .int .i64 root] w fun e w' => e = .returned (.bool true) ∧ Below w.heap.size w w' := by
  have H0 := Lib.hid (GP.start (N := N) (EC := EC) hE hP)
  have HU := Lib.hid hu
  clear hE hP hu
  go_enter Try.func9, Try.ntmps9
  go_wp2_with fail
  refine (great_any N EA es.length EC _ hel).mono ?_
  rintro e w1 ⟨rfl, hb1⟩
  have H1 := Lib.hid (H0.out.keep hb1)
  clear hb1 H0
  by_cases h1 : 12 < es.length
  · have hd : decide (12 < es.length) = true := by simpa using h1
    rw [hd]
    clear hd
    go_wp2_with fail
    refine (awake_any _).mono ?_
    rintro e w2 ⟨rfl, hb2⟩
    have H2 := Lib.hid (H1.out.keep hb2)
    clear hb2
    go_wp2
    go_ret
    exact ⟨rfl, H2.out.bel⟩
  have hd : decide (12 < es.length) = false := by simpa using h1
  rw [hd]
  clear hd
  by_cases h2 : 12 < ps.length
  · go_wp2_with fail
    refine (awake_any _).mono ?_
    rintro e w2 ⟨rfl, hb2⟩
    have H2 := Lib.hid (H1.out.keep hb2)
    clear hb2
    go_wp2
    go_ret
    exact ⟨rfl, H2.out.bel⟩
  have hel2 : es.length ≤ 1000000 := by omega
  have hpl2 : ps.length ≤ 1000000 := by omega
  have hd12 : decide (12 < (ps.length : Int)) = false := by simp; omega
  have hsz1 := H1.out.sz
  have H2 := Lib.hid (S1.start (PC := PC) H1.out)
  clear H1
  go_wp2_with fail
  go_loopw [8] (fun i wr => ∃ z : Int, -1 ≤ z ∧ z ≤ max (ps.length : Int) (es.length : Int) + 1 ∧ i = .int .i64 z ∧ S1 w N EA EC es PA PC ps w1.heap.size wr) (fun i _ => ((max (ps.length : Int) (es.length : Int) + 1) - intOf i).toNat)
  case atStart => exact ⟨-1, by omega, by omega, rfl, H2.out⟩
  case round =>
    obtain ⟨z, hz1, hz2, rfl, hS⟩ := hrel
    have c0 := hS.gp.c0
    have c1 := hS.gp.c1
    have t0 := hS.t0
    have HS := Lib.hid hS
    clear hS H2
    by_cases hz3 : z ≤ max (ps.length : Int) (es.length : Int)
    · by_cases ha : z < 0
      · have hg0 : decide (0 ≤ z) = false := by simp; omega
        have HW : Hid (JT.sepF es ps z = 0) := sepF_zero1 (by omega)
        go_wp2_with fail
        go_quiet (fail)
        go_wp2_with fail
        refine (sep_any N EA PA EC PC es ps z _ (HS.out.drewN _).gp.E HU.out (HS.out.drewN _).gp.P hel2 hpl2).mono ?_
        rw [HW.out]
        rintro e w3 ⟨rfl, hb3⟩
        have HS3 := Lib.hid ((HS.out.drewN _).keep hb3)
        clear hb3
        go_wp2
        go_roundw
        case rel => exact ⟨z + 1, by omega, by omega, rfl, HS3.out⟩
        case measure => simp [intOf]; omega
      obtain ⟨i, rfl⟩ := Int.eq_ofNat_of_zero_le (show 0 ≤ z by omega)
      clear ha hz1
      by_cases hb : i < ps.length
      rotate_left
      · have HW : Hid (JT.sepF es ps (i : Int) = 0) := sepF_zero1 (by omega)
        have hg1 : decide (i < ps.length) = false := by simp; omega
        go_wp2_with fail
        go_quiet (fail)
        go_wp2_with fail
        refine (sep_any N EA PA EC PC es ps i _ (HS.out.drewN _).gp.E HU.out (HS.out.drewN _).gp.P hel2 hpl2).mono ?_
        rw [HW.out]
        rintro e w3 ⟨rfl, hb3⟩
        have HS3 := Lib.hid ((HS.out.drewN _).keep hb3)
        clear hb3
        go_wp2
        go_roundw
        case rel => exact ⟨(i : Int) + 1, by omega, by omega, rfl, HS3.out⟩
        case measure => simp [intOf]; omega
      by_cases hc : i < es.length
      rotate_left
      · have HW : Hid (JT.sepF es ps (i : Int) = 0) := sepF_zero1 (by omega)
        have hg2 : decide (i < es.length) = false := by simp; omega
        go_wp2_with fail
        go_quiet (fail)
        go_wp2_with fail
        refine (sep_any N EA PA EC PC es ps i _ (HS.out.drewN _).gp.E HU.out (HS.out.drewN _).gp.P hel2 hpl2).mono ?_
        rw [HW.out]
        rintro e w3 ⟨rfl, hb3⟩
        have HS3 := Lib.hid ((HS.out.drewN _).keep hb3)
        clear hb3
        go_wp2
        go_roundw
        case rel => exact ⟨(i : Int) + 1, by omega, by omega, rfl, HS3.out⟩
        case measure => simp [intOf]; omega
      have hsp : JT.sepF es ps (i : Int) = if 0 ≤ ps[i] ∧ ps[i] < es.length then es[i] &&& es[ps[i].toNat]?.getD 0 else 0 := by
        unfold JT.sepF
        rw [if_pos (by omega)]
        simp [hb, hc]
      obtain ⟨b2, o2, rfl, hb2, hcp⟩ := slI_at HS.out.gp.sP hb
      generalize ps[i] = p at hsp hcp
      by_cases hd : p < 0
      · have HW := Lib.hid (hsp.trans (if_neg (by omega)))
        clear hsp
        have hg3 : decide (0 ≤ p) = false := by simp; omega
        go_wp2_with fail
        go_quiet (fail)
        go_wp2_with fail
        refine (sep_any N EA _ EC PC es ps i _ (HS.out.drewN _).gp.E HU.out (HS.out.drewN _).gp.P hel2 hpl2).mono ?_
        rw [HW.out]
        rintro e w3 ⟨rfl, hb3⟩
        have HS3 := Lib.hid ((HS.out.drewN _).keep hb3)
        clear hb3
        go_wp2
        go_roundw
        case rel => exact ⟨(i : Int) + 1, by omega, by omega, rfl, HS3.out⟩
        case measure => simp [intOf]; omega
      obtain ⟨j, rfl⟩ := Int.eq_ofNat_of_zero_le (show 0 ≤ p by omega)
      clear hd
      by_cases he : j < es.length
      rotate_left
      · have HW := Lib.hid (hsp.trans (if_neg (by omega)))
        clear hsp
        have hg3 : decide (j < es.length) = false := by simp; omega
        go_wp2_with fail
        go_quiet (fail)
        go_wp2_with fail
        refine (sep_any N EA _ EC PC es ps i _ (HS.out.drewN _).gp.E HU.out (HS.out.drewN _).gp.P hel2 hpl2).mono ?_
        rw [HW.out]
        rintro e w3 ⟨rfl, hb3⟩
        have HS3 := Lib.hid ((HS.out.drewN _).keep hb3)
        clear hb3
        go_wp2
        go_roundw
        case rel => exact ⟨(i : Int) + 1, by omega, by omega, rfl, HS3.out⟩
        case measure => simp [intOf]; omega
      obtain ⟨b, o, rfl, hb1, hci⟩ := slN_at HS.out.gp.sE hc
      obtain ⟨b', o', e', -, hcj⟩ := slN_at HS.out.gp.sE he
      simp at e'
      obtain ⟨rfl, rfl⟩ := e'
      have hui := HU.out _ (List.getElem_mem hc)
      have huj := HU.out _ (List.getElem_mem he)
      have hj : es[j]?.getD 0 = es[j] := by simp [he]
      rw [if_pos (by omega)] at hsp
      simp only [Int.toNat_natCast] at hsp
      rw [hj] at hsp
      clear hj
      generalize es[i] = ei at *
      generalize es[j] = ej at *
      have HW : Hid (JT.sepF es ps (i : Int) = ei &&& ej) := hsp
      have HB := Lib.hid (u32_and_nat ei ej (by omega) (by omega))
      clear hsp
      go_wp2_with fail
      go_quiet (fail)
      go_wp2_with fail
      go_quiet (fail)
      go_wp2_with fail
      rw [HB.out]
      refine (sep_any N _ _ EC PC es ps i _ (HS.out.drewN _).gp.E HU.out (HS.out.drewN _).gp.P hel2 hpl2).mono ?_
      rw [HW.out]
      rintro e w3 ⟨rfl, hb3⟩
      have HS3 := Lib.hid ((HS.out.drewN _).keep hb3)
      clear hb3
      go_wp2
      go_roundw
      case rel => exact ⟨(i : Int) + 1, by omega, by omega, rfl, HS3.out⟩
      case measure => simp [intOf]; omega
    · clear hz1 hz2
      cases hr : JT.rootedB ps
      · have HR := Lib.hid hr
        clear hr
        go_wp2_with fail
        refine (jtReroot_bad PA PC ps root _ HS.out.gp.P hpl2 HR.out).mono ?_
        rintro e w4 ⟨rfl, hb4⟩
        have HS4 := Lib.hid ((HS.out.keep hb4).alloc (.cells #[.slice none 0 0] 34))
        clear hb4
        go_wp2_with fail
        refine (awake_any _).mono ?_
        rintro e w5 ⟨rfl, hb5⟩
        have HS5 := Lib.hid (HS4.out.keep hb5)
        clear hb5
        go_wp2
        go_ret
        exact ⟨rfl, HS5.out.gp.bel⟩
      have HR := Lib.hid hr
      clear hr
      by_cases hrng : root < 0 ∨ (ps.length : Int) ≤ root
      · go_wp2_with fail
        refine (jtReroot_range PA PC ps root _ HS.out.gp.P hpl2 HR.out hrng).mono ?_
        rintro e w4 ⟨rfl, hb4⟩
        have HS4 := Lib.hid ((HS.out.keep hb4).alloc (.cells #[.slice none 0 0] 34))
        clear hb4
        go_wp2_with fail
        refine (awake_any _).mono ?_
        rintro e w5 ⟨rfl, hb5⟩
        have HS5 := Lib.hid (HS4.out.keep hb5)
        clear hb5
        go_wp2
        go_ret
        exact ⟨rfl, HS5.out.gp.bel⟩
      obtain ⟨rt, rfl⟩ := Int.eq_ofNat_of_zero_le (show 0 ≤ root by omega)
      have hrt : rt < ps.length := by omega
      clear hrng
      go_wp2_with fail
      refine (jtReroot_ok PA PC ps rt _ HS.out.gp.P hpl2 HR.out hrt).mono ?_
      rintro e w4 ⟨UA, UC, rfl, hql, hs4, -, hb4⟩
      have HQL := Lib.hid hql
      have H5 := Lib.hid ((HS.out.keep hb4).alloc (.cells #[.slice UA ps.length UC] 34))
      have c0' := (HS.out.keep hb4).gp.c0
      have c1' := (HS.out.keep hb4).gp.c1
      have t0' := (HS.out.keep hb4).t0
      have l1 := (HS.out.keep hb4).lt
      have l0 := (HS.out.keep hb4).gp.sz
      have HU5 := Lib.hid (hs4.alloc (Nat.le_refl _) (.cells #[.slice UA ps.length UC] 34))
      clear hb4 hs4 hql HS c0 c1 t0
      go_wp2_with fail
      refine (jtCheck_any N EA PA EC PC es ps _ H5.out.gp.E HU.out H5.out.gp.P hel2 hpl2).mono ?_
      rintro e w6 ⟨rfl, hb6⟩
      have H6 := Lib.hid (H5.out.keep hb6)
      by_cases hk : JT.chkF N es ps = 0
      rotate_left
      · have hkd : (JT.chkF N es ps != 0) = true := by simpa using hk
        generalize JT.chkF N es ps = ck at *
        clear hb6 hk
        go_wp2_with fail
        refine (awake_any _).mono ?_
        rintro e w7 ⟨rfl, hb7⟩
        have H7 := Lib.hid (H6.out.keep hb7)
        clear hb7
        go_wp2
        go_ret
        exact ⟨rfl, H7.out.gp.bel⟩
      have HK := Lib.hid hk
      rw [hk]
      clear hk
      have hu6 : w6.cell? ⟨w4.heap.size, 0, none⟩ = some (.slice UA ps.length UC) := (hb6.cell (p := ⟨w4.heap.size, 0, none⟩) (by simp)).trans (by go_simp)
      have hz6 : w4.heap.size < w6.heap.size := by have := hb6.size; simp at this; omega
      have HS6 := Lib.hid (S2.start H6.out hu6 hz6 ((HU5.out.below hb6 (by simp)).more (Nat.le_of_lt hz6)))
      clear hb6 HU5 H5 H6 c0' c1' t0' hu6
      go_wp2_with fail
      have HLQ : Hid ((JT.rerootF ps rt).length = ps.length) := HQL.out
      generalize hq : JT.rerootF ps rt = q at *
      have HQ := Lib.hid hq
      clear hq
      go_loopw [12, 13, 104] (fun a b i wr => ∃ k : Nat, k ≤ ps.length ∧ i = .int .i64 k ∧ S2 w N EA EC es PA PC ps w1.heap.size w4.heap.size w6.heap.size UA UC q a b (JT.sepsOf es ps (List.range k)) (JT.sepsOf es q (List.range k)) wr) (fun _ _ i _ => ps.length - (intOf i).toNat)
      case atStart => exact ⟨0, Nat.zero_le _, rfl, HS6.out⟩
      case round =>
        obtain ⟨k, hk, rfl, hS⟩ := hrel
        have d0 := hS.c0
        have d1 := hS.c1
        have d2 := hS.t0
        have d3 := hS.u0
        have HS := Lib.hid hS
        clear hS HS6
        by_cases hlt : k < ps.length
        · have hkq : k < q.length := by have := HLQ.out; omega
          obtain ⟨b2, o2, rfl, hb2, hcp⟩ := slI_at HS.out.sP hlt
          obtain ⟨b3, o3, rfl, hb3, hcq⟩ := slI_at HS.out.sU hkq
          have hpp : JT.par ps k = ps[k] := by simp [JT.par, hlt]
          have hpq : JT.par q k = q[k] := by simp [JT.par, hkq]
          have hla := JT.sepsOf_snoc es ps k
          have hlb := JT.sepsOf_snoc es q k
          have hll := JT.sepsOf_range_le es ps k
          have hlm := JT.sepsOf_range_le es q k
          rw [hpp] at hla
          rw [hpq] at hlb
          generalize hpk : ps[k] = pk at *
          generalize hqk : q[k] = qk at *
          have HQK := Lib.hid hqk
          have HSQ : Hid (∀ W, SlN .u32 W.heap.size W EA es → SlI .i64 W.heap.size W (some ⟨b3, o3, none⟩) q → Calls Try.prog 25 #[.agg #[.int .i64 N, .slice EA es.length EC], .agg #[.slice (some ⟨b3, o3, none⟩) ps.length UC], .int .i64 k] W fun e w' => e = .returned (.int .u32 (JT.sepF es q (k : Int) : Nat)) ∧ Below W.heap.size W w') := fun W h1 h2 => by
            have h := sep_any N EA (some ⟨b3, o3, none⟩) EC UC es q k W h1 HU.out h2 hel2 (by rw [HLQ.out]; exact hpl2)
            rw [HLQ.out] at h
            exact h
          clear hpp hpq hpk hqk
          by_cases hp : 0 ≤ pk
          · rw [if_pos hp] at hla
            have HLA := Lib.hid hla
            clear hla
            by_cases hq : 0 ≤ qk
            · rw [if_pos hq] at hlb
              have HLB := Lib.hid hlb
              clear hlb
              go_wp2_with fail
              refine (sep_any N EA _ EC PC es ps k _ HS.out.E HU.out HS.out.P hel2 hpl2).mono ?_
              rintro e w7 ⟨rfl, hb7⟩
              have HS7 := Lib.hid ((HS.out.keep hb7).keep ((Below.refl _ _).alloc (Nat.le_refl _) (.cells #[.int .u32 ((JT.sepF es ps (k : Int) : Nat) : Int)] 44)))
              clear hb7 HS d0 d1 d2 d3 hcq hcp
              go_wp2_with (at_builtin; refine app1U32L rfl (.tmp 112) (.tmp 117) rfl w6.heap.size u12 _ rfl HS7.out.oa w7.heap.size (JT.sepF es ps (k : Int)) rfl (by go_simp) (by omega) HS7.out.sz ?_
                           intro v8 w8 hown8 hg8 hat8
                           have HS8 := Lib.hid (HS7.out.stepA hg8 hown8 hat8)
                           have d0 := HS8.out.c0
                           have d1 := HS8.out.c1
                           have d2 := HS8.out.t0
                           have d3 := HS8.out.u0
                           obtain ⟨b3', o3', e3', -, hcq⟩ := slI_at HS8.out.sU hkq
                           simp at e3'
                           obtain ⟨rfl, rfl⟩ := e3'
                           rw [HQK.out] at hcq
                           clear hown8 hg8 hat8 HS7)
              refine (HSQ.out _ HS8.out.E HS8.out.U).mono ?_
              rintro e w9 ⟨rfl, hb9⟩
              have HS9 := Lib.hid ((HS8.out.keep hb9).keep ((Below.refl _ _).alloc (Nat.le_refl _) (.cells #[.int .u32 ((JT.sepF es q (k : Int) : Nat) : Int)] 44)))
              clear hb9 HS8 d0 d1 d2 d3 hcq
              go_wp2_with (at_builtin; refine app1U32L rfl (.tmp 132) (.tmp 137) rfl w6.heap.size u13 _ rfl HS9.out.ob w9.heap.size (JT.sepF es q (k : Int)) rfl (by go_simp) (by omega) HS9.out.sz ?_
                           intro v10 w10 hown10 hg10 hat10
                           have HS10 := Lib.hid (HS9.out.stepB hg10 hown10 hat10)
                           clear hown10 hg10 hat10 HS9)
              go_roundw
              case rel => exact ⟨k + 1, by omega, by go_num, by rw [HLA.out, HLB.out]; exact HS10.out⟩
              case measure => simp [intOf]; omega
            · rw [if_neg hq, List.append_nil] at hlb
              have HLB := Lib.hid hlb
              clear hlb
              go_wp2_with fail
              refine (sep_any N EA _ EC PC es ps k _ HS.out.E HU.out HS.out.P hel2 hpl2).mono ?_
              rintro e w7 ⟨rfl, hb7⟩
              have HS7 := Lib.hid ((HS.out.keep hb7).keep ((Below.refl _ _).alloc (Nat.le_refl _) (.cells #[.int .u32 ((JT.sepF es ps (k : Int) : Nat) : Int)] 44)))
              clear hb7 HS d0 d1 d2 d3 hcq hcp
              go_wp2_with (at_builtin; refine app1U32L rfl (.tmp 112) (.tmp 117) rfl w6.heap.size u12 _ rfl HS7.out.oa w7.heap.size (JT.sepF es ps (k : Int)) rfl (by go_simp) (by omega) HS7.out.sz ?_
                           intro v8 w8 hown8 hg8 hat8
                           have HS8 := Lib.hid (HS7.out.stepA hg8 hown8 hat8)
                           have d0 := HS8.out.c0
                           have d1 := HS8.out.c1
                           have d2 := HS8.out.t0
                           have d3 := HS8.out.u0
                           obtain ⟨b3', o3', e3', -, hcq⟩ := slI_at HS8.out.sU hkq
                           simp at e3'
                           obtain ⟨rfl, rfl⟩ := e3'
                           rw [HQK.out] at hcq
                           clear hown8 hg8 hat8 HS7)
              go_roundw
              case rel => exact ⟨k + 1, by omega, by go_num, by rw [HLA.out, HLB.out]; exact HS8.out⟩
              case measure => simp [intOf]; omega
          · rw [if_neg hp, List.append_nil] at hla
            have HLA := Lib.hid hla
            clear hla
            by_cases hq : 0 ≤ qk
            · rw [if_pos hq] at hlb
              have HLB := Lib.hid hlb
              clear hlb
              go_wp2_with fail
              refine (HSQ.out _ HS.out.E HS.out.U).mono ?_
              rintro e w9 ⟨rfl, hb9⟩
              have HS9 := Lib.hid ((HS.out.keep hb9).keep ((Below.refl _ _).alloc (Nat.le_refl _) (.cells #[.int .u32 ((JT.sepF es q (k : Int) : Nat) : Int)] 44)))
              clear hb9 HS d0 d1 d2 d3 hcq hcp
              go_wp2_with (at_builtin; refine app1U32L rfl (.tmp 132) (.tmp 137) rfl w6.heap.size u13 _ rfl HS9.out.ob w9.heap.size (JT.sepF es q (k : Int)) rfl (by go_simp) (by omega) HS9.out.sz ?_
                           intro v10 w10 hown10 hg10 hat10
                           have HS10 := Lib.hid (HS9.out.stepB hg10 hown10 hat10)
                           clear hown10 hg10 hat10 HS9)
              go_roundw
              case rel => exact ⟨k + 1, by omega, by go_num, by rw [HLA.out, HLB.out]; exact HS10.out⟩
              case measure => simp [intOf]; omega
            · rw [if_neg hq, List.append_nil] at hlb
              have HLB := Lib.hid hlb
              clear hlb
              go_wp2_with fail
              go_roundw
              case rel => exact ⟨k + 1, by omega, by go_num, by rw [HLA.out, HLB.out]; exact HS.out⟩
              case measure => simp [intOf]; omega
        · obtain rfl : k = ps.length := by omega
          have HLS := Lib.hid (JT.sepsOf_range_le es ps ps.length)
          have HLT := Lib.hid (JT.sepsOf_range_le es q ps.length)
          have HPM : Hid ((JT.sepsOf es ps (List.range ps.length)).Perm (JT.sepsOf es q (List.range ps.length))) := by
            have hl := (JT.chkF_parts HK.out).1
            have h := JT.seps_perm (es := es) hl HR.out hrt
            rw [HQ.out] at h
            unfold JT.sepsF at h
            rw [HLQ.out] at h
            exact h
          have HCQ : Hid (JT.chkF N es q = 0) := by
            obtain ⟨n, rfl⟩ := (JT.chkF_parts HK.out).2
            have h := JT.reroot_chk (n := n) HK.out hrt
            rw [HQ.out] at h
            exact h
          generalize JT.sepsOf es ps (List.range ps.length) = la at *
          generalize JT.sepsOf es q (List.range ps.length) = lb at *
          clear hlt
          go_wp2_with fail
          refine (sort_own_u32 w6.heap.size u12 la.length (la.map fun z : Nat => (z : Int)) _ (by rw [List.map_map]; exact HS.out.oa) (by have := HLS.out; omega)).mono ?_
          rintro e w7 ⟨rfl, ho7, hg7⟩
          obtain ⟨la', hla', hsa'⟩ := sortedI_nat la
          have HSA := Lib.hid hsa'
          have HS7 := Lib.hid (HS.out.stepA (la' := la') hg7 (by rw [← HSA.out, List.map_map, ← hla'] at ho7; exact ho7) (fun g h => .inl h))
          clear ho7 hg7 HS d0 d1 d2 d3 hsa'
          go_wp2_with fail
          refine (sort_own_u32 w6.heap.size u13 lb.length (lb.map fun z : Nat => (z : Int)) _ (by rw [List.map_map]; exact HS7.out.ob) (by have := HLT.out; omega)).mono ?_
          rintro e w8 ⟨rfl, ho8, hg8⟩
          obtain ⟨lb', hlb', hsb'⟩ := sortedI_nat lb
          have HSB := Lib.hid hsb'
          have HS8 := Lib.hid (HS7.out.stepB (lb' := lb') hg8 (by rw [← HSB.out, List.map_map, ← hlb'] at ho8; exact ho8) (fun g h => .inl h))
          clear ho8 hg8 HS7 hsb'
          have HEQ : Hid (la' = lb') := by
            have h1 : la'.map (fun z : Nat => (z : Int)) = lb'.map (fun z : Nat => (z : Int)) := by
              rw [HSA.out, HSB.out, sortedI_perm (HPM.out.map _)]
            refine List.map_inj_right (fun a b h => ?_) |>.1 h1
            have h' : (a : Int) = (b : Int) := h
            omega
          have hea := HEQ.out
          subst hea
          have hl12 : la'.length ≤ 12 := by have := HLS.out; omega
          obtain ⟨A7, c7, hv7, -, hn7, hs7⟩ := Sl.of_own HS8.out.oa
          obtain ⟨A8, c8, hv8, -, hn8, hs8⟩ := Sl.of_own HS8.out.ob
          simp only [List.length_map] at hv7 hv8
          subst hv7 hv8
          have d0 := HS8.out.c0
          have d1 := HS8.out.c1
          have d3 := HS8.out.u0
          have HS7 := Lib.hid hs7
          have HS9 := Lib.hid hs8
          clear hs7 hs8 hn7 hn8 hla' hlb'
          have HCK : Hid (∀ W, SlN .u32 W.heap.size W EA es → SlI .i64 W.heap.size W UA q → Calls Try.prog 15 #[.agg #[.int .i64 N, .slice EA es.length EC], .agg #[.slice UA ps.length UC]] W fun e w' => e = .returned (.int .i64 0) ∧ Below W.heap.size W w') := fun W h1 h2 => by
            have h := jtCheck_any N EA UA EC UC es q W h1 HU.out h2 hel2 (by rw [HLQ.out]; exact hpl2)
            rw [HLQ.out, HCQ.out] at h
            exact h
          have HEQ2 : Hid (∀ W, SlN .u32 W.heap.size W A7 la' → SlN .u32 W.heap.size W A8 la' → Calls Try.prog 29 #[.slice A7 la'.length c7, .slice A8 la'.length c8] W fun e w' => e = .returned (.bool true) ∧ ∃ n, w' = W.drewN n) := fun W h1 h2 => by
            have h := eqU32_any A7 A8 c7 c8 (la'.map fun z : Nat => (z : Int)) (la'.map fun z : Nat => (z : Int)) W (by unfold SlI; rw [List.map_map]; exact h1) (by unfold SlI; rw [List.map_map]; exact h2) (by simp; omega) (by simp; omega)
            rw [decide_eq_true rfl, List.length_map] at h
            exact h
          go_wp2_with fail
          refine (HCK.out _ HS8.out.E HS8.out.U).mono ?_
          rintro e w9 ⟨rfl, hb9⟩
          have HT9 := Lib.hid (HS8.out.keep hb9)
          have HS79 := Lib.hid ((HS7.out.below hb9 (Nat.le_refl _)).more hb9.size)
          have HS89 := Lib.hid ((HS9.out.below hb9 (Nat.le_refl _)).more hb9.size)
          clear hb9 HS8 HS7 HS9 d0 d1 d3
          go_wp2_with fail
          refine (HEQ2.out _ HS79.out HS89.out).mono ?_
          rintro e w10 ⟨rfl, n10, rfl⟩
          go_wp2_with fail
          refine (awake_any _).mono ?_
          rintro e w11 ⟨rfl, hb11⟩
          have HT11 := Lib.hid ((HT9.out.keep (Below.drewN' (Below.refl _ _) n10)).keep hb11)
          clear hb11
          go_wp2
          go_ret
          exact ⟨rfl, HT11.out.bel⟩

end Go.Proofs.Ytfiegiifoekfmaa

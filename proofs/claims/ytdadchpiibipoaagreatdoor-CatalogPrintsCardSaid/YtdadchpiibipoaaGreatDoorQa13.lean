/- Parts of the proof, merged: C60, F15, F18, F19. -/
import Derived.Test.YtdadchpiibipoaaGreatDoorQa12
import Derived.Test.YtdadchpiibipoaaGreatDoorRows
import Derived.Test.YtdadchpiibipoaaGreatDoorQa5
import Derived.ProofKit
import Derived.OpenShut
import Derived.ShutString
import Derived.ChangeOld
import Derived.ChangeSame
import Derived.Lib.SmallJoins
import Derived.Deep.Slices
import Derived.Deep.Fields
import Derived.Test.YtdadchpiibipoaaGreatDoorQa3
import Derived.HandedShaped
import Derived.Lib.LaidU8
import Derived.Shelf.Vars
import Derived.MakeChecks
import Derived.ChangeMaps5
import Derived.Test.YtdadchpiibipoaaGreatDoorQa6

set_option maxRecDepth 100000
namespace Go.Proofs.YtdadchpiibipoaaGreatDoor
section
open Go.RowKit Go.Sort Go.ChangeMaps Go.WideShapes

set_option maxHeartbeats 2000000 in
theorem l08lines_any (s : ByteArray) (hs : s.size ≤ 1000000) (w : World) : Calls Tryz.prog 30 #[.string s] w fun e w' => e = .returned (.int .i64 (s.data.toList.count 10 : Nat)) ∧ w' = w := by
  have HL : Hid (s.data.toList.length = s.size) := size_len s
  go_enter Tryz.func30, Tryz.ntmps30
  go_wp2_with fail
  go_loopw [3, 4] (fun v c wx => ∃ k n : Nat, k ≤ s.size ∧ c = .int .i64 k ∧ v = .int .i64 n ∧ n = (s.data.toList.take k).count 10 ∧ wx = w) (fun _ c _ => s.size - (intOf c).toNat)
  case atStart => exact ⟨0, 0, Nat.zero_le _, rfl, rfl, by simp, rfl⟩
  case round =>
    obtain ⟨k, n, hk, rfl, rfl, hn, rfl⟩ := hrel
    have HN := Lib.hid hn
    clear hn
    by_cases hkl : k < s.size
    · have hkl2 : k < s.data.toList.length := by have := HL.out; omega
      have HC : Hid ((s.data.toList.take (k + 1)).count 10 = n + if (s[k]'hkl).toNat = 10 then 1 else 0) := by
        show _ = _
        rw [List.take_succ_eq_append_getElem hkl2, List.count_append, ← HN.out]
        congr 1
        have e : s.data.toList[k] = s[k] := rfl
        rw [e, List.count_singleton]
        by_cases h : (s[k]'hkl).toNat = 10
        · rw [if_pos h]
          have : s[k] = 10 := UInt8.toNat_inj.1 h
          rw [this]; rfl
        · rw [if_neg h]
          have : ¬ (s[k] = 10) := fun e => h (by rw [e]; rfl)
          simp [this]
      have HNK : Hid (n ≤ k) := by
        show _ ≤ _
        rw [HN.out]
        have h := List.count_le_length (a := (10 : UInt8)) (l := s.data.toList.take k)
        rw [List.length_take] at h
        omega
      have g1 : (0 : Int) ≤ (k : Int) := by omega
      have g2 : (k : Int) < (s.size : Int) := by omega
      have hw1 : IntKind.i64.wrap ((k : Int) + 1) = ((k + 1 : Nat) : Int) := by rw [IntWalk.i64_in _ (by omega)]; omega
      have hw2 : IntKind.i64.wrap ((n : Int) + 1) = ((n + 1 : Nat) : Int) := by rw [IntWalk.i64_in _ (by have := HNK.out; omega)]; omega

      by_cases hc : (s[k]'hkl).toNat = 10
      · have h1 : (((s[k]'hkl).toNat : Int) == 10) = true := by rw [hc]; rfl
        have HC2 : Hid (n + 1 = (s.data.toList.take (k + 1)).count 10) := by show _ = _; rw [HC.out, if_pos hc]
        clear hc
        go_wp2_with fail
        go_roundw
        case rel => exact ⟨k + 1, n + 1, hkl, by go_num, by go_num, HC2.out, by first | rfl | trivial⟩
        case measure => simp [intOf]; omega
      · have h1 : (((s[k]'hkl).toNat : Int) == 10) = false := by rw [beq_eq_false_iff_ne]; omega
        have HC2 : Hid (n = (s.data.toList.take (k + 1)).count 10) := by show _ = _; rw [HC.out, if_neg hc, Nat.add_zero]
        clear hc
        go_wp2_with fail
        go_roundw
        case rel => exact ⟨k + 1, n, hkl, by go_num, rfl, HC2.out, by first | rfl | trivial⟩
        case measure => simp [intOf]; omega
    · obtain rfl : k = s.size := by omega
      have HE : Hid (n = s.data.toList.count 10) := by
        show _ = _
        rw [HN.out, List.take_of_length_le (by rw [HL.out]; exact Nat.le_refl _)]
      have HE2 : Hid (n = s.data.count 10) := by show _ = _; rw [HE.out, Array.count_toList]
      have g2 : ¬ (s.size : Int) < (s.size : Int) := by omega
      go_wp2_with fail
      go_ret
      exact ⟨by first | (rw [← HE2.out]; done) | (rw [← HE2.out]; rfl) | (rw [← HE.out]; rfl), by first | rfl | trivial⟩

set_option maxHeartbeats 16000000 in
theorem l08Prints_any (SA : Option Addr) (SC : Nat) (S : Sch) (A : Option Addr) (C : Nat) (us : List Upd) (t : ByteArray) (w : World) (hS : SchsM w.heap.size w SA S) (hSo : SchsOk S) (hSl : S.length ≤ 9223372036854775807)
    (hU : UpdsM w.heap.size w A us) (hUo : ∀ u ∈ us, u.rel.size ≤ 9223372036854775807 ∧ u.row.length ≤ 9223372036854775807 ∧ ∀ v ∈ u.row, VFit v) (hUl : us.length ≤ C) (hUc : C ≤ 9223372036854775807) (hT : Tabs w) :
    Calls Tryz.prog 7 #[.slice SA S.length SC, .slice A us.length C, .string t] w fun e w' => e = .returned (.bool true) ∧ Below w.heap.size w w' := by
  have HAW := Lib.hid (l08awake_any w hT)
  have HFW := Lib.hid (fun (w1 : World) (hb : Below w.heap.size w w1) => l08Few_any SA SC S.length A C us w1 (hU.up hb) (by omega) fun u hu => ⟨(hUo u hu).1, (hUo u hu).2.1⟩)
  have HS := Lib.hid hS
  have HSO := Lib.hid hSo
  have HU := Lib.hid hU
  have HUO := Lib.hid hUo
  have HSL := Lib.hid hSl
  have HTB := Lib.hid (fun (V : World) (hb : Below w.heap.size w V) => hT.up hb)
  clear hS hSo hU hUo hT hSl
  go_enter Tryz.func7, Tryz.ntmps7
  go_wp2_with fail
  refine HAW.out.mono ?_
  rintro e w1 ⟨rfl, hb1⟩
  have HB1 := Lib.hid hb1
  clear hb1 HAW
  go_wp2_with fail
  refine (HFW.out w1 HB1.out).mono ?_
  rintro e w2 ⟨rfl, hx2⟩
  have HB2 := Lib.hid (HB1.out.trans (hx2.below.mono HB1.out.size))
  clear hx2
  cases hfew : (decide (S.length ≤ 20) && fewB us) with
  | false =>
    clear hfew
    go_wp2_with fail
    go_ret
    exact ⟨rfl, HB2.out⟩
  | true =>
  rw [Bool.and_eq_true, decide_eq_true_eq, fewB_iff] at hfew
  obtain ⟨hs20, hu60, hfit⟩ := hfew
  by_cases ht : 4000 < t.size
  · have hd : decide ((4000 : Int) < (t.size : Int)) = true := decide_eq_true (by omega)
    clear ht hs20 hu60 hfit
    go_wp2_with fail
    go_ret
    exact ⟨rfl, HB2.out⟩
  have hd : decide ((4000 : Int) < (t.size : Int)) = false := decide_eq_false (by omega)
  have HTZ : Hid (t.size ≤ 4000) := by show _ ≤ _; omega
  have HFIT := Lib.hid hfit
  have HL : Hid (S.length ≤ 20 ∧ us.length ≤ 60) := ⟨hs20, hu60⟩
  have HUO2 : Hid (∀ u ∈ us, UpdOk u) := fun u hu => ⟨(HUO.out u hu).1, by have := (HFIT.out u hu).1; omega, fun v hv => ((HUO.out u hu).2.2 v hv).2.2⟩
  have HMD := Lib.hid (l08made_any SA SC S A C us w2 (HS.out.up HB2.out) HSO.out (by omega) (HU.out.up HB2.out) HUO2.out (by omega) hUl)
  obtain ⟨q, hq⟩ : ∃ q, q = parseD t.data.toList := ⟨_, rfl⟩
  have HQ := Lib.hid hq
  have HTL : Hid (t.data.toList.length ≤ 4000) := by show _ ≤ _; rw [size_len]; exact HTZ.out
  have HPT : Hid (∀ V, Below w.heap.size w V → Calls Tryz.prog 29 #[.string t] V (ParsePost q V)) := fun V hb => by
    rw [HQ.out]
    exact ctParse_any t (by have := HTZ.out; omega) V (HTB.out V hb)
  have HQE : Hid (q.1 ≠ 0 → 1 ≤ q.2.line ∧ q.2.line ≤ t.data.toList.count 10 + 1) := fun h => by
    rw [HQ.out] at h ⊢
    exact parseD_lines (by have := HTL.out; omega) h
  have HQO : Hid (q.1 = 0 → textL q.2.S q.2.F = t.data.toList ∧ RdOk q.2 ∧ RdV q.2) := fun h => by
    rw [HQ.out] at h ⊢
    exact ⟨(parseD_back h).1, (parseD_back h).2, parseD_vals h⟩
  have HCNT : Hid (t.data.toList.count 10 ≤ 4000) := Nat.le_trans List.count_le_length HTL.out
  clear hfit hs20 hu60 HB1 HFW ht hq
  go_wp2_with fail
  refine HMD.out.mono ?_
  rintro e w3 ⟨hbad, hok, hb3⟩
  have HB3 := Lib.hid (HB2.out.trans (hb3.mono HB2.out.size))
  by_cases he : errS S = 0
  rotate_left
  · obtain rfl := hbad he
    obtain ⟨W4, hW4⟩ : ∃ W, W = (w3.alloc (.cells #[.map none] 28)).alloc (.cells #[.slice SA S.length SC, .slice none 0 0] 31) := ⟨_, rfl⟩
    have HB4 : Hid (Below w.heap.size w W4) := by show Below _ _ _; rw [hW4]; exact HB3.out.trans ((((Ext.refl w3).alloc _).alloc _).below.mono HB3.out.size)
    clear hbad hok hb3 he HMD
    go_upto_region 10 with (fail)
    rw [← hW4]
    clear hW4
    go_wp2_with fail
    refine (HPT.out W4 HB4.out).mono ?_
    rintro e wp ⟨hp1, hp2, hbp⟩
    have HBP := Lib.hid (HB4.out.trans (hbp.mono HB4.out.size))
    by_cases hq0 : q.1 = 0
    rotate_left
    · obtain rfl := hp2 hq0
      obtain ⟨l1, l2⟩ := HQE.out hq0
      have hne : (q.1 != 0) = true := by simpa using hq0
      have hcnt := HCNT.out
      obtain ⟨cn, hcn⟩ : ∃ n, n = t.data.toList.count 10 := ⟨_, rfl⟩
      rw [← hcn] at l2 hcnt
      have HLN := Lib.hid (l08lines_any t (by have := HTZ.out; omega))
      rw [← hcn] at HLN
      generalize q.2.line = ln at *
      have d1 : decide ((1 : Int) ≤ (ln : Int)) = true := decide_eq_true (by omega)
      have hw1 : IntKind.i64.wrap ((cn : Int) + 1) = ((cn + 1 : Nat) : Int) := by rw [IntWalk.i64_in _ (by omega)]; omega
      have d2 : decide ((ln : Int) ≤ ((cn + 1 : Nat) : Int)) = true := decide_eq_true (by omega)
      have d3 : decide ((ln : Int) ≤ (cn : Int) + 1) = true := decide_eq_true (by omega)
      obtain ⟨W5, hW5⟩ : ∃ W, W = wp.alloc (.cells #[.map none] 28) := ⟨_, rfl⟩
      obtain ⟨g13, hg13⟩ : ∃ g, g = wp.heap.size := ⟨_, rfl⟩
      have HR13 : Hid (Row W5 g13 28 [.map none]) := by show Row _ _ _ _; rw [hW5, hg13]; exact Row.new wp _ _
      have HB5 : Hid (Below w.heap.size w W5) := by show Below _ _ _; rw [hW5]; exact HBP.out.alloc HBP.out.size _
      have c13 : W5.cell? ⟨g13, 0, none⟩ = some (.map none) := HR13.out.cell 0
      have z13 := HR13.out.lt
      have HW5 := Lib.hid hW5
      have HG13 := Lib.hid hg13
      clear hp1 hp2 hbp hq0 l1 l2 hcn hcnt hW5 hg13
      generalize q.1 = qe at *
      go_upto_region 11 with (fail)
      rw [← HW5.out, ← HG13.out]
      clear HW5 HG13
      go_wp2_with fail
      refine (HLN.out W5).mono ?_
      rintro e w' ⟨rfl, hw'⟩
      obtain rfl := hw'.symm
      go_wp2_with fail
      refine (ctSchemas_nil _).mono ?_
      rintro e w9 ⟨⟨A9, C9, rfl⟩, hb9⟩
      have HB9 := Lib.hid (HB5.out.trans (hb9.mono HB5.out.size))
      clear hb9
      go_wp2_with fail
      go_ret
      exact ⟨rfl, HB9.out⟩
    obtain ⟨m, rfl, hm⟩ := hp1 hq0
    obtain ⟨b1, b2, b3⟩ := HQO.out hq0
    obtain ⟨W5, hW5⟩ : ∃ W, W = wp.alloc (.cells #[m] 28) := ⟨_, rfl⟩
    obtain ⟨g13, hg13⟩ : ∃ g, g = wp.heap.size := ⟨_, rfl⟩
    have HR13 : Hid (Row W5 g13 28 [m]) := by show Row _ _ _ _; rw [hW5, hg13]; exact Row.new wp _ _
    have hbx : Below wp.heap.size wp W5 := by rw [hW5]; exact ((Ext.refl wp).alloc _).below
    have HB5 := Lib.hid (HBP.out.trans (hbx.mono HBP.out.size))
    rcases hm with ⟨hS0, rfl⟩ | ⟨hSne, hdm⟩
    · have ht0 : t.data.toList = [] := by rw [← b1, hS0]; rfl
      have hse : ((toB []).toList == t.toList) = true := by
        rw [strEq_str, decide_eq_true]
        rw [← toB_data t, ht0]
      have c13 : W5.cell? ⟨g13, 0, none⟩ = some (.map none) := HR13.out.cell 0
      have z13 := HR13.out.lt
      have HW5 := Lib.hid hW5
      have HG13 := Lib.hid hg13
      clear hp1 hp2 hbp hq0 b1 b2 b3 hS0 ht0 hW5 hg13 hbx
      go_upto_region 13 with (fail)
      rw [← HW5.out, ← HG13.out]
      clear HW5 HG13
      go_wp2_with fail
      refine (ctText_nil W5).mono ?_
      rintro e w9 ⟨rfl, hb9⟩
      have HB9 := Lib.hid (HB5.out.trans (hb9.mono HB5.out.size))
      clear hb9
      go_wp2_with fail
      go_ret
      exact ⟨rfl, HB9.out⟩
    · obtain ⟨md2, rfl⟩ := hdm.form
      obtain ⟨e1, e2, e3⟩ := errS_mem b2.err
      have hfit2 : RowsFit q.2.S q.2.F := fun p hp => by
        obtain ⟨b, D, -, -, -, -, -, h5⟩ := hdm
        obtain ⟨val, -, KA, KC, A', C', -, -, -, -, -, -, hro⟩ := h5 p hp
        refine ⟨(e3 p hp).2.1, hro.many, fun x hx => ⟨?_, (b3.1 p.1 x hx).fit⟩⟩
        rw [wrongF_len (hro.ok x hx)]
        exact (e3 p hp).2.1
      have HTX2 := Lib.hid (ctText_any W5 (hdm.up hbx) e2 e1 (fun p hp => nameF_size (e3 p hp).1) (fun p hp x hx v hv => ((hfit2 p hp).2.2 x hx).2 v hv) hfit2 (HTB.out W5 HB5.out))
      have HSE : Hid (∀ ns', NamesOf q.2.S ns' → ((toB (textD q.2.S q.2.F ns')).toList == t.toList) = true) := fun ns' hns' => by
        obtain rfl := NamesOf.eq hns' (⟨List.Perm.refl _, b2.asc⟩ : NamesOf q.2.S (q.2.S.map Prod.fst))
        rw [textL_D e2, b1, strEq_str, decide_eq_true]
        exact toB_data t
      have c13 : W5.cell? ⟨g13, 0, none⟩ = some (.map (some md2)) := HR13.out.cell 0
      have z13 := HR13.out.lt
      have HW5 := Lib.hid hW5
      have HG13 := Lib.hid hg13
      clear hp1 hp2 hbp hq0 b1 b2 b3 hSne hdm e1 e2 e3 hfit2 hW5 hg13 hbx
      go_upto_region 13 with (fail)
      rw [← HW5.out, ← HG13.out]
      clear HW5 HG13
      go_wp2_with fail
      refine HTX2.out.mono ?_
      rintro e w9 ⟨ns', hns', rfl, hb9⟩
      have hse := HSE.out ns' hns'
      have HB9 := Lib.hid (HB5.out.trans (hb9.mono HB5.out.size))
      clear hns' hb9 HTX2 HSE
      go_wp2_with fail
      go_ret
      exact ⟨rfl, HB9.out⟩
  obtain ⟨bd, FA, FC, cs, rfl, hdb, hfc, hof⟩ := hok he
  have HND : Hid (S.map Prod.fst).Nodup := (errS_mem he).2.1
  have HMEM := Lib.hid (errS_mem he).2.2
  have HL16 : Hid (S.length ≤ 16) := (errS_mem he).1
  have hrel := (made_rel S us (by have := HL.out; omega))
  have HNMS := Lib.hid (made_names S us)
  have hrows := made_rows S 20 us (fun u hu => (HFIT.out u hu).1)
  have hvals := made_vals S VFit us (fun u hu => (HUO.out u hu).2.2)
  have hcok := made_contOk S us
  obtain ⟨F, hF⟩ : ∃ F, F = (madeF S us).1 := ⟨_, rfl⟩
  obtain ⟨Fs, hFs⟩ : ∃ F, F = (madeF S us).2 := ⟨_, rfl⟩
  rw [← hF, ← hFs] at hrel
  rw [← hFs] at hfc hof hrows hvals HNMS ⊢
  rw [← hF] at hdb hcok
  have HREL : Hid (RelF F Fs) := hrel.1
  have HFL : Hid (Fs.length ≤ 60) := Nat.le_trans hrel.2 HL.out.2
  have HFR : Hid (∀ f ∈ Fs, f.2.length ≤ 1000000) := fun f hf => by have := hrows f hf; omega
  have HVL := Lib.hid hvals
  have HCF : Hid (ContFit S F) := hcok.fit HND.out fun p hp x hx v hv => by
    have h := hvals _ ((HREL.out.2.2 p.1 x).1 hx) v hv
    exact ⟨h.1, h.2.1⟩
  have HE : Hid (errS S = 0) := he
  have HFT := Lib.hid (made_fit he hcok HREL.out hvals)
  have HDB := Lib.hid hdb
  have HFC := Lib.hid hfc
  have HOF := Lib.hid hof
  clear hbad hok HMD hrel hrows hvals hcok hdb hfc hof he hFs hF
  obtain ⟨g7, hg7⟩ : ∃ g, g = w3.heap.size := ⟨_, rfl⟩
  obtain ⟨W4, hW4⟩ : ∃ W, W = (w3.alloc (.cells #[.map (some bd)] 28)).alloc (.cells #[.slice SA S.length SC, .slice FA Fs.length FC] 31) := ⟨_, rfl⟩
  have hb4 : Below w3.heap.size w3 W4 := by rw [hW4]; exact (((Ext.refl w3).alloc _).alloc _).below
  have HR7 : Hid (Row W4 g7 28 [.map (some bd)]) := by show Row _ _ _ _; rw [hW4, hg7]; exact (Row.new w3 28 _).alloc _
  have HD4 := Lib.hid (HDB.out.up hb4)
  have HB4 := Lib.hid (HB3.out.trans (hb4.mono HB3.out.size))
  have HTX := Lib.hid (ctText_any W4 HD4.out HND.out HL16.out (fun p hp => nameF_size (HMEM.out p hp).1) (fun p hp x hx v hv => ((HFT.out p hp).2.2 x hx).2 v hv) HFT.out (HTB.out W4 HB4.out))
  have HPR : Hid (∀ ns, NamesOf S ns → (textD S F ns).length ≤ 65536 ∧ ∃ r, parseD (textD S F ns) = (0, r) ∧ r.S = schsF S ns ∧ ∀ p ∈ schsF S ns, r.F p.1 = F p.1) := fun ns hns => by
    have hp := schsF_perm HND.out hns
    have hnd2 : ((schsF S ns).map Prod.fst).Nodup := (hp.map Prod.fst).nodup_iff.2 HND.out
    rw [textD_schs HND.out hns]
    have hlen : (textL (schsF S ns) F).length ≤ 65536 := by
      have h := textL_len (F := F) (schsF S ns) (fun p hpm => ⟨nameF_size (HMEM.out p (hp.mem_iff.1 hpm)).1, (HMEM.out p (hp.mem_iff.1 hpm)).2.1⟩) fun p hpm x hx => (HFT.out p (hp.mem_iff.1 hpm)).2.2 x hx
      have h2 : rowsF (schsF S ns) F = Fs.length := HREL.out.rows (fun f hf => by rw [schsF_fst]; exact hns.1.mem_iff.2 (HNMS.out f hf)) hnd2
      unfold rowsF at h2
      rw [h2, hp.length_eq] at h
      have := HFL.out
      have := HL16.out
      omega
    refine ⟨hlen, ?_⟩
    obtain ⟨r, h1, h2, h3⟩ := parseD_text (schsF_err HE.out hns) (by rw [schsF_fst]; exact hns.2) (fun p hpm => HCF.out p (hp.mem_iff.1 hpm)) hlen
    exact ⟨r, h1, h2, h3⟩
  have c7 : W4.cell? ⟨g7, 0, none⟩ = some (.map (some bd)) := HR7.out.cell 0
  have z7 := HR7.out.lt
  go_upto_region 6 with (fail)
  rw [← hW4, ← hg7]
  clear hW4 hg7 hb4 hb3 HDB HFC HOF
  go_wp2_with fail
  refine HTX.out.mono ?_
  rintro e w5 ⟨ns, hns, rfl, hb5⟩
  obtain ⟨hln, r, hr1, hr2, hr3⟩ := HPR.out ns hns
  have hperm := schsF_perm HND.out hns
  have HB5 := Lib.hid (HB4.out.trans (hb5.mono HB4.out.size))
  have HD5 := Lib.hid (HD4.out.up hb5)
  have HR75 := Lib.hid (HR7.out.up hb5)
  have hdat : (toB (textD S F ns)).data.toList = textD S F ns := by simp [toB]
  have HP5 := Lib.hid (ctParse_any (toB (textD S F ns)) (by rw [← size_len, hdat]; omega) w5 (HTB.out w5 HB5.out))
  rw [hdat, hr1] at HP5
  have HEQ : Hid (∀ V, Below w5.heap.size w5 V → ∀ m6, MapR (fun c => w5.heap.size ≤ c) r.S V m6 r.F → Calls Tryz.prog 20 #[.agg #[m6], .agg #[.map (some bd)]] V fun e V' => e = .returned (.bool true) ∧ Below V.heap.size V V') := fun V hb m6 hm => by
    rcases hm with ⟨hS0, rfl⟩ | ⟨hSne, hdm⟩
    · have hS : S = [] := by
        have h := hperm.length_eq
        rw [← hr2, hS0] at h
        exact List.eq_nil_of_length_eq_zero h.symm
      have hd := HD5.out.up hb
      rw [hS] at hd
      exact ctEqual_nil V hd
    · rw [hr2] at hdm
      have hd2 : DbM _ S V m6 F := (hdm.perm hperm).congr fun p hp => hr3 p (hperm.mem_iff.2 hp)
      have h := ctEqual_any V hd2 (HD5.out.up hb) HND.out
      rw [sameC_self] at h
      exact h
  clear hns hb5 hln hr1 hr2 hr3 hperm hdat HTX HPR c7 z7
  generalize toB (textD S F ns) = tx at *
  go_wp2_with fail
  refine HP5.out.mono ?_
  rintro e w6 ⟨hp1, -, hb6⟩
  obtain ⟨m6, rfl, hm6⟩ := hp1 rfl
  obtain ⟨W7, hW7⟩ : ∃ W, W = w6.alloc (.cells #[m6] 28) := ⟨_, rfl⟩
  obtain ⟨g10, hg10⟩ : ∃ g, g = w6.heap.size := ⟨_, rfl⟩
  have hbx : Below w6.heap.size w6 W7 := by rw [hW7]; exact ((Ext.refl w6).alloc _).below
  have HR10 : Hid (Row W7 g10 28 [m6]) := by show Row _ _ _ _; rw [hW7, hg10]; exact Row.new w6 _ _
  have hb57 := hb6.trans (hbx.mono hb6.size)
  have hm7 : MapR (fun c => w5.heap.size ≤ c) r.S W7 m6 r.F := by
    rcases hm6 with h | ⟨h1, h2⟩
    · exact .inl h
    · exact .inr ⟨h1, h2.up hbx⟩
  have HEQ7 := Lib.hid (HEQ.out W7 hb57 m6 hm7)
  have HR77 := Lib.hid (HR75.out.up hb57)
  have HB7 := Lib.hid (HB5.out.trans (hb57.mono HB5.out.size))
  obtain ⟨mm, hmm⟩ : ∃ mm, m6 = .map mm := by
    rcases hm6 with ⟨-, h⟩ | ⟨-, h⟩
    · exact ⟨none, h⟩
    · obtain ⟨b, h⟩ := h.form; exact ⟨some b, h⟩
  subst hmm
  have c10 : W7.cell? ⟨g10, 0, none⟩ = some (.map mm) := HR10.out.cell 0
  have z10 := HR10.out.lt
  have c7 : W7.cell? ⟨g7, 0, none⟩ = some (.map (some bd)) := HR77.out.cell 0
  have z7 := HR77.out.lt
  have HW7 := Lib.hid hW7
  have HG10 := Lib.hid hg10
  clear hp1 hb6 hm6 hbx hb57 hm7 HEQ HP5 hW7 hg10 HR75
  go_upto_region 8 with (fail)
  rw [← HW7.out, ← HG10.out]
  clear HW7 HG10
  go_wp2_with fail
  refine HEQ7.out.mono ?_
  rintro e w8 ⟨rfl, hb8⟩
  have HB8 := Lib.hid (HB7.out.trans (hb8.mono HB7.out.size))
  clear hb8 HEQ7 c10 z10 c7 z7
  go_wp2_with fail
  refine (HPT.out w8 HB8.out).mono ?_
  rintro e wp ⟨hp1, hp2, hbp⟩
  have HBP := Lib.hid (HB8.out.trans (hbp.mono HB8.out.size))
  by_cases hq0 : q.1 = 0
  rotate_left
  · obtain rfl := hp2 hq0
    obtain ⟨l1, l2⟩ := HQE.out hq0
    have hne : (q.1 != 0) = true := by simpa using hq0
    have hcnt := HCNT.out
    obtain ⟨cn, hcn⟩ : ∃ n, n = t.data.toList.count 10 := ⟨_, rfl⟩
    rw [← hcn] at l2 hcnt
    have HLN := Lib.hid (l08lines_any t (by have := HTZ.out; omega))
    rw [← hcn] at HLN
    generalize q.2.line = ln at *
    have d1 : decide ((1 : Int) ≤ (ln : Int)) = true := decide_eq_true (by omega)
    have hw1 : IntKind.i64.wrap ((cn : Int) + 1) = ((cn + 1 : Nat) : Int) := by rw [IntWalk.i64_in _ (by omega)]; omega
    have d2 : decide ((ln : Int) ≤ ((cn + 1 : Nat) : Int)) = true := decide_eq_true (by omega)
    have d3 : decide ((ln : Int) ≤ (cn : Int) + 1) = true := decide_eq_true (by omega)
    obtain ⟨W5, hW5⟩ : ∃ W, W = wp.alloc (.cells #[.map none] 28) := ⟨_, rfl⟩
    obtain ⟨g13, hg13⟩ : ∃ g, g = wp.heap.size := ⟨_, rfl⟩
    have HR13 : Hid (Row W5 g13 28 [.map none]) := by show Row _ _ _ _; rw [hW5, hg13]; exact Row.new wp _ _
    have HB5 : Hid (Below w.heap.size w W5) := by show Below _ _ _; rw [hW5]; exact HBP.out.alloc HBP.out.size _
    have c13 : W5.cell? ⟨g13, 0, none⟩ = some (.map none) := HR13.out.cell 0
    have z13 := HR13.out.lt
    have HW5 := Lib.hid hW5
    have HG13 := Lib.hid hg13
    clear hp1 hp2 hbp hq0 l1 l2 hcn hcnt hW5 hg13
    generalize q.1 = qe at *
    go_upto_region 11 with (fail)
    rw [← HW5.out, ← HG13.out]
    clear HW5 HG13
    go_wp2_with fail
    refine (HLN.out W5).mono ?_
    rintro e w' ⟨rfl, hw'⟩
    obtain rfl := hw'.symm
    go_wp2_with fail
    refine (ctSchemas_nil _).mono ?_
    rintro e w9 ⟨⟨A9, C9, rfl⟩, hb9⟩
    have HB9 := Lib.hid (HB5.out.trans (hb9.mono HB5.out.size))
    clear hb9
    go_wp2_with fail
    go_ret
    exact ⟨rfl, HB9.out⟩
  obtain ⟨m, rfl, hm⟩ := hp1 hq0
  obtain ⟨b1, b2, b3⟩ := HQO.out hq0
  obtain ⟨W5, hW5⟩ : ∃ W, W = wp.alloc (.cells #[m] 28) := ⟨_, rfl⟩
  obtain ⟨g13, hg13⟩ : ∃ g, g = wp.heap.size := ⟨_, rfl⟩
  have HR13 : Hid (Row W5 g13 28 [m]) := by show Row _ _ _ _; rw [hW5, hg13]; exact Row.new wp _ _
  have hbx : Below wp.heap.size wp W5 := by rw [hW5]; exact ((Ext.refl wp).alloc _).below
  have HB5 := Lib.hid (HBP.out.trans (hbx.mono HBP.out.size))
  rcases hm with ⟨hS0, rfl⟩ | ⟨hSne, hdm⟩
  · have ht0 : t.data.toList = [] := by rw [← b1, hS0]; rfl
    have hse : ((toB []).toList == t.toList) = true := by
      rw [strEq_str, decide_eq_true]
      rw [← toB_data t, ht0]
    have c13 : W5.cell? ⟨g13, 0, none⟩ = some (.map none) := HR13.out.cell 0
    have z13 := HR13.out.lt
    have HW5 := Lib.hid hW5
    have HG13 := Lib.hid hg13
    clear hp1 hp2 hbp hq0 b1 b2 b3 hS0 ht0 hW5 hg13 hbx
    go_upto_region 13 with (fail)
    rw [← HW5.out, ← HG13.out]
    clear HW5 HG13
    go_wp2_with fail
    refine (ctText_nil W5).mono ?_
    rintro e w9 ⟨rfl, hb9⟩
    have HB9 := Lib.hid (HB5.out.trans (hb9.mono HB5.out.size))
    clear hb9
    go_wp2_with fail
    go_ret
    exact ⟨rfl, HB9.out⟩
  · obtain ⟨md2, rfl⟩ := hdm.form
    obtain ⟨e1, e2, e3⟩ := errS_mem b2.err
    have hfit2 : RowsFit q.2.S q.2.F := fun p hp => by
      obtain ⟨b, D, -, -, -, -, -, h5⟩ := hdm
      obtain ⟨val, -, KA, KC, A', C', -, -, -, -, -, -, hro⟩ := h5 p hp
      refine ⟨(e3 p hp).2.1, hro.many, fun x hx => ⟨?_, (b3.1 p.1 x hx).fit⟩⟩
      rw [wrongF_len (hro.ok x hx)]
      exact (e3 p hp).2.1
    have HTX2 := Lib.hid (ctText_any W5 (hdm.up hbx) e2 e1 (fun p hp => nameF_size (e3 p hp).1) (fun p hp x hx v hv => ((hfit2 p hp).2.2 x hx).2 v hv) hfit2 (HTB.out W5 HB5.out))
    have HSE : Hid (∀ ns', NamesOf q.2.S ns' → ((toB (textD q.2.S q.2.F ns')).toList == t.toList) = true) := fun ns' hns' => by
      obtain rfl := NamesOf.eq hns' (⟨List.Perm.refl _, b2.asc⟩ : NamesOf q.2.S (q.2.S.map Prod.fst))
      rw [textL_D e2, b1, strEq_str, decide_eq_true]
      exact toB_data t
    have c13 : W5.cell? ⟨g13, 0, none⟩ = some (.map (some md2)) := HR13.out.cell 0
    have z13 := HR13.out.lt
    have HW5 := Lib.hid hW5
    have HG13 := Lib.hid hg13
    clear hp1 hp2 hbp hq0 b1 b2 b3 hSne hdm e1 e2 e3 hfit2 hW5 hg13 hbx
    go_upto_region 13 with (fail)
    rw [← HW5.out, ← HG13.out]
    clear HW5 HG13
    go_wp2_with fail
    refine HTX2.out.mono ?_
    rintro e w9 ⟨ns', hns', rfl, hb9⟩
    have hse := HSE.out ns' hns'
    have HB9 := Lib.hid (HB5.out.trans (hb9.mono HB5.out.size))
    clear hns' hb9 HTX2 HSE
    go_wp2_with fail
    go_ret
    exact ⟨rfl, HB9.out⟩
end
section
open Go.ChangeShapes Go.WideShapes Go.ChangeAt Go.RowKit Go.Joins Go.Deep

theorem cell_addr {w : World} {a : Addr} {v : Value} (h : w.cell? a = some v) : a = ⟨a.block, a.off, none⟩ ∧ a.block < w.heap.size := by
  obtain ⟨b, o, s⟩ := a
  unfold World.cell? at h
  simp only at h
  cases hh : w.heap[b]? with
  | none => rw [hh] at h; cases h
  | some ob =>
    have hlt : b < w.heap.size := by
      rcases Nat.lt_or_ge b w.heap.size with h1 | h1
      · exact h1
      · rw [Array.getElem?_eq_none h1] at hh; cases hh
    refine ⟨?_, hlt⟩
    rw [hh] at h
    cases ob with
    | cells c _ _ =>
      cases s with
      | none => rfl
      | some s => simp at h
    | _ => simp at h

theorem add_addr (b o i : Nat) : (Addr.add ⟨b, o, none⟩ i) = ⟨b, o + i, none⟩ := by
  unfold Addr.add
  split
  · next h => subst h; rfl
  · rfl

theorem rcells_div (y : RL.R) (i : Nat) (u : Value) (h : (rcells y)[i]? = some u) : ∃ v, y[i / 3]? = some v ∧ (vcells v)[i % 3]? = some u := by
  have hl : i < (rcells y).length := (List.getElem?_eq_some_iff.1 h).1
  rw [rcells_length] at hl
  have hq : i / 3 < y.length := by omega
  refine ⟨y[i / 3], List.getElem?_eq_getElem hq, ?_⟩
  obtain ⟨g0, g1, g2⟩ := rcells_get y (i / 3) _ (List.getElem?_eq_getElem hq)
  have hi : i = i / 3 * 3 + i % 3 := by omega
  have hr : i % 3 = 0 ∨ i % 3 = 1 ∨ i % 3 = 2 := by omega
  rcases hr with hr | hr | hr
  · rw [hr, Nat.add_zero] at hi; rw [hr]; rw [hi, g0] at h; exact h
  · rw [hr] at hi; rw [hr]; rw [hi, g1] at h; exact h
  · rw [hr] at hi; rw [hr]; rw [hi, g2] at h; exact h

section
variable {H : Type} {enc : TypeId × Value → H} {W : World} {n : Nat} {x : DataW H × List MemPlace}

theorem cells_TValue : Tryz.prog.cellsOf 82 = 3 := by kernel_rfl
theorem cells_TRow : Tryz.prog.cellsOf 42 = 1 := by kernel_rfl

theorem sl_open {k : IntKind} {w : World} {a : Addr} {zs : List Int} {len : Nat} (hl : len ≤ zs.length) (hcell : ∀ i, i < zs.length → w.cell? (a.add i) = some (.int k (zs.getD i 0))) :
    SlI k w.heap.size w (some a) (zs.take len) := by
  intro hne
  have hpos : 0 < (zs.take len).length := by
    rcases Nat.eq_zero_or_pos (zs.take len).length with h | h
    · exact absurd (by rw [List.eq_nil_of_length_eq_zero h]; rfl) hne
    · exact h
  rw [List.length_take] at hpos
  have h0 := hcell 0 (by omega)
  rw [show a.add 0 = a by unfold Addr.add; simp] at h0
  obtain ⟨ha, hb⟩ := cell_addr h0
  refine ⟨a.block, a.off, by rw [← ha], hb, fun i u hu => ?_⟩
  rw [List.getElem?_map] at hu
  cases hz : (zs.take len)[i]? with
  | none => rw [hz] at hu; simp at hu
  | some z =>
    rw [hz] at hu
    simp at hu
    subst hu
    obtain ⟨hi, hzi⟩ := List.getElem?_eq_some_iff.1 hz
    rw [List.length_take] at hi
    have h1 := hcell i (by omega)
    rw [ha, add_addr] at h1
    rw [h1]
    simp at hzi
    simp [show i < zs.length by omega, hzi]

theorem open_cols {cs : List Value} (h : DataW.trod enc Tryz.prog W 0 (fun _ => true) true n 36 cs = some x) :
    ∃ A c zs, cs = [.slice A zs.length c] ∧ SlI .i64 W.heap.size W A zs ∧ zs.length ≤ 9223372036854775807 := by
  rcases open_ints Tryz.underlying36 Tryz.underlying3 (by kernel_rfl) h with ⟨hcs, _⟩ | ⟨a, len, cap, zs, hcs, _, hl, hm, hz, _, hcell, hwz⟩
  · exact ⟨none, 0, [], hcs, Sl.nil, by simp⟩
  · simp at hz
    have hlz : len ≤ zs.length := by omega
    have hm' : cap ≤ 9223372036854775807 := hm
    refine ⟨some a, cap, zs.take len, ?_, sl_open hlz hcell, ?_⟩
    · rw [List.length_take, Nat.min_eq_left hlz]; exact hcs
    · rw [List.length_take]; omega

theorem cells_TSchema : Tryz.prog.cellsOf 62 = 2 := by kernel_rfl
theorem cells_TUpd : Tryz.prog.cellsOf 53 = 3 := by kernel_rfl
theorem open_schema {cs : List Value} (h : DataW.trod enc Tryz.prog W 0 (fun _ => true) true n 62 cs = some x) :
    ∃ (s : ByteArray) (ks : List Int) (KA : Option Addr) (KC : Nat), cs = [.string s, .slice KA ks.length KC] ∧ SlI .i64 W.heap.size W KA ks ∧ s.size ≤ 9223372036854775807 ∧ ks.length ≤ 9223372036854775807 := by
  obtain ⟨ys, n', _, _, hlen, hyl, hf⟩ := DataW.trod_struct Tryz.underlying62 h
  rw [cells_TSchema] at hlen
  match cs, hlen with
  | [c0, c1], _ =>
    match ys, hyl with
    | [y0, y1], _ =>
      have h0 := hf 0 _ rfl
      have h1 := hf 1 _ rfl
      obtain ⟨a0, e0, _, hz⟩ := DataW.trod_string (by kernel_rfl) h0
      obtain ⟨KA, KC, ks, e1, hs, hk⟩ := open_cols h1
      have q0 : List.take (Tryz.prog.cellsOf 9) (List.drop 0 [c0, c1]) = [.string a0] := e0
      have q1 : List.take (Tryz.prog.cellsOf 36) (List.drop 1 [c0, c1]) = [.slice KA ks.length KC] := e1
      rw [show Tryz.prog.cellsOf 9 = 1 by kernel_rfl] at q0
      rw [show Tryz.prog.cellsOf 36 = 1 by kernel_rfl] at q1
      simp at q0 q1
      subst q0 q1
      exact ⟨a0, ks, KA, KC, rfl, hs, hz, hk⟩

theorem open_schemas {cs : List Value} (h : DataW.trod enc Tryz.prog W 0 (fun _ => true) true n 22 cs = some x) :
    ∃ A C X, cs = [.slice A X.length C] ∧ SchsM W.heap.size W A X ∧ SchsOk X ∧ X.length ≤ C ∧ C ≤ 9223372036854775807 := by
  rcases open_slice Tryz.underlying22 h with ⟨hcs, _⟩ | ⟨a, len, cap, m, n', D, Pl, hcs, _, hl, hm, hmm, hx, hel⟩
  · exact ⟨none, 0, [], hcs, fun h => absurd rfl h, fun p hp => (by cases hp), Nat.le_refl _, by simp⟩
  · rw [cells_TSchema] at hel
    simp only [if_true] at hmm
    subst hmm
    have hm' : m ≤ 9223372036854775807 := hm
    have hch : ∀ i, i < len → ∃ t : ByteArray × List Int, ∃ KA KC, W.cell? (a.add (i * 2)) = some (.string t.1) ∧ W.cell? (a.add (i * 2 + 1)) = some (.slice KA t.2.length KC) ∧ SlI .i64 W.heap.size W KA t.2 ∧ t.1.size ≤ 9223372036854775807 ∧ t.2.length ≤ 9223372036854775807 := by
      intro i hi
      obtain ⟨cs', h1, h2⟩ := hel i (by omega)
      obtain ⟨s, ks, KA, KC, rfl, hs, hz, hk⟩ := open_schema h2
      obtain ⟨_, _, h3⟩ := World.cells?_some h1
      refine ⟨(s, ks), KA, KC, ?_, ?_, hs, hz, hk⟩
      · have := h3 0 (by omega)
        rw [Go.Deep.add_add] at this
        exact this
      · have := h3 1 (by omega)
        rw [Go.Deep.add_add] at this
        exact this
    haveI : Inhabited (ByteArray × List Int) := ⟨⟨ByteArray.empty, []⟩⟩
    obtain ⟨f, hf⟩ := choose_lt hch
    refine ⟨some a, m, (List.range len).map f, by simpa using hcs, fun hne => ?_, ?_, by simpa using hl, hm'⟩
    · have hpos : 0 < len := by
        rcases Nat.eq_zero_or_pos len with h0 | h0
        · subst h0; exact absurd rfl hne
        · exact h0
      obtain ⟨_, _, h0, _⟩ := hf 0 hpos
      rw [show a.add (0 * 2) = a by unfold Addr.add; simp] at h0
      obtain ⟨ha, hb⟩ := cell_addr h0
      refine ⟨a.block, a.off, by rw [← ha], hb, fun i hi => ?_⟩
      have hi' : i < len := by simpa using hi
      obtain ⟨KA, KC, g0, g1, g2, _⟩ := hf i hi'
      rw [ha, add_addr] at g0 g1
      refine ⟨KA, KC, ?_, ?_, ?_⟩
      · simpa using g0
      · rw [← Nat.add_assoc] at g1
        simpa using g1
      · simpa using g2
    · intro p hp
      rw [List.mem_map] at hp
      obtain ⟨i, hi, rfl⟩ := hp
      obtain ⟨_, _, _, _, _, g⟩ := hf i (by simpa using hi)
      exact g

end
end
section
open Go Go.ChangeShapes Go.WideShapes Go.ChangeAt Go.RowKit Go.Joins

theorem wrap_shaped {H : Type} {enc : TypeId × Value → H} {a : Assume} {C : Checked} {os : Os} {f : FuncId} {fn : Func} {s : ChangeSpec} {conds : List PathCond} {apart fresh handsOn again : Bool} {X : World → Array Value → Prop}
    (hX : ∀ (w w' : World) (args : Array Value), w.heap = w'.heap → X w args → X w' args)
    (own : ownKnob C.prog.godebug = none) (started : os.Started) (noInit : C.prog.inits.idxOf? f = none) (hfn : C.prog.funcs[f]? = some fn)
    (witness : ∃ (w : World) (tape : Tape) (i : Input), w.os = os ∧ (w.forCall tape i).Shaped C.prog ∧ i.vars = [] ∧ Input.okWide C.prog (w.forCall tape i) .any w.heap.size f i ∧
      ((s.pre enc C.prog fn conds apart (w.forCall tape i).memory i.args ∧ X (w.forCall tape i).memory i.args) ∧ sizedMet enc C.prog fn (OpenSpec.ofChange s) apart (w.forCall tape i).memory i.args) ∧ a.holds C.prog (lone (Frame.enter C.prog f i.args .normal) [] (w.forCall tape i)))
    (contract : ∀ (W : World) (base : Nat) (args : Array Value) (ds gs : List (DataW H)) (before : List MemPlace),
      (∀ (j : Nat) t v, fn.params[j]? = some t → args[j]? = some v → Value.okWide C.prog W .any base t v) →
      DataW.Whole enc C.prog fn.params.toList s.vars apart W args.toList ds gs before →
      conds.all (PathCond.test C.prog ⟨fn.params.toList, ds, s.plain.varTypes C.prog, gs⟩) = true →
      (DataW.weightsEach C.prog (fn.params.toList ++ s.plain.varTypes C.prog) (ds ++ gs)).all (· ≤ reachBytes) = true → X W args → W.ShapedOpen C.prog →
      a.holds C.prog (lone (Frame.enter C.prog f args .normal) [] W) →
      Calls C.prog f args W fun e W' => ∃ v, e = .returned v ∧ s.post enc C.prog fn apart fresh handsOn again W args v W') :
    ReturnsInHanded a C os f .any (fun w args => (s.pre enc C.prog fn conds apart w args ∧ X w args) ∧ sizedMet enc C.prog fn (OpenSpec.ofChange s) apart w args) (s.post enc C.prog fn apart fresh handsOn again) := by
  refine returnsInHanded_of_calls own started noInit witness ?_
  intro w tape i _ hsh _ hok hpre hholds
  obtain ⟨_, _, _, fn', hfn', _, _, _, _, hval⟩ := hok
  have e : fn' = fn := Option.some.inj (hfn'.symm.trans hfn)
  subst e
  obtain ⟨⟨⟨ds, gs, before, hw, hc⟩, hx⟩, hz⟩ := hpre
  have hw' := DataW.Whole.of_heap (w' := w.forCall tape i) (by rfl) hw
  refine (contract (w.forCall tape i) w.heap.size i.args ds gs before hval hw' hc (hz.weights hw) (hX _ _ _ (by rfl) hx) hsh hholds).mono fun e W' ⟨v, he, hp⟩ => ?_
  subst he
  exact ChangeSpec.post_blind hp

def laidL : List (String × DataW Unit) := [("math/bits.deBruijn32tab", Rows.laid_math_bits_deBruijn32tab), ("math/bits.deBruijn64tab", Rows.laid_math_bits_deBruijn64tab), ("internal/strconv.uint64pow10", Rows.laid_internal_strconv_uint64pow10), ("unicode/utf8.acceptRanges", Rows.laid_unicode_utf8_acceptRanges), ("strconv.ErrRange", Rows.laid_strconv_ErrRange), ("strconv.ErrSyntax", Rows.laid_strconv_ErrSyntax), ("unicode/utf8.first", Rows.laid_unicode_utf8_first)]

theorem laid_plain : (laidL.all fun x => x.2.handleName?.isNone) = true := by kernel_rfl

theorem iface_of_reads {P : Program} {w : World} {n : String} {g : Nat} {t : TypeId} {ms : Array (String × TypeId)} {nm : String} {d : DataW Unit} (h : Lib.VarReads P w n (.iface nm d)) (hg : P.globalNamed n = some g) (ht : (P.globals[g]?).map (·.type) = some t) (hu : P.underlying t = some (.interface ms)) :
    ∃ u v, w.cell? ⟨g, 0, none⟩ = some (.iface u v) := by
  obtain ⟨g', t', cs, fuel, p, h1, h2, h3, h4⟩ := h
  obtain rfl := Option.some.inj (hg.symm.trans h1)
  obtain rfl := Option.some.inj (ht.symm.trans h2)
  cases fuel with
  | zero => simp [DataW.trod] at h4
  | succ fuel =>
    have h0 : w.cell? ⟨g, 0, none⟩ = cs[0]? := by simpa using World.var?_cell hg h3 0
    obtain ⟨l⟩ := cs
    simp only [DataW.trod, hu] at h4
    split at h4 <;> simp_all

open Go.ChangeMaps in
theorem tabs_of {W : World} (h : laidMetH Tryz.prog laidL W) (hsh : W.ShapedOpen Tryz.prog) : Tabs W where
  pow := by
    rw [Go.MakeChecks.laidMetH_plain _ _ _ laid_plain] at h
    obtain ⟨g, t, cs, fuel, p, h1, h2, h3, h4⟩ := Lib.laidMet.reads h (n := "internal/strconv.uint64pow10") (d := Rows.laid_internal_strconv_uint64pow10) (by simp [laidL])
    obtain rfl := Option.some.inj (h1.symm.trans (show Tryz.prog.globalNamed "internal/strconv.uint64pow10" = some 1 by kernel_rfl))
    obtain rfl := Option.some.inj (h2.symm.trans (show (Tryz.prog.globals[1]?).map (·.type) = some 186 by kernel_rfl))
    unfold Lib.TabIs
    rw [h3, ← Lib.cells_of_tab (k := .u64) (n := 20) (e := 167) (zs := Lib.pow10Tab) Tryz.underlying186 (by kernel_rfl) (by kernel_rfl) (by kernel_rfl) (show DataW.trod (fun _ => ()) Tryz.prog W 0 (fun _ => true) false fuel 186 cs.toList = some (Lib.tabData .u64 Lib.pow10Tab, p) from h4.trans (congrArg (fun d => some (d, p)) (show Rows.laid_internal_strconv_uint64pow10 = Lib.tabData .u64 Lib.pow10Tab by kernel_rfl)))]
  maxl := by
    have := Go.Proofs.cell_of_shapedOpen_int (g := 0) (zero := #[.int .i64 0]) (t := 3) (k := .i64) hsh (of_decide_eq_true (by kernel_rfl)) (by kernel_rfl) rfl (by kernel_rfl) (by kernel_rfl) Tryz.underlying3
    exact this
  maxs := by
    have := Go.Proofs.cell_of_shapedOpen_int (g := 0) (zero := #[.int .i64 0]) (t := 3) (k := .i64) hsh (of_decide_eq_true (by kernel_rfl)) (by kernel_rfl) rfl (by kernel_rfl) (by kernel_rfl) Tryz.underlying3
    exact this
  rng := by
    rw [Go.MakeChecks.laidMetH_plain _ _ _ laid_plain] at h
    obtain ⟨u, v, hc⟩ := iface_of_reads (g := 7) (t := 91) (Lib.laidMet.reads h (n := "strconv.ErrRange") (d := Rows.laid_strconv_ErrRange) (by simp [laidL])) (by kernel_rfl) (by kernel_rfl) Tryz.underlying91
    exact ⟨_, hc, .inr ⟨u, v, rfl⟩⟩
end
section
open Go.ChangeShapes Go.WideShapes Go.ChangeAt Go.RowKit Go.Joins Go.Deep

def BigF (x : RL.R) : Prop := x.length ≤ 9223372036854775807 ∧ ∀ v ∈ x, VFit v
section
variable {H : Type} {enc : TypeId × Value → H} {W : World} {n : Nat} {x : DataW H × List MemPlace}
theorem open_valueF {cs : List Value} (h : DataW.trod enc Tryz.prog W 0 (fun _ => true) true n 82 cs = some x) :
    ∃ v : RL.V, cs = vcells v ∧ VFit v := by
  obtain ⟨ys, n', _, _, hlen, hyl, hf⟩ := DataW.trod_struct Tryz.underlying82 h
  rw [cells_TValue] at hlen
  match cs, hlen with
  | [c0, c1, c2], _ =>
    match ys, hyl with
    | [y0, y1, y2], _ =>
      have h0 := hf 0 _ rfl
      have h1 := hf 1 _ rfl
      have h2 := hf 2 _ rfl
      obtain ⟨a0, e0, _, _⟩ := DataW.trod_int (k := .i64) (by kernel_rfl) h0
      obtain ⟨a1, e1, _, hw⟩ := DataW.trod_int (k := .i64) (by kernel_rfl) h1
      obtain ⟨a2, e2, _, hz⟩ := DataW.trod_string (by kernel_rfl) h2
      have q0 : List.take (Tryz.prog.cellsOf 3) (List.drop 0 [c0, c1, c2]) = [.int .i64 a0] := e0
      have q1 : List.take (Tryz.prog.cellsOf 2) (List.drop 1 [c0, c1, c2]) = [.int .i64 a1] := e1
      have q2 : List.take (Tryz.prog.cellsOf 9) (List.drop 2 [c0, c1, c2]) = [.string a2] := e2
      rw [show Tryz.prog.cellsOf 3 = 1 by kernel_rfl] at q0
      rw [show Tryz.prog.cellsOf 2 = 1 by kernel_rfl] at q1
      rw [show Tryz.prog.cellsOf 9 = 1 by kernel_rfl] at q2
      simp at q0 q1 q2
      subst q0 q1 q2
      exact ⟨⟨a0, a1, a2⟩, rfl, (bounds_i64 hw).1, (bounds_i64 hw).2, hz⟩

theorem open_rowF {cs : List Value} (h : DataW.trod enc Tryz.prog W 0 (fun _ => true) true n 42 cs = some x) :
    ∃ A C y, cs = [.slice A y.length C] ∧ SlR W.heap.size W A y ∧ y.length ≤ C ∧ C ≤ 9223372036854775807 ∧ BigF y := by
  rcases open_slice Tryz.underlying42 h with ⟨hcs, _⟩ | ⟨a, len, cap, m, n', D, Pl, hcs, _, hl, hm, hmm, _, hel⟩
  · exact ⟨none, 0, [], hcs, SlR.nil, Nat.le_refl _, by simp, by simp [BigF]⟩
  · rw [cells_TValue] at hel
    simp only [if_true] at hmm
    subst hmm
    have hch : ∀ i, i < len → ∃ v : RL.V, (∀ j, j < 3 → W.cell? (a.add (i * 3 + j)) = (vcells v)[j]?) ∧ VFit v := by
      intro i hi
      obtain ⟨cs', h1, h2⟩ := hel i (by omega)
      obtain ⟨v, rfl, hv⟩ := open_valueF h2
      obtain ⟨_, _, h3⟩ := World.cells?_some h1
      refine ⟨v, fun j hj => ?_, hv⟩
      rw [← Go.Deep.add_add]
      exact h3 j hj
    haveI : Inhabited RL.V := ⟨⟨0, 0, ByteArray.empty⟩⟩
    obtain ⟨f, hf⟩ := choose_lt hch
    refine ⟨some a, m, (List.range len).map f, by simpa using hcs, fun hne => ?_, by simpa using hl, hm, by simp only [List.length_map, List.length_range]; exact Nat.le_trans hl hm, ?_⟩
    · have hpos : 0 < len := by
        rcases Nat.eq_zero_or_pos len with h0 | h0
        · subst h0; exact absurd rfl hne
        · exact h0
      have h0 := (hf 0 hpos).1 0 (by omega)
      rw [show a.add (0 * 3 + 0) = a by unfold Addr.add; simp] at h0
      obtain ⟨ha, hb⟩ := cell_addr (h0.trans rfl)
      refine ⟨a.block, a.off, by rw [← ha], hb, fun i u hu => ?_⟩
      obtain ⟨v, hv, hvu⟩ := rcells_div _ _ _ hu
      rw [List.getElem?_map] at hv
      have hq : i / 3 < len := by
        rcases Nat.lt_or_ge (i / 3) len with h | h
        · exact h
        · rw [List.getElem?_eq_none (by simpa using h)] at hv; simp at hv
      rw [List.getElem?_range hq] at hv
      simp at hv
      subst hv
      have h1 := (hf _ hq).1 (i % 3) (by omega)
      rw [show i / 3 * 3 + i % 3 = i by omega, ha, add_addr] at h1
      rw [h1]
      exact hvu
    · intro v hv
      rw [List.mem_map] at hv
      obtain ⟨i, hi, rfl⟩ := hv
      exact (hf i (by simpa using hi)).2

theorem open_updF {cs : List Value} (h : DataW.trod enc Tryz.prog W 0 (fun _ => true) true n 53 cs = some x) :
    ∃ (u : Upd) (RA : Option Addr) (RC : Nat), cs = [.bool u.del, .string u.rel, .slice RA u.row.length RC] ∧ SlR W.heap.size W RA u.row ∧ u.rel.size ≤ 9223372036854775807 ∧ u.row.length ≤ 9223372036854775807 ∧ BigF u.row := by
  obtain ⟨ys, n', _, _, hlen, hyl, hf⟩ := DataW.trod_struct Tryz.underlying53 h
  rw [cells_TUpd] at hlen
  match cs, hlen with
  | [c0, c1, c2], _ =>
    match ys, hyl with
    | [y0, y1, y2], _ =>
      have h0 := hf 0 _ rfl
      have h1 := hf 1 _ rfl
      have h2 := hf 2 _ rfl
      obtain ⟨a0, e0, _⟩ := DataW.trod_bool (by kernel_rfl) h0
      obtain ⟨a1, e1, _, hz⟩ := DataW.trod_string (by kernel_rfl) h1
      obtain ⟨RA, RC, y, e2, hs, hk, hk2, hbr⟩ := open_rowF h2
      have q0 : List.take (Tryz.prog.cellsOf 4) (List.drop 0 [c0, c1, c2]) = [.bool a0] := e0
      have q1 : List.take (Tryz.prog.cellsOf 9) (List.drop 1 [c0, c1, c2]) = [.string a1] := e1
      have q2 : List.take (Tryz.prog.cellsOf 42) (List.drop 2 [c0, c1, c2]) = [.slice RA y.length RC] := e2
      rw [show Tryz.prog.cellsOf 4 = 1 by kernel_rfl] at q0
      rw [show Tryz.prog.cellsOf 9 = 1 by kernel_rfl] at q1
      rw [cells_TRow] at q2
      simp at q0 q1 q2
      subst q0 q1 q2
      exact ⟨⟨a0, a1, y⟩, RA, RC, rfl, hs, hz, Nat.le_trans hk hk2, hbr⟩

theorem open_updsF {cs : List Value} (h : DataW.trod enc Tryz.prog W 0 (fun _ => true) true n 23 cs = some x) :
    ∃ A C X, cs = [.slice A X.length C] ∧ UpdsM W.heap.size W A X ∧ (∀ u ∈ X, u.rel.size ≤ 9223372036854775807 ∧ u.row.length ≤ 9223372036854775807 ∧ BigF u.row) ∧ X.length ≤ C ∧ C ≤ 9223372036854775807 := by
  rcases open_slice Tryz.underlying23 h with ⟨hcs, _⟩ | ⟨a, len, cap, m, n', D, Pl, hcs, _, hl, hm, hmm, hx, hel⟩
  · exact ⟨none, 0, [], hcs, fun h => absurd rfl h, fun p hp => (by cases hp), Nat.le_refl _, by simp⟩
  · rw [cells_TUpd] at hel
    simp only [if_true] at hmm
    subst hmm
    have hm' : m ≤ 9223372036854775807 := hm
    have hch : ∀ i, i < len → ∃ t : Upd, ∃ RA RC, W.cell? (a.add (i * 3)) = some (.bool t.del) ∧ W.cell? (a.add (i * 3 + 1)) = some (.string t.rel) ∧ W.cell? (a.add (i * 3 + 2)) = some (.slice RA t.row.length RC) ∧ SlR W.heap.size W RA t.row ∧ t.rel.size ≤ 9223372036854775807 ∧ t.row.length ≤ 9223372036854775807 ∧ BigF t.row := by
      intro i hi
      obtain ⟨cs', h1, h2⟩ := hel i (by omega)
      obtain ⟨u, RA, RC, rfl, hs, g⟩ := open_updF h2
      obtain ⟨_, _, h3⟩ := World.cells?_some h1
      refine ⟨u, RA, RC, ?_, ?_, ?_, hs, g⟩
      · have := h3 0 (by omega)
        rw [Go.Deep.add_add] at this
        exact this
      · have := h3 1 (by omega)
        rw [Go.Deep.add_add] at this
        exact this
      · have := h3 2 (by omega)
        rw [Go.Deep.add_add] at this
        exact this
    haveI : Inhabited Upd := ⟨⟨false, ByteArray.empty, []⟩⟩
    obtain ⟨f, hf⟩ := choose_lt hch
    refine ⟨some a, m, (List.range len).map f, by simpa using hcs, fun hne => ?_, ?_, by simpa using hl, hm'⟩
    · have hpos : 0 < len := by
        rcases Nat.eq_zero_or_pos len with h0 | h0
        · subst h0; exact absurd rfl hne
        · exact h0
      obtain ⟨_, _, h0, _⟩ := hf 0 hpos
      rw [show a.add (0 * 3) = a by unfold Addr.add; simp] at h0
      obtain ⟨ha, hb⟩ := cell_addr h0
      refine ⟨a.block, a.off, by rw [← ha], hb, fun i hi => ?_⟩
      have hi' : i < len := by simpa using hi
      obtain ⟨RA, RC, g0, g1, g2, g3, _⟩ := hf i hi'
      rw [ha, add_addr] at g0 g1 g2
      rw [← Nat.add_assoc] at g1 g2
      refine ⟨RA, RC, ?_, ?_, ?_, ?_⟩
      · simpa using g0
      · simpa using g1
      · simpa using g2
      · simpa using g3
    · intro p hp
      rw [List.mem_map] at hp
      obtain ⟨i, hi, rfl⟩ := hp
      obtain ⟨_, _, _, _, _, _, g⟩ := hf i (by simpa using hi)
      exact g
end
end
end Go.Proofs.YtdadchpiibipoaaGreatDoor

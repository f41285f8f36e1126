/- Walk: the law CatalogNames. -/
import Derived.Test.YtdadchpiibipoaaGreatDoorHC35
namespace Go.Proofs.YtdadchpiibipoaaGreatDoor
open Go.RowKit Go.Sort Go.ChangeMaps Go.WideShapes

theorem strEq_str (a b : ByteArray) : (a.toList == b.toList) = decide (a = b) := by
  rw [show b.toList = b.data.toList from ByteArray.toList_eq b, strEq_data, toB_mk]
theorem memB_take {s : ByteArray} {S : Sch} {i : Nat} (h : i < S.length) : memB s ((S.take (i + 1)).map Prod.fst) = (memB s ((S.take i).map Prod.fst) || decide (S[i].1 = s)) := by
  rw [List.take_succ_eq_append_getElem h, List.map_append]
  unfold memB
  rw [List.any_append]
  simp

set_option maxHeartbeats 8000000 in
set_option maxRecDepth 100000 in
theorem l08Names_any (nm : ByteArray) (hnm : nm.size ≤ 9223372036854775807) (SA : Option Addr) (SC : Nat) (S : Sch) (w : World) (hS : SchsM w.heap.size w SA S) (hSo : SchsOk S) (hSl : S.length ≤ 9223372036854775807) (hT : Tabs w) :
    Calls Tryz.prog 6 #[.string nm, .slice SA S.length SC] w fun e w' => e = .returned (.bool true) ∧ Below w.heap.size w w' := by
  have HAW := Lib.hid (l08awake_any w hT)
  have HS := Lib.hid hS
  have HSO := Lib.hid hSo
  clear hS hSo hT
  go_enter Tryz.func6, Tryz.ntmps6
  go_wp2_with fail
  refine HAW.out.mono ?_
  rintro e w1 ⟨rfl, hb1⟩
  have HB1 := Lib.hid hb1
  clear hb1 HAW
  by_cases h100 : 100 < nm.size
  · have hd : decide ((100 : Int) < (nm.size : Int)) = true := decide_eq_true (by omega)
    clear h100
    go_wp2_with fail
    go_ret
    exact ⟨rfl, HB1.out⟩
  have hd : decide ((100 : Int) < (nm.size : Int)) = false := decide_eq_false (by omega)
  by_cases h20 : 20 < S.length
  · have hd2 : decide ((20 : Int) < (S.length : Int)) = true := decide_eq_true (by omega)
    clear h20 h100
    go_wp2_with fail
    go_ret
    exact ⟨rfl, HB1.out⟩
  have hd2 : decide ((20 : Int) < (S.length : Int)) = false := decide_eq_false (by omega)
  have HN := Lib.hid (ctNew_any (fun _ => True) SA SC S w1 (fun _ _ => trivial) (HS.out.up HB1.out) HSO.out (by omega))
  have HNM : Hid (nm.size ≤ 100) := by show _ ≤ _; omega
  have HSL : Hid (S.length ≤ 20) := by show _ ≤ _; omega
  clear h100
  go_wp2_with fail
  refine HN.out.mono ?_
  rintro e w3 ⟨h1, h2, hb3⟩
  have HB3 := Lib.hid (HB1.out.trans (hb3.mono HB1.out.size))
  clear hd hd2
  by_cases he : errS S = 0
  rotate_left
  · obtain rfl := h2 he
    have hne : (errS S == 0) = false := by rw [beq_eq_false_iff_ne]; exact he
    have hpos : 0 < S.length := by
      rcases Nat.eq_zero_or_pos S.length with h | h
      · exact absurd (by rw [List.eq_nil_of_length_eq_zero h]; rfl) he
      · exact h
    have hd0 : decide ((0 : Int) < (S.length : Int)) = true := decide_eq_true (by omega)
    obtain ⟨W4, hW4⟩ : ∃ W, W = w3.alloc (.cells #[.map none] 28) := ⟨_, rfl⟩
    obtain ⟨g5, hg5⟩ : ∃ g, g = w3.heap.size := ⟨_, rfl⟩
    have HR5 : Hid (Row W4 g5 28 [.map none]) := by show Row _ _ _ _; rw [hW4, hg5]; exact Row.new w3 _ _
    have HB4 : Hid (Below w.heap.size w W4) := by show Below _ _ _; rw [hW4]; exact HB3.out.alloc HB3.out.size _
    clear h1 h2 hb3 he HN HS HSO h20
    generalize errS S = ce at *
    go_upto_region 8 with (fail)
    rw [← hW4, ← hg5]
    clear hW4 hg5
    have c0 : W4.cell? ⟨g5, 0, none⟩ = some (.map none) := HR5.out.cell 0
    have c1 := HR5.out.lt
    refine wp_loop_rounds 1 ?_
    rw [rounds_succ]
    have HCS := Lib.hid (ctSchema_nil nm hnm W4)
    have hb0 : ((0 : Int) == 0) = true := rfl
    go_wp2_with fail
    refine HCS.out.mono ?_
    rintro e w5 ⟨rfl, hb5⟩
    obtain ⟨W6, hW6⟩ : ∃ W, W = w5.alloc (.cells #[.string ⟨#[]⟩, .slice none 0 0] 62) := ⟨_, rfl⟩
    obtain ⟨g9, hg9⟩ : ∃ g, g = w5.heap.size := ⟨_, rfl⟩
    have hb6 : Below w5.heap.size w5 W6 := by rw [hW6]; exact ((Ext.refl w5).alloc _).below
    have HR9 : Hid (Row W6 g9 62 [.string ⟨#[]⟩, .slice none 0 0]) := by show Row _ _ _ _; rw [hW6, hg9]; exact Row.new w5 _ _
    have hb46 := hb5.trans (hb6.mono hb5.size)
    have HB6 := Lib.hid (HB4.out.trans (hb46.mono HB4.out.size))
    have HR56 := Lib.hid (HR5.out.up hb46)
    have HCR := Lib.hid (ctRelation_nil nm hnm W6)
    have HW6 := Lib.hid hW6
    have HG9 := Lib.hid hg9
    have c0 : W6.cell? ⟨g5, 0, none⟩ = some (.map none) := HR56.out.cell 0
    have c1 := HR56.out.lt
    clear hb5 hb6 hb46 hW6 hg9 HCS HR5 HB4
    go_upto_region 12 with (fail)
    rw [← HW6.out, ← HG9.out]
    clear HW6 HG9
    go_wp2_with fail
    refine HCR.out.mono ?_
    rintro e w7 ⟨rfl, hb7⟩
    obtain ⟨W8, hW8⟩ : ∃ W, W = w7.alloc (.cells #[.int .i64 0, .slice none 0 0] 56) := ⟨_, rfl⟩
    obtain ⟨g11, hg11⟩ : ∃ g, g = w7.heap.size := ⟨_, rfl⟩
    have hb8 : Below w7.heap.size w7 W8 := by rw [hW8]; exact ((Ext.refl w7).alloc _).below
    have HR11 : Hid (Row W8 g11 56 [.int .i64 0, .slice none 0 0]) := by show Row _ _ _ _; rw [hW8, hg11]; exact Row.new w7 _ _
    have hb68 := hb7.trans (hb8.mono hb7.size)
    have HB8 := Lib.hid (HB6.out.trans (hb68.mono HB6.out.size))
    have HR58 := Lib.hid (HR56.out.up hb68)
    have HR98 := Lib.hid (HR9.out.up hb68)
    have HLE := Lib.hid (rlLen_any 0 none 0 0 W8)
    have HW8 := Lib.hid hW8
    have HG11 := Lib.hid hg11
    have d0 : W8.cell? ⟨g9, 0, none⟩ = some (.string ⟨#[]⟩) := HR98.out.cell 0
    have d1 := HR98.out.lt
    have d2 : W8.cell? ⟨g11, 0, none⟩ = some (.int .i64 0) := HR11.out.cell 0
    have d3 : W8.cell? ⟨g11, 1, none⟩ = some (.slice none 0 0) := HR11.out.cell 1
    have d4 := HR11.out.lt
    clear hb7 hb8 hb68 hW8 hg11 HCR HR56 HR9 HB6 c0 c1
    go_upto_region 13 with (fail)
    rw [← HW8.out, ← HG11.out]
    clear HW8 HG11
    go_wp2_with fail
    refine HLE.out.mono ?_
    rintro e w9 ⟨rfl, hx9⟩
    have HB9 := Lib.hid (HB8.out.trans (hx9.below.mono HB8.out.size))
    have HR59 := Lib.hid (HR58.out.up hx9.below)
    have HV := Lib.hid (ctValid_any nm hnm w9)
    have HNA := Lib.hid (r08Name_any nm hnm w9)
    have HCC := Lib.hid (ctCheck_nil false nm hnm none 0 0 w9)
    have c0 : w9.cell? ⟨g5, 0, none⟩ = some (.map none) := HR59.out.cell 0
    have c1 := HR59.out.lt
    clear hx9 HR58 HR98 HR11 d0 d1 d2 d3 d4 HLE HB8
    obtain ⟨nb, hnb⟩ : ∃ b, b = nameF nm := ⟨_, rfl⟩
    rw [← hnb] at HV HNA
    have hbb : (nb == nb) = true := by simp
    clear hnb
    go_wp2_with (first | (go_at_call 27; refine HV.out.mono ?_; rintro e w' ⟨rfl, hw⟩; obtain rfl := hw.symm) | (go_at_call 28; refine HNA.out.mono ?_; rintro e w' ⟨rfl, hw⟩; obtain rfl := hw.symm) | fail)
    refine HCC.out.mono ?_
    rintro e wa ⟨rfl, hba⟩
    have HBA := Lib.hid (HB9.out.trans (hba.mono HB9.out.size))
    clear hba
    go_wp2_with fail
    go_ret
    exact ⟨by simp, HBA.out⟩
  obtain ⟨md, rfl, hdb⟩ := h1 he
  obtain ⟨bd, rfl⟩ := hdb.form
  obtain ⟨W4, hW4⟩ : ∃ W, W = w3.alloc (.cells #[.map (some bd)] 28) := ⟨_, rfl⟩
  obtain ⟨g5, hg5⟩ : ∃ g, g = w3.heap.size := ⟨_, rfl⟩
  have HR5 : Hid (Row W4 g5 28 [.map (some bd)]) := by show Row _ _ _ _; rw [hW4, hg5]; exact Row.new w3 _ _
  have HB4 : Hid (Below w.heap.size w W4) := by show Below _ _ _; rw [hW4]; exact HB3.out.alloc HB3.out.size _
  have HD4 : Hid (DbM (fun _ => True) S W4 (.map (some bd)) (fun _ => [])) := by show DbM _ _ _ _ _; rw [hW4]; exact hdb.up ((Ext.refl w3).alloc _).below
  have HS4 := Lib.hid (HS.out.up HB4.out)
  have HND : Hid (S.map Prod.fst).Nodup := (errS_mem he).2.1
  have HSK := Lib.hid (errS_mem he)
  clear h1 h2 hb3 he HN HS HSO h20 hdb
  go_upto_region 8 with (fail)
  rw [← hW4, ← hg5]
  clear hW4 hg5
  go_loopw [7, 8] (fun kn c wx => ∃ i : Nat, i ≤ S.length ∧ c = .int .i64 i ∧ kn = .bool (memB nm ((S.take i).map Prod.fst)) ∧ wx = W4) (fun _ c _ => S.length - (intOf c).toNat)
  case atStart => exact ⟨0, Nat.zero_le _, rfl, rfl, rfl⟩
  case round =>
    obtain ⟨i, hi, rfl, rfl, hwr⟩ := hrel
    subst hwr
    by_cases hil : i < S.length
    · obtain ⟨ab, ao, rfl, hab, hac⟩ := HS4.out (by intro h0; rw [h0] at hil; simp at hil)
      obtain ⟨KA, KC, c0, -, -⟩ := hac i hil
      have g1 : (0 : Int) ≤ (i : Int) := by omega
      have g2 : (i : Int) < (S.length : Int) := by omega
      have hw1 : IntKind.i64.wrap ((i : Int) + 1) = ((i + 1 : Nat) : Int) := by rw [IntWalk.i64_in _ (by have := HSL.out; omega)]; omega
      have HTK := Lib.hid (memB_take (s := nm) hil)
      have hse := strEq_str S[i].1 nm
      generalize S[i].1 = sn at *
      cases hmb : memB nm ((S.take i).map Prod.fst) with
      | true =>
        have HX : Hid (memB nm ((S.take (i + 1)).map Prod.fst) = true) := by show _ = _; rw [HTK.out, hmb]; rfl
        clear hmb hac hse
        go_wp2_with fail
        go_roundw
        case rel => exact ⟨i + 1, hil, by go_num, by rw [HX.out], by first | rfl | trivial⟩
        case measure => simp [intOf]; omega
      | false =>
        have HX : Hid (memB nm ((S.take (i + 1)).map Prod.fst) = decide (sn = nm)) := by show _ = _; rw [HTK.out, hmb]; rfl
        obtain ⟨db, hdb⟩ : ∃ b, b = decide (sn = nm) := ⟨_, rfl⟩
        rw [← hdb] at HX hse
        clear hmb hac hdb
        go_wp2_with fail
        go_roundw
        case rel => exact ⟨i + 1, hil, by go_num, by rw [HX.out], by first | rfl | trivial⟩
        case measure => simp [intOf]; omega
    · obtain rfl : i = S.length := by omega
      rw [List.take_length]
      have g2 : ¬ (S.length : Int) < (S.length : Int) := by omega
      have hdl : decide ((S.length : Int) < (S.length : Int)) = false := decide_eq_false g2
      have HCS := Lib.hid (ctSchema_any nm (by have := HNM.out; omega) wr HD4.out HND.out)
      have c0 : wr.cell? ⟨g5, 0, none⟩ = some (.map (some bd)) := HR5.out.cell 0
      have c1 := HR5.out.lt
      clear hil
      cases hmb : memB nm (S.map Prod.fst) with
      | true =>
        obtain ⟨p, hp, hpe⟩ := List.mem_map.1 (memB_iff.1 hmb)
        obtain ⟨nm2, ks⟩ := p
        have hpe : nm2 = nm := hpe
        rw [hpe] at hp
        have HKS := Lib.hid hp
        clear hmb hp hpe
        go_wp2_with fail
        refine HCS.out.mono ?_
        intro e w5 hpost
        obtain ⟨p1, -, hb5⟩ := hpost
        obtain ⟨KA, KC, rfl, -⟩ := p1 ks HKS.out
        obtain ⟨kl, hkl⟩ : ∃ kl, kl = ks.length := ⟨_, rfl⟩
        rw [← hkl]
        obtain ⟨W6, hW6⟩ : ∃ W, W = w5.alloc (.cells #[.string nm, .slice KA kl KC] 62) := ⟨_, rfl⟩
        obtain ⟨g9, hg9⟩ : ∃ g, g = w5.heap.size := ⟨_, rfl⟩
        have hb6 : Below w5.heap.size w5 W6 := by rw [hW6]; exact ((Ext.refl w5).alloc _).below
        have HR9 : Hid (Row W6 g9 62 [.string nm, .slice KA kl KC]) := by show Row _ _ _ _; rw [hW6, hg9]; exact Row.new w5 _ _
        have hb46 := hb5.trans (hb6.mono hb5.size)
        have HB6 := Lib.hid (HB4.out.trans (hb46.mono HB4.out.size))
        have HR56 := Lib.hid (HR5.out.up hb46)
        have HD6 := Lib.hid (HD4.out.up hb46)
        have HCR := Lib.hid (ctRelation_any nm hnm W6 HD6.out HND.out)
        have HW6 := Lib.hid hW6
        have HG9 := Lib.hid hg9
        have c0 : W6.cell? ⟨g5, 0, none⟩ = some (.map (some bd)) := HR56.out.cell 0
        have c1 := HR56.out.lt
        clear hb5 hb6 hb46 hW6 hg9 HCS HR5 HB4 HD4 p1 hkl
        go_upto_region 12 with (fail)
        rw [← HW6.out, ← HG9.out]
        clear HW6 HG9
        go_wp2_with fail
        refine HCR.out.mono ?_
        intro e w7 hpost
        obtain ⟨p1, -, hb7⟩ := hpost
        obtain ⟨RA, RC, rfl, -⟩ := p1 ks HKS.out
        obtain ⟨xl, hxl⟩ : ∃ xl : Nat, xl = ([] : List RL.R).length := ⟨_, rfl⟩
        rw [← hxl]
        obtain ⟨kl2, hkl2⟩ : ∃ kl, kl = ks.length := ⟨_, rfl⟩
        rw [← hkl2]
        obtain ⟨W8, hW8⟩ : ∃ W, W = w7.alloc (.cells #[.int .i64 (kl2 : Nat), .slice RA xl RC] 56) := ⟨_, rfl⟩
        obtain ⟨g11, hg11⟩ : ∃ g, g = w7.heap.size := ⟨_, rfl⟩
        have hb8 : Below w7.heap.size w7 W8 := by rw [hW8]; exact ((Ext.refl w7).alloc _).below
        have HR11 : Hid (Row W8 g11 56 [.int .i64 (kl2 : Nat), .slice RA xl RC]) := by show Row _ _ _ _; rw [hW8, hg11]; exact Row.new w7 _ _
        have hb68 := hb7.trans (hb8.mono hb7.size)
        have HB8 := Lib.hid (HB6.out.trans (hb68.mono HB6.out.size))
        have HR58 := Lib.hid (HR56.out.up hb68)
        have HR98 := Lib.hid (HR9.out.up hb68)
        have HD8 := Lib.hid (HD6.out.up hb68)
        have HW8 := Lib.hid hW8
        have HG11 := Lib.hid hg11
        clear hb7 hb8 hb68 hW8 hg11 HCR HR56 HR9 HB6 HD6 c0 c1 p1 hxl hkl2
        go_upto_region 13 with (fail)
        rw [← HW8.out, ← HG11.out]
        clear HW8 HG11
        obtain ⟨nb, hnb⟩ : ∃ b, b = nameF nm := ⟨_, rfl⟩
        have hbb : (nb == nb) = true := by simp
        have HNB := Lib.hid hnb
        clear hnb
        have HV := Lib.hid (ctValid_any nm hnm W8)
        have HNA := Lib.hid (r08Name_any nm hnm W8)
        rw [← HNB.out] at HV HNA
        go_wp2_with (first | (go_at_call 27; refine HV.out.mono ?_; rintro e w' ⟨rfl, hw⟩; obtain rfl := hw.symm) | (go_at_call 28; refine HNA.out.mono ?_; rintro e w' ⟨rfl, hw⟩; obtain rfl := hw.symm) | fail)
        go_ret
        exact ⟨by simp, HB8.out⟩
      | false =>
        have HMB := Lib.hid hmb
        clear hmb
        go_wp2_with fail
        refine HCS.out.mono ?_
        intro e w5 hpost
        obtain ⟨-, p2, hb5⟩ := hpost
        obtain rfl := p2 HMB.out
        obtain ⟨W6, hW6⟩ : ∃ W, W = w5.alloc (.cells #[.string ⟨#[]⟩, .slice none 0 0] 62) := ⟨_, rfl⟩
        obtain ⟨g9, hg9⟩ : ∃ g, g = w5.heap.size := ⟨_, rfl⟩
        have hb6 : Below w5.heap.size w5 W6 := by rw [hW6]; exact ((Ext.refl w5).alloc _).below
        have HR9 : Hid (Row W6 g9 62 [.string ⟨#[]⟩, .slice none 0 0]) := by show Row _ _ _ _; rw [hW6, hg9]; exact Row.new w5 _ _
        have hb46 := hb5.trans (hb6.mono hb5.size)
        have HB6 := Lib.hid (HB4.out.trans (hb46.mono HB4.out.size))
        have HR56 := Lib.hid (HR5.out.up hb46)
        have HD6 := Lib.hid (HD4.out.up hb46)
        have HCR := Lib.hid (ctRelation_any nm hnm W6 HD6.out HND.out)
        have HW6 := Lib.hid hW6
        have HG9 := Lib.hid hg9
        have c0 : W6.cell? ⟨g5, 0, none⟩ = some (.map (some bd)) := HR56.out.cell 0
        have c1 := HR56.out.lt
        clear hb5 hb6 hb46 hW6 hg9 HCS HR5 HB4 HD4 p2
        go_upto_region 12 with (fail)
        rw [← HW6.out, ← HG9.out]
        clear HW6 HG9
        go_wp2_with fail
        refine HCR.out.mono ?_
        intro e w7 hpost
        obtain ⟨-, p2, hb7⟩ := hpost
        obtain rfl := p2 HMB.out
        obtain ⟨W8, hW8⟩ : ∃ W, W = w7.alloc (.cells #[.int .i64 0, .slice none 0 0] 56) := ⟨_, rfl⟩
        obtain ⟨g11, hg11⟩ : ∃ g, g = w7.heap.size := ⟨_, rfl⟩
        have hb8 : Below w7.heap.size w7 W8 := by rw [hW8]; exact ((Ext.refl w7).alloc _).below
        have HR11 : Hid (Row W8 g11 56 [.int .i64 0, .slice none 0 0]) := by show Row _ _ _ _; rw [hW8, hg11]; exact Row.new w7 _ _
        have hb68 := hb7.trans (hb8.mono hb7.size)
        have HB8 := Lib.hid (HB6.out.trans (hb68.mono HB6.out.size))
        have HR58 := Lib.hid (HR56.out.up hb68)
        have HR98 := Lib.hid (HR9.out.up hb68)
        have HD8 := Lib.hid (HD6.out.up hb68)
        have HW8 := Lib.hid hW8
        have HG11 := Lib.hid hg11
        have HLE := Lib.hid (rlLen_any 0 none 0 0 W8)
        have d0 : W8.cell? ⟨g9, 0, none⟩ = some (.string ⟨#[]⟩) := HR98.out.cell 0
        have d1 := HR98.out.lt
        have d2 : W8.cell? ⟨g11, 0, none⟩ = some (.int .i64 0) := HR11.out.cell 0
        have d3 : W8.cell? ⟨g11, 1, none⟩ = some (.slice none 0 0) := HR11.out.cell 1
        have d4 := HR11.out.lt
        clear hb7 hb8 hb68 hW8 hg11 HCR HR56 HR9 HB6 HD6 c0 c1 p2
        go_upto_region 13 with (fail)
        rw [← HW8.out, ← HG11.out]
        clear HW8 HG11
        obtain ⟨nb, hnb⟩ : ∃ b, b = nameF nm := ⟨_, rfl⟩
        have hbb : (nb == nb) = true := by simp
        have HNB := Lib.hid hnb
        clear hnb
        go_wp2_with fail
        refine HLE.out.mono ?_
        rintro e w9 ⟨rfl, hx9⟩
        have HB9 := Lib.hid (HB8.out.trans (hx9.below.mono HB8.out.size))
        have HR59 := Lib.hid (HR58.out.up hx9.below)
        have HV := Lib.hid (ctValid_any nm hnm w9)
        have HNA := Lib.hid (r08Name_any nm hnm w9)
        rw [← HNB.out] at HV HNA
        have HCC := Lib.hid (ctCheck_any false nm none 0 [] w9 (HD8.out.up hx9.below) hnm SlR.nil (by decide) (fun v hv => by cases hv))
        have hc7 : checkF S nm [] = 7 := by
          unfold checkF
          cases hf : S.find? (fun p => decide (p.1 = nm)) with
          | none => rfl
          | some p =>
            have h1 := List.mem_of_find?_eq_some hf
            have h2 : p.1 = nm := by have := List.find?_some hf; simpa using this
            exact absurd (List.mem_map.2 ⟨p, h1, h2⟩) (memB_no HMB.out)
        rw [hc7] at HCC
        have c0 : w9.cell? ⟨g5, 0, none⟩ = some (.map (some bd)) := HR59.out.cell 0
        have c1 := HR59.out.lt
        clear hx9 HR58 HR98 HR11 d0 d1 d2 d3 d4 HLE HB8 hc7
        go_wp2_with (first | (go_at_call 27; refine HV.out.mono ?_; rintro e w' ⟨rfl, hw⟩; obtain rfl := hw.symm) | (go_at_call 28; refine HNA.out.mono ?_; rintro e w' ⟨rfl, hw⟩; obtain rfl := hw.symm) | fail)
        refine HCC.out.mono ?_
        rintro e wa ⟨rfl, hxa⟩
        have HBA := Lib.hid (HB9.out.trans (hxa.below.mono HB9.out.size))
        clear hxa
        go_wp2_with fail
        go_ret
        exact ⟨by simp, HBA.out⟩
end Go.Proofs.YtdadchpiibipoaaGreatDoor

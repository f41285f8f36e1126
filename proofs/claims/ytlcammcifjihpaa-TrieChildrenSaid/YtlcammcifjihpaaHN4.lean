/- Walk: the law TrieChildren. -/
import Derived.Test.YtlcammcifjihpaaQ7
import Derived.Test.YtlcammcifjihpaaHU7
import Derived.Deep.DeepCutAuto
namespace Go.Proofs.Ytlcammcifjihpaa
open Go.RowKit Go.Sort

/-- The error at column i when k of the columns ahead of it have been looked at. -/
def partErr (n : Int) (cs : List Int) (i k : Nat) : Int := if cs.getD i 0 < 0 ∨ n ≤ cs.getD i 0 then 3 else if cs.getD i 0 ∈ cs.take k then 8 else 0
theorem partErr_full (n : Int) (cs : List Int) (i : Nat) : partErr n cs i i = colErr n cs i := rfl
theorem partErr_zero (n : Int) (cs : List Int) (i : Nat) : partErr n cs i 0 = if cs.getD i 0 < 0 ∨ n ≤ cs.getD i 0 then 3 else 0 := by unfold partErr; simp
theorem mem_take_snoc {cs : List Int} {k : Nat} (hk : k < cs.length) (c : Int) : c ∈ cs.take (k + 1) ↔ c ∈ cs.take k ∨ cs[k] = c := by
  rw [List.take_succ_eq_append_getElem hk, List.mem_append, List.mem_singleton]
  exact ⟨fun h => h.imp id Eq.symm, fun h => h.imp id Eq.symm⟩
theorem partErr_hit {n : Int} {cs : List Int} {i k : Nat} (hk : k < cs.length) (h : cs[k] = cs.getD i 0) (h0 : partErr n cs i k = 0) : partErr n cs i (k + 1) = 8 := by
  unfold partErr at *
  split at h0
  · omega
  · rename_i hg
    rw [if_neg hg, if_pos ((mem_take_snoc hk _).2 (.inr h))]
theorem partErr_set {n : Int} {cs : List Int} {i k : Nat} (hk : k < cs.length) (h0 : partErr n cs i k ≠ 0) : partErr n cs i (k + 1) = partErr n cs i k := by
  unfold partErr at *
  by_cases hg : cs.getD i 0 < 0 ∨ n ≤ cs.getD i 0
  · rw [if_pos hg, if_pos hg]
  · rw [if_neg hg] at h0 ⊢
    rw [if_neg hg]
    by_cases hm : cs.getD i 0 ∈ cs.take k
    · rw [if_pos hm, if_pos ((mem_take_snoc hk _).2 (.inl hm))]
    · rw [if_neg hm] at h0; omega
theorem partErr_miss {n : Int} {cs : List Int} {i k : Nat} (hk : k < cs.length) (h : ¬ cs[k] = cs.getD i 0) : partErr n cs i (k + 1) = partErr n cs i k := by
  unfold partErr
  by_cases hg : cs.getD i 0 < 0 ∨ n ≤ cs.getD i 0
  · rw [if_pos hg, if_pos hg]
  · rw [if_neg hg, if_neg hg]
    by_cases hm : cs.getD i 0 ∈ cs.take k
    · rw [if_pos hm, if_pos ((mem_take_snoc hk _).2 (.inl hm))]
    · rw [if_neg hm, if_neg (fun h2 => by rcases (mem_take_snoc hk _).1 h2 with h3 | h3
                                          · exact hm h3
                                          · exact h h3)]
/-- What want holds when i columns have been looked at. -/
def WantOk (n : Int) (cs : List Int) (i : Nat) (q : Int) : Prop := (q = 0 → ∀ j, j < i → colErr n cs j = 0) ∧ (q ≠ 0 → newErr n cs = q)
theorem WantOk.next {n : Int} {cs : List Int} {i : Nat} (hi : i < cs.length) (h : WantOk n cs i 0) : WantOk n cs (i + 1) (colErr n cs i) := by
  refine ⟨fun h0 j hj => ?_, fun hne => newErr_at hi (h.1 rfl) hne⟩
  rcases Nat.lt_or_ge j i with h1 | h1
  · exact h.1 rfl j h1
  · obtain rfl : j = i := by omega
    exact h0
theorem WantOk.done {n : Int} {cs : List Int} {i : Nat} {q : Int} (h : WantOk n cs i q) (hi : q = 0 → cs.length ≤ i) : newErr n cs = q := by
  by_cases hq : q = 0
  · rw [hq]; exact newErr_zero (fun j hj => h.1 hq j (by have := hi hq; omega))
  · exact h.2 hq

set_option maxHeartbeats 8000000 in
set_option maxRecDepth 100000 in
theorem children_walk (ar : Nat) (A CA BA : Option Addr) (C CC BC : Nat) (X : List (List Nat)) (cs : List Int) (l : List Nat) (w : World) (har : ar < 256) (hX : SlA 3 w.heap.size w A X) (hXl : X.length ≤ 9223372036854775807) (hB : Bytes X) (hcs : SlI .i64 w.heap.size w CA cs) (hcl : cs.length ≤ 9223372036854775807) (hcc : cs.length ≤ CC) (hcm : CC ≤ 9223372036854775807)
    (hl : SlN .u8 w.heap.size w BA l) (hll : l.length ≤ 9223372036854775807) (hlb : ∀ z ∈ l, z < 256) :
    Calls Try.prog 6 #[.agg #[.int .u8 ar, .slice A X.length C], .slice CA cs.length CC, .slice BA l.length BC] w fun e w' => e = .returned (.bool true) ∧ Below w.heap.size w w' := by
  have HX := Lib.hid hX
  have HCS := Lib.hid hcs
  have HL := Lib.hid hl
  have HLB := Lib.hid hlb
  have HBY := Lib.hid hB
  clear hX hcs hl hlb hB
  have HG := Lib.hid (fun W => l34great_any ar A CA X.length C cs.length CC W hXl hcl)
  obtain ⟨W0, hW0⟩ : ∃ W0, W0 = w.alloc (.cells #[.int .u8 ar, .slice A X.length C] 24) := ⟨_, rfl⟩
  have hx0 : Ext w W0 := by rw [hW0]; exact (Ext.refl w).alloc _
  have hr0 : Row W0 w.heap.size 24 [.int .u8 ar, .slice A X.length C] := by rw [hW0]; exact Row.new w 24 _
  have p0 : W0.cell? ⟨w.heap.size, 0, none⟩ = some (.int .u8 ar) := hr0.cell 0
  have p1 : W0.cell? ⟨w.heap.size, 1, none⟩ = some (.slice A X.length C) := hr0.cell 1
  have HR0 := Lib.hid hr0
  have HX0 := Lib.hid hx0
  clear hx0 hr0
  go_enter Try.func6, Try.ntmps6
  go_wp2_with fail
  rw [← hW0]
  clear hW0
  refine (HG.out W0).mono ?_
  rintro e w1 ⟨rfl, hx⟩
  have HX1 := Lib.hid (HX0.out.trans hx)
  have hr1 := HR0.out.up hx.below
  have p0' : w1.cell? ⟨w.heap.size, 0, none⟩ = some (.int .u8 ar) := hr1.cell 0
  have p1' : w1.cell? ⟨w.heap.size, 1, none⟩ = some (.slice A X.length C) := hr1.cell 1
  clear hx hr1 p0 p1 HG
  have AWAKE : Hid (∀ W, Below w.heap.size w W → Calls Try.prog 9 #[] W fun e w' => e = .returned (.bool true) ∧ Below w.heap.size w w') := fun W hW => (l34awake_any W).mono fun e w' h => ⟨h.1, Below.then hW h.2 hW.size⟩
  cases hgr : (decide (40 < X.length) || decide (10 < cs.length))
  rotate_left
  · clear hgr
    go_wp2_with fail
    refine (AWAKE.out w1 HX1.out.below).mono ?_
    rintro e w2 ⟨rfl, hb⟩
    have HB := Lib.hid hb
    clear hb
    go_wp2
    go_ret
    exact ⟨rfl, HB.out⟩
  simp only [Bool.or_eq_false_iff, decide_eq_false_iff_not, Nat.not_lt] at hgr
  obtain ⟨hX40, hc10⟩ := hgr
  by_cases hl6 : 6 < l.length
  · have hl6' : decide ((6 : Int) < (l.length : Int)) = true := by simp; omega
    go_wp2_with fail
    refine (AWAKE.out w1 HX1.out.below).mono ?_
    rintro e w2 ⟨rfl, hb⟩
    have HB := Lib.hid hb
    clear hb
    go_wp2
    go_ret
    exact ⟨rfl, HB.out⟩
  have hl6' : decide ((6 : Int) < (l.length : Int)) = false := by simp; omega
  have HPR : Hid (projRows ar X cs = RL.ofF ((X.map (rowN (ar % 4))).map (projF · cs))) := rfl
  have HPL : Hid (∀ r ∈ projRows ar X cs, r.length = cs.length) := fun r hr => by
    obtain ⟨z, _, rfl⟩ := List.mem_map.1 ((RL.mem_ofF _ _).1 hr)
    exact projF_length z cs
  have HPS : Hid (RL.SS (projRows ar X cs)) := RL.SS.of _
  have hP40 : (projRows ar X cs).length ≤ 40 := by
    have h1 := RL.ofF_length_le ((X.map (rowN (ar % 4))).map (projF · cs))
    rw [List.length_map, List.length_map] at h1
    exact Nat.le_trans h1 hX40
  generalize projRows ar X cs = P at *
  have HRW := Lib.hid (l34Rows_any ar A C X w1 har (HX.out.upB HX1.out.below) (by omega) HBY.out)
  obtain ⟨n, hn⟩ : ∃ n, n = ar % 4 := ⟨_, rfl⟩
  rw [← hn] at HRW HPR
  have hn3 : n ≤ 3 := by omega
  clear hn
  go_wp2_with fail
  refine HRW.out.mono ?_
  rintro e w2 ⟨v, rfl, hown, hb2⟩
  obtain ⟨VA, VC, rfl, hvc, hvm, hsv⟩ := hown.sl
  rw [List.length_map]
  have HSV := Lib.hid hsv
  have HB2 := Lib.hid (Below.then HX1.out.below hb2 HX1.out.size)
  have HOFC := Lib.hid (rlOf_any (n : Int) VA VC (X.map (rowN n)) w2 (by omega) (by omega) hsv (rowsN_ok (by omega) X) (by rw [List.length_map]; omega))
  rw [List.length_map] at HOFC
  clear hown hsv hb2 p0' p1' hl6' HRW
  go_wp2_with fail
  refine HOFC.out.mono ?_
  rintro e w3 ⟨h1, -, hb3⟩
  obtain ⟨rv, rfl, RA, RC, rfl, hrc, hrm, hfr⟩ := h1 (rowsN_err n X)
  have hpl : (RL.ofF (X.map (rowN n))).length ≤ 60000 := by have := RL.ofF_length_le (X.map (rowN n)); rw [List.length_map] at this; omega
  have hlen0 : ∀ x ∈ RL.ofF (X.map (rowN n)), (x.length : Int) = (n : Int) := fun x hx => by have := rowsN_len n X x ((RL.mem_ofF _ _).1 hx); omega
  have hok0 : RsOk (RL.ofF (X.map (rowN n))) := (rowsN_ok (show n ≤ 1000000 by omega) X).of_mem (fun y hy => (RL.mem_ofF _ _).1 hy)
  have HB3 := Lib.hid (Below.then HB2.out hb3 HB2.out.size)
  have HSV3 := Lib.hid (HSV.out.upB hb3)
  have HPP : Hid (P = RL.ofF ((RL.ofF (X.map (rowN n))).map (projF · cs))) := HPR.out.trans (ofF_ofF_map _ _).symm
  have HTN := Lib.hid (fun (W : World) (hb : Below w3.heap.size w3 W) => trNew_any (n : Int) RA CA RC CC (RL.ofF (X.map (rowN n))) cs W (hfr.sl.upB hb) (((HCS.out.below HB3.out (Nat.le_refl _)).more HB3.out.size).keep (fun p hp => hb.cell hp) |>.more hb.size) hok0 hpl (by omega) hcc hcm hlen0)
  generalize (RL.ofF (X.map (rowN n))).length = rl at *
  clear h1 hb3 hfr hok0 hlen0 HOFC HSV
  go_wp2_with fail
  have hx4 : Ext w3 (w3.alloc (.cells #[.int .i64 n, .slice RA rl RC] 54)) := (Ext.refl w3).alloc _
  have hr4 := Row.new w3 54 [.int .i64 n, .slice RA rl RC]
  generalize w3.alloc (.cells #[.int .i64 n, .slice RA rl RC] 54) = W4 at *
  have HX4 := Lib.hid hx4
  have HR4 := Lib.hid hr4
  have HB4 := Lib.hid (Below.then HB3.out hx4.below HB3.out.size)
  clear hx4 hr4
  go_loopw [11, 12] (fun wt m wr => ∃ (i : Nat) (q : Int), i ≤ cs.length ∧ m = .int .i64 i ∧ wt = .int .i64 q ∧ WantOk n cs i q ∧ Ext W4 wr) (fun _ m _ => cs.length - (intOf m).toNat)
  case atStart => exact ⟨0, 0, Nat.zero_le _, rfl, rfl, ⟨fun _ j hj => absurd hj (by omega), fun h => absurd rfl h⟩, Ext.refl _⟩
  case round =>
    obtain ⟨i, q, hia, rfl, rfl, hwant, hx⟩ := hrel
    have HWA := Lib.hid hwant
    have HXW := Lib.hid hx
    have hzx := hx.size
    clear hwant hx
    have HBW := Lib.hid (Below.then HB4.out HXW.out.below HB4.out.size)
    by_cases hgo : i < cs.length ∧ q = 0
    rotate_left
    · have HNE := Lib.hid (HWA.out.done (fun h0 => by
        rcases Nat.lt_or_ge i cs.length with h | h
        · exact absurd ⟨h, h0⟩ hgo
        · exact h))
      have hx4 := HXW.out
      have HTW := Lib.hid (HTN.out wr (Below.then HX4.out.below HXW.out.below HX4.out.size))
      have hr5 := HR4.out.up hx4.below
      have r0 : wr.cell? ⟨w3.heap.size, 0, none⟩ = some (.int .i64 n) := hr5.cell 0
      have r1 : wr.cell? ⟨w3.heap.size, 1, none⟩ = some (.slice RA rl RC) := hr5.cell 1
      clear hx4 hr5
      by_cases hq : q = 0
      rotate_left
      · have hqb : (q == 0) = false := by simpa using hq
        have hqn : (q != 0) = true := by simpa using hq
        have hqq : (q != q) = false := by simp
        have HQ := Lib.hid hq
        clear hq hgo HWA
        by_cases hlt : i < cs.length
        all_goals
          go_wp2_with fail
          refine HTW.out.mono ?_
          rintro e w5 ⟨h1, -, hb5⟩
          rw [h1 (by rw [HNE.out]; exact HQ.out), HNE.out]
          have HB5 := Lib.hid (Below.then HBW.out hb5 HBW.out.size)
          clear h1 hb5 r0 r1
          go_wp2_with fail
          refine (trDepth_any none 0 0 _).mono ?_
          rintro e w6 ⟨rfl, hx⟩
          have HB6 := Lib.hid (Below.then (HB5.out.alloc HB5.out.size _) hx.below (by have := HB5.out.size; simp; omega))
          clear hx
          rw [show Value.int .i64 ((0 : Nat) : Int) = .int .i64 0 from rfl]
          go_wp2_with fail
          refine (AWAKE.out w6 HB6.out).mono ?_
          rintro e w7 ⟨rfl, hb⟩
          have HB7 := Lib.hid hb
          clear hb
          go_wp2
          go_ret
          exact ⟨rfl, HB7.out⟩
      subst hq
      have hge : ¬ i < cs.length := fun h => hgo ⟨h, rfl⟩
      have HCO := Lib.hid (cols_of_zero (fun j hj => HWA.out.1 rfl j (by omega)))
      clear hgo HWA
      go_wp2_with fail
      refine HTW.out.mono ?_
      rintro e w5 ⟨-, h2, hb5⟩
      obtain ⟨LA, LC, rfl, htr⟩ := h2 HNE.out
      rw [← HPP.out] at htr
      have HTR := Lib.hid htr
      have HB5 := Lib.hid (Below.then HBW.out hb5 HBW.out.size)
      have HSV5 := Lib.hid (HSV3.out.upB (Below.then (Below.then HX4.out.below HXW.out.below HX4.out.size) hb5 (by have := HX4.out.size; omega)))
      clear h2 hb5 htr HTW r0 r1 HTN HSV3 HPP HR4
      obtain ⟨W6, hW6⟩ : ∃ W6, W6 = w5.alloc (.cells #[.slice LA cs.length LC] 31) := ⟨_, rfl⟩
      have hx6 : Ext w5 W6 := by rw [hW6]; exact (Ext.refl w5).alloc _
      have hr6 : Row W6 w5.heap.size 31 [.slice LA cs.length LC] := by rw [hW6]; exact Row.new w5 31 _
      have HX6 := Lib.hid hx6
      have HR6 := Lib.hid hr6
      have HT : Hid (∀ W, Below w5.heap.size w5 W → TrM w5.heap.size W LA cs.length (vsF cs.length P) (fsF cs.length P)) := fun W hW => HTR.out.below hW (Nat.le_refl _)
      have hz6 := hr6.lt
      clear hx6 hr6
      go_upto_region 21 with (fail)
      rw [← hW6]
      clear hW6
      have HBT6 := Lib.hid (Below.then HB5.out HX6.out.below HB5.out.size)
      go_upto_region 25 with (fail)
      obtain ⟨wp, hwp⟩ : ∃ wp, wp = wr := ⟨_, rfl⟩
      subst hwp
      have hl30 : l.length ≤ 6 := by omega
      go_loopw [16, 17] (fun v m wr => ∃ k : Nat, k ≤ l.length ∧ m = .int .i64 k ∧ wr.ownsRow W6.heap.size 38 3 v k (rcells ((l.take k).map valN)) ∧ Below W6.heap.size W6 wr) (fun _ m _ => l.length - (intOf m).toNat)
      case atStart => exact ⟨0, Nat.zero_le _, rfl, own_nil _ _ _ _, Below.refl _ _⟩
      case round =>
        obtain ⟨k, hka, rfl, hown, hb⟩ := hrel
        have HOW := Lib.hid hown
        have HBL := Lib.hid hb
        have hzl := hb.size
        clear hown hb
        have HBT := Lib.hid (Below.then HBT6.out HBL.out HBT6.out.size)
        by_cases h5 : k < l.length
        · obtain ⟨b, o, hBA, hb, d1⟩ := slN_at HL.out h5
          have d1 := (HBT.out.cell (p := ⟨b, o + k, none⟩) hb).trans d1
          have hq := HLB.out _ (List.getElem_mem h5)
          subst hBA
          have HTS : Hid ((l.take (k + 1)).map valN = (l.take k).map valN ++ [valN l[k]]) := by show _ = _; rw [List.take_succ_eq_append_getElem h5, List.map_append]; rfl
          have HTL : Hid (((l.take k).map valN).length = k) := by show _ = _; rw [List.length_map, List.length_take]; omega
          generalize l[k] = z at *
          generalize (l.take k).map valN = Lk at *
          go_wp2_with fail
          refine (l34Value_any z wr hq).mono ?_
          rintro e w8 ⟨rfl, hb8⟩
          have HO2 := Lib.hid (own_keep HOW.out hb8)
          have HB8 := Lib.hid (Below.then HBL.out hb8 hzl)
          have hz8 := hb8.size
          clear hb8 d1
          go_wp2_with (at_builtin; refine app1V rfl (.tmp 105) (.tmp 111) rfl W6.heap.size u16 Lk rfl (by rw [HTL.out]; exact HO2.out.alloc _) w8.heap.size (valN z) rfl (by go_simp) (by go_simp) (by go_simp) (by rw [HTL.out]; omega) (by simp; omega) ?_)
          intro v' w9 hown9 hg9
          have HV16 : Hid (∀ j, u16.ownBlock = some j → W6.heap.size ≤ j) := fun j hj => own_base HO2.out hj
          simp only [HTL.out, ← HTS.out] at hown9
          have HOWN9 := Lib.hid hown9
          have HG9 := Lib.hid hg9
          clear hown9 hg9
          go_wp2
          go_roundw
          case rel => exact ⟨k + 1, by omega, by go_num, HOWN9.out, Below.then HB8.out (app_kept HV16.out (by omega) HG9.out) (Nat.le_refl _)⟩
          case measure => simp [intOf]; omega
        obtain rfl : k = l.length := by omega
        rw [List.take_length] at HOW
        obtain ⟨hpll, PA, PC, hu16, hpc, hpm, hps, -⟩ := SlR.of_own HOW.out
        have HPSR := Lib.hid hps
        rw [List.length_map] at hu16
        subst hu16
        have hpx : Below w5.heap.size w5 wr := Below.then HX6.out.below HBL.out HX6.out.size
        have HBX := Lib.hid hpx
        have hcok : ∀ c ∈ cs, 0 ≤ c ∧ c < (n : Int) := fun c hc => by
          have h := List.all_eq_true.1 HCO.out c hc
          simp only [Bool.and_eq_true, decide_eq_true_eq] at h
          exact h
        have HPC := Lib.hid (r34Project_any n VA CA VC CC (X.map (rowN n)) cs wr (HSV5.out.upB hpx) ((HCS.out.below HBT.out (Nat.le_refl _)).more HBT.out.size) (by rw [List.length_map]; omega) (by omega) (rowsN_len n X) hcok (by omega))
        rw [List.length_map, ← HPR.out] at HPC
        have t0 : wr.cell? ⟨w5.heap.size, 0, none⟩ = some (.slice LA cs.length LC) := (HR6.out.up HBL.out).cell 0
        have HR7 := Lib.hid (HR6.out.up HBL.out)
        clear hps hpx hcok t0 HOW HSV5 HBT6 hpll HL HLB
        go_wp2_with fail
        refine HPC.out.mono ?_
        rintro e w8 ⟨v8, rfl, hown8, hb8⟩
        obtain ⟨QA, QC, rfl, hq1, hq2, hq3⟩ := hown8.sl
        have HQ := Lib.hid hq3
        have HB8 := Lib.hid (Below.then HBX.out hb8 HBX.out.size)
        have HPS8 := Lib.hid (HPSR.out.upB hb8)
        have hr8 := HR7.out.up hb8
        have t0 : w8.cell? ⟨w5.heap.size, 0, none⟩ = some (.slice LA cs.length LC) := hr8.cell 0
        have HR8 := Lib.hid hr8
        have hcn : ((cs.length : Int) != (cs.length : Int)) = false := by simp
        have hc32 : cs.length ≤ 32 := by omega
        have HKN : Hid (∀ p, childF p P = RL.kids cs.length P p) := fun p => childF_eq HPS.out HPL.out p
        clear hown8 hb8 hq3 hr8 HPC HPSR HR7
        go_wp2_with fail
        refine (trDepth_any LA cs.length LC w8).mono ?_
        rintro e w9 ⟨rfl, hx⟩
        have HB9 := Lib.hid (Below.then HB8.out hx.below HB8.out.size)
        have HPS9 := Lib.hid (HPS8.out.up hx)
        have HQ9 := Lib.hid (HQ.out.up hx)
        have hr9 := HR8.out.up hx.below
        have t1 : w9.cell? ⟨w5.heap.size, 0, none⟩ = some (.slice LA cs.length LC) := hr9.cell 0
        have HR9 := Lib.hid hr9
        have HCH := Lib.hid (trChildren_any LA none cs.length LC 0 P [] w9 ((HT.out w9 HB9.out).more HB9.out.size) SlR.nil hc32 (by omega) HPL.out (by simp))
        clear hx hr9 t0 HQ HPS8 HR8
        go_wp2_with fail
        refine HCH.out.mono ?_
        rintro e w10 ⟨KA, KC, rfl, hkc, hkm, hks, hb10⟩
        have HK10 := Lib.hid hks
        have HB10 := Lib.hid (Below.then HB9.out hb10 HB9.out.size)
        have HPS10 := Lib.hid (HPS9.out.upB hb10)
        have HQ10 := Lib.hid (HQ9.out.upB hb10)
        have HR10 := Lib.hid (HR9.out.up hb10)
        have HRC := Lib.hid (r34Children_any QA none QC 0 P [] w10 HQ10.out SlR.nil (by omega) (by simp) (fun x hx => by have := HPL.out x hx; omega))
        have hkl : (RL.kids cs.length P []).length ≤ 1000000 := by have := RL.kids_fit (d := cs.length) (P := P) []; have := RL.nodes_len cs.length P ([] : RL.R).length; omega
        rw [HKN.out] at HRC
        clear hks hb10 HCH t1 HQ9 HPS9 HR9
        go_wp2_with fail
        refine HRC.out.mono ?_
        rintro e w11 ⟨v11, rfl, hown11, hb11⟩
        obtain ⟨-, LA2, LC2, rfl, -, -, hs11, -⟩ := SlR.of_own hown11
        have HB11 := Lib.hid (Below.then HB10.out hb11 HB10.out.size)
        have HPS11 := Lib.hid (HPS10.out.upB hb11)
        have HQ11 := Lib.hid (HQ10.out.upB hb11)
        have HR11 := Lib.hid (HR10.out.up hb11)
        have HSM := Lib.hid (l34same_any KA LA2 KC LC2 (RL.kids cs.length P []) (RL.kids cs.length P []) w11 (HK10.out.upB hb11) hs11 hkl hkl)
        rw [show decide (RL.kids cs.length P [] = RL.kids cs.length P []) = true by simp] at HSM
        clear hown11 hb11 hs11 HK10 HRC HQ10 HPS10 HR10
        go_wp2_with fail
        refine HSM.out.mono ?_
        rintro e w12 ⟨rfl, hx⟩
        have HB12 := Lib.hid (Below.then HB11.out hx.below HB11.out.size)
        have HPS12 := Lib.hid (HPS11.out.up hx)
        have HQ12 := Lib.hid (HQ11.out.up hx)
        have hr12 := HR11.out.up hx.below
        have t2 : w12.cell? ⟨w5.heap.size, 0, none⟩ = some (.slice LA cs.length LC) := hr12.cell 0
        clear hx hr12 HSM HQ11 HPS11 HR11
        have HLM : Hid ((l.map valN).length = l.length) := List.length_map _
        have HCH := Lib.hid (trChildren_any LA PA cs.length LC PC P (l.map valN) w12 ((HT.out w12 HB12.out).more HB12.out.size) HPS12.out hc32 (by omega) HPL.out (by rw [HLM.out]; omega))
        rw [HLM.out] at HCH
        go_wp2_with fail
        refine HCH.out.mono ?_
        rintro e w13 ⟨KA2, KC2, rfl, -, -, hks2, hb13⟩
        have HK13 := Lib.hid hks2
        have HB13 := Lib.hid (Below.then HB12.out hb13 HB12.out.size)
        have HPS13 := Lib.hid (HPS12.out.upB hb13)
        have HQ13 := Lib.hid (HQ12.out.upB hb13)
        have HRC := Lib.hid (r34Children_any QA PA QC PC P (l.map valN) w13 HQ13.out HPS13.out (by omega) (by rw [HLM.out]; omega) (fun x hx => by have := HPL.out x hx; omega))
        have hkl2 : (RL.kids cs.length P (l.map valN)).length ≤ 1000000 := by have := RL.kids_fit (d := cs.length) (P := P) (l.map valN); have := RL.nodes_len cs.length P (l.map valN).length; omega
        rw [HKN.out, HLM.out] at HRC
        clear hks2 hb13 HCH t2 HQ12 HPS12
        go_wp2_with fail
        refine HRC.out.mono ?_
        rintro e w14 ⟨v14, rfl, hown14, hb14⟩
        obtain ⟨-, LA3, LC3, rfl, -, -, hs14, -⟩ := SlR.of_own hown14
        have HB14 := Lib.hid (Below.then HB13.out hb14 HB13.out.size)
        have HSM := Lib.hid (l34same_any KA2 LA3 KC2 LC3 (RL.kids cs.length P (l.map valN)) (RL.kids cs.length P (l.map valN)) w14 (HK13.out.upB hb14) hs14 hkl2 hkl2)
        rw [show decide (RL.kids cs.length P (l.map valN) = RL.kids cs.length P (l.map valN)) = true by simp] at HSM
        clear hown14 hb14 hs14 HK13 HRC
        go_wp2_with fail
        refine HSM.out.mono ?_
        rintro e w15 ⟨rfl, hx⟩
        have HB15 := Lib.hid (Below.then HB5.out (Below.then HB14.out hx.below HB14.out.size) HB5.out.size)
        clear hx HSM
        go_wp2_with fail
        refine (AWAKE.out w15 HB15.out).mono ?_
        rintro e w16 ⟨rfl, hb⟩
        have HB16 := Lib.hid hb
        clear hb
        go_wp2
        go_ret
        exact ⟨rfl, HB16.out⟩
    obtain ⟨h1, rfl⟩ := hgo
    obtain ⟨b, o, hCA, hb, d1⟩ := slI_at HCS.out h1
    have HD1 := Lib.hid d1
    have d1 := (HBW.out.cell (p := ⟨b, o + i, none⟩) hb).trans d1
    have hgd : cs.getD i 0 = cs[i] := by rw [List.getD_eq_getElem?_getD, List.getElem?_eq_getElem h1]; rfl
    have HCJ : Hid (∀ j (hj : j < i), ∃ qq, cs[j]? = some qq ∧ w.cell? ⟨b, o + j, none⟩ = some (.int .i64 qq)) := fun j hj => by
      obtain ⟨b', o', e', _, d'⟩ := slI_at HCS.out (show j < cs.length by omega)
      rw [hCA] at e'
      injection e' with e'
      injection e' with e1 e2 _
      subst e1 e2
      exact ⟨cs[j], List.getElem?_eq_getElem (by omega), d'⟩
    have HP0 := Lib.hid (partErr_zero n cs i)
    have HNX := Lib.hid (HWA.out.next h1)
    have HHIT : Hid (∀ k (hk : k < cs.length), (cs[k] = cs[i] → partErr n cs i k = 0 → partErr n cs i (k + 1) = 8) ∧ (partErr n cs i k ≠ 0 → partErr n cs i (k + 1) = partErr n cs i k) ∧ (¬ cs[k] = cs[i] → partErr n cs i (k + 1) = partErr n cs i k)) := fun k hk => ⟨fun h1 h2 => partErr_hit hk (h1.trans hgd.symm) h2, partErr_set hk, fun h1 => partErr_miss hk (fun h => h1 (h.trans hgd))⟩
    rw [hgd] at HP0
    subst hCA
    clear hgd
    generalize cs[i] = c at *
    obtain ⟨wo, hwo⟩ : ∃ wo, wo = wr := ⟨_, rfl⟩
    subst hwo
    have hbz : b < wo.heap.size := by have := HBW.out.size; omega
    have hP00 : partErr n cs i 0 = 0 ∨ partErr n cs i 0 = 3 := by rw [HP0.out]; split <;> omega
    have hc3 : (decide (c < 0) = true ∧ partErr n cs i 0 = 3) ∨ (decide (c < 0) = false ∧ decide ((n : Int) ≤ c) = true ∧ partErr n cs i 0 = 3) ∨ (decide (c < 0) = false ∧ decide ((n : Int) ≤ c) = false ∧ partErr n cs i 0 = 0) := by
      rw [HP0.out]
      by_cases g1 : c < 0
      · left; exact ⟨by simpa using g1, if_pos (.inl g1)⟩
      · right
        by_cases g2 : (n : Int) ≤ c
        · left; exact ⟨by simpa using g1, by simpa using g2, if_pos (.inr g2)⟩
        · right; exact ⟨by simpa using g1, by simpa using g2, if_neg (fun h => by rcases h with h | h <;> omega)⟩
    clear hP00 HP0
    rcases hc3 with ⟨g1', hp⟩ | ⟨g1', g2', hp⟩ | ⟨g1', g2', hp⟩
    all_goals
      have HPQ := Lib.hid hp
      clear hp
      go_wp2
      go_loopw [11, 13] (fun wt m wr => ∃ (k : Nat) (q : Int), k ≤ i ∧ m = .int .i64 k ∧ wt = .int .i64 q ∧ partErr n cs i k = q ∧ Ext wo wr) (fun _ m _ => i - (intOf m).toNat)
      case atStart => exact ⟨0, _, Nat.zero_le _, rfl, rfl, HPQ.out, Ext.refl _⟩
      case round =>
        obtain ⟨k, q, hki, rfl, rfl, hpq, hx⟩ := hrel
        have HPK := Lib.hid hpq
        have HXX := Lib.hid hx
        clear hpq
        by_cases h2 : k < i
        rotate_left
        · obtain rfl : k = i := by omega
          have HWN : Hid (WantOk n cs (k + 1) q) := by
            have h := HNX.out
            rw [← partErr_full, HPK.out] at h
            exact h
          go_wp2
          go_roundw
          case rel => exact ⟨k + 1, q, by omega, by go_num, rfl, HWN.out, HXW.out.trans HXX.out⟩
          case measure => simp [intOf]; omega
        obtain ⟨qq, hqq, d2⟩ := HCJ.out k h2
        have hke : cs[k]'(by omega) = qq := (List.getElem?_eq_some_iff.1 hqq).2
        obtain ⟨t1, t2, t3⟩ := HHIT.out k (by omega)
        rw [hke] at t1 t3
        rw [HPK.out] at t1 t2 t3
        have d1 := (hx.cell hbz).trans d1
        have d2 := (Below.then HBW.out hx.below (by have := HBW.out.size; omega)).cell (p := ⟨b, o + k, none⟩) hb |>.trans d2
        have gk : (k : Int) < (cs.length : Int) := by omega
        have gi : (i : Int) < (cs.length : Int) := by omega
        have HT1 := Lib.hid t1
        have HT2 := Lib.hid t2
        have HT3 := Lib.hid t3
        clear hqq hke t1 t2 t3 hx
        by_cases hqc : qq = c
        · by_cases hq0 : q = 0
          · have HN2 := Lib.hid (HT1.out hqc hq0)
            subst hq0
            have hqb : (qq == c) = true := by simpa using hqc
            clear hqc HT1 HT2 HT3
            go_wp2
            go_quiet (fail)
            go_wp2
            go_roundw
            case rel => exact ⟨k + 1, 8, by omega, by go_num, rfl, HN2.out, HXX.out.drewN _⟩
            case measure => simp [intOf]; omega
          · have HN2 := Lib.hid (HT2.out hq0)
            have hqb : (qq == c) = true := by simpa using hqc
            have hq0b : (q == 0) = false := by simpa using hq0
            clear hqc hq0 HT1 HT2 HT3
            go_wp2
            go_quiet (fail)
            go_wp2
            go_roundw
            case rel => exact ⟨k + 1, q, by omega, by go_num, rfl, HN2.out, HXX.out.drewN _⟩
            case measure => simp [intOf]; omega
        · have HN2 := Lib.hid (HT3.out hqc)
          have hqb : (qq == c) = false := by simpa using hqc
          clear hqc HT1 HT2 HT3
          go_wp2
          go_quiet (fail)
          go_wp2
          go_roundw
          case rel => exact ⟨k + 1, q, by omega, by go_num, rfl, HN2.out, HXX.out.drewN _⟩
          case measure => simp [intOf]; omega

end Go.Proofs.Ytlcammcifjihpaa

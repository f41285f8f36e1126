/- Walk: the law TrieSeeks. -/
import Derived.Test.YtlcammcifjihpaaHN2
import Derived.Deep.DeepCutAuto
namespace Go.Proofs.Ytlcammcifjihpaa
open Go.RowKit Go.Sort

set_option maxHeartbeats 8000000 in
set_option maxRecDepth 100000 in
theorem seeks_walk (ar : Nat) (A CA BA : Option Addr) (C CC BC : Nat) (X : List (List Nat)) (cs : List Int) (l : List Nat) (w : World) (har : ar < 256) (hX : SlA 3 w.heap.size w A X) (hXl : X.length ≤ 9223372036854775807) (hB : Bytes X) (hcs : SlI .i64 w.heap.size w CA cs) (hcl : cs.length ≤ 9223372036854775807) (hcc : cs.length ≤ CC) (hcm : CC ≤ 9223372036854775807)
    (hl : SlN .u8 w.heap.size w BA l) (hll : l.length ≤ 9223372036854775807) (hlb : ∀ z ∈ l, z < 256) :
    Calls Try.prog 3 #[.agg #[.int .u8 ar, .slice A X.length C], .slice CA cs.length CC, .slice BA l.length BC] w fun e w' => e = .returned (.bool true) ∧ Below w.heap.size w w' := by
  have HX := Lib.hid hX
  have HCS := Lib.hid hcs
  have HL := Lib.hid hl
  have HLB := Lib.hid hlb
  have HBY := Lib.hid hB
  clear hX hcs hl hlb hB
  have HG := Lib.hid (fun W => l34great_any ar A CA X.length C cs.length CC W hXl hcl)
  obtain ⟨W0, hW0⟩ : ∃ W0, W0 = w.alloc (.cells #[.int .u8 ar, .slice A X.length C] 24) := ⟨_, rfl⟩
  have hx0 : Ext w W0 := by rw [hW0]; exact (Ext.refl w).alloc _
  have hr0 : Row W0 w.heap.size 24 [.int .u8 ar, .slice A X.length C] := by rw [hW0]; exact Row.new w 24 _
  have p0 : W0.cell? ⟨w.heap.size, 0, none⟩ = some (.int .u8 ar) := hr0.cell 0
  have p1 : W0.cell? ⟨w.heap.size, 1, none⟩ = some (.slice A X.length C) := hr0.cell 1
  have HR0 := Lib.hid hr0
  have HX0 := Lib.hid hx0
  clear hx0 hr0
  go_enter Try.func3, Try.ntmps3
  go_wp2_with fail
  rw [← hW0]
  clear hW0
  refine (HG.out W0).mono ?_
  rintro e w1 ⟨rfl, hx⟩
  have HX1 := Lib.hid (HX0.out.trans hx)
  have hr1 := HR0.out.up hx.below
  have p0' : w1.cell? ⟨w.heap.size, 0, none⟩ = some (.int .u8 ar) := hr1.cell 0
  have p1' : w1.cell? ⟨w.heap.size, 1, none⟩ = some (.slice A X.length C) := hr1.cell 1
  clear hx hr1 p0 p1 HG
  have AWAKE : Hid (∀ W, Below w.heap.size w W → Calls Try.prog 9 #[] W fun e w' => e = .returned (.bool true) ∧ Below w.heap.size w w') := fun W hW => (l34awake_any W).mono fun e w' h => ⟨h.1, Below.then hW h.2 hW.size⟩
  cases hgr : (decide (40 < X.length) || decide (10 < cs.length))
  rotate_left
  · clear hgr
    go_wp2_with fail
    refine (AWAKE.out w1 HX1.out.below).mono ?_
    rintro e w2 ⟨rfl, hb⟩
    have HB := Lib.hid hb
    clear hb
    go_wp2
    go_ret
    exact ⟨rfl, HB.out⟩
  simp only [Bool.or_eq_false_iff, decide_eq_false_iff_not, Nat.not_lt] at hgr
  obtain ⟨hX40, hc10⟩ := hgr
  by_cases hl30 : 30 < l.length
  · have hl30' : decide ((30 : Int) < (l.length : Int)) = true := by simp; omega
    go_wp2_with fail
    refine (AWAKE.out w1 HX1.out.below).mono ?_
    rintro e w2 ⟨rfl, hb⟩
    have HB := Lib.hid hb
    clear hb
    go_wp2
    go_ret
    exact ⟨rfl, HB.out⟩
  have hl30' : decide ((30 : Int) < (l.length : Int)) = false := by simp; omega
  go_wp2_with fail
  refine (l34made_any ar A CA C CC X cs w1 har (HX.out.upB HX1.out.below) (by omega) HBY.out ((HCS.out.ext (Nat.le_refl _) HX1.out).more HX1.out.size) (by omega) hcc hcm).mono ?_
  rintro e w2 ⟨h1, h2, hb2⟩
  have HB2 := Lib.hid (Below.then HX1.out.below hb2 HX1.out.size)
  clear hb2 p0' p1' hl30'
  by_cases hne : newErr (ar % 4 : Nat) cs = 0
  rotate_left
  · rw [h1 hne]
    clear h1 h2 hne
    go_wp2_with fail
    refine (AWAKE.out _ (HB2.out.alloc HB2.out.size _)).mono ?_
    rintro e w3 ⟨rfl, hb⟩
    have HB := Lib.hid hb
    clear hb
    go_wp2
    go_ret
    exact ⟨rfl, HB.out⟩
  obtain ⟨LA, LC, VA, VC, rfl, -, -, htr, -⟩ := h2 hne
  have HPL : Hid (∀ r ∈ projRows ar X cs, r.length = cs.length) := fun r hr => by
    obtain ⟨z, _, rfl⟩ := List.mem_map.1 ((RL.mem_ofF _ _).1 hr)
    exact projF_length z cs
  have hP40 : (projRows ar X cs).length ≤ 40 := by
    have h1 := RL.ofF_length_le ((X.map (rowN (ar % 4))).map (projF · cs))
    rw [List.length_map, List.length_map] at h1
    exact Nat.le_trans h1 hX40
  clear h1 h2 hne
  have HTR := Lib.hid htr
  clear htr
  generalize projRows ar X cs = P at *
  have hc32 : cs.length ≤ 32 := by omega
  obtain ⟨W3, hW3⟩ : ∃ W3, W3 = w2.alloc (.cells #[.slice LA cs.length LC] 31) := ⟨_, rfl⟩
  have hx3 : Ext w2 W3 := by rw [hW3]; exact (Ext.refl w2).alloc _
  have hr3 : Row W3 w2.heap.size 31 [.slice LA cs.length LC] := by rw [hW3]; exact Row.new w2 31 _
  have t0 : W3.cell? ⟨w2.heap.size, 0, none⟩ = some (.slice LA cs.length LC) := hr3.cell 0
  have HX3 := Lib.hid hx3
  have HR3 := Lib.hid hr3
  have hz3 := hr3.lt
  have HT : Hid (∀ W, Below w2.heap.size w2 W → TrM w2.heap.size W LA cs.length (vsF cs.length P) (fsF cs.length P)) := fun W hW => HTR.out.below hW (Nat.le_refl _)
  have HIT := Lib.hid (fun W => itIter LA cs.length LC P W)
  clear hx3 hr3
  go_wp2
  rw [← hW3]
  clear hW3
  refine wp_region_held_drew (S := (fun w' => w'.cell? ⟨w2.heap.size, 0, none⟩ = some (.slice LA cs.length LC))) (by kernel_rfl) t0 (fun hHeld => ?_)
  refine takeOp (i := 0) (v := ?_) (some 39) rfl rfl (by kernel_rfl) (by kernel_rfl) (by kernel_rfl) (fun _ _ _ h => h) (Or.inl ⟨by rfl, ?_⟩) (by assumption) ?_
  rotate_left 1
  · (intro w0 hSw; (try dsimp only at hSw); go_simp; try (with_reducible rfl))
  try simp only [Act.put]
  try simp only [List.setIfInBounds_toArray]
  try simp only [List.set_cons_succ]
  try simp only [List.set_cons_zero]
  refine takeOp (i := 2) (v := ?_) (some 41) rfl rfl (by kernel_rfl) (by kernel_rfl) (by kernel_rfl) (fun _ _ _ h => h) (Or.inl ⟨by rfl, ?_⟩) (by assumption) ?_
  rotate_left 1
  · (intro w0 hSw; (try dsimp only at hSw); go_simp; try (with_reducible rfl))
  try simp only [Act.put]
  try simp only [List.setIfInBounds_toArray]
  try simp only [List.set_cons_succ]
  try simp only [List.set_cons_zero]
  refine wpAnyH_ready (rs := [1]) (by kernel_rfl) (by simp) ?_
  refine AllReadyH.cons rfl (fun K hK => ?_) AllReadyH.nil
  go_simp
  refine (HIT.out _).mono ?_
  rintro e w4 ⟨g1, rfl, hg1, hit1, hb4⟩
  have hb4' : Below W3.heap.size W3 w4 := Below.undrew hb4
  have KEEP : w4.cell? ⟨w2.heap.size, 0, none⟩ = some (.slice LA cs.length LC) := (HR3.out.up hb4').cell 0
  have HI4 := Lib.hid hit1
  have HB4 := Lib.hid (Below.then HX3.out.below hb4' HX3.out.size)
  have hg1' : W3.heap.size ≤ g1 := hg1
  have hg1z := hit1.lt
  clear hit1 hb4 hb4' hg1
  go_wp2_with fail
  refine hK.out _ _ KEEP (fun hHeld => ?_)
  clear hK K
  try simp only [Act.put]
  try simp only [List.setIfInBounds_toArray]
  try simp only [List.set_cons_succ]
  try simp only [List.set_cons_zero]
  refine wpAnyH_ready (rs := [3]) (by kernel_rfl) (by simp) ?_
  refine AllReadyH.cons rfl (fun K hK => ?_) AllReadyH.nil
  go_simp
  refine (HIT.out _).mono ?_
  rintro e w5 ⟨g2, rfl, hg2, hit2, hb5⟩
  have KEEP2 : w5.cell? ⟨w2.heap.size, 0, none⟩ = some (.slice LA cs.length LC) := (hb5.cell (p := ⟨w2.heap.size, 0, none⟩) (by show w2.heap.size < w4.heap.size; omega)).trans KEEP
  have HI5 := Lib.hid (HI4.out.up hb5)
  have HJ5 := Lib.hid hit2
  have HB5 := Lib.hid (Below.then HB4.out hb5 HB4.out.size)
  have hgg : g1 < g2 := by omega
  have hg2z := hit2.lt
  clear hit2 hb5 hg2
  go_wp2_with fail
  refine hK.out _ _ KEEP2 (fun hHeld => ?_)
  clear hK K
  try simp only [Act.put]
  try simp only [List.setIfInBounds_toArray]
  try simp only [List.set_cons_succ]
  try simp only [List.set_cons_zero]
  refine takeOp (i := 4) (v := ?_) (some 10) rfl rfl (by kernel_rfl) (by kernel_rfl) (by kernel_rfl) (fun _ _ _ h => h) (Or.inl ⟨by rfl, ?_⟩) (by assumption) ?_
  rotate_left 1
  · (intro w0 hSw; (try dsimp only at hSw); go_simp; try (with_reducible rfl))
  try simp only [Act.put]
  try simp only [List.setIfInBounds_toArray]
  try simp only [List.set_cons_succ]
  try simp only [List.set_cons_zero]
  refine takeOp (i := 5) (v := ?_) (some 11) rfl rfl (by kernel_rfl) (by kernel_rfl) (by kernel_rfl) (fun _ _ _ h => h) (Or.inl ⟨by rfl, ?_⟩) (by assumption) ?_
  rotate_left 1
  · (intro w0 hSw; (try dsimp only at hSw); go_simp; try (with_reducible rfl))
  try simp only [Act.put]
  try simp only [List.setIfInBounds_toArray]
  try simp only [List.set_cons_succ]
  try simp only [List.set_cons_zero]
  refine wpAnyH_done (by kernel_rfl) ?_ _
  go_wp2_with fail
  have HOA := Lib.hid (itOpen w2.heap.size g1 LA cs.length LC P none 0 w5 (HT.out w5 HB5.out) HB5.out.size HI5.out hc32 (by omega) HPL.out)
  have HOBB := Lib.hid (fun (W : World) (hb : Below w2.heap.size w2 W) (hi : IterP W g2 LA cs.length LC P none 0) => itOpen w2.heap.size g2 LA cs.length LC P none 0 W (HT.out W hb) hb.size hi hc32 (by omega) HPL.out)
  generalize openX cs.length P none = x0 at *
  generalize openB cs.length P none = ob at *
  refine HOA.out.mono ?_
  rintro e w6 ⟨rfl, hit, hg6⟩
  have HI6 := Lib.hid hit
  have HJ6 := Lib.hid (HJ5.out.grown hg6 (fun e => by injection e; omega))
  have HB6 := Lib.hid (Below.then HB5.out (below_of_grown hg6 (by omega : w2.heap.size ≤ g1) HB5.out.size) (Nat.le_refl _))
  clear hit hg6 HOA HI5 HJ5 HB5 HI4 HB4 HX3 HR3 t0 HTR HIT hHeld KEEP KEEP2
  go_wp2_with fail
  refine (HOBB.out w6 HB6.out HJ6.out).mono ?_
  rintro e w7 ⟨rfl, hit, hg7⟩
  have HJ7 := Lib.hid hit
  have HI7 := Lib.hid (HI6.out.grown hg7 (fun e => by injection e; omega))
  have HB7 := Lib.hid (Below.then HB6.out (below_of_grown hg7 (by omega : w2.heap.size ≤ g2) HB6.out.size) (Nat.le_refl _))
  clear hit hg7 HOBB HI6 HJ6 HB6
  have hobb : (ob != ob) = false := by cases ob <;> rfl
  go_wp2
  go_loopw [12] (fun m wr => ∃ (k : Nat) (x : Pl) (sa sb : Nat), k ≤ l.length ∧ m = .int .i64 k ∧ IterP wr g1 LA cs.length LC P x sa ∧ IterP wr g2 LA cs.length LC P x sb ∧ sa ≤ k * 200002 ∧ Below w2.heap.size w2 wr) (fun m _ => l.length - (intOf m).toNat)
  case atStart => exact ⟨0, x0, 0, 0, Nat.zero_le _, rfl, HI7.out, HJ7.out, Nat.zero_le _, HB7.out⟩
  case round =>
    obtain ⟨k, x, sa, sb, hka, rfl, hia, hib, hsa, hbw⟩ := hrel
    have HIA := Lib.hid hia
    have HIB := Lib.hid hib
    have HBW := Lib.hid hbw
    have hzw := hbw.size
    have hga := hia.lt
    have hgb := hib.lt
    clear hia hib hbw HI7 HJ7 HB7
    have HBT := Lib.hid (Below.then HB2.out HBW.out HB2.out.size)
    by_cases h1 : k < l.length
    rotate_left
    · go_wp2_with fail
      refine (AWAKE.out wr HBT.out).mono ?_
      rintro e w8 ⟨rfl, hb⟩
      have HB := Lib.hid hb
      clear hb
      go_wp2
      go_ret
      exact ⟨rfl, HB.out⟩
    obtain ⟨b, o, hBA, hb, d1⟩ := slN_at HL.out h1
    have HD1 := Lib.hid d1
    have d1 := (HBT.out.cell (p := ⟨b, o + k, none⟩) hb).trans d1
    have hq := HLB.out _ (List.getElem_mem h1)
    subst hBA
    generalize l[k] = q at *
    obtain ⟨wo, hwo⟩ : ∃ wo, wo = wr := ⟨_, rfl⟩
    subst hwo
    go_wp2_with fail
    refine (l34Value_any q wo hq).mono ?_
    rintro e w8 ⟨rfl, hb8⟩
    generalize hv : valN q = v at *
    clear hv
    obtain ⟨W9, hW9⟩ : ∃ W9, W9 = w8.alloc (.cells #[.int .i64 v.kind, .int .i64 v.int, .string v.str] 38) := ⟨_, rfl⟩
    have hx9 : Ext w8 W9 := by rw [hW9]; exact (Ext.refl w8).alloc _
    have hr9 : Row W9 w8.heap.size 38 (vcells v) := by rw [hW9]; exact Row.new w8 38 (vcells v)
    have hb9 := Below.then hb8 hx9.below hb8.size
    have HB9 := Lib.hid (Below.then HBW.out hb9 hzw)
    have HA9 := Lib.hid (HIA.out.up hb9)
    have HBB9 := Lib.hid (HIB.out.up hb9)
    have HV9 := Lib.hid hr9
    have n1 : W9.cell? ⟨w8.heap.size, 0, none⟩ = some (.int .i64 v.kind) := hr9.cell 0
    have n2 : W9.cell? ⟨w8.heap.size, 1, none⟩ = some (.int .i64 v.int) := hr9.cell 1
    have n3 : W9.cell? ⟨w8.heap.size, 2, none⟩ = some (.string v.str) := hr9.cell 2
    have hz8 := hb8.size
    have hz9 := hr9.lt
    clear hx9 hr9 hb9 hb8 d1 HIA HIB
    go_wp2_with fail
    rw [← hW9]
    clear hW9
    have HS := Lib.hid (itSeek w2.heap.size g1 LA cs.length LC P x sa v W9 (HT.out W9 HB9.out) HB9.out.size (by omega) HA9.out hc32 (by omega) HPL.out (by omega))
    have HADB := Lib.hid (fun j (hj : j < dist cs.length P v x) => adv_before HPL.out v hj)
    have HADE := Lib.hid (adv_end HPL.out v (x := x))
    rw [seek_adv] at HS
    have hdl := dist_le (d := cs.length) (P := P) v x
    generalize dist cs.length P v x = D at *
    refine HS.out.mono ?_
    rintro e w10 ⟨sa', rfl, hit, hsa', hg10⟩
    have HB10 := Lib.hid (Below.then HB9.out (below_of_grown hg10 (by omega : w2.heap.size ≤ g1) HB9.out.size) (Nat.le_refl _))
    have HA10 := Lib.hid hit
    have HBB10 := Lib.hid (HBB9.out.grown hg10 (fun e => by injection e; omega))
    have HV10 := Lib.hid (HV9.out.grown hg10 (fun e => by injection e; omega))
    have hz10 := hg10.size
    clear hit hg10 HS HA9 HBB9 HV9 HB9 n1 n2 n3
    go_wp2_with fail
    refine (itKey w2.heap.size g2 LA cs.length LC P x sb w10 (HT.out w10 HB10.out) HB10.out.size HBB10.out hc32 (by omega) HPL.out).mono ?_
    rintro e w11 ⟨rfl, hb11⟩
    obtain ⟨W12, hW12⟩ : ∃ W12, W12 = w11.alloc (.cells #[.int .i64 (keyV cs.length P x).kind, .int .i64 (keyV cs.length P x).int, .string (keyV cs.length P x).str] 38) := ⟨_, rfl⟩
    have hx12 : Ext w11 W12 := by rw [hW12]; exact (Ext.refl w11).alloc _
    have hr12 : Row W12 w11.heap.size 38 (vcells (keyV cs.length P x)) := by rw [hW12]; exact Row.new w11 38 (vcells (keyV cs.length P x))
    have hb12 := Below.then hb11 hx12.below hb11.size
    have HB12 := Lib.hid (Below.then HB10.out hb12 HB10.out.size)
    have HA12 := Lib.hid (HA10.out.up hb12)
    have HBB12 := Lib.hid (HBB10.out.up hb12)
    have HV12 := Lib.hid (HV10.out.up hb12)
    have HK12 : Hid (Row W12 w11.heap.size 38 (vcells (keyV cs.length P (adv x 0)))) := by show Row _ _ _ _; rw [adv_zero]; exact hr12
    have HON0 : Hid (onX cs.length P x = onX cs.length P (adv x 0)) := by show _ = _; rw [adv_zero]
    have HBB12' : Hid (IterP W12 g2 LA cs.length LC P (adv x 0) sb) := by show IterP _ _ _ _ _ _ _ _; rw [adv_zero]; exact HBB12.out
    have hz11 := hb11.size
    have hz12 := hr12.lt
    clear hx12 hr12 hb12 hb11 HA10 HBB10 HV10 HBB12 HB10
    go_wp2
    rw [← hW12, HON0.out]
    clear hW12 HON0
    generalize hvb : w8.heap.size = vb at *
    generalize hkb : w11.heap.size = kb at *
    have hvk : vb < kb := by omega
    have hg2v : g2 < vb := by omega
    clear hvb hkb hz11 hz10 hz9 hz8
    go_loopw [16, 17] (fun hh nn wr => ∃ (j : Nat) (sb' : Nat), j ≤ D ∧ nn = .int .i64 j ∧ hh = .bool (onX cs.length P (adv x j)) ∧ IterP wr g2 LA cs.length LC P (adv x j) sb' ∧ IterP wr g1 LA cs.length LC P (adv x D) sa' ∧ Row wr kb 38 (vcells (keyV cs.length P (adv x j))) ∧ Row wr vb 38 (vcells v) ∧ Below w2.heap.size w2 wr) (fun _ nn _ => D - (intOf nn).toNat)
    case atStart => exact ⟨0, sb, Nat.zero_le _, rfl, rfl, HBB12'.out, HA12.out, HK12.out, HV12.out, HB12.out⟩
    case round =>
      obtain ⟨j, sb', hjD, rfl, rfl, hib, hia, hrk, hrv, hbz⟩ := hrel
      have n1 : wr.cell? ⟨vb, 0, none⟩ = some (.int .i64 v.kind) := hrv.cell 0
      have n2 : wr.cell? ⟨vb, 1, none⟩ = some (.int .i64 v.int) := hrv.cell 1
      have n3 : wr.cell? ⟨vb, 2, none⟩ = some (.string v.str) := hrv.cell 2
      have m1 : wr.cell? ⟨kb, 0, none⟩ = some (.int .i64 (keyV cs.length P (adv x j)).kind) := hrk.cell 0
      have m2 : wr.cell? ⟨kb, 1, none⟩ = some (.int .i64 (keyV cs.length P (adv x j)).int) := hrk.cell 1
      have m3 : wr.cell? ⟨kb, 2, none⟩ = some (.string (keyV cs.length P (adv x j)).str) := hrk.cell 2
      have HIB := Lib.hid hib
      have HIA := Lib.hid hia
      have HRK := Lib.hid hrk
      have HRV := Lib.hid hrv
      have HBZ := Lib.hid hbz
      have hkz := hrk.lt
      have hbzs := hbz.size
      have hj100 : (j : Int) < 100 := by omega
      clear hib hia hrk hrv hbz HBB12' HA12 HK12 HV12 HB12
      by_cases hlt : j < D
      · obtain ⟨a1, a2, a3⟩ := HADB.out j hlt
        have HCM := Lib.hid (fun W => r3Compare_any (keyV cs.length P (adv x j)) v W)
        have HA3 := Lib.hid a3
        rw [a1]
        clear a1 a3
        generalize keyV cs.length P (adv x j) = key at *
        generalize RL.cmpV key v = q0 at *
        have hq0 : decide (q0 < 0) = true := by simpa using a2
        go_wp2_with fail
        refine (HCM.out wr).mono ?_
        rintro e w13 ⟨rfl, hx13⟩
        have HIB2 := Lib.hid (HIB.out.ext hx13)
        have HIA2 := Lib.hid (HIA.out.ext hx13)
        have HRK2 := Lib.hid (HRK.out.up hx13.below)
        have HRV2 := Lib.hid (HRV.out.up hx13.below)
        have HBZ2 := Lib.hid (Below.then HBZ.out hx13.below hbzs)
        clear hx13 HIB HIA HRK HRV HBZ HCM n1 n2 n3 m1 m2 m3
        have HNX := Lib.hid (itNext w2.heap.size g2 LA cs.length LC P (adv x j) sb' w13 HIB2.out (by omega))
        rw [HA3.out] at HNX
        go_wp2_with fail
        refine HNX.out.mono ?_
        rintro e w14 ⟨rfl, hit, hg14⟩
        have HIB3 := Lib.hid hit
        have HIA3 := Lib.hid (HIA2.out.grown hg14 (fun e => by injection e; omega))
        have HRK3 := Lib.hid (HRK2.out.grown hg14 (fun e => by injection e; omega))
        have HRV3 := Lib.hid (HRV2.out.grown hg14 (fun e => by injection e; omega))
        have HBZ3 := Lib.hid (Below.then HBZ2.out (below_of_grown hg14 (by omega : w2.heap.size ≤ g2) HBZ2.out.size) (Nat.le_refl _))
        clear hit hg14 HIB2 HIA2 HRK2 HRV2 HBZ2 HNX
        go_wp2_with fail
        refine (itKey w2.heap.size g2 LA cs.length LC P (adv x (j + 1)) sb' w14 (HT.out w14 HBZ3.out) HBZ3.out.size HIB3.out hc32 (by omega) HPL.out).mono ?_
        rintro e w15 ⟨rfl, hb15⟩
        have hr15 := HRK3.out.up hb15
        have m1 : w15.cell? ⟨kb, 0, none⟩ = some (.int .i64 key.kind) := hr15.cell 0
        have m2 : w15.cell? ⟨kb, 1, none⟩ = some (.int .i64 key.int) := hr15.cell 1
        have m3 : w15.cell? ⟨kb, 2, none⟩ = some (.string key.str) := hr15.cell 2
        have f1 := hr15.frozen 0
        have f2 := hr15.frozen 1
        have f3 := hr15.frozen 2
        have HIB4 := Lib.hid (HIB3.out.up hb15)
        have HIA4 := Lib.hid (HIA3.out.up hb15)
        have HRK4 := Lib.hid hr15
        have HRV4 := Lib.hid (HRV3.out.up hb15)
        have HBZ4 := Lib.hid (Below.then HBZ3.out hb15 HBZ3.out.size)
        clear hr15 hb15 HIB3 HIA3 HRK3 HRV3 HBZ3
        go_wp2
        go_roundw
        case rel =>
          have hs3 := Row.set3 HRK4.out (.int .i64 (keyV cs.length P (adv x (j + 1))).kind) (.int .i64 (keyV cs.length P (adv x (j + 1))).int) (.string (keyV cs.length P (adv x (j + 1))).str)
          have hg3 : w15.grownBy (((w15.setCell ⟨kb, 0, none⟩ (.int .i64 (keyV cs.length P (adv x (j + 1))).kind)).setCell ⟨kb, 1, none⟩ (.int .i64 (keyV cs.length P (adv x (j + 1))).int)).setCell ⟨kb, 2, none⟩ (.string (keyV cs.length P (adv x (j + 1))).str)) (some kb) := grown_trans (grown_trans (grown_set w15 kb 0 _) (grown_set _ kb 1 _)) (grown_set _ kb 2 _)
          refine ⟨j + 1, sb', by omega, by go_num, rfl, HIB4.out.grown hg3 (fun e => by injection e; omega), HIA4.out.grown hg3 (fun e => by injection e; omega), hs3, HRV4.out.grown hg3 (fun e => by injection e; omega), Below.then HBZ4.out (below_of_grown hg3 (by omega : w2.heap.size ≤ kb) HBZ4.out.size) (Nat.le_refl _)⟩
        case measure => simp [intOf]; omega
      · obtain rfl : j = D := by omega
        have HSAME := Lib.hid (fun W => run_neV_t (rfl : keyV cs.length P (adv x j) = keyV cs.length P (adv x j)) W)
        cases hon : onX cs.length P (adv x j)
        case' true =>
          have hge := HADE.out hon
          have HCM := Lib.hid (fun W => r3Compare_any (keyV cs.length P (adv x j)) v W)
          have HKV := Lib.hid (fun (W : World) (h : Ext wr W) => (HRK.out.up h.below))
          have HON := Lib.hid hon
          generalize hkey : keyV cs.length P (adv x j) = key at *
          have HKEY := Lib.hid hkey
          generalize RL.cmpV key v = q0 at *
          have hq0 : decide (q0 < 0) = false := by simpa using hge
          clear hon hkey hge
          go_wp2_with fail
          refine (HCM.out wr).mono ?_
          rintro e wz ⟨rfl, hx13⟩
          have HIBz := Lib.hid (HIB.out.ext hx13)
          have HIAz := Lib.hid (HIA.out.ext hx13)
          have HRKz := Lib.hid (HRK.out.up hx13.below)
          have HBZz := Lib.hid (Below.then HBZ.out hx13.below hbzs)
          clear hx13 HCM HKV n1 n2 n3 m1 m2 m3 HADB HADE
          go_wp2_with fail
        case' false =>
          obtain ⟨wz, hwz⟩ : ∃ wz, wz = wr := ⟨_, rfl⟩
          subst hwz
          have HIBz := HIB
          have HIAz := HIA
          have HRKz := HRK
          have HBZz := HBZ
          have HON := Lib.hid hon
          generalize hkey : keyV cs.length P (adv x j) = key at *
          have HKEY := Lib.hid hkey
          clear hon hkey n1 n2 n3 m1 m2 m3 HADB HADE
          go_wp2_with fail
        all_goals
          have HK := Lib.hid (itKey w2.heap.size g1 LA cs.length LC P (adv x j) sa' wz (HT.out wz HBZz.out) HBZz.out.size HIAz.out hc32 (by omega) HPL.out)
          rw [HKEY.out, HON.out] at HK
          refine HK.out.mono ?_
          rintro e w16 ⟨rfl, hb16⟩
          obtain ⟨W17, hW17⟩ : ∃ W17, W17 = w16.alloc (.cells #[.int .i64 key.kind, .int .i64 key.int, .string key.str] 38) := ⟨_, rfl⟩
          have hx17 : Ext w16 W17 := by rw [hW17]; exact (Ext.refl w16).alloc _
          have hr17 : Row W17 w16.heap.size 38 (vcells key) := by rw [hW17]; exact Row.new w16 38 (vcells key)
          have hb17 := Below.then hb16 hx17.below hb16.size
          have HIA17 := Lib.hid (HIAz.out.up hb17)
          have HIB17 := Lib.hid (HIBz.out.up hb17)
          have HBZ17 := Lib.hid (Below.then HBZz.out hb17 HBZz.out.size)
          have hrk17 := HRKz.out.up hb17
          have m1 : W17.cell? ⟨kb, 0, none⟩ = some (.int .i64 key.kind) := hrk17.cell 0
          have m2 : W17.cell? ⟨kb, 1, none⟩ = some (.int .i64 key.int) := hrk17.cell 1
          have m3 : W17.cell? ⟨kb, 2, none⟩ = some (.string key.str) := hrk17.cell 2
          have l1 : W17.cell? ⟨w16.heap.size, 0, none⟩ = some (.int .i64 key.kind) := hr17.cell 0
          have l2 : W17.cell? ⟨w16.heap.size, 1, none⟩ = some (.int .i64 key.int) := hr17.cell 1
          have l3 : W17.cell? ⟨w16.heap.size, 2, none⟩ = some (.string key.str) := hr17.cell 2
          have hne := run_neV_t (rfl : key = key)
          have HBT17 := Lib.hid (Below.then HB2.out HBZ17.out HB2.out.size)
          have d2 := (HBT17.out.cell (p := ⟨b, o + k, none⟩) hb).trans HD1.out
          clear hx17 hr17 hb17 hb16 hrk17 HIAz HIBz HBZz HRKz HK HIA HIB HRK HRV HBZ
          have HLA := Lib.hid (itLevel g1 LA cs.length LC P (adv x j) sa' W17 HIA17.out)
          have HLB := Lib.hid (itLevel g2 LA cs.length LC P (adv x j) sb' W17 HIB17.out)
          generalize levelX (adv x j) = lv at *
          go_upto_region 21 with (fail)
          rw [← hW17]
          clear hW17
          go_wp2_with fail
          refine HLA.out.mono ?_
          rintro e w18 ⟨rfl, rfl⟩
          go_wp2_with fail
          refine HLB.out.mono ?_
          rintro e w18 ⟨rfl, rfl⟩
          clear HLA HLB m1 m2 m3 l1 l2 l3 hne
          by_cases h5 : (q : Int) % 5 = 0
          · have h5' : ((q : Int) % 5 == 0) = true := by simpa using h5
            have HOA := Lib.hid (itOpen w2.heap.size g1 LA cs.length LC P (adv x j) sa' W17 (HT.out W17 HBZ17.out) HBZ17.out.size HIA17.out hc32 (by omega) HPL.out)
            have HOBB := Lib.hid (fun (W : World) (hb : Below w2.heap.size w2 W) (hi : IterP W g2 LA cs.length LC P (adv x j) sb') => itOpen w2.heap.size g2 LA cs.length LC P (adv x j) sb' W (HT.out W hb) hb.size hi hc32 (by omega) HPL.out)
            generalize openX cs.length P (adv x j) = x1 at *
            generalize openB cs.length P (adv x j) = oc at *
            have hocc : (oc != oc) = false := by cases oc <;> rfl
            clear h5
            go_wp2_with fail
            refine HOA.out.mono ?_
            rintro e w19 ⟨rfl, hit, hg19⟩
            have HI19 := Lib.hid hit
            have HJ19 := Lib.hid (HIB17.out.grown hg19 (fun e => by injection e; omega))
            have HB19 := Lib.hid (Below.then HBZ17.out (below_of_grown hg19 (by omega : w2.heap.size ≤ g1) HBZ17.out.size) (Nat.le_refl _))
            clear hit hg19 HOA HIA17 HIB17 HBZ17
            go_wp2_with fail
            refine (HOBB.out w19 HB19.out HJ19.out).mono ?_
            rintro e w20 ⟨rfl, hit, hg20⟩
            have HJ20 := Lib.hid hit
            have HI20 := Lib.hid (HI19.out.grown hg20 (fun e => by injection e; omega))
            have HB20 := Lib.hid (Below.then HB19.out (below_of_grown hg20 (by omega : w2.heap.size ≤ g2) HB19.out.size) (Nat.le_refl _))
            clear hit hg20 HOBB HI19 HJ19 HB19
            go_wp2
            go_roundw
            case rel => exact ⟨k + 1, x1, sa', sb', by omega, by go_num, HI20.out, HJ20.out, by omega, HB20.out⟩
            case measure => simp [intOf]; omega
          · have h5' : ((q : Int) % 5 == 0) = false := by simpa using h5
            clear h5
            go_wp2
            go_roundw
            case rel => exact ⟨k + 1, adv x j, sa', sb', by omega, by go_num, HIA17.out, HIB17.out, by omega, HBZ17.out⟩
            case measure => simp [intOf]; omega

end Go.Proofs.Ytlcammcifjihpaa

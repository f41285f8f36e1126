/- Walk: LeapfrogTurns. -/
import Derived.Test.YtiomelogggilgaaHY35
import Derived.Test.YtiomelogggilgaaHY36
namespace Go.Proofs.Ytiomelogggilgaa
open Go.RowKit Go.Sort

set_option maxHeartbeats 4000000 in
set_option maxRecDepth 100000 in
theorem l35Turns_any (a0 t0 : Nat) (h0 : a0 < 256) (ht0 : t0 < 256) (A : Option Addr) (C : Nat) (l : List LA) (w : World) (hA : AtsL w.heap.size w A l) (hB : LBytes l) (hl : l.length ≤ 3518437208780) :
    Calls Try.prog 4 #[.int .u8 a0, .slice A l.length C, .int .u8 t0] w fun e w' => e = .returned (.bool true) ∧ Below w.heap.size w w' := by
  have HMK := Lib.hid (l35Made2 A C l w hA hB hl)
  clear hA hB hl
  obtain ⟨m, hm⟩ : ∃ m : Nat, (a0 : Int) % 9 = (m : Int) := ⟨a0 % 9, by omega⟩
  have hm8 : m ≤ 8 := by omega
  have HM := Lib.hid hm
  clear hm
  go_enter Try.func4, Try.ntmps4
  go_wp2_with fail
  refine HMK.out.mono ?_
  rintro e w1 ⟨hb1, rfl | ⟨X, A1, A2, A3, C1, C2, C3, rfl, hX, hc1, hd1, ha, hr, hz⟩⟩
  · clear HMK
    go_wp2_with fail
    refine (l35awake_any _).mono ?_
    rintro e w2 ⟨rfl, hb2⟩
    have hbw := Below.then hb1 hb2 hb1.size
    clear hb1 hb2
    go_wp2
    go_ret
    exact ⟨rfl, hbw⟩
  have HB1 := Lib.hid hb1
  by_cases h6 : X.length ≤ 6
  rotate_left
  · rw [decide_eq_false h6]
    clear HMK hX hc1 hd1 ha hr hz hb1
    go_wp2_with fail
    refine (l35awake_any _).mono ?_
    rintro e w2 ⟨rfl, hb2⟩
    have hbw := Below.then HB1.out hb2 HB1.out.size
    clear hb2
    go_wp2
    go_ret
    exact ⟨rfl, hbw⟩
  rw [decide_eq_true h6]
  by_cases hx0 : X.length = 0
  · rw [hx0]
    clear HMK hX hc1 hd1 ha hr hz hb1 hx0 h6
    go_wp2_with fail
    refine (l35awake_any _).mono ?_
    rintro e w2 ⟨rfl, hb2⟩
    have hbw := Below.then HB1.out hb2 HB1.out.size
    clear hb2
    go_wp2
    go_ret
    exact ⟨rfl, hbw⟩
  have HX := Lib.hid hX
  have HA := Lib.hid ha
  obtain ⟨Z, hZX, hZs, hZe⟩ := ha.zs
  have hZl : Z.length = X.length := by rw [← hZX, List.length_map]
  obtain ⟨k, hk⟩ : ∃ k : Nat, (t0 : Int).tmod (X.length : Int) = (k : Int) ∧ k = t0 % X.length := ⟨_, rfl, rfl⟩
  have hkl : k < X.length := by rw [hk.2]; exact Nat.mod_lt _ (by omega)
  have hk1 := hk.1
  obtain ⟨b, o, rfl, hb, -⟩ := hZs (fun h => by have := outC_len Z; rw [h] at this; simp at this; omega)
  have hs1 : Sl w1.heap.size w1 (some ⟨b, o + k * 3, none⟩) ((Z.drop k).flatMap outC) := by
    have h := hZs
    rw [show Z.flatMap outC = (Z.take k).flatMap outC ++ (Z.drop k).flatMap outC ++ [] by rw [List.append_nil, ← List.flatMap_append, List.take_append_drop]] at h
    have := Sl.part h
    rw [outC_len, List.length_take, Nat.min_eq_left (by omega)] at this
    exact this
  have hs2 : Sl w1.heap.size w1 (some ⟨b, o, none⟩) ((Z.take (k + 1)).flatMap outC) := by
    have h := hZs
    rw [show Z.flatMap outC = [] ++ (Z.take (k + 1)).flatMap outC ++ (Z.drop (k + 1)).flatMap outC by rw [List.nil_append, ← List.flatMap_append, List.take_append_drop]] at h
    exact Sl.part h
  have HS1 := Lib.hid hs1
  have HS2 := Lib.hid hs2
  have HZE := Lib.hid hZe
  have HZX := Lib.hid hZX
  have HZL := Lib.hid hZl
  have hx1 : ((X.length : Int) == 0) = false := by
    have : (X.length : Int) ≠ 0 := by omega
    simpa using this
  have hwk : IntKind.i64.wrap ((k : Int) + 1) = ((k + 1 : Nat) : Int) := by rw [IntWalk.i64_in _ (by omega)]; omega
  have g1 : (0 : Int) ≤ (k : Int) := by omega
  have g2 : (k : Int) ≤ (X.length : Int) := by omega
  have g3 : (k : Int) + 1 ≤ (C1 : Int) := by omega
  have g4 : (0 : Int) ≤ (k : Int) + 1 := by omega
  have g5 : ¬ C1 = k := by omega
  clear HMK hX ha hr hz hb1 hs1 hs2 hZe hZX hZl hZs hk
  have hww : w1.heap.size ≤ ((w1.alloc (.cells #[] 52)).drew).heap.size := by simp
  have HX0 : Hid (Ext w1 ((w1.alloc (.cells #[] 52)).drew)) := ((Ext.refl w1).alloc _).drew
  have HS1D : Hid (Sl ((w1.alloc (.cells #[] 52)).drew).heap.size ((w1.alloc (.cells #[] 52)).drew) (some ⟨b, o + k * 3, none⟩) ((Z.drop k).flatMap outC)) := (Sl.below HS1.out HX0.out.below (Nat.le_refl _)).more hww
  have HD1 : Hid ((Z.drop k).length = X.length - k) := by show _ = _; rw [List.length_drop, HZL.out]
  have HD2 : Hid ((Z.take (k + 1)).length = k + 1) := by show _ = _; rw [List.length_take, HZL.out]; omega
  go_wp2
  refine wp_region_held_drew (S := (fun _ => True)) (by kernel_rfl) trivial (fun hHeld => ?_)
  refine takeOp (i := 1) (v := ?_) (some 44) rfl rfl (by kernel_rfl) (by kernel_rfl) (by kernel_rfl) (fun _ _ _ h => h) (Or.inl ⟨by rfl, ?_⟩) (by assumption) ?_
  rotate_left 1
  · (intro w0 hSw; (try dsimp only at hSw); go_simp; try (with_reducible rfl))
  try simp only [Act.put]
  try simp only [List.setIfInBounds_toArray]
  try simp only [List.set_cons_succ]
  try simp only [List.set_cons_zero]
  refine takeOp (i := 2) (v := ?_) (some 45) rfl rfl (by kernel_rfl) (by kernel_rfl) (by kernel_rfl) (fun _ _ _ h => h) (Or.inl ⟨by rfl, ?_⟩) (by assumption) ?_
  rotate_left 1
  · (intro w0 hSw; (try dsimp only at hSw); go_simp; try (with_reducible rfl))
  try simp only [Act.put]
  try simp only [List.setIfInBounds_toArray]
  try simp only [List.set_cons_succ]
  try simp only [List.set_cons_zero]
  refine takeOp (i := 3) (v := ?_) (some 46) rfl rfl (by kernel_rfl) (by kernel_rfl) (by kernel_rfl) (fun _ _ _ h => h) (Or.inl ⟨by rfl, ?_⟩) (by assumption) ?_
  rotate_left 1
  · (intro w0 hSw; (try dsimp only at hSw); go_simp; try (with_reducible rfl))
  try simp only [Act.put]
  try simp only [List.setIfInBounds_toArray]
  try simp only [List.set_cons_succ]
  try simp only [List.set_cons_zero]
  refine takeOp (i := 5) (v := ?_) (some 48) rfl rfl (by kernel_rfl) (by kernel_rfl) (by kernel_rfl) (fun _ _ _ h => h) (Or.inl ⟨by rfl, ?_⟩) (by assumption) ?_
  rotate_left 1
  · (intro w0 hSw; (try dsimp only at hSw); go_simp; try (with_reducible rfl))
  try simp only [Act.put]
  try simp only [List.setIfInBounds_toArray]
  try simp only [List.set_cons_succ]
  try simp only [List.set_cons_zero]
  refine takeOp (i := 6) (v := ?_) (some 49) rfl rfl (by kernel_rfl) (by kernel_rfl) (by kernel_rfl) (fun _ _ _ h => h) (Or.inl ⟨by rfl, ?_⟩) (by assumption) ?_
  rotate_left 1
  · (intro w0 hSw; (try dsimp only at hSw); go_simp; try (with_reducible rfl))
  try simp only [Act.put]
  try simp only [List.setIfInBounds_toArray]
  try simp only [List.set_cons_succ]
  try simp only [List.set_cons_zero]
  refine takeOp (i := 7) (v := ?_) (some 50) rfl rfl (by kernel_rfl) (by kernel_rfl) (by kernel_rfl) (fun _ _ _ h => h) (Or.inl ⟨by rfl, ?_⟩) (by assumption) ?_
  rotate_left 1
  · (intro w0 hSw; (try dsimp only at hSw); go_simp; try (with_reducible rfl))
  try simp only [Act.put]
  try simp only [List.setIfInBounds_toArray]
  try simp only [List.set_cons_succ]
  try simp only [List.set_cons_zero]
  refine takeOp (i := 8) (v := ?_) (some 51) rfl rfl (by kernel_rfl) (by kernel_rfl) (by kernel_rfl) (fun _ _ _ h => h) (Or.inl ⟨by rfl, ?_⟩) (by assumption) ?_
  rotate_left 1
  · (intro w0 hSw; (try dsimp only at hSw); go_simp; try (with_reducible rfl))
  try simp only [Act.put]
  try simp only [List.setIfInBounds_toArray]
  try simp only [List.set_cons_succ]
  try simp only [List.set_cons_zero]
  refine wpAnyH_ready (rs := [0]) (by kernel_rfl) (by simp) ?_
  refine AllReadyH.cons rfl (fun K hK => ?_) AllReadyH.nil
  go_simp
  refine hK.out _ _ trivial (fun hHeld => ?_)
  clear hK K
  try simp only [Act.put]
  try simp only [List.setIfInBounds_toArray]
  try simp only [List.set_cons_succ]
  try simp only [List.set_cons_zero]
  refine wpAnyH_ready (rs := [4]) (by kernel_rfl) (by simp) ?_
  refine AllReadyH.cons rfl (fun K hK => ?_) AllReadyH.nil
  refine stepLAs (w := (w1.alloc (.cells #[] 52)).drew) rfl (.tmp 43) (.tmp 46) rfl w1.heap.size (.slice (some ⟨w1.heap.size, 0, none⟩) 0 0) 0 [] (by simp [Act.eval]) (own_drew (own_empty w1 _ _ _ (Nat.le_refl _))) (some ⟨b, o + k * 3, none⟩) (X.length - k) (C1 - k) (Z.drop k) HD1.out (by simp [Act.eval]) HS1D.out (by omega) hww ?_
  intro v5 w5 hown5 hg5
  obtain ⟨A5, C5, rfl, -, -, -⟩ := own_slice hown5 (by decide)
  have HO5 := Lib.hid hown5
  have HB5 : Hid (Below w1.heap.size w1 w5) := HX0.out.below.grown hg5 hww (fun k hk => own_base (own_empty w1 w1.heap.size 52 3 (Nat.le_refl _)) hk)
  have HS2D := Lib.hid ((Sl.below HS2.out HB5.out (Nat.le_refl _)).more HB5.out.size)
  have hz5 := HB5.out.size
  clear hown5 hg5
  refine hK.out _ _ trivial (fun hHeld => ?_)
  clear hK K
  try simp only [Act.put]
  try simp only [List.setIfInBounds_toArray]
  try simp only [List.set_cons_succ]
  try simp only [List.set_cons_zero]
  refine wpAnyH_ready (rs := [9]) (by kernel_rfl) (by simp) ?_
  refine AllReadyH.cons rfl (fun K hK => ?_) AllReadyH.nil
  refine stepLAs (w := w5) rfl (.tmp 47) (.tmp 51) rfl w1.heap.size (.slice A5 (0 + (X.length - k)) C5) (0 + (X.length - k)) ([] ++ (Z.drop k).flatMap outC) (by simp [Act.eval]) HO5.out (some ⟨b, o, none⟩) (k + 1) C1 (Z.take (k + 1)) HD2.out (by simp [Act.eval]) HS2D.out (by omega) hz5 ?_
  intro v6 w6 hown6 hg6
  have HB6 : Hid (Below w1.heap.size w1 w6) := HB5.out.grown hg6 hz5 (fun k hk => own_base HO5.out hk)
  rw [List.nil_append, ← List.flatMap_append] at hown6
  obtain ⟨n, hn⟩ : ∃ n, n = 0 + (X.length - k) + (k + 1) := ⟨_, rfl⟩
  rw [← hn] at hown6
  obtain ⟨A6, C6, rfl, -, -, ha6⟩ := own_atsM (by rw [List.length_append, HD1.out, HD2.out, hn, Nat.zero_add]) hown6 fun z hz => (HZE.out z ((turn_mem Z k z).2 hz)).upB HB6
  rw [List.map_append, List.map_drop, List.map_take, HZX.out] at ha6
  have hn8 : n ≤ 8 := by omega
  have HN : Hid ((X.drop k ++ X.take (k + 1)).length = n) := by show _ = _; rw [List.length_append, List.length_drop, List.length_take, hn]; omega
  have HA6 := Lib.hid ha6
  have HB6 := Lib.hid HB6
  clear hown6 hg6 hn ha6
  refine hK.out _ _ trivial (fun hHeld => ?_)
  clear hK K
  try simp only [Act.put]
  try simp only [List.setIfInBounds_toArray]
  try simp only [List.set_cons_succ]
  try simp only [List.set_cons_zero]
  refine takeOp (i := 10) (v := ?_) (some 13) rfl rfl (by kernel_rfl) (by kernel_rfl) (by kernel_rfl) (fun _ _ _ h => h) (Or.inl ⟨by rfl, ?_⟩) (by assumption) ?_
  rotate_left 1
  · (intro w0 hSw; (try dsimp only at hSw); go_simp; try (with_reducible rfl))
  try simp only [Act.put]
  try simp only [List.setIfInBounds_toArray]
  try simp only [List.set_cons_succ]
  try simp only [List.set_cons_zero]
  refine wpAnyH_done (by kernel_rfl) ?_ _
  have HTM : Hid (∀ a, a ∈ X ↔ a ∈ X.drop k ++ X.take (k + 1)) := turn_mem X k
  have HX2 : Hid (∀ a ∈ X.drop k ++ X.take (k + 1), Small a) := fun a ha => HX.out a ((HTM.out a).2 ha)
  have HJ1 := Lib.hid (joinS_any m (some ⟨b, o, none⟩) C1 X w6 (HA.out.upB HB6.out) (by omega) HX.out (fun _ => by omega))
  have HJ2 := Lib.hid (fun W (hb : Below w6.heap.size w6 W) => joinS_any m A6 C6 (X.drop k ++ X.take (k + 1)) W (HA6.out.upB hb) (by rw [HN.out]; omega) HX2.out (fun _ => by omega))
  rw [HN.out] at HJ2
  have HIF : Hid (errA m X = 0 ↔ errA m (X.drop k ++ X.take (k + 1)) = 0) := errA_iff (by omega) (by rw [HN.out]; omega) HTM.out
  have HBW6 := Lib.hid (Below.then HB1.out HB6.out HB1.out.size)
  clear HS1 HS2 HS1D HD1 HD2 HX0 HO5 HB5 HS2D HZE HZX HZL HB6 hz5 hww HA HA6
  go_wp2_with fail
  rw [HM.out]
  refine HJ1.out.mono ?_
  rintro e w7 ⟨h1, hb7, h2⟩
  have HB7 := Lib.hid hb7
  clear HJ1 hb7
  by_cases he : errA m X = 0
  · obtain ⟨A7, C7, st7, rfl, -, -, -, -, hs7⟩ := h2 he
    have HE2 : Hid (errA m (X.drop k ++ X.take (k + 1)) = 0) := HIF.out.1 he
    obtain ⟨m', hm', hg⟩ := Good0.of HX.out he
    obtain rfl : m = m' := by omega
    obtain ⟨m', hm2, hg2⟩ := Good0.of HX2.out HE2.out
    obtain rfl : m = m' := by omega
    have HEQ := Lib.hid (joinF_same hg hg2 HTM.out)
    rw [Int.toNat_natCast] at hs7 ⊢
    have hJl := Nat.le_trans hg.len (pow4 hm8)
    have HRS := Lib.hid hg.rsOk
    generalize joinF m (X.map RA.at) = J at *
    have HS7 := Lib.hid hs7
    clear h1 h2 he hg hg2 hm' hm2 hs7 HIF
    go_wp2_with fail
    refine (HJ2.out w7 HB7.out).mono ?_
    rintro e w8 ⟨-, hb8, h8⟩
    obtain ⟨A8, C8, st8, rfl, -, -, -, -, hs8⟩ := h8 HE2.out
    rw [Int.toNat_natCast, ← HEQ.out] at hs8 ⊢
    have HB8 := Lib.hid (Below.then HB7.out hb8 HB7.out.size)
    have HS8 := Lib.hid (HS7.out.upB hb8)
    have HLW := Lib.hid (l7Rows_any A8 C8 J w8 hs8 (by omega) HRS.out)
    clear hb8 h8 hs8 HS7 HJ2
    go_wp2_with fail
    refine HLW.out.mono ?_
    rintro e w9 ⟨v9, rfl, ho9, hb9⟩
    obtain ⟨A9, C9, rfl, -, -, hs9⟩ := ho9.sl
    have HB9 := Lib.hid (Below.then HB8.out hb9 HB8.out.size)
    have HSM := Lib.hid (same_refl A7 A9 C7 C9 J w9 (HS8.out.upB hb9) hs9 (by omega) HRS.out)
    clear ho9 hb9 hs9 HLW HS8
    go_wp2_with fail
    refine HSM.out.mono ?_
    rintro e w10 ⟨rfl, hb10⟩
    have HB10 := Lib.hid (Below.then HBW6.out (Below.then HB9.out hb10 HB9.out.size) HBW6.out.size)
    clear hb10 HSM
    go_wp2_with fail
    refine (l35awake_any w10).mono ?_
    rintro e w11 ⟨rfl, hb11⟩
    have hbw := Below.then HB10.out hb11 HB10.out.size
    clear hb11
    go_wp2
    go_ret
    exact ⟨rfl, hbw⟩
  · obtain rfl := h1 he
    have HE2 : Hid (errA m (X.drop k ++ X.take (k + 1)) ≠ 0) := fun h => he (HIF.out.2 h)
    have hq1 : (errA m X == 0) = false := by simpa using he
    have hq2 : (errA m (X.drop k ++ X.take (k + 1)) == 0) = false := by simpa using HE2.out
    clear h1 h2 he HIF
    go_wp2_with fail
    refine (HJ2.out w7 HB7.out).mono ?_
    rintro e w8 ⟨h8, hb8, -⟩
    obtain rfl := h8 HE2.out
    have HB8 := Lib.hid (Below.then HB7.out hb8 HB7.out.size)
    generalize errA m X = q1 at *
    generalize errA m (X.drop k ++ X.take (k + 1)) = q2 at *
    clear hb8 h8 HJ2
    go_wp2_with fail
    refine (l7Rows_any none 0 [] w8 SlRs.nil (by simp) (fun x hx => by simp at hx)).mono ?_
    rintro e w9 ⟨v9, rfl, ho9, hb9⟩
    obtain ⟨A9, C9, rfl, -, -, hs9⟩ := ho9.sl
    have HB9 := Lib.hid (Below.then HB8.out hb9 HB8.out.size)
    have HSM := Lib.hid (same_refl none A9 0 C9 [] w9 SlRs.nil hs9 (by simp) (fun x hx => by simp at hx))
    clear ho9 hb9 hs9
    go_wp2_with fail
    refine HSM.out.mono ?_
    rintro e w10 ⟨rfl, hb10⟩
    have HB10 := Lib.hid (Below.then HBW6.out (Below.then HB9.out hb10 HB9.out.size) HBW6.out.size)
    clear hb10 HSM
    go_wp2_with fail
    refine (l35awake_any w10).mono ?_
    rintro e w11 ⟨rfl, hb11⟩
    have hbw := Below.then HB10.out hb11 HB10.out.size
    clear hb11
    go_wp2
    go_ret
    exact ⟨rfl, hbw⟩

end Go.Proofs.Ytiomelogggilgaa

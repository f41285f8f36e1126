/- Parts of the proof, merged: C15, C16, C17, C18, C19, C20, CP1, CP2, CP3, CP4, CP5. -/
import Derived.Test.YtdadchpiibipoaaGreatDoorQa6
import Derived.Test.YtdadchpiibipoaaGreatDoorQa1
import Derived.WalkLawsBesides
import Derived.Test.YtdadchpiibipoaaGreatDoorQa5
import Derived.Maps.OwnSet
import Derived.Lib.SplitLaws
import Derived.Lib.IndexBytes

set_option maxRecDepth 100000
namespace Go.Proofs.YtdadchpiibipoaaGreatDoor
section
open Go.RowKit Go.Sort

theorem litQ_step {l : List UInt8} {c : UInt8} {t : List UInt8} (h : l = c :: t) : litQ l = if c = 34 then 0 else if c = 92 then 2 + litQ (t.drop 1) else 1 + litQ t := by
  subst h
  cases t with
  | nil => simp [litQ]
  | cons d u => simp [litQ]

set_option maxHeartbeats 4000000 in
theorem rwLiteral_any (s : ByteArray) (hs : s.size ≤ 1000000) (w : World) : Calls Tryz.prog 108 #[.string s] w fun e w' => e = .returned (.int .i64 (litL s.data.toList)) ∧ w' = w := by
  have hsl : s.toList = s.data.toList := ByteArray.toList_eq s
  by_cases hq : s.data.toList.head? = some 34
  rotate_left
  · have HI := Lib.hid (sIndexByte_any s 44 w)
    have hlt := indexByte_lt s.data.toList 44
    have hge := Lib.indexByte_ge s.data.toList 44
    rw [size_len] at hlt
    have HL : Hid (litL s.data.toList = if 0 ≤ Lib.indexByte s.data.toList 44 then (Lib.indexByte s.data.toList 44).toNat else s.size) := by
      show _ = _
      unfold litL
      rw [if_neg hq, size_len]
    change Hid (Calls Tryz.prog 131 #[.string s, .int .u8 44] w fun e w' => e = .returned (.int .i64 (Lib.indexByte s.data.toList 44)) ∧ w' = w) at HI
    generalize Lib.indexByte s.data.toList 44 = ix at HI HL hlt hge
    have hC : (s.toList.isEmpty = true ∧ True) ∨ (s.toList.isEmpty = false ∧ ∃ h : 0 < s.size, (((s[0]'h).toNat : Int) != 34) = true) := by
      by_cases h0 : s.size = 0
      · exact Or.inl ⟨by rw [isEmpty_size, h0]; rfl, trivial⟩
      · have hpos : 0 < s.size := by omega
        refine Or.inr ⟨by rw [isEmpty_size, decide_eq_false h0], hpos, ?_⟩
        rw [bne_iff_ne]
        intro e
        apply hq
        have e2 : (s[0]'hpos).toNat = 34 := by omega
        have e3 : s[0]'hpos = 34 := UInt8.toNat_inj.1 (by rw [e2]; rfl)
        have hd0 := byteD_at hpos
        cases hl : s.data.toList with
        | nil => have := size_len s; rw [hl] at this; simp at this; omega
        | cons a t => rw [hl] at hd0; simp at hd0; rw [e3] at hd0; rw [hd0]; rfl
    clear hq hsl
    by_cases hix : 0 ≤ ix
    · obtain ⟨n, rfl⟩ := Int.eq_ofNat_of_zero_le hix
      rw [HL.out, if_pos hix]
      clear hix hlt hge HL
      rcases hC with ⟨k0, k1⟩ | ⟨k0, hpos, k1⟩
      · go_enter Tryz.func108, Tryz.ntmps108
        go_wp2_with (go_at_call 131; refine HI.out.mono ?_; rintro e w' ⟨rfl, hw⟩; obtain rfl := hw.symm)
        go_ret
        exact ⟨rfl, rfl⟩
      · have g0 : (0 : Int) < (s.size : Int) := by omega
        go_enter Tryz.func108, Tryz.ntmps108
        go_wp2_with (go_at_call 131; refine HI.out.mono ?_; rintro e w' ⟨rfl, hw⟩; obtain rfl := hw.symm)
        go_ret
        exact ⟨rfl, rfl⟩
    · rw [HL.out, if_neg hix]
      have m0 : decide (0 ≤ ix) = false := decide_eq_false hix
      clear hix hlt hge HL
      rcases hC with ⟨k0, k1⟩ | ⟨k0, hpos, k1⟩
      · go_enter Tryz.func108, Tryz.ntmps108
        go_wp2_with (go_at_call 131; refine HI.out.mono ?_; rintro e w' ⟨rfl, hw⟩; obtain rfl := hw.symm)
        go_ret
        exact ⟨rfl, rfl⟩
      · have g0 : (0 : Int) < (s.size : Int) := by omega
        go_enter Tryz.func108, Tryz.ntmps108
        go_wp2_with (go_at_call 131; refine HI.out.mono ?_; rintro e w' ⟨rfl, hw⟩; obtain rfl := hw.symm)
        go_ret
        exact ⟨rfl, rfl⟩
  have hpos : 0 < s.size := by
    rcases Nat.eq_zero_or_pos s.size with h | h
    · have : s.data.toList = [] := List.eq_nil_of_length_eq_zero (by rw [size_len]; exact h)
      rw [this] at hq
      cases hq
    · exact h
  have hd0 := byteD_at hpos
  have k0 : s.toList.isEmpty = false := by rw [isEmpty_size, decide_eq_false (by omega)]
  have k1 : (((s[0]'hpos).toNat : Int) != 34) = false := by
    cases hl : s.data.toList with
    | nil => rw [hl] at hq; cases hq
    | cons a t =>
      rw [hl] at hd0 hq
      simp at hd0 hq
      rw [← hd0, hq]
      rfl
  have g0 : (0 : Int) < (s.size : Int) := by omega
  obtain ⟨E, hE⟩ : ∃ E, E = 1 + litQ (s.data.toList.drop 1) := ⟨_, rfl⟩
  have HL : Hid (litL s.data.toList = min (E + 1) s.size) := by
    show _ = _
    unfold litL
    rw [if_pos hq, size_len, hE]
  have HE := Lib.hid hE
  clear hq hsl hd0 hE
  rw [HL.out]
  go_enter Tryz.func108, Tryz.ntmps108
  go_upto_region 7 with (fail)
  clear k0 k1 g0
  go_loopw [4] (fun c wx => ∃ i : Nat, 1 ≤ i ∧ i ≤ s.size + 1 ∧ c = .int .i64 i ∧ i + litQ (s.data.toList.drop i) = E ∧ wx = w) (fun c _ => s.size + 1 - (intOf c).toNat)
  case atStart => exact ⟨1, Nat.le_refl _, by omega, rfl, HE.out.symm, rfl⟩
  case round =>
    obtain ⟨i, hi1, hi, rfl, hgo, rfl⟩ := hrel
    by_cases hil : i < s.size
    · have g0 : (0 : Int) ≤ (i : Int) := by omega
      have g1 : (i : Int) < (s.size : Int) := by omega
      have hw1 : IntKind.i64.wrap ((i : Int) + 1) = ((i + 1 : Nat) : Int) := by rw [IntWalk.i64_in _ (by omega)]; omega
      have hv1 : wrap64 ((i : Int) + 1) = ((i + 1 : Nat) : Int) := by unfold wrap64; omega
      have hw2 : IntKind.i64.wrap (((i + 1 : Nat) : Int) + 1) = ((i + 2 : Nat) : Int) := by rw [IntWalk.i64_in _ (by omega)]; omega
      have hv2 : wrap64 (((i + 1 : Nat) : Int) + 1) = ((i + 2 : Nat) : Int) := by unfold wrap64; omega
      have hdrop : s.data.toList.drop i = s[i] :: s.data.toList.drop (i + 1) := by
        have h' : i < s.data.toList.length := by rw [size_len]; exact hil
        rw [List.drop_eq_getElem_cons h']
        rfl
      have hst := litQ_step hdrop
      rw [List.drop_drop] at hst
      by_cases hq : s[i] = 34
      · have q1 : (((s[i]).toNat : Int) != 34) = false := by rw [hq]; rfl
        rw [if_pos hq] at hst
        have hEi : E = i := by omega
        have HEI := Lib.hid hEi
        clear hst hdrop hgo hq hEi
        go_wp2_with fail
        go_ret
        exact ⟨by show Ending.returned (.int .i64 (min ((i : Int) + 1) (s.size : Int))) = _; rw [show min ((i : Int) + 1) (s.size : Int) = ((min (E + 1) s.size : Nat) : Int) by have := HEI.out; omega], rfl⟩
      · have q1 : (((s[i]).toNat : Int) != 34) = true := by
          rw [bne_iff_ne]
          intro e
          exact hq (UInt8.toNat_inj.1 (by have : (s[i]).toNat = 34 := by omega
                                          rw [this]; rfl))
        rw [if_neg hq] at hst
        by_cases hb : s[i] = 92
        · have q2 : (((s[i]).toNat : Int) == 92) = true := by rw [hb]; rfl
          rw [if_pos hb] at hst
          have HG : Hid (i + 2 + litQ (s.data.toList.drop (i + 2)) = E) := by
            show _ = _
            have : i + 1 + 1 = i + 2 := rfl
            rw [this] at hst
            omega
          clear hst hdrop hgo hq hb
          go_wp2_with fail
          go_roundw
          case rel => exact ⟨i + 2, by omega, by omega, by go_num, HG.out, by first | rfl | trivial⟩
          case measure => simp [intOf]; omega
        · have q2 : (((s[i]).toNat : Int) == 92) = false := by
            rw [beq_eq_false_iff_ne]
            intro e
            exact hb (UInt8.toNat_inj.1 (by have : (s[i]).toNat = 92 := by omega
                                            rw [this]; rfl))
          rw [if_neg hb] at hst
          have HG : Hid (i + 1 + litQ (s.data.toList.drop (i + 1)) = E) := by
            show _ = _
            omega
          clear hst hdrop hgo hq hb
          go_wp2_with fail
          go_roundw
          case rel => exact ⟨i + 1, by omega, by omega, by go_num, HG.out, by first | rfl | trivial⟩
          case measure => simp [intOf]; omega
    · have g1 : ¬ (i : Int) < (s.size : Int) := by omega
      have hEi : E = i := by
        rw [show s.data.toList.drop i = [] from List.drop_eq_nil_iff.2 (by rw [size_len]; omega)] at hgo
        simp [litQ] at hgo
        omega
      have HEI := Lib.hid hEi
      clear hgo hEi
      go_wp2_with fail
      go_ret
      exact ⟨by show Ending.returned (.int .i64 (min ((i : Int) + 1) (s.size : Int))) = _; rw [show min ((i : Int) + 1) (s.size : Int) = ((min (E + 1) s.size : Nat) : Int) by have := HEI.out; omega], rfl⟩
end
section
open Go.RowKit Go.Sort

def RPost (r : Option RL.R) (w : World) (e : Ending) (w' : World) : Prop :=
  (∀ x, r = some x → ∃ A C, e = .returned (.tuple #[.slice A x.length C, .int .i64 0]) ∧ x.length ≤ C ∧ C ≤ 9223372036854775807 ∧ SlR w'.heap.size w' A x ∧ (∀ ad, A = some ad → w.heap.size ≤ ad.block)) ∧
    (r = none → e = .returned (.tuple #[.slice none 0 0, .int .i64 15])) ∧ Below w.heap.size w w'
theorem RPost.bad {r : Option RL.R} {w w' : World} (hr : r = none) (hb : Below w.heap.size w w') : RPost r w (.returned (.tuple #[.slice none 0 0, .int .i64 15])) w' :=
  ⟨fun x hx => (by rw [hr] at hx; cases hx), fun _ => rfl, hb⟩
def strLen : Value → Nat
  | .string s => s.size
  | _ => 0
theorem toB_size (l : List UInt8) : (toB l).size = l.length := rfl
theorem toB_mk (s : ByteArray) : toB s.data.toList = s := Lib.mk_data s
theorem toB_extract (l : List UInt8) (a b : Nat) : (toB l).extract a b = toB ((l.drop a).take (b - a)) := by
  rw [Lib.extract_eq]; rfl
theorem toB_take (l : List UInt8) (n : Nat) : (toB l).extract 0 n = toB (l.take n) := by rw [toB_extract]; rfl
theorem toB_drop (l : List UInt8) (n : Nat) : (toB l).extract n l.length = toB (l.drop n) := by
  rw [toB_extract, List.take_of_length_le (by rw [List.length_drop]; exact Nat.le_refl _)]
theorem litL_le (l : List UInt8) : litL l ≤ l.length := by
  unfold litL
  split
  · exact Nat.min_le_right _ _
  · split
    · have := indexByte_lt l 44; omega
    · exact Nat.le_refl _

set_option maxHeartbeats 8000000 in
theorem rwParse_any (s : ByteArray) (hs : s.size ≤ 1000000) (w : World) (hT : Tabs w) : Calls Tryz.prog 92 #[.string s] w (RPost (parseR s.data.toList) w) := by
  have hsl : s.toList = s.data.toList := ByteArray.toList_eq s
  by_cases h0 : s.data.toList = [40, 41]
  · have k0 : (s.toList == [40, 41]) = true := by rw [hsl, h0]; rfl
    have HNO : Hid (parseR s.data.toList = some []) := by show _ = _; unfold parseR; rw [if_pos h0]
    clear hT h0 hsl
    go_enter Tryz.func92, Tryz.ntmps92
    go_wp2_with fail
    go_ret2
    exact ⟨fun x hx => (by rw [HNO.out] at hx; injection hx with hx; subst hx; exact ⟨none, 0, rfl, Nat.le_refl _, by decide, fun h => absurd rfl h, fun ad h => by cases h⟩), fun h => (by rw [HNO.out] at h; cases h), Below.refl _ _⟩
  have k0 : (s.toList == [40, 41]) = false := by rw [hsl, beq_eq_false_iff_ne]; exact h0
  by_cases h2 : s.size < 2
  · have k1 : decide ((s.size : Int) < 2) = true := decide_eq_true (by omega)
    have HNO : Hid (parseR s.data.toList = none) := by show _ = _; unfold parseR; rw [if_neg h0, if_pos (Or.inl (by rw [size_len]; exact h2))]
    clear hT h0 hsl h2
    go_enter Tryz.func92, Tryz.ntmps92
    go_wp2_with fail
    go_ret2
    exact RPost.bad HNO.out (Below.refl _ _)
  have k1 : decide ((s.size : Int) < 2) = false := decide_eq_false (by omega)
  have g0 : (0 : Int) < (s.size : Int) := by omega
  have hw1 : IntKind.i64.wrap ((s.size : Int) - 1) = ((s.size - 1 : Nat) : Int) := by rw [IntWalk.i64_in _ (by omega)]; omega
  have hv1 : wrap64 ((s.size : Int) - 1) = ((s.size - 1 : Nat) : Int) := by unfold wrap64; omega
  have g1 : (0 : Int) ≤ ((s.size - 1 : Nat) : Int) := by omega
  have g2 : ((s.size - 1 : Nat) : Int) < (s.size : Int) := by omega
  have hp0 : 0 < s.size := by omega
  have hp1 : s.size - 1 < s.size := by omega
  have hd0 : s.data.toList.getD 0 0 = s[0]'hp0 := byteD_at hp0
  have hd1 : s.data.toList.getD (s.size - 1) 0 = s[s.size - 1]'hp1 := byteD_at hp1
  by_cases ha : s[0]'hp0 = 40
  rotate_left
  · have k2 : (((s[0]'hp0).toNat : Int) != 40) = true := by
      rw [bne_iff_ne]
      intro e
      exact ha (UInt8.toNat_inj.1 (by have e2 : (s[0]'hp0).toNat = 40 := by omega
                                      rw [e2]; rfl))
    have HNO : Hid (parseR s.data.toList = none) := by show _ = _; unfold parseR; rw [if_neg h0, if_pos (Or.inr (Or.inl (by rw [hd0]; exact ha)))]
    clear hT h0 hsl h2 hd0 hd1 ha
    go_enter Tryz.func92, Tryz.ntmps92
    go_wp2_with fail
    go_ret2
    exact RPost.bad HNO.out (Below.refl _ _)
  have k2 : (((s[0]'hp0).toNat : Int) != 40) = false := by rw [ha]; rfl
  by_cases hb : s[s.size - 1]'hp1 = 41
  rotate_left
  · have k3 : (((s[s.size - 1]'hp1).toNat : Int) != 41) = true := by
      rw [bne_iff_ne]
      intro e
      exact hb (UInt8.toNat_inj.1 (by have e2 : (s[s.size - 1]'hp1).toNat = 41 := by omega
                                      rw [e2]; rfl))
    have HNO : Hid (parseR s.data.toList = none) := by show _ = _; unfold parseR; rw [if_neg h0, if_pos (Or.inr (Or.inr (by rw [size_len, hd1]; exact hb)))]
    clear hT h0 hsl h2 hd0 hd1 ha hb
    go_enter Tryz.func92, Tryz.ntmps92
    go_wp2_with fail
    go_ret2
    exact RPost.bad HNO.out (Below.refl _ _)
  have k3 : (((s[s.size - 1]'hp1).toNat : Int) != 41) = false := by rw [hb]; rfl
  obtain ⟨l0, hl0⟩ : ∃ l0, l0 = (s.data.toList.drop 1).take (s.size - 2) := ⟨_, rfl⟩
  have HR : Hid (parseR s.data.toList = rowGo (s.size + 1) l0 []) := by
    show _ = _
    unfold parseR
    rw [if_neg h0, if_neg (by rw [size_len, hd0, hd1, ha, hb]; simp; omega), size_len, hl0]
  have hex : s.extract 1 (s.size - 1) = toB l0 := by rw [Lib.extract_eq, hl0]; rfl
  have g3 : (1 : Int) ≤ ((s.size - 1 : Nat) : Int) := by omega
  have g4 : ((s.size - 1 : Nat) : Int) ≤ (s.size : Int) := by omega
  have hll : l0.length ≤ s.size := by rw [hl0]; have := List.length_take_le (s.size - 2) (s.data.toList.drop 1); omega
  have HT := Lib.hid hT
  clear hT h0 hsl h2 hd0 hd1 ha hb hl0
  go_enter Tryz.func92, Tryz.ntmps92
  go_upto_region 7 with (fail)
  obtain ⟨R, hR⟩ : ∃ R, R = rowGo (s.size + 1) l0 [] := ⟨_, rfl⟩
  rw [← hR] at HR
  have HRE := Lib.hid hR
  have HLL := Lib.hid hll
  clear hR hll k0 k1 k2 k3 g3 g4 hex hw1 hv1
  go_loopw [4, 5] (fun r4 vo wx => ∃ (f : Nat) (rest : List UInt8) (o : RL.R), r4 = .string (toB rest) ∧ rest.length < f ∧ o.length + rest.length ≤ s.size ∧ rowGo f rest o = R ∧ wx.ownsRow w.heap.size 82 3 vo o.length (rcells o) ∧ Below w.heap.size w wx) (fun r4 _ _ => strLen r4)
  case atStart => exact ⟨s.size + 1, l0, [], rfl, by have := HLL.out; omega, by have := HLL.out; simpa using this, HRE.out.symm, World.ownsRow_nil _ _ _ _, Below.refl _ _⟩
  case round =>
    obtain ⟨f, rest, o, rfl, hf, hol, hgo, ho, hb⟩ := hrel
    obtain ⟨f', rfl⟩ : ∃ f', f = f' + 1 := ⟨f - 1, by omega⟩
    have HO := Lib.hid ho
    have HB := Lib.hid hb
    obtain ⟨n, hn⟩ : ∃ n, n = litL rest := ⟨_, rfl⟩
    have hnle : n ≤ rest.length := by rw [hn]; exact litL_le rest
    have hT4 : (toB rest).size = rest.length := rfl
    have HLI := Lib.hid (rwLiteral_any (toB rest) (by rw [hT4]; omega) wr)
    change Hid (Calls Tryz.prog 108 #[.string (toB rest)] wr fun e w' => e = .returned (.int .i64 (litL rest)) ∧ w' = wr) at HLI
    rw [← hn] at HLI
    have hx1 : (toB rest).extract 0 n = toB (rest.take n) := toB_take rest n
    have hx2 : (toB rest).extract n rest.length = toB (rest.drop n) := toB_drop rest n
    have m0 : (0 : Int) ≤ (n : Int) := by omega
    have m1 : (n : Int) ≤ ((toB rest).size : Int) := by rw [hT4]; omega
    have HVP := Lib.hid (vParse_any (toB (rest.take n)) (by show (rest.take n).length ≤ _; have := List.length_take_le n rest; omega) wr (HT.out.up HB.out))
    change Hid (Calls Tryz.prog 109 #[.string (toB (rest.take n))] wr (VPost (parseV (rest.take n)) wr)) at HVP
    have HGO : Hid (R = match parseV (rest.take n) with | none => none | some v => if rest.drop n = [] then some (o ++ [v]) else if Lib.hasPrefix (rest.drop n) [44, 32] then rowGo f' ((rest.drop n).drop 2) (o ++ [v]) else none) := by
      show _ = _
      rw [← hgo, hn]
      rfl
    have HF := Lib.hid hf
    have HOL := Lib.hid hol
    have HNL := Lib.hid hnle
    have HNN : Hid (∀ v, parseV (rest.take n) = some v → 1 ≤ n) := fun v hv => by
      rcases Nat.eq_zero_or_pos n with h | h
      · rw [h] at hv; simp [parseV] at hv
      · exact h
    clear ho hb hn hgo hf hol hnle
    generalize parseV (rest.take n) = pv at HVP HGO HNN
    rcases pv with _ | v
    · have HNO : Hid (R = none) := HGO.out
      have HV1 : Hid (Calls Tryz.prog 109 #[.string (toB (rest.take n))] wr fun e w' => (∃ k : Int, k ≠ 0 ∧ e = .returned (.tuple #[vv ⟨0, 0, ⟨#[]⟩⟩, .int .i64 k])) ∧ Below wr.heap.size wr w') := HVP.out.mono fun e w' h => ⟨h.2.1 rfl, h.2.2⟩
      clear HGO HVP HNN
      go_wp2_with (first
        | (go_at_call 108; refine HLI.out.mono ?_; rintro e w1 ⟨rfl, hw⟩; obtain rfl := hw.symm)
        | (go_at_call 109; refine HV1.out.mono ?_; rintro e w2 ⟨⟨kk, hkk, rfl⟩, hb2⟩; have hkd : (kk != 0) = true := bne_iff_ne.2 hkk; have HB2 := Lib.hid (HB.out.trans (hb2.mono HB.out.size)); clear hkk hb2))
      go_ret2
      exact RPost.bad (by rw [HR.out]; exact HNO.out) (HB2.out.alloc HB2.out.size _)
    · obtain ⟨vk, vi, vt⟩ := v
      have HV1 : Hid (Calls Tryz.prog 109 #[.string (toB (rest.take n))] wr fun e w' => e = .returned (.tuple #[vv ⟨vk, vi, vt⟩, .int .i64 0]) ∧ Below wr.heap.size wr w') := HVP.out.mono fun e w' h => ⟨h.1 _ rfl, h.2.2⟩
      have HN1 := Lib.hid (HNN.out _ rfl)
      have HRO : Hid (R = if rest.drop n = [] then some (o ++ [⟨vk, vi, vt⟩]) else if Lib.hasPrefix (rest.drop n) [44, 32] then rowGo f' ((rest.drop n).drop 2) (o ++ [⟨vk, vi, vt⟩]) else none) := HGO.out
      clear HGO HVP HNN
      go_upto_region 13 with (first
        | (go_at_call 108; refine HLI.out.mono ?_; rintro e w1 ⟨rfl, hw⟩; obtain rfl := hw.symm)
        | (go_at_call 109; refine HV1.out.mono ?_; rintro e w2 ⟨rfl, hb2⟩; have HWR := Lib.hid hb2; clear hb2)
        | (at_builtin; go_loud (refine app1V rfl (.tmp 43) (.tmp 45) rfl w.heap.size u5 o rfl (own_keep HO.out ((HWR.out.alloc HWR.out.size _).alloc (by have := HWR.out.size; simp; omega) _)) (w2.heap.size + 1) ⟨vk, vi, vt⟩ rfl (by simp) (by simp) (by simp) (by have := HOL.out; omega) (by have h1 := HWR.out.size; have h2 := HB.out.size; simp; omega) ?_); intro v5 w5 hown5 hg5; have HO5 := Lib.hid hown5; go_loud (have HB5 : Hid (Below w.heap.size w w5) := (((HB.out.trans (HWR.out.mono HB.out.size)).alloc (by have h1 := HWR.out.size; have h2 := HB.out.size; omega) _).alloc (by have h1 := HWR.out.size; have h2 := HB.out.size; simp; omega) _).grown hg5 (by have h1 := HWR.out.size; have h2 := HB.out.size; simp; omega) (fun j hj => own_base HO.out hj)); clear hown5 hg5))
      clear hx1 hx2 m0 m1
      have hRL : (toB (rest.drop n)).toList = rest.drop n := ByteArray.toList_eq _
      have HRD : Hid ((rest.drop n).length = rest.length - n) := List.length_drop
      generalize rest.drop n = rd at HRO hRL HRD
      by_cases hd : rd = []
      · have k5 : (toB rd).toList.isEmpty = true := by rw [hRL, hd]; rfl
        have HOK : Hid (R = some (o ++ [⟨vk, vi, vt⟩])) := by show _ = _; rw [HRO.out, if_pos hd]
        clear HRO hd hRL
        go_wp2_with fail
        go_ret2
        obtain ⟨-, A, c, rfl, q1, q2, q3, q4⟩ := SlR.of_own HO5.out
        exact ⟨fun x hx => (by rw [HR.out, HOK.out] at hx; injection hx with hx; subst hx; exact ⟨A, c, rfl, q1, q2, q3, q4⟩), fun h => (by rw [HR.out, HOK.out] at h; cases h), HB5.out⟩
      · have k5 : (toB rd).toList.isEmpty = false := by rw [hRL]; cases rd with | nil => exact absurd rfl hd | cons a t => rfl
        rw [if_neg hd] at HRO
        have HPX := Lib.hid (Any.strings_HasPrefix YtdadchpiibipoaaGreatDoor.lHasPrefix (toB rd) ⟨#[44, 32]⟩ w5)
        change Hid (Calls Tryz.prog 60 #[.string (toB rd), .string ⟨#[44, 32]⟩] w5 fun e w' => e = .returned (.bool (Lib.hasPrefix rd [44, 32])) ∧ w' = w5) at HPX
        clear hd hRL
        cases hpx : Lib.hasPrefix rd [44, 32]
        · rw [hpx] at HPX
          have HNO : Hid (R = none) := by show _ = _; rw [HRO.out, hpx]; rfl
          clear HRO hpx
          go_wp2_with (go_at_call 60; refine HPX.out.mono ?_; rintro e w6 ⟨rfl, hw⟩; obtain rfl := hw.symm)
          go_ret2
          exact RPost.bad (by rw [HR.out]; exact HNO.out) HB5.out
        · rw [hpx] at HPX
          have hlen : 2 ≤ rd.length := by
            have h := List.isPrefixOf_iff_prefix.1 (show [44, 32].isPrefixOf rd = true from hpx)
            exact h.length_le
          have hRO : rowGo f' (rd.drop 2) (o ++ [⟨vk, vi, vt⟩]) = R := by rw [HRO.out, hpx]; rfl
          have hx3 : (toB rd).extract 2 rd.length = toB (rd.drop 2) := toB_drop rd 2
          have hx4 : (toB rd).extract 2 (toB rd).size = toB (rd.drop 2) := toB_drop rd 2
          have m1 : (2 : Int) ≤ ((toB rd).size : Int) := by rw [toB_size]; omega
          have HROW := Lib.hid hRO
          have HLEN2 := Lib.hid hlen
          clear HRO hpx hlen hRO
          go_wp2_with (go_at_call 60; refine HPX.out.mono ?_; rintro e w6 ⟨rfl, hw⟩; obtain rfl := hw.symm)
          go_roundw
          case rel => exact ⟨f', rd.drop 2, o ++ [⟨vk, vi, vt⟩], by first | rfl | (rw [hx3]) | (rw [hx4]), by rw [List.length_drop]; have h1 := HRD.out; have h2 := HF.out; have h3 := HN1.out; have h4 := HNL.out; omega, by rw [List.length_append, List.length_drop, List.length_cons, List.length_nil]; have h1 := HRD.out; have h2 := HOL.out; have h3 := HN1.out; have h4 := HNL.out; omega, HROW.out, HO5.out, HB5.out⟩
          case measure =>
            show (rd.drop 2).length < rest.length
            rw [List.length_drop]
            have h1 := HRD.out
            have h3 := HN1.out
            have h4 := HNL.out
            have h5 := HLEN2.out
            omega
end
section
open Go.RowKit Go.Sort

def failV (l k : Int) : Value := .iface 116 (.agg #[.int .i64 l, .int .i64 k])
theorem rdFail_any {w : World} {rb : Nat} {l k : Int} {a b c : Value} (hr : Row w rb 119 [.int .i64 l, a, b, c]) :
    Calls Tryz.prog 63 #[.pointer (some ⟨rb, 0, none⟩), .int .i64 k] w fun e w' => e = .panicked [{ v := failV l k, recovered := false }] ∧ w' = w := by
  have c0 : w.cell? ⟨rb, 0, none⟩ = some (.int .i64 l) := hr.cell 0
  clear hr
  go_enter Tryz.func63, Tryz.ntmps63
  go_wp2
  exact ⟨rfl, rfl, rfl⟩
end
section
open Go.RowKit Go.Sort Go.ChangeMaps Go.WideShapes

theorem map_no_cell {w : World} {k : TypeId} {b n : Nat} {D : DataW Value} (h : w.ownsMap Tryz.prog k heldR b n D) (o : Nat) : w.cell? ⟨b, o, none⟩ = none := by
  obtain ⟨es, clock, h1, -⟩ := h
  simp [World.cell?, h1]
theorem SlIP.off {P : Nat → Prop} {w : World} {k : TypeId} {b n : Nat} {D : DataW Value} (hm : w.ownsMap Tryz.prog k heldR b n D) {A : Option Addr} {ks : List Int} (h : SlIP P w A ks) : SlIP (fun c => P c ∧ c ≠ b) w A ks := fun hn => by
  obtain ⟨c, o, e, hb, hp, hc⟩ := h hn
  refine ⟨c, o, e, hb, ⟨hp, fun he => ?_⟩, hc⟩
  subst he
  cases ks with
  | nil => exact hn rfl
  | cons x t =>
    have h1 := hc 0 _ rfl
    rw [map_no_cell hm] at h1
    cases h1
theorem HR.off {P : Nat → Prop} {B : Nat} {w : World} {k : TypeId} {b n : Nat} {D : DataW Value} (hm : w.ownsMap Tryz.prog k heldR b n D) {u : Value} {y : RL.R} (h : HR P B w u y) : HR (fun c => P c ∧ c ≠ b) B w u y := by
  obtain ⟨A', C', h1, h2, h3, h4, h5⟩ := h
  refine ⟨A', C', h1, h2, h3, h4, fun hy ad e => ⟨h5 hy ad e, fun he => ?_⟩⟩
  have hn : rcells y ≠ [] := fun h0 => by
    have hl := rcells_length y
    rw [h0] at hl
    cases y with
    | nil => exact hy rfl
    | cons a t => simp at hl
  obtain ⟨c, o, e', -, hc⟩ := h4 hn
  rw [e] at e'
  injection e' with e'
  subst e'
  have he : c = b := he
  subst he
  obtain ⟨x, hx⟩ : ∃ x, (rcells y)[0]? = some x := by
    cases hr : rcells y with
    | nil => exact absurd hr hn
    | cons a t => exact ⟨a, rfl⟩
  have h1 := hc 0 x hx
  rw [map_no_cell hm] at h1
  cases h1
theorem SlRsP.off {P : Nat → Prop} {B : Nat} {w : World} {k : TypeId} {b n : Nat} {D : DataW Value} (hm : w.ownsMap Tryz.prog k heldR b n D) {A : Option Addr} {X : List RL.R} (h : SlRsP P B w A X) : SlRsP (fun c => P c ∧ c ≠ b) B w A X := fun hn => by
  obtain ⟨c, o, e, hb, hp, hs, hh, hc⟩ := h hn
  refine ⟨c, o, e, hb, ⟨hp, fun he => ?_⟩, hs, ⟨hh.1, fun i u y h1 h2 => HR.off hm (hh.2 i u y h1 h2)⟩, hc⟩
  subst he
  have hl := hh.1
  cases hs with
  | nil => cases X with
    | nil => exact hn rfl
    | cons a t => simp at hl
  | cons x t =>
    have h1 := hc 0 _ rfl
    rw [map_no_cell hm] at h1
    cases h1
theorem EntM.off {P : Nat → Prop} {w : World} {k : TypeId} {b n : Nat} {D : DataW Value} (hm : w.ownsMap Tryz.prog k heldR b n D) {val : Value} {ks : List Int} {X : List RL.R} (h : EntM P w val ks X) : EntM (fun c => P c ∧ c ≠ b) w val ks X := by
  obtain ⟨KA, KC, A, C, h1, h2, h3, h4, h5, h6, h7⟩ := h
  exact ⟨KA, KC, A, C, h1, h2, h3.off hm, h4, h5, h6.off hm, h7⟩
end
section
open Go.RowKit Go.Sort Go.ChangeMaps Go.WideShapes

theorem wpUpd {w : World} {ops : Array Oper} {rest : List Oper} {o : Oper} {a : Act} {Q : Exit → Act → World → Prop} (hgd : o.guard = none) (m x v : Operand) (t : TypeId) (hop : o.op = Op.mapUpdate t m x v)
    (k e : TypeId) (KK : Maps.Keyed Tryz.prog k) (ht : Tryz.prog.underlying t = some (.map k e)) (b n : Nat) (D : DataW Value)
    (hm : a.eval m = .map (some b)) (hown : w.ownsMap Tryz.prog k heldR b n D) (hn : n < maxLen) (key val : Value) (kl : Lit) (hx : a.eval x = key) (hv : a.eval v = val) (hkey : keyOf Tryz.prog k key = some kl)
    (h : ∀ w', w'.ownsMap Tryz.prog k heldR b (n + 1) (D.put kl (.held val)) → w.grownBy w' (some b) → wpList Tryz.prog ops Q rest (a.put o.dst undef) w') : wpList Tryz.prog ops Q (o :: rest) a w := by
  obtain ⟨w', hrun, r1, r2⟩ := hown.update KK ht hn hkey (val := val) (d := .held val) (ps := []) rfl
  refine wpList_plain hgd fun K hK => ?_
  unfold Oper.wp
  simp [execOp, hop, hm, hx, hv, hrun, Result.andThen]
  exact hK _ _ (h w' r1 r2)
theorem ranges_keep {k : TypeId} {w w' : World} {b r n : Nat} {D : DataW Value} {left : Lit → Bool} {cnt : Nat} (h : w.ranges Tryz.prog k heldR b r n D left cnt) (hb : w'.heap[b]? = w.heap[b]?) (hr : w'.heap[r]? = w.heap[r]?) : w'.ranges Tryz.prog k heldR b r n D left cnt := by
  obtain ⟨es, clock, since, seen, c0, g1, F, hs, hD, g2, rest⟩ := h
  exact ⟨es, clock, since, seen, c0, hb.trans g1, F, hs, hD, hr.trans g2, rest⟩

set_option maxHeartbeats 4000000 in
theorem ctCopy_some {P : Nat → Prop} {S S' : Sch} {F : Cont} {bd bs nd : Nat} {Dd : DataW Value} (w : World) (hown : w.ownsMap Tryz.prog 9 heldR bd nd Dd) (hPb : P bd) (hent : EntsM (fun c => (P c ∧ c < w.heap.size) ∧ c ≠ bd) S' w Dd (fun _ => []))
    (hs : DbM (fun c => (P c ∧ c < w.heap.size) ∧ c ≠ bd) S w (.map (some bs)) F) (hsub : ∀ p ∈ S, p ∈ S') (hnd : (S'.map Prod.fst).Nodup) (hSl : S'.length ≤ 1000) (_hsz : ∀ p ∈ S, p.1.size ≤ maxLen) :
    Calls Tryz.prog 91 #[.map (some bd), .map (some bs)] w fun e w' => e = .returned (.tuple #[]) ∧ DbM P S' w' (.map (some bd)) (fun s => if memB s (S.map Prod.fst) then F s else []) ∧ w.grownBy w' (some bd) := by
  obtain ⟨b2, D, e, ⟨hbs1, hbs2⟩, howns, hents⟩ := hs.ents
  injection e with e
  injection e with e
  subst e
  have HEN := Lib.hid hents
  have HOW := Lib.hid howns
  have HED := Lib.hid hent
  have HOD := Lib.hid hown
  have hbd := hown.lt
  clear hents howns hent hown hs
  go_enter Tryz.func91, Tryz.ntmps91
  go_wp2_with (first
    | (at_range; refine wpList_range_own _ rfl _ 26 rfl 9 99 keyedS Tryz.underlying26 heldR bs (Maps.size D) D rfl HOW.out ?_; intro w0 hrg0 hg0 hs0)
    | fail)
  go_frame
  have HB0 : Hid (Below w.heap.size w w0) := (Below.refl _ w).grown hg0 (Nat.le_refl _) (fun j hj => by cases hj)
  have HRG0 := Lib.hid hrg0
  have HG0 : Hid (w.grownBy w0 (some bd)) := ⟨hg0.os, hg0.tape, hg0.output, hg0.size, fun k hk _ => HB0.out.block k hk⟩
  have hlb := HOW.out.lt
  have HL0 : Hid (∀ p ∈ S, Maps.has D (litS p.1) = true) := fun p hp => by obtain ⟨v, g, _⟩ := HEN.out.2.2 p hp; exact Maps.has_true_of_atKey g
  have HZ0 : Hid (∀ s, (if (memB s (S.map Prod.fst) && !Maps.has D (litS s)) = true then F s else []) = []) := fun s => by
    by_cases hm : memB s (S.map Prod.fst) = true
    · obtain ⟨p, hp, rfl⟩ := List.mem_map.1 (memB_iff.1 hm)
      rw [HL0.out p hp]
      simp
    · rw [show memB s (S.map Prod.fst) = false by simpa using hm]
      rfl
  have HE0 : Hid (EntsM (fun c => (P c ∧ c < w.heap.size) ∧ c ≠ bd) S' w0 Dd (fun s => if (memB s (S.map Prod.fst) && !Maps.has D (litS s)) = true then F s else [])) := by
    have h := HED.out.keep (Stay.of HB0.out)
    rw [show (fun s => if (memB s (S.map Prod.fst) && !Maps.has D (litS s)) = true then F s else []) = (fun _ => []) from funext HZ0.out]
    exact h
  clear hrg0 hg0 hs0
  go_loopw [4] (fun _ wx => ∃ (left : Lit → Bool) (cnt : Nat) (Dc : DataW Value), wx.ownsMap Tryz.prog 9 heldR bd (Maps.size Dc) Dc ∧ EntsM (fun c => (P c ∧ c < w.heap.size) ∧ c ≠ bd) S' wx Dc (fun s => if (memB s (S.map Prod.fst) && !left (litS s)) = true then F s else []) ∧ wx.ranges Tryz.prog 9 heldR bs w.heap.size (Maps.size D) D left cnt ∧ w.grownBy wx (some bd)) (fun _ wx => wx.rangeLeft bs w.heap.size)
  case atStart => exact ⟨_, _, Dd, map_tight (map_up HOD.out HB0.out), HE0.out, HRG0.out, HG0.out⟩
  case round =>
    obtain ⟨left, cnt, Dc, hm, he, hrg, hg⟩ := hrel
    have HM := Lib.hid hm
    have HE := Lib.hid he
    have HRG := Lib.hid hrg
    have HG := Lib.hid hg
    clear hm he hg
    go_wp2_with (first
      | (at_next; refine wpList_next_ranges _ rfl _ rfl 9 keyedS heldR Value.string (fun v : Value => v) (fun key kl h => by obtain ⟨x, e⟩ := Maps.keyOf_string_inv Tryz.underlying9 h; exact ⟨x, e⟩) (fun v y _ => ⟨v, rfl⟩) bs w.heap.size (Maps.size D) D left cnt rfl HRG.out ?_ ?_)
      | fail)
    · intro hc0 hl0
      have HDB : Hid (DbM P S' wr (.map (some bd)) (fun s => if memB s (S.map Prod.fst) then F s else [])) := by
        have h := (HE.out.weak (P' := P) fun c _ hc => hc.1.1).db hPb HM.out
        rw [show (fun s => if (memB s (S.map Prod.fst) && !left (litS s)) = true then F s else []) = (fun s => if memB s (S.map Prod.fst) then F s else []) from funext fun s => by rw [hl0]; simp] at h
        exact h
      clear hc0 hl0 hrg
      go_wp2_with fail
      go_end0
      exact ⟨rfl, HDB.out, HG.out⟩
    · intro nm c kl y ps w1 cnt1 hkey hlk hv hat hrg1 hlt hg1 hs1 hen
      have hy : y = .held c := by
        unfold heldR at hv
        injection hv with hv
        injection hv with hv
        exact hv.symm
      have hat2 : ∀ z, D.atKey kl z = .held c := fun z => (hat z).trans hy
      obtain ⟨p, hp, rfl⟩ := HEN.out.2.1 kl (Maps.has_true_of_atKey hat2)
      obtain ⟨val, hv1, hem⟩ := HEN.out.2.2 p hp
      have hcv : DataW.held c = .held val := (hat2 .nil).symm.trans (hv1 .nil)
      injection hcv with hcv
      subst hcv
      have hem2 := hem
      obtain ⟨KA, KC, A, C, rfl, -, -, -, -, -, -⟩ := hem
      have HEM := Lib.hid hem2
      have HRG1 := Lib.hid hrg1
      have HG1 := Lib.hid hg1
      have HLE := Lib.hid (HRG.out.left_eq)
      have HKEY := Lib.hid hkey
      have HLK := Lib.hid hlk
      have HPP := Lib.hid hp
      have hlt2 := hlt
      clear hkey hlk hv hat hrg1 hg1 hs1 hy hat2 hp hv1 hem2 hrg hlt
      go_upto_region 3 with (fail)
      have HM1 : Hid (w1.ownsMap Tryz.prog 9 heldR bd (Maps.size Dc) Dc) := map_keep (P := fun k => k = bd) HM.out rfl ⟨HG1.out.size, fun b hb e => HG1.out.block b hb (fun e2 => by injection e2 with e2; omega)⟩
      have HM2 := Lib.hid (fun (o : Obj) => map_up HM1.out ((Ext.refl w1).alloc o).below)
      have HSZ : Hid (Maps.size Dc < maxLen) := by show _ < _; rw [HE.out.1]; simp only [maxLen]; omega
      go_wp2_with (at_mapUpdate; refine wpUpd rfl (.tmp 13) (.tmp 14) (.tmp 15) 26 rfl 9 99 keyedS Tryz.underlying26 bd (Maps.size Dc) Dc rfl (HM2.out _) HSZ.out (.string nm) (.agg #[.slice KA p.2.length KC, .int .i64 (p.2.length : Nat), .slice A (F p.1).length C]) (litS p.1) rfl rfl HKEY.out ?_; intro w3 ho3 hg3)
      have HO3 := Lib.hid ho3
      have HG3 := Lib.hid hg3
      clear ho3 hg3
      have hnr : ∀ k, some w.heap.size = some k → ¬ ((P k ∧ k < w.heap.size) ∧ k ≠ bd) := fun k hk h => by injection hk with hk; have := h.1.2; omega
      have hnb : ∀ k, some bd = some k → ¬ ((P k ∧ k < w.heap.size) ∧ k ≠ bd) := fun k hk h => by injection hk with hk; exact h.2 hk.symm
      have HST : Hid (Stay (fun c => (P c ∧ c < w.heap.size) ∧ c ≠ bd) wr w3) := (Stay.grownP HG1.out hnr).trans ((Stay.of ((Ext.refl w1).alloc _).below).trans (Stay.grownP HG3.out hnb))
      have HSW : Hid (Stay (fun c => (P c ∧ c < w.heap.size) ∧ c ≠ bd) w w3) := (Stay.grownP HG.out hnb).trans HST.out
      have hnr2 : ∀ k, some w.heap.size = some k → ¬ (k < w.heap.size ∧ k ≠ bd) := fun k hk h => by injection hk with hk; have := h.1; omega
      have hnb2 : ∀ k, some bd = some k → ¬ (k < w.heap.size ∧ k ≠ bd) := fun k hk h => by injection hk with hk; exact h.2 hk.symm
      have HSW2 : Hid (Stay (fun c => c < w.heap.size ∧ c ≠ bd) w w3) := (Stay.grownP HG.out hnb2).trans ((Stay.grownP HG1.out hnr2).trans ((Stay.of ((Ext.refl w1).alloc _).below).trans (Stay.grownP HG3.out hnb2)))
      have HNEW : Hid (EntsM (fun c => (P c ∧ c < w.heap.size) ∧ c ≠ bd) S' w3 (Dc.put (litS p.1) (.held (.agg #[.slice KA p.2.length KC, .int .i64 (p.2.length : Nat), .slice A (F p.1).length C]))) (fun s => if (memB s (S.map Prod.fst) && !(left (litS s) && !(litS s).sameKey (litS p.1))) = true then F s else [])) := by
        have h := EntsM.put HE.out (HM.out.tidy keyedS) (List.mem_map.2 ⟨p, hsub p HPP.out, rfl⟩) HST.out (X := F p.1) fun ks' hk' => by
          have hks : ks' = p.2 := (kindsOf_mem hnd hk').symm.trans (kindsOf_mem hnd (hsub p HPP.out))
          rw [hks]
          exact HEM.out.keep HSW.out
        rw [show (fun s => if (memB s (S.map Prod.fst) && !(left (litS s) && !(litS s).sameKey (litS p.1))) = true then F s else []) = updC (fun s => if (memB s (S.map Prod.fst) && !left (litS s)) = true then F s else []) p.1 (F p.1) from funext fun s => by
          unfold updC
          by_cases e : s = p.1
          · subst e
            rw [if_pos rfl, WideAt.sameKey_self (isKeyS p.1), memB_iff.2 (List.mem_map.2 ⟨p, HPP.out, rfl⟩)]
            simp
          · rw [if_neg e, strike_ne e]
            simp]
        exact h
      have HRG3 : Hid (w3.ranges Tryz.prog 9 heldR bs w.heap.size (Maps.size D) D (fun z => left z && !z.sameKey (litS p.1)) cnt1) := ranges_keep (ranges_up HRG1.out ((Ext.refl w1).alloc _).below) (HG3.out.block bs (by have h1 := HRG1.out.owns.lt; simp; omega) (fun e => by injection e with e; exact hbs2 e)) (HG3.out.block w.heap.size (by have h1 := HRG1.out.lt; simp; omega) (fun e => by injection e with e; omega))
      have HGN : Hid (w.grownBy w3 (some bd)) := ⟨HG3.out.os.trans (HG1.out.os.trans HG.out.os), HG3.out.tape.trans (HG1.out.tape.trans HG.out.tape), HG3.out.output.trans (HG1.out.output.trans HG.out.output), Nat.le_trans HG.out.size HST.out.1, fun k hk hkb => (HSW2.out.2 k hk ⟨hk, fun e => hkb (by rw [e])⟩)⟩
      go_roundw
      case rel => exact ⟨_, _, _, _, _, _, _, _, _, _, ⟨_, cnt1, _, map_tight HO3.out, HNEW.out, HRG3.out, HGN.out⟩, rfl⟩
      case measure => rw [HRG3.out.left_eq, HLE.out]; exact hlt2
end
section
open Go.RowKit Go.Sort Go.ChangeMaps Go.WideShapes

structure SchCs (P : Nat → Prop) (w : World) (S : Sch) (cs : List Value) : Prop where
  len : cs.length = S.length * 2
  one : ∀ u ∈ cs, u.oneCell' = true
  at_ : ∀ i (h : i < S.length), ∃ KA KC, cs[i * 2]? = some (.string S[i].1) ∧ cs[i * 2 + 1]? = some (.slice KA S[i].2.length KC) ∧ SlIP P w KA S[i].2
def RdP (rb : Nat) (vs vr : Value) (b : Nat) : Prop := rb < b ∧ vs.ownBlock ≠ some b ∧ vr.ownBlock ≠ some b
def MapR (P : Nat → Prop) (S : Sch) (w : World) (m : Value) (F : Cont) : Prop := (S = [] ∧ m = .map none) ∨ (S ≠ [] ∧ DbM P S w m F)
def RdM (rb : Nat) (w : World) (r : Rd) : Prop := ∃ vs vr m sc hs, Row w rb 119 [.int .i64 r.line, vs, m, vr] ∧
  w.ownsRow (rb + 1) 62 2 vs r.S.length sc ∧ SchCs (RdP rb vs vr) w r.S sc ∧ w.ownsRow (rb + 1) 42 1 vr r.X.length hs ∧ Hdrs (RdP rb vs vr) w.heap.size w hs r.X ∧ MapR (RdP rb vs vr) r.S w m r.F
structure RdOk (r : Rd) : Prop where
  err : errS r.S = 0
  asc : (r.S.map Prod.fst).Pairwise fun a b => RL.cmpS a b < 0
  none : r.S = [] → r.X = []
  last : ∀ p, r.S.getLast? = some p → RowsOk p.2.length r.X
  out : ∀ s, s ∉ r.S.map Prod.fst → r.F s = []
section
variable {P P' : Nat → Prop} {S : Sch} {w w' : World} {cs : List Value} {m : Value} {F : Cont}
theorem SchCs.nil : SchCs P w [] [] := ⟨rfl, fun u hu => (by cases hu), fun i hi => absurd hi (Nat.not_lt_zero _)⟩
theorem SchCs.keep (h : SchCs P w S cs) (hk : Stay P w w') : SchCs P w' S cs :=
  ⟨h.len, h.one, fun i hi => by obtain ⟨KA, KC, a, b, c⟩ := h.at_ i hi; exact ⟨KA, KC, a, b, c.keep hk⟩⟩
theorem SchCs.weak (h : SchCs P w S cs) (hP : ∀ b, b < w.heap.size → P b → P' b) : SchCs P' w S cs :=
  ⟨h.len, h.one, fun i hi => by obtain ⟨KA, KC, a, b, c⟩ := h.at_ i hi; exact ⟨KA, KC, a, b, c.weak hP⟩⟩
theorem SchCs.snoc (h : SchCs P w S cs) {nm : ByteArray} {ks : List Int} {KA : Option Addr} {KC : Nat} (hk : SlIP P w KA ks) : SchCs P w (S ++ [(nm, ks)]) (cs ++ [.string nm, .slice KA ks.length KC]) := by
  refine ⟨by rw [List.length_append, List.length_append, h.len, Nat.add_mul]; rfl, fun u hu => ?_, fun i hi => ?_⟩
  · rcases List.mem_append.1 hu with hu | hu
    · exact h.one u hu
    · simp at hu
      rcases hu with rfl | rfl <;> rfl
  · have hl := h.len
    by_cases hiu : i < S.length
    · obtain ⟨KA, KC, a, b, c⟩ := h.at_ i hiu
      refine ⟨KA, KC, ?_, ?_, ?_⟩
      · rw [List.getElem?_append_left (by omega), List.getElem_append_left hiu]; exact a
      · rw [List.getElem?_append_left (by omega), List.getElem_append_left hiu]; exact b
      · rw [List.getElem_append_left hiu]; exact c
    · rw [List.length_append] at hi
      have hi2 : i = S.length := by simp at hi; omega
      subst hi2
      refine ⟨KA, KC, ?_, ?_, ?_⟩
      · rw [List.getElem?_append_right (by omega), show S.length * 2 - cs.length = 0 by omega]; simp
      · rw [List.getElem?_append_right (by omega), show S.length * 2 + 1 - cs.length = 1 by omega]; simp
      · simpa using hk
theorem MapR.keep (h : MapR P S w m F) (hk : Stay P w w') : MapR P S w' m F := by
  rcases h with h | ⟨h0, h⟩
  · exact .inl h
  · exact .inr ⟨h0, h.keep hk⟩
theorem MapR.weak (h : MapR P S w m F) (hP : ∀ b, b < w.heap.size → P b → P' b) : MapR P' S w m F := by
  rcases h with h | ⟨h0, h⟩
  · exact .inl h
  · exact .inr ⟨h0, h.weak hP⟩
end
theorem Hdrs.stay {P : Nat → Prop} {w w' : World} {hs : List Value} {X : List RL.R} (h : Hdrs P w.heap.size w hs X) (hk : Stay P w w') : Hdrs P w'.heap.size w' hs X :=
  (h.keep fun p hp hP => World.cell?_of_block (hk.2 p.block hp hP)).more hk.1
theorem own_stay {P : Nat → Prop} {w w' : World} {base : Nat} {e : TypeId} {size : Nat} {v : Value} {n : Nat} {xs : List Value} (h : w.ownsRow base e size v n xs) (hk : Stay P w w') (hP : ∀ g, v.ownBlock = some g → P g) : w'.ownsRow base e size v n xs := by
  have hl := h.lt
  refine ⟨h.1, ?_⟩
  rcases h.2 with h1 | ⟨g, cap, cur, rfl, h2, h3, h4⟩
  · exact .inl h1
  · exact .inr ⟨g, cap, cur, rfl, h2, (hk.2 g (hl g rfl).2 (hP g rfl)).trans h3, h4⟩
theorem own_parts {w : World} {B B' e e' size size' n n' : Nat} {v v' : Value} {xs xs' : List Value} (h : w.ownsRow B e size v n xs) (h' : w.ownsRow B' e' size' v' n' xs') (hne : e ≠ e') : ∀ g, v.ownBlock = some g → v'.ownBlock ≠ some g := by
  intro g hg hg'
  rcases h.2 with ⟨rfl, _⟩ | ⟨g1, cap, cur, rfl, _, h1, _⟩
  · cases hg
  · rcases h'.2 with ⟨rfl, _⟩ | ⟨g2, cap2, cur2, rfl, _, h2, _⟩
    · cases hg'
    · injection hg with hg
      injection hg' with hg'
      have hg : g1 = g := hg
      have hg' : g2 = g := hg'
      subst hg
      subst hg'
      rw [h1] at h2
      injection h2 with h2
      injection h2 with h3 h4
      exact hne h4
theorem RdM.up {rb : Nat} {w w' : World} {r : Rd} (h : RdM rb w r) (hb : Below w.heap.size w w') : RdM rb w' r := by
  obtain ⟨vs, vr, m, sc, hs, h1, h2, h3, h4, h5, h6⟩ := h
  exact ⟨vs, vr, m, sc, hs, h1.up hb, own_stay h2 (Stay.of (P := fun _ => True) hb) fun _ _ => trivial, h3.keep (Stay.of hb), own_stay h4 (Stay.of (P := fun _ => True) hb) fun _ _ => trivial, h5.stay (Stay.of hb), h6.keep (Stay.of hb)⟩
theorem RdM.lt {rb : Nat} {w : World} {r : Rd} (h : RdM rb w r) : rb < w.heap.size := by
  obtain ⟨vs, vr, m, sc, hs, h1, -⟩ := h
  exact h1.lt
def WinP (lo : Nat) (wc w : World) : Prop := wc.heap.size ≤ w.heap.size ∧ ∀ p : Addr, lo ≤ p.block → p.block < wc.heap.size → w.cell? p = wc.cell? p
theorem WinP.refl (lo : Nat) (w : World) : WinP lo w w := ⟨Nat.le_refl _, fun _ _ _ => rfl⟩
theorem WinP.up {lo : Nat} {wc w w' : World} (h : WinP lo wc w) (hb : Below w.heap.size w w') : WinP lo wc w' := ⟨Nat.le_trans h.1 hb.size, fun p h1 h2 => (hb.cell (Nat.lt_of_lt_of_le h2 h.1)).trans (h.2 p h1 h2)⟩
theorem WinP.set {lo : Nat} {wc w : World} {g : Nat} (h : WinP lo wc w) (hg : g < lo ∨ wc.heap.size ≤ g) (o : Nat) (u : Value) : WinP lo wc (w.setCell ⟨g, o, none⟩ u) :=
  ⟨by rw [show (w.setCell ⟨g, o, none⟩ u).heap.size = w.heap.size by simp]; exact h.1, fun p h1 h2 => (World.cell?_setCell_other _ _ _ _ (fun e => by subst e; have h1 : lo ≤ g := h1; have h2 : g < wc.heap.size := h2; omega)).trans (h.2 p h1 h2)⟩
theorem RdM.new (w : World) : RdM w.heap.size (w.alloc (.cells #[.int .i64 0, .slice none 0 0, .map none, .slice none 0 0] 119)) Rd.zero :=
  ⟨.slice none 0 0, .slice none 0 0, .map none, [], [], Row.new w 119 _, own_nil _ _ _ _, SchCs.nil, own_nil _ _ _ _, Hdrs.nil, .inl ⟨rfl, rfl⟩⟩
theorem RdOk.zero : RdOk Rd.zero := ⟨by decide, List.Pairwise.nil, fun _ => rfl, fun p hp => (by cases hp), fun _ _ => rfl⟩
end
section
theorem ib_none {c : UInt8} : ∀ {l : List UInt8}, c ∉ l → Lib.indexByte l c = -1
  | [], _ => rfl
  | b :: l, h => by
    have h1 : (b == c) = false := by rw [beq_eq_false_iff_ne]; intro e; exact h (by rw [e]; exact List.mem_cons_self)
    unfold Lib.indexByte
    rw [h1, ib_none fun e => h (List.mem_cons_of_mem _ e)]
    rfl
theorem ib_at {c : UInt8} : ∀ {l t : List UInt8}, c ∉ l → Lib.indexByte (l ++ c :: t) c = l.length
  | [], t, _ => by simp [Lib.indexByte]
  | b :: l, t, h => by
    have h1 : (b == c) = false := by rw [beq_eq_false_iff_ne]; intro e; exact h (by rw [e]; exact List.mem_cons_self)
    rw [List.cons_append]
    unfold Lib.indexByte
    rw [h1, ib_at fun e => h (List.mem_cons_of_mem _ e)]
    have : ((l.length : Int) == -1) = false := by rw [beq_eq_false_iff_ne]; omega
    rw [this]
    simp
theorem ib_split {c : UInt8} : ∀ {l : List UInt8} {n : Nat}, Lib.indexByte l c = n → l = l.take n ++ c :: l.drop (n + 1) ∧ c ∉ l.take n
  | [], n, h => by unfold Lib.indexByte at h; omega
  | b :: l, n, h => by
    unfold Lib.indexByte at h
    cases h1 : b == c with
    | true =>
      rw [h1, if_pos rfl] at h
      have : n = 0 := by omega
      subst this
      have : b = c := by simpa using h1
      subst this
      simp
    | false =>
      rw [h1, if_neg (by decide)] at h
      cases h2 : Lib.indexByte l c == -1 with
      | true => rw [h2, if_pos rfl] at h; omega
      | false =>
        rw [h2, if_neg (by decide)] at h
        have hg := Lib.indexByte_ge l c
        have hne : Lib.indexByte l c ≠ -1 := by rw [beq_eq_false_iff_ne] at h2; exact h2
        obtain ⟨m, hm⟩ := Int.eq_ofNat_of_zero_le (show 0 ≤ Lib.indexByte l c by omega)
        obtain rfl : n = m + 1 := by omega
        obtain ⟨e1, e2⟩ := ib_split (l := l) (n := m) hm
        refine ⟨?_, ?_⟩
        · simp only [List.take_succ_cons, List.drop_succ_cons, List.cons_append]
          rw [← e1]
        · simp only [List.take_succ_cons, List.mem_cons, not_or]
          exact ⟨fun e => by rw [e] at h1; simp at h1, e2⟩
theorem ib_neg {c : UInt8} : ∀ {l : List UInt8}, Lib.indexByte l c < 0 → c ∉ l
  | [], _ => by simp
  | b :: l, h => by
    unfold Lib.indexByte at h
    cases h1 : b == c with
    | true => rw [h1, if_pos rfl] at h; omega
    | false =>
      rw [h1, if_neg (by decide)] at h
      have hg := Lib.indexByte_ge l c
      have hl : Lib.indexByte l c < 0 := by
        cases h2 : Lib.indexByte l c == -1 with
        | true => have := beq_iff_eq.1 h2; omega
        | false => rw [h2, if_neg (by decide)] at h; omega
      have := ib_neg hl
      intro e
      rcases List.mem_cons.1 e with e | e
      · rw [e] at h1; simp at h1
      · exact this e

def escOk (c : UInt8) : Bool :=
  (escB c == [c] && c != 92 && c != 34 && c != 10 && decide (32 ≤ c.toNat) && decide (c.toNat ≤ 126)) ||
  (escB c == [92, c] && (c == 34 || c == 92)) || (escB c == [92, 110] && c == 10) || (escB c == [92, 116] && c == 9) ||
  (escB c == [92, 120, hexD (c.toNat / 16), hexD (c.toNat % 16)] && decide (0 ≤ Lib.indexByte hexS (hexD (c.toNat / 16))) && decide (0 ≤ Lib.indexByte hexS (hexD (c.toNat % 16))) &&
    decide ((Lib.indexByte hexS (hexD (c.toNat / 16))).toNat * 16 + (Lib.indexByte hexS (hexD (c.toNat % 16))).toNat = c.toNat) && decide (¬ (c.toNat = 10 ∨ c.toNat = 9 ∨ (32 ≤ c.toNat ∧ c.toNat ≤ 126))) &&
    hexD (c.toNat / 16) != 34 && hexD (c.toNat / 16) != 92 && hexD (c.toNat / 16) != 10 && hexD (c.toNat % 16) != 34 && hexD (c.toNat % 16) != 92 && hexD (c.toNat % 16) != 10)
theorem escOk_fin : ∀ n : Fin 256, escOk (UInt8.ofNat n.val) = true := by decide +kernel
theorem escOk_all (c : UInt8) : escOk c = true := by
  have h := escOk_fin ⟨c.toNat, UInt8.toNat_lt c⟩
  rwa [show UInt8.ofNat (⟨c.toNat, UInt8.toNat_lt c⟩ : Fin 256).val = c from UInt8.ofNat_toNat] at h
theorem esc_forms (c : UInt8) : (escB c = [c] ∧ c ≠ 92 ∧ c ≠ 34 ∧ c ≠ 10 ∧ 32 ≤ c.toNat ∧ c.toNat ≤ 126) ∨ (escB c = [92, c] ∧ (c = 34 ∨ c = 92)) ∨ (escB c = [92, 110] ∧ c = 10) ∨ (escB c = [92, 116] ∧ c = 9) ∨
    ∃ a b, escB c = [92, 120, a, b] ∧ 0 ≤ Lib.indexByte hexS a ∧ 0 ≤ Lib.indexByte hexS b ∧ (Lib.indexByte hexS a).toNat * 16 + (Lib.indexByte hexS b).toNat = c.toNat ∧ ¬ (c.toNat = 10 ∨ c.toNat = 9 ∨ (32 ≤ c.toNat ∧ c.toNat ≤ 126)) ∧ a ≠ 34 ∧ a ≠ 92 ∧ a ≠ 10 ∧ b ≠ 34 ∧ b ≠ 92 ∧ b ≠ 10 := by
  have h := escOk_all c
  unfold escOk at h
  simp only [Bool.or_eq_true, Bool.and_eq_true, beq_iff_eq, bne_iff_ne, decide_eq_true_eq] at h
  rcases h with (((h | h) | h) | h) | h
  · exact .inl ⟨h.1.1.1.1.1, h.1.1.1.1.2, h.1.1.1.2, h.1.1.2, h.1.2, h.2⟩
  · exact .inr (.inl h)
  · exact .inr (.inr (.inl h))
  · exact .inr (.inr (.inr (.inl h)))
  · obtain ⟨⟨⟨⟨⟨⟨⟨⟨⟨⟨a0, a1⟩, a2⟩, a3⟩, a4⟩, a5⟩, a6⟩, a7⟩, a8⟩, a9⟩, a10⟩ := h
    exact .inr (.inr (.inr (.inr ⟨_, _, a0, a1, a2, a3, a4, a5, a6, a7, a8, a9, a10⟩)))
theorem unq_ne {a : UInt8} {t : List UInt8} (h : a ≠ 92) : unquoteL (a :: t) = if a.toNat < 32 ∨ 126 < a.toNat then (0, 0) else (a.toNat, 1) := by
  unfold unquoteL
  simp only [ne_eq, h, not_false_eq_true, if_true]
theorem unq_92 (d : UInt8) (u : List UInt8) : unquoteL (92 :: d :: u) = if d = 34 ∨ d = 92 then (d.toNat, 2) else if d = 110 then (10, 2) else if d = 116 then (9, 2) else if d = 120 then unhexL (92 :: d :: u) else (0, 0) := by
  conv => lhs; unfold unquoteL
  simp only [ne_eq, not_true, if_false]
theorem unhex4 (p q x y : UInt8) (v : List UInt8) : unhexL (p :: q :: x :: y :: v) = if Lib.indexByte hexS x < 0 ∨ Lib.indexByte hexS y < 0 then (0, 0) else
    if (Lib.indexByte hexS x).toNat * 16 + (Lib.indexByte hexS y).toNat = 10 ∨ (Lib.indexByte hexS x).toNat * 16 + (Lib.indexByte hexS y).toNat = 9 ∨ (32 ≤ (Lib.indexByte hexS x).toNat * 16 + (Lib.indexByte hexS y).toNat ∧ (Lib.indexByte hexS x).toNat * 16 + (Lib.indexByte hexS y).toNat ≤ 126) then (0, 0) else ((Lib.indexByte hexS x).toNat * 16 + (Lib.indexByte hexS y).toNat, 4) := by
  unfold unhexL
  rw [if_neg (by simp only [List.length_cons]; omega)]
  rfl
theorem unq_esc (c : UInt8) (t : List UInt8) : unquoteL (escB c ++ t) = (c.toNat, (escB c).length) := by
  rcases esc_forms c with ⟨h, h1, h2, h3, h4, h5⟩ | ⟨h, h1⟩ | ⟨h, h1⟩ | ⟨h, h1⟩ | ⟨a, b, h, h1, h2, h3, h4, -⟩
  · rw [h, List.singleton_append, unq_ne h1, if_neg (by omega)]
    rfl
  · rw [h, List.cons_append, List.singleton_append, unq_92, if_pos h1]
    rfl
  · rw [h, h1]; rfl
  · rw [h, h1]; rfl
  · rw [h]
    show unhexL (92 :: 120 :: a :: b :: t) = _
    rw [unhex4, if_neg (by omega), h3, if_neg h4]
    rfl
theorem esc_head (c : UInt8) : ∃ a u, escB c = a :: u ∧ a ≠ 34 := by
  rcases esc_forms c with ⟨h, h1, h2, -⟩ | ⟨h, -⟩ | ⟨h, -⟩ | ⟨h, -⟩ | ⟨a, b, h, -⟩
  · exact ⟨_, _, h, h2⟩
  all_goals exact ⟨_, _, h, by decide⟩
theorem esc_no10 (c : UInt8) : (10 : UInt8) ∉ escB c := by
  rcases esc_forms c with ⟨h, h1, h2, h3, -⟩ | ⟨h, h1⟩ | ⟨h, -⟩ | ⟨h, -⟩ | ⟨a, b, h, -, -, -, -, -, -, h7, -, -, h8⟩
  · rw [h]; simp; exact fun e => h3 e.symm
  · rw [h]; rcases h1 with rfl | rfl <;> decide
  · rw [h]; decide
  · rw [h]; decide
  · rw [h]; simp; exact ⟨fun e => h7 e.symm, fun e => h8 e.symm⟩
theorem litQ_cons (c : UInt8) (t : List UInt8) : litQ (c :: t) = if c = 34 then 0 else if c = 92 then 2 + litQ (t.drop 1) else 1 + litQ t := by
  cases t with
  | nil => simp [litQ]
  | cons d u => simp [litQ]
theorem litQ_esc (c : UInt8) (t : List UInt8) : litQ (escB c ++ t) = (escB c).length + litQ t := by
  rcases esc_forms c with ⟨h, h1, h2, -⟩ | ⟨h, h1⟩ | ⟨h, -⟩ | ⟨h, -⟩ | ⟨a, b, h, -, -, -, -, h5, h6, -, h7, h8, -⟩
  · rw [h, List.singleton_append, litQ_cons, if_neg h2, if_neg h1]; rfl
  · rw [h, List.cons_append, litQ_cons, if_neg (by decide), if_pos rfl]; rfl
  · rw [h, List.cons_append, litQ_cons, if_neg (by decide), if_pos rfl]; rfl
  · rw [h, List.cons_append, litQ_cons, if_neg (by decide), if_pos rfl]; rfl
  · rw [h, List.cons_append, litQ_cons, if_neg (by decide), if_pos rfl]
    show 2 + litQ (a :: b :: t) = 4 + litQ t
    rw [litQ_cons, if_neg h5, if_neg h6, litQ_cons, if_neg h7, if_neg h8]
    omega
theorem escL_cons (c : UInt8) (l : List UInt8) : escL (c :: l) = escB c ++ escL l := rfl
theorem litQ_escL : ∀ (l t : List UInt8), litQ (escL l ++ 34 :: t) = (escL l).length
  | [], t => by show litQ (34 :: t) = 0; rw [litQ_cons, if_pos rfl]
  | c :: l, t => by rw [escL_cons, List.append_assoc, litQ_esc, litQ_escL l t, List.length_append]
theorem strGo_esc : ∀ (l : List UInt8) (f : Nat) (out : List UInt8), l.length < f → strGo f (escL l ++ [34]) out = some (out ++ l)
  | [], 0, _, h => by simp at h
  | [], f + 1, out, _ => by simp [escL, strGo]
  | c :: l, 0, _, h => by simp at h
  | c :: l, f + 1, out, h => by
    obtain ⟨a, u, ha, hne⟩ := esc_head c
    have hu := unq_esc c (escL l ++ [34])
    rw [escL_cons, List.append_assoc]
    generalize hx : escB c ++ (escL l ++ [34]) = x at *
    have hxc : x = a :: (u ++ (escL l ++ [34])) := by rw [← hx, ha]; rfl
    have hlen : (escB c).length ≠ 0 := by rw [ha]; simp
    have : strGo (f + 1) x out = if (unquoteL x).2 = 0 then none else strGo f (x.drop (unquoteL x).2) (out ++ [UInt8.ofNat (unquoteL x).1]) := by
      rw [hxc]
      show (if a = 34 then _ else _) = _
      rw [if_neg hne]
    rw [this, hu, if_neg hlen]
    show strGo f (x.drop (escB c).length) (out ++ [UInt8.ofNat c.toNat]) = _
    rw [← hx, List.drop_left, UInt8.ofNat_toNat, strGo_esc l f _ (by simp at h; omega)]
    simp
theorem hex_fin : ∀ n : Fin 256, 0 ≤ Lib.indexByte hexS (UInt8.ofNat n.val) → (Lib.indexByte hexS (UInt8.ofNat n.val)).toNat < 16 ∧ hexD (Lib.indexByte hexS (UInt8.ofNat n.val)).toNat = UInt8.ofNat n.val := by decide +kernel
theorem hex_at (c : UInt8) (h : 0 ≤ Lib.indexByte hexS c) : (Lib.indexByte hexS c).toNat < 16 ∧ hexD (Lib.indexByte hexS c).toNat = c := by
  have h1 := hex_fin ⟨c.toNat, UInt8.toNat_lt c⟩
  rw [show UInt8.ofNat (⟨c.toNat, UInt8.toNat_lt c⟩ : Fin 256).val = c from UInt8.ofNat_toNat] at h1
  exact h1 h
theorem escB_fin : ∀ n : Fin 256, ¬ (n.val = 10 ∨ n.val = 9 ∨ (32 ≤ n.val ∧ n.val ≤ 126)) → escB (UInt8.ofNat n.val) = [92, 120, hexD (n.val / 16), hexD (n.val % 16)] := by decide +kernel
theorem unq_conv {l : List UInt8} {c n : Nat} (h : unquoteL l = (c, n)) (hn : n ≠ 0) (hq : l.head? ≠ some 34) : l = escB (UInt8.ofNat c) ++ l.drop n := by
  cases l with
  | nil => unfold unquoteL at h; injection h with _ h; exact absurd h.symm hn
  | cons a t =>
    have ha : a ≠ 34 := fun e => hq (by rw [e]; rfl)
    by_cases h92 : a = 92
    · subst h92
      cases t with
      | nil => unfold unquoteL at h; simp at h; omega
      | cons d u =>
        have h0 := h
        rw [unq_92] at h0
        split at h0
        · rename_i hd
          injection h0 with e1 e2
          subst e1 e2
          rw [UInt8.ofNat_toNat]
          rcases hd with rfl | rfl <;> rfl
        · split at h0
          · rename_i hd
            injection h0 with e1 e2
            subst e1 e2 hd
            rfl
          · split at h0
            · rename_i hd
              injection h0 with e1 e2
              subst e1 e2 hd
              rfl
            · split at h0
              · rename_i hd
                subst hd
                have hl : ¬ (92 :: 120 :: u).length < 4 := fun hl => by
                  unfold unhexL at h0
                  rw [if_pos hl] at h0
                  injection h0 with _ e2; exact absurd e2.symm hn
                obtain ⟨x, y, v, rfl⟩ : ∃ x y v, u = x :: y :: v := by
                  cases u with
                  | nil => simp at hl
                  | cons x u => cases u with
                    | nil => simp at hl
                    | cons y v => exact ⟨x, y, v, rfl⟩
                rw [unhex4] at h0
                split at h0
                · injection h0 with _ e2; exact absurd e2.symm hn
                · rename_i hxy
                  split at h0
                  · injection h0 with _ e2; exact absurd e2.symm hn
                  · rename_i hc
                    injection h0 with e1 e2
                    obtain ⟨x1, x2⟩ := hex_at x (by omega)
                    obtain ⟨y1, y2⟩ := hex_at y (by omega)
                    rw [e1] at hc
                    have h5 : escB (UInt8.ofNat c) = [92, 120, hexD (c / 16), hexD (c % 16)] := escB_fin ⟨c, by omega⟩ hc
                    rw [h5, show c / 16 = (Lib.indexByte hexS x).toNat by omega, show c % 16 = (Lib.indexByte hexS y).toNat by omega, x2, y2, ← e2]
                    rfl
              · injection h0 with _ e2; exact absurd e2.symm hn
    · have h0 := h
      rw [unq_ne h92] at h0
      split at h0
      · injection h0 with _ e2; exact absurd e2.symm hn
      · rename_i hr
        injection h0 with e1 e2
        subst e1 e2
        rw [UInt8.ofNat_toNat]
        rcases esc_forms a with ⟨h, -⟩ | ⟨h, h1⟩ | ⟨h, h1⟩ | ⟨h, h1⟩ | ⟨x, y, h, -, -, -, h4, -⟩
        · rw [h]; rfl
        · rcases h1 with h1 | h1
          · exact absurd h1 ha
          · exact absurd h1 h92
        · subst h1; exact absurd (show (10 : UInt8).toNat < 32 ∨ 126 < (10 : UInt8).toNat by decide) hr
        · subst h1; exact absurd (show (9 : UInt8).toNat < 32 ∨ 126 < (9 : UInt8).toNat by decide) hr
        · exact absurd (Or.inr (Or.inr (by omega))) h4
theorem strGo_conv : ∀ (f : Nat) (l out r : List UInt8), strGo f l out = some r → ∃ m, l = escL m ++ [34] ∧ r = out ++ m
  | 0, _, _, _, h => by cases h
  | f + 1, [], out, r, h => by cases h
  | f + 1, c :: t, out, r, h => by
    have h : (if c = 34 then (if t = [] then some out else none) else if (unquoteL (c :: t)).2 = 0 then none else strGo f ((c :: t).drop (unquoteL (c :: t)).2) (out ++ [UInt8.ofNat (unquoteL (c :: t)).1])) = some r := h
    split at h
    · rename_i hc
      split at h
      · rename_i ht
        injection h with h
        exact ⟨[], by rw [hc, ht]; rfl, by rw [← h]; simp⟩
      · cases h
    · rename_i hc
      split at h
      · cases h
      · rename_i hn
        obtain ⟨a, n, hu⟩ : ∃ a n, unquoteL (c :: t) = (a, n) := ⟨_, _, rfl⟩
        rw [hu] at h hn
        obtain ⟨m, e1, e2⟩ := strGo_conv f _ _ r h
        refine ⟨UInt8.ofNat a :: m, ?_, ?_⟩
        · have := unq_conv hu hn (by simpa using hc)
          rw [escL_cons, List.append_assoc, ← e1]
          exact this
        · rw [e2]; simp
end
section
def MX : Nat := 2 ^ 64 - 1
theorem pu_nil (M a : Nat) : Lib.parseUintM M a [] = .ok a := rfl
theorem pu_cons (M a : Nat) (c : UInt8) (r : List UInt8) : Lib.parseUintM M a (c :: r) = if 48 ≤ c.toNat ∧ c.toNat ≤ 57 then (if 1844674407370955162 ≤ a then .range else if M < a * 10 + (c.toNat - 48) then .range else Lib.parseUintM M (a * 10 + (c.toNat - 48)) r) else Lib.NumEnd.syntax := rfl
theorem pu_snoc (M : Nat) (c : UInt8) : ∀ (l : List UInt8) (a v : Nat), Lib.parseUintM M a l = .ok v → Lib.parseUintM M a (l ++ [c]) = Lib.parseUintM M v [c]
  | [], a, v, h => by rw [pu_nil] at h; injection h with h; subst h; rfl
  | d :: l, a, v, h => by
    rw [List.cons_append, pu_cons]
    rw [pu_cons] at h
    split at h
    · rename_i h1
      rw [if_pos h1]
      split at h
      · cases h
      · rename_i h2
        rw [if_neg h2]
        split at h
        · cases h
        · rename_i h3
          rw [if_neg h3]
          exact pu_snoc M c l _ v h
    · cases h
theorem pu_snoc_inv (M : Nat) (c : UInt8) : ∀ (l : List UInt8) (a u : Nat), Lib.parseUintM M a (l ++ [c]) = .ok u → ∃ v, Lib.parseUintM M a l = .ok v ∧ 48 ≤ c.toNat ∧ c.toNat ≤ 57 ∧ u = v * 10 + (c.toNat - 48)
  | [], a, u, h => by
    rw [List.nil_append, pu_cons] at h
    split at h
    · rename_i h1
      split at h
      · cases h
      · split at h
        · cases h
        · rw [pu_nil] at h; injection h with h; exact ⟨a, rfl, h1.1, h1.2, h.symm⟩
    · cases h
  | d :: l, a, u, h => by
    rw [List.cons_append, pu_cons] at h
    split at h
    · rename_i h1
      split at h
      · cases h
      · rename_i h2
        split at h
        · cases h
        · rename_i h3
          obtain ⟨v, e1, e2⟩ := pu_snoc_inv M c l _ u h
          refine ⟨v, ?_, e2⟩
          rw [pu_cons, if_pos h1, if_neg h2, if_neg h3]
          exact e1
    · cases h
theorem dd_small {u : Nat} (h : u < 10) : Lib.decDigits u = [UInt8.ofNat (48 + u)] := Lib.decDigits_one h
theorem dd_big {u : Nat} (h : ¬ u < 10) : Lib.decDigits u = Lib.decDigits (u / 10) ++ [UInt8.ofNat (48 + u % 10)] := by rw [Lib.decDigits, dif_neg h]
theorem dig_nat {d : Nat} (h : d < 10) : (UInt8.ofNat (48 + d)).toNat = 48 + d := by
  rw [UInt8.toNat_ofNat']
  omega
theorem dig_of {c : UInt8} (h1 : 48 ≤ c.toNat) : UInt8.ofNat (48 + (c.toNat - 48)) = c := by
  rw [show 48 + (c.toNat - 48) = c.toNat by omega, UInt8.ofNat_toNat]
theorem dd_ok : ∀ (u : Nat), u ≤ 9223372036854775808 → Lib.parseUintM MX 0 (Lib.decDigits u) = .ok u
  | u, h => by
    by_cases hs : u < 10
    · rw [dd_small hs, pu_cons, dig_nat hs, if_pos (by omega), if_neg (by decide), if_neg (by unfold MX; omega), pu_nil]
      congr 1; omega
    · have ih := dd_ok (u / 10) (by omega)
      rw [dd_big hs, pu_snoc _ _ _ _ _ ih, pu_cons, dig_nat (by omega), if_pos (by omega), if_neg (by omega), if_neg (by unfold MX; omega), pu_nil]
      congr 1; omega
termination_by u => u
decreasing_by omega
theorem dd_dig : ∀ (u : Nat), ∀ c ∈ Lib.decDigits u, 48 ≤ c.toNat ∧ c.toNat ≤ 57
  | u, c, hc => by
    by_cases hs : u < 10
    · rw [dd_small hs] at hc
      rw [List.mem_singleton.1 hc, dig_nat hs]; omega
    · rw [dd_big hs] at hc
      rcases List.mem_append.1 hc with hc | hc
      · exact dd_dig (u / 10) c hc
      · rw [List.mem_singleton.1 hc, dig_nat (show u % 10 < 10 by omega)]; omega
termination_by u => u
decreasing_by omega
theorem dd_ne (u : Nat) : Lib.decDigits u ≠ [] := by
  by_cases hs : u < 10
  · rw [dd_small hs]; simp
  · rw [dd_big hs]; simp
theorem dd_head : ∀ (u : Nat), u ≠ 0 → (Lib.decDigits u).getD 0 0 ≠ 48
  | u, h => by
    by_cases hs : u < 10
    · rw [dd_small hs]
      intro e
      have e : UInt8.ofNat (48 + u) = 48 := e
      have := congrArg UInt8.toNat e
      rw [dig_nat hs] at this
      have : 48 + u = 48 := this
      omega
    · rw [dd_big hs]
      have ih := dd_head (u / 10) (by omega)
      have hn := dd_ne (u / 10)
      cases hd : Lib.decDigits (u / 10) with
      | nil => exact absurd hd hn
      | cons a t => rw [hd] at ih; exact ih
termination_by u => u
decreasing_by omega
theorem dd_conv : ∀ (n : Nat) (r : List UInt8) (u : Nat), r.length = n → r ≠ [] → (r.getD 0 0 ≠ 48 ∨ r = [48]) → Lib.parseUintM MX 0 r = .ok u → Lib.decDigits u = r
  | 0, r, _, hl, hn, _, _ => absurd (List.eq_nil_of_length_eq_zero hl) hn
  | n + 1, r, u, hl, hn, hz, h => by
    obtain ⟨q, c, rfl⟩ : ∃ q c, r = q ++ [c] := ⟨r.dropLast, r.getLast hn, (List.dropLast_concat_getLast hn).symm⟩
    obtain ⟨v, e1, e2, e3, rfl⟩ := pu_snoc_inv MX c q 0 u h
    cases q with
    | nil =>
      rw [pu_nil] at e1
      injection e1 with e1
      subst e1
      rw [dd_small (by omega), show 48 + (0 * 10 + (c.toNat - 48)) = 48 + (c.toNat - 48) by omega, dig_of e2]
      rfl
    | cons a t =>
      have hq : (a :: t).getD 0 0 ≠ 48 := by
        rcases hz with hz | hz
        · exact hz
        · have := congrArg List.length hz; simp at this
      have ih := dd_conv n (a :: t) v (by simp at hl ⊢; omega) (by simp) (.inl hq) e1
      have hv : v ≠ 0 := fun hv => by
        subst hv
        rw [dd_small (by decide)] at ih
        injection ih with i1 _
        exact hq (by rw [← i1]; rfl)
      rw [dd_big (by omega), show (v * 10 + (c.toNat - 48)) / 10 = v by omega, show (v * 10 + (c.toNat - 48)) % 10 = c.toNat - 48 by omega, ih, dig_of e2]

theorem hp45 (s : List UInt8) : Lib.trimPrefix s [45] = if s.head? = some 45 then s.drop 1 else s := by
  cases s with
  | nil => rfl
  | cons a t =>
    by_cases h : a = 45
    · subst h; simp [Lib.trimPrefix, Lib.hasPrefix]
    · have : ¬ (45 == a) = true := by simpa using fun e : (45 : UInt8) = a => h e.symm
      simp [Lib.trimPrefix, Lib.hasPrefix, h]
      intro e; exact absurd e.symm h
theorem all_dig {l : List UInt8} : l.all isDig = true ↔ ∀ c ∈ l, 48 ≤ c.toNat ∧ c.toNat ≤ 57 := by
  rw [List.all_eq_true]
  refine forall_congr' fun c => forall_congr' fun _ => ?_
  unfold isDig
  simp only [Bool.and_eq_true, decide_eq_true_eq]
theorem pI_neg {r : List UInt8} {u : Nat} (h : Lib.parseUintM MX 0 r = .ok u) (hr : r ≠ []) (hu : u ≤ 9223372036854775808) : Lib.parseIntB 64 (45 :: r) = .ok (-(u : Int)) := by
  unfold Lib.parseIntB
  simp only [Lib.parseUintB]
  rw [if_pos (Or.inr (by decide)), if_neg hr]
  rw [show 2 ^ 64 - 1 = MX from rfl, h]
  simp
  omega
theorem pI_pos {c : UInt8} {r : List UInt8} {u : Nat} (hc : 48 ≤ c.toNat) (h : Lib.parseUintM MX 0 (c :: r) = .ok u) (hu : u < 9223372036854775808) : Lib.parseIntB 64 (c :: r) = .ok (u : Int) := by
  unfold Lib.parseIntB
  simp only [Lib.parseUintB]
  have h1 : ¬ (c.toNat = 43 ∨ c.toNat = 45) := by omega
  rw [if_neg h1, if_neg (by simp)]
  rw [show 2 ^ 64 - 1 = MX from rfl, h]
  have h2 : ¬ c.toNat = 45 := by omega
  simp [h2]
  omega
theorem intP_itoa {n : Int} (h0 : -9223372036854775808 ≤ n) (h1 : n ≤ 9223372036854775807) : intP (Lib.itoa n) = some n := by
  unfold intP
  rw [hp45]
  unfold Lib.itoa
  by_cases hn : n < 0
  · have hd := dd_ok n.natAbs (by omega)
    have hall : (Lib.decDigits n.natAbs).all isDig = true := all_dig.2 (dd_dig _)
    have hh := dd_head n.natAbs (by omega)
    rw [if_pos hn]
    simp only [List.head?_cons, if_true, List.drop_succ_cons, List.drop_zero]
    rw [if_neg (fun h => h.elim (fun h => dd_ne _ h) (fun h => hh h.1)), if_neg (by rw [hall]; decide), pI_neg hd (dd_ne _) (by omega)]
    show some (-(n.natAbs : Int)) = some n
    congr 1; omega
  · have hd := dd_ok n.toNat (by omega)
    have hall : (Lib.decDigits n.toNat).all isDig = true := all_dig.2 (dd_dig _)
    have hdg := dd_dig n.toNat
    rw [if_neg hn]
    have hne := dd_ne n.toNat
    cases hr : Lib.decDigits n.toNat with
    | nil => exact absurd hr hne
    | cons c r =>
      rw [hr] at hd hall hdg
      have hc := hdg c List.mem_cons_self
      have h45 : ¬ (c :: r).head? = some 45 := by
        simp only [List.head?_cons]
        intro e; injection e with e; rw [e] at hc; exact absurd hc.1 (by decide)
      rw [if_neg h45, if_neg ?_, if_neg (by rw [hall]; decide), pI_pos hc.1 hd (by omega)]
      · show some (n.toNat : Int) = some n
        congr 1; omega
      · rintro (h | ⟨h, h2⟩)
        · cases h
        · by_cases hz : n.toNat = 0
          · rw [hz, dd_small (by decide)] at hr
            exact h2 (by rw [← hr]; rfl)
          · have := dd_head n.toNat hz
            rw [hr] at this
            exact this h
theorem intP_conv {s : List UInt8} {n : Int} (h : intP s = some n) : Lib.itoa n = s ∧ -9223372036854775808 ≤ n ∧ n ≤ 9223372036854775807 ∧ s.head? ≠ some 34 := by
  unfold intP at h
  split at h
  · cases h
  · rename_i h1
    split at h
    · cases h
    · rename_i h2
      have h2 : (Lib.trimPrefix s [45]).all isDig = true := by cases hh : (Lib.trimPrefix s [45]).all isDig with
        | true => rfl
        | false => exact absurd hh h2
      rw [all_dig] at h2
      rw [hp45] at h1 h2
      cases s with
      | nil => exact absurd (Or.inl rfl) h1
      | cons c r =>
        by_cases hc : c = 45
        · subst hc
          simp only [List.head?_cons, if_true, List.drop_succ_cons, List.drop_zero] at h1 h2
          have hr : r ≠ [] := fun e => h1 (.inl e)
          have hz : r.getD 0 0 ≠ 48 := fun e => h1 (.inr ⟨e, by simp⟩)
          unfold Lib.parseIntB at h
          simp only [Lib.parseUintB] at h
          rw [if_pos (Or.inr (by decide)), if_neg hr, show 2 ^ 64 - 1 = MX from rfl] at h
          rcases hu : Lib.parseUintM MX 0 r with u | _ | _
          rotate_left
          · rw [hu] at h; cases h
          · rw [hu] at h; cases h
          ·
            rw [hu] at h
            have hdd := dd_conv _ r u rfl hr (.inl hz) hu
            have hu0 : u ≠ 0 := fun e => by
              subst e
              rw [dd_small (by decide)] at hdd
              exact hz (by rw [← hdd]; rfl)
            simp at h
            split at h
            · cases h
            · rename_i h3
              have h : some (-(u : Int)) = some n := h
              injection h with h
              refine ⟨?_, by omega, by omega, by simp⟩
              unfold Lib.itoa
              rw [if_pos (by omega), show n.natAbs = u by omega, hdd]
        · have hne : ¬ (c :: r).head? = some 45 := by simpa using hc
          rw [if_neg hne] at h1 h2
          have hcd := h2 c List.mem_cons_self
          have hz : (c :: r).getD 0 0 ≠ 48 ∨ (c :: r) = [48] := by
            by_cases e : (c :: r) = [48]
            · exact .inr e
            · exact .inl fun e2 => h1 (.inr ⟨e2, e⟩)
          unfold Lib.parseIntB at h
          simp only [Lib.parseUintB] at h
          have g1 : ¬ (c.toNat = 43 ∨ c.toNat = 45) := by omega
          have g2 : ¬ c.toNat = 45 := by omega
          rw [if_neg g1, if_neg (by simp), show 2 ^ 64 - 1 = MX from rfl] at h
          rcases hu : Lib.parseUintM MX 0 (c :: r) with u | _ | _
          rotate_left
          · rw [hu] at h; cases h
          · rw [hu] at h; cases h
          ·
            rw [hu] at h
            have hdd := dd_conv _ (c :: r) u rfl (by simp) hz hu
            simp [g2] at h
            split at h
            · cases h
            · rename_i h3
              have h : some (u : Int) = some n := h
              injection h with h
              refine ⟨?_, by omega, by omega, ?_⟩
              · unfold Lib.itoa
                rw [if_neg (by omega), show n.toNat = u by omega, hdd]
              · simp only [List.head?_cons]
                intro e; injection e with e; rw [e] at hcd; exact absurd hcd.1 (by decide)
end
section
def VInt (v : RL.V) : Prop := -9223372036854775808 ≤ v.int ∧ v.int ≤ 9223372036854775807
theorem validV_cases {v : RL.V} (h : RL.validV v = true) : (v.kind = 1 ∧ v.str = ⟨#[]⟩) ∨ (v.kind = 2 ∧ v.int = 0 ∧ v.str.size ≤ 24) := by
  unfold RL.validV at h
  simp only [Bool.or_eq_true, Bool.and_eq_true, decide_eq_true_eq] at h
  rcases h with ⟨h1, h2⟩ | ⟨⟨h1, h2⟩, h3⟩
  · refine .inl ⟨h1, ?_⟩
    have : v.str.data = #[] := Array.eq_empty_of_size_eq_zero h2
    cases hv : v.str with
    | mk d => rw [hv] at this; rw [← this]
  · exact .inr ⟨h1, h2, h3⟩
theorem itoa_chars {n : Int} {c : UInt8} (h : c ∈ Lib.itoa n) : c = 45 ∨ (48 ≤ c.toNat ∧ c.toNat ≤ 57) := by
  unfold Lib.itoa at h
  split at h
  · rcases List.mem_cons.1 h with h | h
    · exact .inl h
    · exact .inr (dd_dig _ c h)
  · exact .inr (dd_dig _ c h)
theorem itoa_ne (n : Int) : Lib.itoa n ≠ [] := by
  unfold Lib.itoa
  split
  · simp
  · exact dd_ne _
theorem itoa_no {n : Int} {c : UInt8} (h1 : c ≠ 45) (h2 : ¬ (48 ≤ c.toNat ∧ c.toNat ≤ 57)) : c ∉ Lib.itoa n := fun h => (itoa_chars h).elim h1 h2
theorem textV_int {v : RL.V} (h : RL.validV v = true) (hk : v.kind = 1) : textV v = Lib.itoa v.int := by unfold textV; rw [if_pos h, if_pos hk]
theorem textV_str {v : RL.V} (h : RL.validV v = true) (hk : v.kind = 2) : textV v = quoteL v.str.data.toList := by unfold textV; rw [if_pos h, if_neg (by omega)]
theorem strP_quote (l : List UInt8) (h : l.length ≤ 24) : strP (quoteL l) = some l := by
  unfold strP quoteL
  have hl : l.length ≤ (escL l).length := by
    clear h
    induction l with
    | nil => exact Nat.le_refl _
    | cons c t ih =>
      obtain ⟨a, u, e, -⟩ := esc_head c
      rw [escL_cons, List.length_append, e]
      simp only [List.length_cons]; omega
  have e : (34 :: (escL l ++ [34])).drop 1 = escL l ++ [34] := rfl
  rw [e, strGo_esc l _ [] (by simp only [List.length_cons, List.length_append, List.length_nil]; omega)]
  show (if ([] ++ l).length ≤ 24 then some ([] ++ l) else none) = some l
  rw [List.nil_append, if_pos h]
theorem strP_conv {s r : List UInt8} (hs : s.getD 0 0 = 34) (hn : s ≠ []) (h : strP s = some r) : s = quoteL r ∧ r.length ≤ 24 := by
  unfold strP at h
  cases hg : strGo (s.length + 1) (s.drop 1) [] with
  | none => rw [hg] at h; cases h
  | some out =>
    rw [hg] at h
    have h : (if out.length ≤ 24 then some out else none) = some r := h
    split at h
    · rename_i hl
      injection h with h
      subst h
      obtain ⟨m, e1, e2⟩ := strGo_conv _ _ _ _ hg
      rw [List.nil_append] at e2
      subst e2
      refine ⟨?_, hl⟩
      cases s with
      | nil => exact absurd rfl hn
      | cons a t =>
        have : a = 34 := hs
        subst this
        unfold quoteL
        rw [← e1]; rfl
    · cases h
theorem parseV_text {v : RL.V} (h : RL.validV v = true) (hf : VInt v) : parseV (textV v) = some v := by
  rcases validV_cases h with ⟨hk, hs⟩ | ⟨hk, hi, hs⟩
  · rw [textV_int h hk]
    unfold parseV
    have hh : ¬ (Lib.itoa v.int).getD 0 0 = 34 := by
      cases hr : Lib.itoa v.int with
      | nil => exact absurd hr (itoa_ne _)
      | cons c r =>
        intro e
        have e : c = 34 := e
        have : c ∈ Lib.itoa v.int := by rw [hr]; exact List.mem_cons_self
        exact itoa_no (by rw [e]; decide) (by rw [e]; decide) this
    rw [if_neg (itoa_ne _), if_neg hh, intP_itoa hf.1 hf.2]
    show some (⟨1, v.int, ⟨#[]⟩⟩ : RL.V) = some v
    cases v; simp_all
  · rw [textV_str h hk]
    unfold parseV
    rw [if_neg (by unfold quoteL; simp), if_pos (by rfl), strP_quote _ (by rw [← Lib.size_eq]; exact hs)]
    show some (⟨2, 0, ⟨v.str.data.toList.toArray⟩⟩ : RL.V) = some v
    rw [Lib.mk_data]
    cases v; simp_all
theorem parseV_conv {s : List UInt8} {v : RL.V} (h : parseV s = some v) : textV v = s ∧ RL.validV v = true ∧ VInt v := by
  unfold parseV at h
  split at h
  · cases h
  · rename_i hn
    split at h
    · rename_i h34
      cases hp : strP s with
      | none => rw [hp] at h; cases h
      | some r =>
        rw [hp] at h
        injection h with h
        obtain ⟨e1, e2⟩ := strP_conv h34 hn hp
        have hv : RL.validV v = true := by
          rw [← h]
          unfold RL.validV
          simp only [Bool.or_eq_true, Bool.and_eq_true, decide_eq_true_eq]
          refine .inr ⟨⟨?_, ?_⟩, ?_⟩
          · first | rfl | trivial
          · first | rfl | trivial
          · show r.toArray.size ≤ 24; simpa using e2
        refine ⟨?_, hv, ?_⟩
        · rw [textV_str hv (by rw [← h]), ← h, e1]
        · rw [← h]; exact ⟨by show (-9223372036854775808 : Int) ≤ 0; omega, by show (0 : Int) ≤ 9223372036854775807; omega⟩
    · cases hp : intP s with
      | none => rw [hp] at h; cases h
      | some n =>
        rw [hp] at h
        injection h with h
        obtain ⟨e1, e2, e3, -⟩ := intP_conv hp
        have hv : RL.validV v = true := by rw [← h]; rfl
        refine ⟨?_, hv, ?_⟩
        · rw [textV_int hv (by rw [← h]), ← h, ← e1]
        · rw [← h]; exact ⟨e2, e3⟩
theorem textV_ne {v : RL.V} (h : RL.validV v = true) : textV v ≠ [] := by
  rcases validV_cases h with ⟨hk, -⟩ | ⟨hk, -⟩
  · rw [textV_int h hk]; exact itoa_ne _
  · rw [textV_str h hk]; unfold quoteL; simp
theorem textV_no10 {v : RL.V} (h : RL.validV v = true) : (10 : UInt8) ∉ textV v := by
  rcases validV_cases h with ⟨hk, -⟩ | ⟨hk, -⟩
  · rw [textV_int h hk]; exact itoa_no (by decide) (by decide)
  · rw [textV_str h hk]
    unfold quoteL
    intro e
    rcases List.mem_cons.1 e with e | e
    · exact absurd e (by decide)
    · rcases List.mem_append.1 e with e | e
      · unfold escL at e
        obtain ⟨c, -, hc⟩ := List.mem_flatMap.1 e
        exact esc_no10 c hc
      · simp at e
theorem litL_text {v : RL.V} (h : RL.validV v = true) {rest : List UInt8} (hr : rest = [] ∨ ∃ t, rest = 44 :: t) : litL (textV v ++ rest) = (textV v).length := by
  rcases validV_cases h with ⟨hk, -⟩ | ⟨hk, -⟩
  · rw [textV_int h hk]
    have hno : (44 : UInt8) ∉ Lib.itoa v.int := itoa_no (by decide) (by decide)
    have hh : ¬ (Lib.itoa v.int ++ rest).head? = some 34 := by
      cases hr : Lib.itoa v.int with
      | nil => exact absurd hr (itoa_ne _)
      | cons c r =>
        intro e
        have e : some c = some 34 := e
        injection e with e
        have : c ∈ Lib.itoa v.int := by rw [hr]; exact List.mem_cons_self
        exact itoa_no (by rw [e]; decide) (by rw [e]; decide) this
    unfold litL
    rw [if_neg hh]
    rcases hr with rfl | ⟨t, rfl⟩
    · rw [List.append_nil, ib_none hno, if_neg (by decide)]
    · rw [ib_at hno, if_pos (by omega)]; omega
  · rw [textV_str h hk]
    unfold litL quoteL
    have e : (34 :: (escL v.str.data.toList ++ [34]) ++ rest) = 34 :: (escL v.str.data.toList ++ 34 :: rest) := by simp
    rw [e, if_pos (by rfl), List.drop_succ_cons, List.drop_zero, litQ_escL]
    simp only [List.length_cons, List.length_append, List.length_nil]
    omega
def AllV (x : RL.R) : Prop := ∀ v ∈ x, RL.validV v = true ∧ VInt v
def tailV (t : List RL.V) : List UInt8 := t.flatMap fun u => 44 :: 32 :: textV u
theorem commaV_cons (v : RL.V) (t : List RL.V) : commaV (v :: t) = textV v ++ tailV t := rfl
theorem tailV_form (t : List RL.V) : tailV t = [] ∨ ∃ u, tailV t = 44 :: u := by
  cases t with
  | nil => exact .inl rfl
  | cons a t => exact .inr ⟨_, rfl⟩
theorem rowGo_text : ∀ (t : List RL.V) (v : RL.V) (f : Nat) (out : RL.R), t.length < f → AllV (v :: t) → rowGo f (commaV (v :: t)) out = some (out ++ v :: t)
  | t, v, 0, _, h, _ => by simp at h
  | t, v, f + 1, out, h, hv => by
    have h1 := (hv v List.mem_cons_self)
    rw [commaV_cons]
    unfold rowGo
    rw [litL_text h1.1 (tailV_form t), List.take_left, List.drop_left, parseV_text h1.1 h1.2]
    cases t with
    | nil => rfl
    | cons u t =>
      have e : tailV (u :: t) = 44 :: 32 :: commaV (u :: t) := rfl
      rw [e]
      show (if (44 :: 32 :: commaV (u :: t)) = [] then _ else if Lib.hasPrefix (44 :: 32 :: commaV (u :: t)) [44, 32] then rowGo f (commaV (u :: t)) (out ++ [v]) else none) = _
      rw [if_neg (by simp), if_pos (by simp [Lib.hasPrefix]), rowGo_text t u f _ (by simp at h; omega) fun x hx => hv x (List.mem_cons_of_mem _ hx)]
      simp
theorem rowGo_conv : ∀ (f : Nat) (rest : List UInt8) (out r : RL.R), rowGo f rest out = some r → ∃ v t, r = out ++ v :: t ∧ rest = commaV (v :: t) ∧ AllV (v :: t)
  | 0, _, _, _, h => by cases h
  | f + 1, rest, out, r, h => by
    unfold rowGo at h
    cases hp : parseV (rest.take (litL rest)) with
    | none => rw [hp] at h; cases h
    | some v =>
      rw [hp] at h
      obtain ⟨e1, e2, e3⟩ := parseV_conv hp
      have hrest : rest = textV v ++ rest.drop (litL rest) := by rw [e1, List.take_append_drop]
      have h : (if rest.drop (litL rest) = [] then some (out ++ [v]) else if Lib.hasPrefix (rest.drop (litL rest)) [44, 32] = true then rowGo f ((rest.drop (litL rest)).drop 2) (out ++ [v]) else none) = some r := h
      generalize rest.drop (litL rest) = d at h hrest
      split at h
      · rename_i hd
        injection h with h
        subst hd
        refine ⟨v, [], h.symm, (by rw [hrest]; rfl), fun x hx => ?_⟩
        simp at hx; subst hx; exact ⟨e2, e3⟩
      · split at h
        · rename_i hpre
          obtain ⟨u, t, q1, q2, q3⟩ := rowGo_conv f _ _ _ h
          refine ⟨v, u :: t, by rw [q1]; simp, ?_, fun x hx => ?_⟩
          · have hd : d = 44 :: 32 :: d.drop 2 := by
              obtain ⟨z, hz⟩ := List.isPrefixOf_iff_prefix.1 (show [44, 32].isPrefixOf d = true from hpre)
              rw [← hz]; rfl
            rw [hrest, hd, q2]; rfl
          · rcases List.mem_cons.1 hx with rfl | hx
            · exact ⟨e2, e3⟩
            · exact q3 x hx
        · cases h
theorem commaV_len0 : ∀ {t : List RL.V} {v : RL.V}, AllV (v :: t) → t.length < (commaV (v :: t)).length
  | t, v, h => by
    have h1 := List.length_pos_iff.2 (textV_ne (h v List.mem_cons_self).1)
    have h2 : t.length ≤ (tailV t).length := by
      clear h h1
      induction t with
      | nil => exact Nat.le_refl _
      | cons u t ih => simp only [tailV, List.flatMap_cons, List.length_append, List.length_cons] at *; omega
    rw [commaV_cons, List.length_append]
    omega
theorem parseR_text {x : RL.R} (h : AllV x) : parseR (textR x) = some x := by
  cases x with
  | nil => rfl
  | cons v t =>
    have hl := commaV_len0 h
    unfold textR
    generalize hc : commaV (v :: t) = c at *
    have hlen : (40 :: (c ++ [41])).length = c.length + 2 := by simp
    unfold parseR
    have h0 : ¬ (40 :: (c ++ [41])) = [40, 41] := fun e => by
      have := congrArg List.length e
      rw [hlen] at this
      simp at this
      rw [this] at hl
      simp at hl
    have h1 : (40 :: (c ++ [41])).getD ((40 :: (c ++ [41])).length - 1) 0 = 41 := by
      rw [hlen, show c.length + 2 - 1 = c.length + 1 by omega, List.getD_cons_succ]
      simp
    rw [if_neg h0, if_neg ?_, hlen]
    · have e : ((40 :: (c ++ [41])).drop 1).take (c.length + 2 - 2) = c := by simp
      rw [e, ← hc, rowGo_text t v _ [] (by rw [hc]; omega) h]
      rfl
    · rw [h1, hlen]
      rintro (h | h | h)
      · omega
      · exact h rfl
      · exact h rfl
theorem parseR_conv {s : List UInt8} {x : RL.R} (h : parseR s = some x) : textR x = s ∧ AllV x := by
  unfold parseR at h
  split at h
  · rename_i hs
    injection h with h
    subst h
    exact ⟨hs.symm, fun v hv => (by cases hv)⟩
  · split at h
    · cases h
    · rename_i hc
      obtain ⟨v, t, e1, e2, e3⟩ := rowGo_conv _ _ _ _ h
      rw [List.nil_append] at e1
      subst e1
      refine ⟨?_, e3⟩
      unfold textR
      rw [← e2]
      simp only [not_or, Decidable.not_not] at hc
      obtain ⟨c1, c2, c3⟩ := hc
      cases s with
      | nil => simp at c1
      | cons a s =>
        have c2 : a = 40 := c2
        subst c2
        have hs : s ≠ [] := fun e => by subst e; simp at c1
        have c3 : s.getLast hs = 41 := by
          have : (40 :: s).getD ((40 :: s).length - 1) 0 = s.getLast hs := by
            rw [List.length_cons, Nat.add_sub_cancel]
            have hl := List.length_pos_iff.2 hs
            obtain ⟨m, hm⟩ : ∃ m, s.length = m + 1 := ⟨s.length - 1, by omega⟩
            rw [hm, List.getD_cons_succ, List.getLast_eq_getElem, List.getD_eq_getElem?_getD, List.getElem?_eq_getElem (by omega)]
            simp [hm]
          rw [← this]; exact c3
        have e : ((40 :: s).drop 1).take ((40 :: s).length - 2) = s.dropLast := by
          rw [List.dropLast_eq_take]; simp
        rw [e, ← c3, List.dropLast_concat_getLast hs]
theorem textR_no10 {x : RL.R} (h : AllV x) : (10 : UInt8) ∉ textR x := by
  unfold textR
  intro e
  rcases List.mem_cons.1 e with e | e
  · exact absurd e (by decide)
  · rcases List.mem_append.1 e with e | e
    · cases x with
      | nil => cases e
      | cons v t =>
        rw [commaV_cons] at e
        rcases List.mem_append.1 e with e | e
        · exact textV_no10 (h v List.mem_cons_self).1 e
        · obtain ⟨u, hu, hc⟩ := List.mem_flatMap.1 e
          rcases List.mem_cons.1 hc with hc | hc
          · exact absurd hc (by decide)
          · rcases List.mem_cons.1 hc with hc | hc
            · exact absurd hc (by decide)
            · exact textV_no10 (h u (List.mem_cons_of_mem _ hu)).1 hc
    · simp at e
end
section
theorem sk_none {w : List UInt8} (h : (32 : UInt8) ∉ w) (k : Nat) : Lib.splitK [32] 0 k w = [w] := by
  cases k with
  | zero => rfl
  | succ k => unfold Lib.splitK; rw [Lib.index_one, ib_none h]; rfl
theorem sk_at {w t : List UInt8} (h : (32 : UInt8) ∉ w) (k : Nat) : Lib.splitK [32] 0 (k + 1) (w ++ 32 :: t) = w :: Lib.splitK [32] 0 k t := by
  have e : (w ++ 32 :: t).drop (w.length + 1) = t := by
    rw [← List.drop_drop, List.drop_left]; rfl
  rw [Lib.splitK, Lib.index_one, ib_at h, if_neg (by simp)]
  show (w ++ 32 :: t).take (w.length + 0) :: Lib.splitK [32] 0 k ((w ++ 32 :: t).drop (w.length + 1)) = _
  rw [e, Nat.add_zero, List.take_left]
theorem words_text : ∀ (ws : List (List UInt8)) (w : List UInt8) (k : Nat), (32 : UInt8) ∉ w → (∀ u ∈ ws, (32 : UInt8) ∉ u) → ws.length ≤ k → Lib.splitK [32] 0 k (w ++ ws.flatMap (32 :: ·)) = w :: ws
  | [], w, k, h, _, _ => by rw [List.flatMap_nil, List.append_nil, sk_none h]
  | u :: ws, w, 0, _, _, hk => by simp at hk
  | u :: ws, w, k + 1, h, hw, hk => by
    rw [List.flatMap_cons, List.cons_append, sk_at h, words_text ws u k (hw u List.mem_cons_self) (fun x hx => hw x (List.mem_cons_of_mem _ hx)) (by simp at hk; omega)]
theorem words_conv : ∀ (k : Nat) (l : List UInt8), ∃ w ws, Lib.splitK [32] 0 k l = w :: ws ∧ l = w ++ ws.flatMap (32 :: ·)
  | 0, l => ⟨l, [], rfl, by simp⟩
  | k + 1, l => by
    rcases Int.lt_or_le (Lib.indexByte l 32) 0 with h | h
    · exact ⟨l, [], sk_none (ib_neg h) _, by simp⟩
    · obtain ⟨n, hn⟩ := Int.eq_ofNat_of_zero_le h
      obtain ⟨e1, e2⟩ := ib_split hn
      obtain ⟨w, ws, q1, q2⟩ := words_conv k (l.drop (n + 1))
      refine ⟨l.take n, w :: ws, ?_, ?_⟩
      · rw [← q1]
        conv => lhs; rw [e1]
        rw [sk_at e2]
      · rw [List.flatMap_cons, List.cons_append, ← q2]; exact e1
theorem wordsP_data (l : List UInt8) : (wordsP l).map (·.data.toList) = Lib.splitK [32] 0 (Lib.count l [32]) l := Lib.splitB_data ⟨#[32]⟩ 0 _ (toB l)
theorem data_inj {a b : ByteArray} (h : a.data.toList = b.data.toList) : a = b := by rw [← Lib.mk_data a, ← Lib.mk_data b, h]
theorem map_data_inj : ∀ {a b : List ByteArray}, a.map (·.data.toList) = b.map (·.data.toList) → a = b
  | [], [], _ => rfl
  | [], _ :: _, h => by simp at h
  | _ :: _, [], h => by simp at h
  | x :: a, y :: b, h => by
    injection h with h1 h2
    rw [data_inj h1, map_data_inj h2]
theorem toB_data (s : ByteArray) : toB s.data.toList = s := Lib.mk_data s

def kwL (k : Int) : List UInt8 := if k = 1 then [105, 110, 116] else [115, 116, 114]
theorem kindW_eq (k : Int) : kindW k = 32 :: kwL k := by unfold kindW kwL; split <;> rfl
theorem kwL_no (k : Int) : (32 : UInt8) ∉ kwL k ∧ (10 : UInt8) ∉ kwL k := by unfold kwL; split <;> decide
theorem kindP_kw {k : Int} (h : k = 1 ∨ k = 2) : kindP (toB (kwL k)) = some k := by
  rcases h with rfl | rfl <;> decide
theorem kindsP_kw : ∀ {ks : List Int}, (∀ k ∈ ks, k = 1 ∨ k = 2) → kindsP (ks.map fun k => toB (kwL k)) = some ks
  | [], _ => rfl
  | k :: ks, h => by
    rw [List.map_cons]
    unfold kindsP
    rw [kindP_kw (h k List.mem_cons_self), kindsP_kw fun x hx => h x (List.mem_cons_of_mem _ hx)]
    rfl
theorem kindP_conv {w : ByteArray} {k : Int} (h : kindP w = some k) : (k = 1 ∨ k = 2) ∧ w = toB (kwL k) := by
  unfold kindP at h
  split at h
  · rename_i hw
    injection h with h
    subst h
    exact ⟨.inl rfl, hw⟩
  · split at h
    · rename_i hw
      injection h with h
      subst h
      exact ⟨.inr rfl, hw⟩
    · cases h
theorem kindsP_conv : ∀ {ws : List ByteArray} {ks : List Int}, kindsP ws = some ks → (∀ k ∈ ks, k = 1 ∨ k = 2) ∧ ws = ks.map fun k => toB (kwL k)
  | [], ks, h => by
    have h : some ([] : List Int) = some ks := h
    injection h with h
    subst h
    exact ⟨fun k hk => (by cases hk), rfl⟩
  | w :: ws, ks, h => by
    unfold kindsP at h
    cases hk : kindP w with
    | none => rw [hk] at h; cases h
    | some k =>
      rw [hk] at h
      cases hs : kindsP ws with
      | none => rw [hs] at h; cases h
      | some ks' =>
        rw [hs] at h
        have h : some (k :: ks') = some ks := h
        injection h with h
        subst h
        obtain ⟨a1, a2⟩ := kindP_conv hk
        obtain ⟨b1, b2⟩ := kindsP_conv hs
        refine ⟨fun x hx => ?_, by rw [List.map_cons, ← a2, ← b2]⟩
        rcases List.mem_cons.1 hx with rfl | hx
        · exact a1
        · exact b1 x hx
def hdrL (nm : ByteArray) (ks : List Int) : List UInt8 := nm.data.toList ++ ks.flatMap kindW
theorem hdrL_eq (nm : ByteArray) (ks : List Int) : hdrL nm ks = nm.data.toList ++ (ks.map kwL).flatMap (32 :: ·) := by
  unfold hdrL
  congr 1
  induction ks with
  | nil => rfl
  | cons k t ih => rw [List.flatMap_cons, List.map_cons, List.flatMap_cons, kindW_eq, ih]
theorem count_flat (ws : List (List UInt8)) : ws.length ≤ (ws.flatMap fun u => (32 : UInt8) :: u).count 32 := by
  induction ws with
  | nil => exact Nat.le_refl _
  | cons u t ih => rw [List.flatMap_cons, List.count_append, List.count_cons_self, List.length_cons]; omega
theorem words_hdr {nm : ByteArray} {ks : List Int} (h : (32 : UInt8) ∉ nm.data.toList) : wordsP (hdrL nm ks) = nm :: ks.map fun k => toB (kwL k) := by
  apply map_data_inj
  rw [wordsP_data, hdrL_eq, words_text]
  · rw [List.map_cons, List.map_map]; rfl
  · exact h
  · intro u hu
    obtain ⟨k, -, rfl⟩ := List.mem_map.1 hu
    exact (kwL_no k).1
  · rw [Lib.count_one, List.count_append]
    have := count_flat (ks.map kwL)
    omega
theorem words_back {l : List UInt8} {ks : List Int} (h : kindsP ((wordsP l).drop 1) = some ks) : l = hdrL ((wordsP l).headD ⟨#[]⟩) ks ∧ ∀ k ∈ ks, k = 1 ∨ k = 2 := by
  obtain ⟨w, ws, e1, e2⟩ := words_conv (Lib.count l [32]) l
  have hd := wordsP_data l
  rw [e1] at hd
  cases hw : wordsP l with
  | nil => rw [hw] at hd; cases hd
  | cons x t =>
    rw [hw] at hd h
    injection hd with h1 h2
    obtain ⟨k1, k2⟩ := kindsP_conv h
    refine ⟨?_, k1⟩
    have k2 : t = ks.map fun k => toB (kwL k) := k2
    show l = hdrL x ks
    have h1 : x.data.toList = w := h1
    rw [hdrL_eq, h1, e2]
    congr 2
    rw [← h2, k2, List.map_map]
    rfl
theorem name_chars {s : ByteArray} (h : nameF s = true) : ∀ c ∈ s.data.toList, c ≠ 32 ∧ c ≠ 10 := by
  unfold nameF at h
  simp only [Bool.and_eq_true, List.all_eq_true, List.mem_range] at h
  intro c hc
  obtain ⟨i, hi, rfl⟩ := List.getElem_of_mem hc
  have hi2 : i < s.size := by rw [Lib.size_eq]; exact hi
  have hg := h.2 i hi2
  unfold byteN at hg
  rw [dif_pos hi2] at hg
  have e : s[i] = s.data.toList[i] := rfl
  rw [e] at hg
  generalize s.data.toList[i] = c at hg
  refine ⟨fun e => ?_, fun e => ?_⟩
  · subst e
    have : goodB i (32 : UInt8).toNat = false := by unfold goodB; simp [letterB]
    rw [this] at hg; cases hg
  · subst e
    have : goodB i (10 : UInt8).toNat = false := by unfold goodB; simp [letterB]
    rw [this] at hg; cases hg
theorem name_no32 {s : ByteArray} (h : nameF s = true) : (32 : UInt8) ∉ s.data.toList := fun e => (name_chars h _ e).1 rfl
theorem name_no10 {s : ByteArray} (h : nameF s = true) : (10 : UInt8) ∉ s.data.toList := fun e => (name_chars h _ e).2 rfl
theorem cut_at {l t : List UInt8} (h : (10 : UInt8) ∉ l) : Lib.cut (l ++ 10 :: t) [10] = (l, t, true) := by
  have e : (l ++ 10 :: t).drop (l.length + 1) = t := by
    rw [← List.drop_drop, List.drop_left]; rfl
  unfold Lib.cut
  rw [Lib.index_one, ib_at h, if_pos (by omega)]
  show ((l ++ 10 :: t).take l.length, (l ++ 10 :: t).drop (l.length + 1), true) = _
  rw [e, List.take_left]
theorem cut_conv {s : List UInt8} : (∃ l t, s = l ++ 10 :: t ∧ (10 : UInt8) ∉ l ∧ Lib.cut s [10] = (l, t, true)) ∨ ((10 : UInt8) ∉ s ∧ Lib.cut s [10] = (s, [], false)) := by
  rcases Int.lt_or_le (Lib.indexByte s 10) 0 with h | h
  · refine .inr ⟨ib_neg h, ?_⟩
    unfold Lib.cut
    rw [Lib.index_one, if_neg (by omega)]
  · obtain ⟨n, hn⟩ := Int.eq_ofNat_of_zero_le h
    obtain ⟨e1, e2⟩ := ib_split hn
    exact .inl ⟨_, _, e1, e2, by conv => lhs; rw [e1]
                                 rw [cut_at e2]⟩
end
section
def textL (S : Sch) (F : Cont) : List UInt8 := S.flatMap fun p => textRel p.1 p.2 (F p.1)
theorem textRel_eq (nm : ByteArray) (ks : List Int) (X : List RL.R) : textRel nm ks X = (relW ++ hdrL nm ks) ++ 10 :: rowsW X := by
  unfold textRel hdrL
  simp [List.append_assoc]
theorem textL_D {S : Sch} {F : Cont} (hnd : (S.map Prod.fst).Nodup) : textD S F (S.map Prod.fst) = textL S F := by
  unfold textD textL
  rw [List.flatMap_map]
  rw [List.flatMap_def, List.flatMap_def, List.map_congr_left]
  intro p hp
  rw [kindsOf_mem hnd hp]
theorem asc_snoc {l : List ByteArray} {p s : ByteArray} (h : l.Pairwise fun a b => RL.cmpS a b < 0) (hl : l.getLast? = some p) (hp : RL.cmpS p s < 0) : (l ++ [s]).Pairwise fun a b => RL.cmpS a b < 0 := by
  rw [List.pairwise_append]
  refine ⟨h, List.pairwise_singleton _ _, fun a ha b hb => ?_⟩
  rw [List.mem_singleton.1 hb]
  obtain ⟨q, rfl⟩ : ∃ q, l = q ++ [p] := by
    have hn : l ≠ [] := fun e => by rw [e] at hl; cases hl
    rw [List.getLast?_eq_some_getLast hn] at hl
    injection hl with hl
    exact ⟨l.dropLast, by rw [← hl, List.dropLast_concat_getLast]⟩
  rcases List.mem_append.1 ha with ha | ha
  · exact RL.tot_cmpS.tr _ _ _ ((List.pairwise_append.1 h).2.2 a ha p (List.mem_singleton.2 rfl)) hp
  · rw [List.mem_singleton.1 ha]; exact hp
theorem find_at {S : Sch} (hnd : (S.map Prod.fst).Nodup) {p : ByteArray × List Int} (hp : p ∈ S) : S.find? (fun q => decide (q.1 = p.1)) = some p := by
  cases hf : S.find? (fun q => decide (q.1 = p.1)) with
  | none => exact absurd (List.find?_eq_none.1 hf p hp) (by simp)
  | some q =>
    have h1 := List.mem_of_find?_eq_some hf
    have h2 : q.1 = p.1 := by have := List.find?_some hf; simpa using this
    have hk := kindsOf_mem hnd h1
    have hk2 := kindsOf_mem hnd hp
    rw [h2, hk2] at hk
    congr 1
    exact Prod.ext h2 hk.symm
theorem checkF_at {S : Sch} (hnd : (S.map Prod.fst).Nodup) {p : ByteArray × List Int} (hp : p ∈ S) (x : RL.R) : checkF S p.1 x = checkE p.2 x := by
  unfold checkF; rw [find_at hnd hp]
theorem errSchs_app : ∀ (S T : Sch) (seen : List ByteArray), errSchs seen (S ++ T) = if errSchs seen S = 0 then errSchs (seen ++ S.map Prod.fst) T else errSchs seen S
  | [], T, seen => by simp [errSchs]
  | p :: S, T, seen => by
    show (if errSch seen p = 0 then errSchs (seen ++ [p.1]) (S ++ T) else errSch seen p) = if (if errSch seen p = 0 then errSchs (seen ++ [p.1]) S else errSch seen p) = 0 then errSchs (seen ++ p.1 :: S.map Prod.fst) T else (if errSch seen p = 0 then errSchs (seen ++ [p.1]) S else errSch seen p)
    by_cases hp : errSch seen p = 0
    · simp only [if_pos hp]
      rw [errSchs_app S T, List.append_assoc]
      rfl
    · simp only [if_neg hp]
theorem errS_pre {S T : Sch} (h : errS (S ++ T) = 0) : errS S = 0 := by
  unfold errS at h ⊢
  split at h
  · cases h
  · rename_i hl
    rw [List.length_append] at hl
    rw [if_neg (by omega)]
    rw [errSchs_app] at h
    split at h
    · assumption
    · exact h
theorem errS_mem {S : Sch} (h : errS S = 0) : S.length ≤ 16 ∧ (S.map Prod.fst).Nodup ∧ ∀ p ∈ S, nameF p.1 = true ∧ p.2.length ≤ 6 ∧ ∀ k ∈ p.2, k = 1 ∨ k = 2 := by
  unfold errS at h
  split at h
  · cases h
  · rename_i hl
    have key : ∀ (S : Sch) (seen : List ByteArray), errSchs seen S = 0 → (∀ p ∈ S, p.1 ∉ seen) ∧ (S.map Prod.fst).Nodup ∧ ∀ p ∈ S, nameF p.1 = true ∧ p.2.length ≤ 6 ∧ ∀ k ∈ p.2, k = 1 ∨ k = 2 := by
      intro S
      induction S with
      | nil => intro seen _; exact ⟨fun p hp => (by cases hp), List.nodup_nil, fun p hp => (by cases hp)⟩
      | cons p S ih =>
        intro seen h
        unfold errSchs at h
        split at h
        · rename_i he
          obtain ⟨i1, i2, i3⟩ := ih _ h
          unfold errSch at he
          split at he
          · cases he
          · rename_i h1
            split at he
            · cases he
            · rename_i h2
              split at he
              · cases he
              · rename_i h3
                split at he
                · cases he
                · rename_i h4
                  refine ⟨fun q hq => ?_, ?_, fun q hq => ?_⟩
                  · rcases List.mem_cons.1 hq with rfl | hq
                    · exact memB_no (by simpa using h2)
                    · exact fun e => i1 q hq (List.mem_append.2 (.inl e))
                  · rw [List.map_cons, List.nodup_cons]
                    refine ⟨fun e => ?_, i2⟩
                    obtain ⟨q, hq, e2⟩ := List.mem_map.1 e
                    exact i1 q hq (List.mem_append.2 (.inr (by rw [e2]; exact List.mem_singleton.2 rfl)))
                  · rcases List.mem_cons.1 hq with rfl | hq
                    · refine ⟨by simpa using h1, by omega, fun k hk => ?_⟩
                      by_cases a : k = 1
                      · exact .inl a
                      · by_cases b : k = 2
                        · exact .inr b
                        · exact absurd ⟨k, hk, a, b⟩ h4
                    · exact i3 q hq
        · rename_i he
          exact absurd h he
    obtain ⟨-, k2, k3⟩ := key S [] h
    exact ⟨by omega, k2, k3⟩

theorem closeRd_S (r : Rd) : (closeRd r).S = r.S := by unfold closeRd; split <;> rfl
theorem closeRd_line (r : Rd) : (closeRd r).line = r.line := by unfold closeRd; split <;> rfl
theorem closeRd_some {r : Rd} {p : ByteArray × List Int} (h : r.S.getLast? = some p) : closeRd r = { r with F := updC r.F p.1 r.X, X := [] } := by unfold closeRd; rw [h]
theorem closeRd_none {r : Rd} (h : r.S = []) : closeRd r = r := by unfold closeRd; rw [h]; rfl
theorem hp_rel (nm : ByteArray) (ks : List Int) : Lib.hasPrefix (relW ++ hdrL nm ks) relW = true := List.isPrefixOf_iff_prefix.2 ⟨_, rfl⟩
theorem hp_rel_conv {l : List UInt8} (h : Lib.hasPrefix l relW = true) : l = relW ++ l.drop 9 := by
  obtain ⟨z, hz⟩ := List.isPrefixOf_iff_prefix.1 (show relW.isPrefixOf l = true from h)
  rw [← hz]; rfl
theorem hdr_no10 {nm : ByteArray} {ks : List Int} (h : nameF nm = true) : (10 : UInt8) ∉ relW ++ hdrL nm ks := by
  intro e
  rcases List.mem_append.1 e with e | e
  · revert e; decide
  · unfold hdrL at e
    rcases List.mem_append.1 e with e | e
    · exact name_no10 h e
    · obtain ⟨k, -, hk⟩ := List.mem_flatMap.1 e
      rw [kindW_eq] at hk
      rcases List.mem_cons.1 hk with hk | hk
      · exact absurd hk (by decide)
      · exact (kwL_no k).2 hk
theorem go_line (f : Nat) (r : Rd) (l t : List UInt8) (h : (10 : UInt8) ∉ l) : parseGo (f + 1) r (l ++ 10 :: t) = if (lineRd r l true).1 = 0 then parseGo f (lineRd r l true).2 t else lineRd r l true := by
  rw [parseGo, if_neg (by simp), cut_at h]
theorem line_row {r : Rd} {x : RL.R} {S0 : Sch} {p : ByteArray × List Int} (hS : r.S = S0 ++ [p]) (hnd : (r.S.map Prod.fst).Nodup) (hx : AllV x) (hc : checkE p.2 x = 0) (hl : r.X.length < 4096) (hss : ∀ y, r.X.getLast? = some y → RL.cmpR y x < 0) :
    lineRd r (textR x) true = (0, { r with line := r.line + 1, X := r.X ++ [x] }) := by
  have hp1 : Lib.hasPrefix (textR x) relW = false := rfl
  have hp2 : Lib.hasPrefix (textR x) [40] = true := rfl
  have hS2 : r.S.isEmpty = false := by rw [hS]; simp
  unfold lineRd
  rw [hp1, hp2, hS2]
  show rowRd { r with line := r.line + 1 } (textR x) = _
  unfold rowRd
  rw [parseR_text hx]
  have hlast : (r.S.getLastD (⟨#[]⟩, [])) = p := by rw [hS]; simp
  have hcf : checkF r.S p.1 x = 0 := by rw [checkF_at hnd (by rw [hS]; simp)]; exact hc
  show (if checkF r.S (r.S.getLastD (⟨#[]⟩, [])).1 x ≠ 0 then _ else _) = _
  rw [hlast, hcf, if_neg (by simp), if_neg (by show ¬ 4096 ≤ r.X.length; omega), if_neg]
  cases hg : r.X.getLast? with
  | none => simp
  | some y => have := hss y hg; simp only [decide_eq_true_eq]; omega
theorem go_rows : ∀ (X : List RL.R) (f : Nat) (r : Rd) (t : List UInt8) (S0 : Sch) (p : ByteArray × List Int), r.S = S0 ++ [p] → (r.S.map Prod.fst).Nodup → (∀ x ∈ X, AllV x ∧ checkE p.2 x = 0) → RL.SS (r.X ++ X) → (r.X ++ X).length ≤ 4096 →
    parseGo (f + X.length) r (rowsW X ++ t) = parseGo f { r with line := r.line + X.length, X := r.X ++ X } t
  | [], f, r, t, _, _, _, _, _, _, _ => by simp [rowsW]
  | x :: X, f, r, t, S0, p, hS, hnd, hx, hss, hl => by
    have h1 := hx x List.mem_cons_self
    have e : rowsW (x :: X) ++ t = textR x ++ 10 :: (rowsW X ++ t) := by simp [rowsW]
    have hline := line_row hS hnd h1.1 h1.2 (by simp at hl; omega) fun y hy => by
      obtain ⟨q, hq⟩ : ∃ q, r.X = q ++ [y] := by
        have hn : r.X ≠ [] := fun e => by rw [e] at hy; cases hy
        rw [List.getLast?_eq_some_getLast hn] at hy
        injection hy with hy
        exact ⟨r.X.dropLast, by rw [← hy, List.dropLast_concat_getLast]⟩
      have hs2 : List.Pairwise (fun a b => RL.cmpR a b < 0) (r.X ++ (x :: X)) := hss
      rw [hq] at hs2
      exact (List.pairwise_append.1 hs2).2.2 y (by simp) x (by simp)
    rw [e, List.length_cons, ← Nat.add_assoc, go_line _ _ _ _ (textR_no10 h1.1), hline, if_pos rfl]
    show parseGo (f + X.length) { r with line := r.line + 1, X := r.X ++ [x] } (rowsW X ++ t) = _
    rw [go_rows X f { r with line := r.line + 1, X := r.X ++ [x] } t S0 p hS hnd (fun y hy => hx y (List.mem_cons_of_mem _ hy)) (by show RL.SS (r.X ++ [x] ++ X); rw [List.append_assoc]; exact hss) (by show (r.X ++ [x] ++ X).length ≤ 4096; rw [List.append_assoc]; exact hl)]
    show parseGo f { r with line := r.line + 1 + X.length, X := r.X ++ [x] ++ X } t = _
    rw [List.append_assoc, Nat.add_assoc, Nat.add_comm 1]
    rfl
theorem line_rel {r : Rd} {p : ByteArray × List Int} (he : errS (r.S ++ [p]) = 0) (hlt : ∀ q, r.S.getLast? = some q → RL.cmpS q.1 p.1 < 0) :
    lineRd r (relW ++ hdrL p.1 p.2) true = (0, { closeRd r with line := r.line + 1, S := r.S ++ [p] }) := by
  obtain ⟨-, -, hm⟩ := errS_mem he
  obtain ⟨n1, -, n3⟩ := hm p (by simp)
  unfold lineRd
  rw [hp_rel]
  show relRd { r with line := r.line + 1 } ((relW ++ hdrL p.1 p.2).drop 9) = _
  have e : (relW ++ hdrL p.1 p.2).drop 9 = hdrL p.1 p.2 := rfl
  rw [e]
  unfold relRd
  rw [words_hdr (name_no32 n1)]
  have hcl : closeRd { r with line := r.line + 1 } = { closeRd r with line := r.line + 1 } := by
    unfold closeRd
    show (match r.S.getLast? with | none => _ | some q => _) = _
    cases r.S.getLast? <;> rfl
  rw [hcl]
  show (match kindsP (p.2.map fun k => toB (kwL k)) with | none => _ | some ks => _) = _
  rw [kindsP_kw n3]
  have hS : (closeRd r).S = r.S := closeRd_S r
  show (if errS ((closeRd r).S ++ [(p.1, p.2)]) ≠ 0 then _ else _) = _
  have hno : ¬ (match (closeRd r).S.getLast? with | none => false | some q => decide (0 ≤ RL.cmpS q.1 p.1)) = true := by
    rw [hS]
    cases hg : r.S.getLast? with
    | none => simp
    | some q => have := hlt q hg; simp only [decide_eq_true_eq]; omega
  rw [hS] at hno ⊢
  rw [if_neg (by simpa using he)]
  exact if_neg hno
def linesN : Sch → Cont → Nat
  | [], _ => 0
  | p :: S, F => 1 + (F p.1).length + linesN S F
theorem linesN_le : ∀ (S : Sch) (F : Cont), linesN S F ≤ (textL S F).length
  | [], F => Nat.le_refl _
  | p :: S, F => by
    have ih := linesN_le S F
    have hr : ∀ X : List RL.R, X.length ≤ (rowsW X).length := fun X => by
      induction X with
      | nil => exact Nat.le_refl _
      | cons x X ih => simp only [rowsW, List.flatMap_cons, List.length_append, List.length_cons, List.length_nil] at *; omega
    have := hr (F p.1)
    unfold textL at ih ⊢
    rw [List.flatMap_cons, List.length_append, textRel_eq, List.length_append, List.length_cons]
    unfold linesN
    omega
def ContFit (S : Sch) (F : Cont) : Prop := ∀ p ∈ S, RL.SS (F p.1) ∧ (F p.1).length ≤ 4096 ∧ ∀ x ∈ F p.1, AllV x ∧ checkE p.2 x = 0
theorem go_text : ∀ (S : Sch) (F : Cont) (f : Nat) (r : Rd), linesN S F < f → errS (r.S ++ S) = 0 → ((r.S ++ S).map Prod.fst).Pairwise (fun a b => RL.cmpS a b < 0) → (r.S = [] → r.X = []) → ContFit S F →
    ∃ r', parseGo f r (textL S F) = (0, r') ∧ r'.S = r.S ++ S ∧ (∀ p ∈ S, r'.F p.1 = F p.1) ∧ (∀ s, s ∉ S.map Prod.fst → r'.F s = (closeRd r).F s) ∧ r'.X = []
  | [], F, f, r, hf, _, _, hx, _ => by
    obtain ⟨f, rfl⟩ : ∃ g, f = g + 1 := ⟨f - 1, by omega⟩
    refine ⟨closeRd r, by rw [parseGo]; rfl, by rw [closeRd_S]; simp, fun p hp => (by cases hp), fun s _ => rfl, ?_⟩
    unfold closeRd
    split
    · rename_i h; exact hx (List.getLast?_eq_none_iff.1 h)
    · rfl
  | p :: S, F, f, r, hf, he, ha, hx, hF => by
    obtain ⟨f, rfl⟩ : ∃ g, f = g + (F p.1).length + 1 := ⟨f - 1 - (F p.1).length, by unfold linesN at hf; omega⟩
    have e1 : r.S ++ p :: S = r.S ++ [p] ++ S := by simp
    have e2 : textL (p :: S) F = (relW ++ hdrL p.1 p.2) ++ 10 :: (rowsW (F p.1) ++ textL S F) := by
      unfold textL
      rw [List.flatMap_cons, textRel_eq]
      simp [List.append_assoc]
    rw [e1] at he ha
    have he1 := errS_pre he
    obtain ⟨-, hnd, hm⟩ := errS_mem he1
    obtain ⟨h1, h2, h3⟩ := hF p List.mem_cons_self
    have hline := line_rel (r := r) he1 fun q hq => by
      obtain ⟨z, hz⟩ : ∃ z, r.S = z ++ [q] := by
        have hn : r.S ≠ [] := fun e => by rw [e] at hq; cases hq
        rw [List.getLast?_eq_some_getLast hn] at hq
        injection hq with hq
        exact ⟨r.S.dropLast, by rw [← hq, List.dropLast_concat_getLast]⟩
      rw [hz] at ha
      simp only [List.map_append, List.map_cons, List.map_nil, List.append_assoc] at ha
      have := (List.pairwise_append.1 ha).2.1
      exact (List.pairwise_cons.1 this).1 p.1 (by simp)
    rw [e2, go_line _ _ _ _ (hdr_no10 (hm p (by simp)).1), hline, if_pos rfl]
    show ∃ r', parseGo (f + (F p.1).length) { closeRd r with line := r.line + 1, S := r.S ++ [p] } (rowsW (F p.1) ++ textL S F) = (0, r') ∧ _
    have hX0 : (closeRd r).X = [] := by
      unfold closeRd
      split
      · rename_i h; exact hx (List.getLast?_eq_none_iff.1 h)
      · rfl
    rw [go_rows (F p.1) f { closeRd r with line := r.line + 1, S := r.S ++ [p] } _ r.S p rfl hnd h3 (by show RL.SS ((closeRd r).X ++ F p.1); rw [hX0]; exact h1) (by show ((closeRd r).X ++ F p.1).length ≤ 4096; rw [hX0]; exact h2)]
    obtain ⟨r', i1, i2, i3, i4, i5⟩ := go_text S F f { closeRd r with line := r.line + 1 + (F p.1).length, S := r.S ++ [p], X := (closeRd r).X ++ F p.1 } (by unfold linesN at hf; omega) he ha (fun e => (by simp at e)) fun q hq => hF q (List.mem_cons_of_mem _ hq)
    refine ⟨r', i1, by rw [i2, e1], fun q hq => ?_, fun s hs => ?_, i5⟩
    · have hnd2 := (errS_mem he).2.1
      rcases List.mem_cons.1 hq with rfl | hq
      · rw [i4]
        · rw [closeRd_some (p := q) (by simp)]
          show updC _ q.1 ((closeRd r).X ++ F q.1) q.1 = _
          unfold updC
          rw [if_pos rfl, hX0]; rfl
        · intro e
          simp only [List.map_append, List.map_cons, List.map_nil] at hnd2
          exact (List.nodup_append.1 hnd2).2.2 q.1 (by simp) q.1 e rfl
      · exact i3 q hq
    · simp only [List.map_cons, List.mem_cons, not_or] at hs
      rw [i4 s hs.2, closeRd_some (p := p) (by simp)]
      show updC _ p.1 _ s = _
      unfold updC
      rw [if_neg hs.1]
theorem parseD_text {S : Sch} {F : Cont} (he : errS S = 0) (ha : (S.map Prod.fst).Pairwise (fun a b => RL.cmpS a b < 0)) (hF : ContFit S F) (hl : (textL S F).length ≤ 65536) :
    ∃ r, parseD (textL S F) = (0, r) ∧ r.S = S ∧ ∀ p ∈ S, r.F p.1 = F p.1 := by
  obtain ⟨r, h1, h2, h3, -⟩ := go_text S F ((textL S F).length + 1) Rd.zero (by have := linesN_le S F; omega) he ha (fun _ => rfl) hF
  exact ⟨r, by unfold parseD; rw [if_neg (by omega)]; exact h1, by rw [h2]; rfl, h3⟩
end
end Go.Proofs.YtdadchpiibipoaaGreatDoor

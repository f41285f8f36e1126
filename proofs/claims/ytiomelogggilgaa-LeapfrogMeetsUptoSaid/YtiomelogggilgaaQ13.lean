/- Parts of the proof, merged: Y39, Y40. -/
import Derived.Test.YtiomelogggilgaaQ12

section
/- Plain: the join's own rows joined again; a variable that is fixed. -/
namespace Go.Proofs.Ytiomelogggilgaa
open Go.RowKit Go.Sort

theorem range_dv {m : Nat} {y : RL.R} (h : y.length = m) : (List.range m).map (dv y) = y := by
  refine List.ext_getElem (by simp [h]) fun i h1 h2 => ?_
  rw [List.getElem_map, List.getElem_range]
  unfold dv
  rw [List.getD_eq_getElem?_getD, List.getElem?_eq_getElem h2]
  rfl
theorem ints_nat (l : List Nat) : (ints l).map Int.toNat = l := by
  unfold ints
  rw [List.map_map]
  conv => rhs; rw [← List.map_id l]
  exact List.map_congr_left fun k _ => by simp
theorem errAt_ints {m : Nat} {l : List Nat} {ar : Int} {P : List RL.R} (h1 : l.Pairwise (· < ·)) (h2 : ∀ v ∈ l, v < m) (h3 : ar = (l.length : Nat)) : errAt (m : Int) ⟨ints l, ar, P⟩ = 0 := by
  rw [errAt_arity]
  · rw [if_pos]
    show ((ints l).length : Int) = ar
    unfold ints
    rw [List.length_map]
    omega
  · show (ints l).Pairwise (· < ·)
    unfold ints
    exact List.pairwise_map.2 (h1.imp fun h => by omega)
  · intro v hv
    have hv' : v ∈ ints l := hv
    unfold ints at hv'
    obtain ⟨k, hk, rfl⟩ := List.mem_map.1 hv'
    have := h2 k hk
    omega
/-- The rows of a join as an atom over all variables. -/
def ownA (m : Nat) (J : List RL.R) : RA := ⟨ints (List.range m), (m : Nat), J⟩
/-- The atom that fixes a variable. -/
def fixA (k : Nat) (c : RL.V) : RA := ⟨ints [k], 1, [[c]]⟩
section
variable {m : Nat} {X : List RA}
theorem Good0.addl (h : Good0 m X) {a : RA} (hs : Small a) (he : errAt (m : Int) a = 0) (hl : X.length + 1 ≤ 32) : Good0 m (a :: X) where
  le := h.le
  many := by rw [List.length_cons]; exact hl
  sm x hx := by
    rcases List.mem_cons.1 hx with rfl | hx
    · exact hs
    · exact h.sm x hx
  ok x hx := by
    rcases List.mem_cons.1 hx with rfl | hx
    · exact he
    · exact h.ok x hx
  cov v hv := by
    obtain ⟨x, hx, hm⟩ := h.cov v hv
    exact ⟨x, List.mem_cons_of_mem _ hx, hm⟩
theorem Good0.perm (h : Good0 m X) {Y : List RA} (hl : Y.length ≤ 32) (hm : ∀ a, a ∈ X ↔ a ∈ Y) : Good0 m Y where
  le := h.le
  many := hl
  sm x hx := h.sm x ((hm x).2 hx)
  ok x hx := h.ok x ((hm x).2 hx)
  cov v hv := by
    obtain ⟨x, hx, hv⟩ := h.cov v hv
    exact ⟨x, (hm x).1 hx, hv⟩
theorem Good0.errA (h : Good0 m X) : errA (m : Int) X = 0 := errA_of h.le h.many h.ok h.cov
theorem Good0.own (h : Good0 m X) (hl : (joinF m (X.map RA.at)).length ≤ 60000) : Small (ownA m (joinF m (X.map RA.at))) where
  ss := h.joinSS
  len r hr := by have := ((h.mem r).1 hr).1; show (r.length : Int) = (m : Nat); omega
  ar := by have := h.le; show ((m : Nat) : Int) ≤ 1000; omega
  many := hl
  vl := by
    have := h.le
    show (ints (List.range m)).length ≤ 1000
    unfold ints
    rw [List.length_map, List.length_range]
    omega
  I := h.I
theorem own_err (J : List RL.R) : errAt (m : Int) (ownA m J) = 0 := errAt_ints List.pairwise_lt_range (fun v hv => List.mem_range.1 hv) (by rw [List.length_range])
theorem own_sat (J : List RL.R) {y : RL.R} (hy : y.length = m) : satA (ownA m J).at y ↔ y ∈ J := by
  unfold satA
  show ((ints (List.range m)).map Int.toNat).map (dv y) ∈ J ↔ y ∈ J
  rw [ints_nat, range_dv hy]
/-- The join's own rows joined with all atoms are the join again. -/
theorem Good0.again (h : Good0 m X) (hl : (joinF m (X.map RA.at)).length ≤ 60000) (hX : X.length + 1 ≤ 32) : Good0 m (ownA m (joinF m (X.map RA.at)) :: X) ∧ joinF m ((ownA m (joinF m (X.map RA.at)) :: X).map RA.at) = joinF m (X.map RA.at) := by
  have hg := h.addl (h.own hl) (own_err _) hX
  refine ⟨hg, hg.ext h fun y hy => ⟨fun hs a ha => hs a (List.mem_cons_of_mem _ ha), fun hs a ha => ?_⟩⟩
  rcases List.mem_cons.1 ha with rfl | ha
  · exact (own_sat _ hy).2 ((h.mem y).2 ⟨hy, hs⟩)
  · exact hs a ha
theorem fix_small (k : Nat) (x : Nat) : Small (fixA k (valI x)) where
  ss := List.pairwise_singleton _ _
  len r hr := by have hr' : r ∈ [[valI x]] := hr; simp at hr'; subst hr'; rfl
  ar := by show (1 : Int) ≤ 1000; omega
  many := by show [[valI x]].length ≤ 60000; simp
  vl := by show (ints [k]).length ≤ 1000; simp [ints]
  I r hr c hc := by have hr' : r ∈ [[valI x]] := hr; simp at hr'; subst hr'; simp at hc; subst hc; exact ⟨x, rfl⟩
theorem fix_err {k : Nat} (hk : k < m) (c : RL.V) : errAt (m : Int) (fixA k c) = 0 := errAt_ints (List.pairwise_singleton _ _) (fun v hv => by simp at hv; subst hv; exact hk) rfl
theorem fix_sat (k : Nat) (c : RL.V) (y : RL.R) : satA (fixA k c).at y ↔ dv y k = c := by
  unfold satA
  show ((ints [k]).map Int.toNat).map (dv y) ∈ [[c]] ↔ _
  rw [ints_nat]
  simp
theorem Good0.fixed (h : Good0 m X) {k : Nat} (hk : k < m) (x : Nat) (hX : X.length + 1 ≤ 32) : Good0 m (X ++ [fixA k (valI x)]) ∧ joinF m ((X ++ [fixA k (valI x)]).map RA.at) = (joinF m (X.map RA.at)).filter fun r => decide (dv r k = valI x) := by
  have hg : Good0 m (X ++ [fixA k (valI x)]) := (h.addl (fix_small k x) (fix_err hk _) hX).perm (by rw [List.length_append]; exact hX) fun a => by simp [or_comm]
  refine ⟨hg, RL.SS.ext hg.joinSS (h.joinSS.filter _) fun y => ?_⟩
  rw [hg.mem, List.mem_filter, h.mem]
  constructor
  · intro ⟨h1, h2⟩
    exact ⟨⟨h1, fun a ha => h2 a (List.mem_append_left _ ha)⟩, decide_eq_true ((fix_sat k _ y).1 (h2 _ (List.mem_append_right _ (by simp))))⟩
  · intro ⟨⟨h1, h2⟩, h3⟩
    refine ⟨h1, fun a ha => ?_⟩
    rcases List.mem_append.1 ha with ha | ha
    · exact h2 a ha
    · simp at ha; subst ha; exact (fix_sat k _ y).2 (of_decide_eq_true h3)
end

end Go.Proofs.Ytiomelogggilgaa
end

section
/- Walk: LeapfrogSatisfies. -/
namespace Go.Proofs.Ytiomelogggilgaa
open Go.RowKit Go.Sort

theorem IsI.valid {c : RL.V} (h : IsI c) : RL.validV c = true := by obtain ⟨x, rfl⟩ := h; exact valI_valid x
theorem Good0.errF {m : Nat} {X : List RA} (h : Good0 m X) : errF (m : Int) (joinF m (X.map RA.at)) = 0 := errF_zero.2 fun y hy => by
  unfold wrongF
  rw [if_neg (by have := ((h.mem y).1 hy).1; omega), if_pos]
  exact List.all_eq_true.2 fun c hc => (h.I y hy c hc).valid

set_option maxHeartbeats 8000000 in
set_option maxRecDepth 100000 in
theorem l35Satisfies_any (a0 : Nat) (h0 : a0 < 256) (A : Option Addr) (C : Nat) (l : List LA) (w : World) (hA : AtsL w.heap.size w A l) (hB : LBytes l) (hl : l.length ≤ 3518437208780) :
    Calls Try.prog 6 #[.int .u8 a0, .slice A l.length C] w fun e w' => e = .returned (.bool true) ∧ Below w.heap.size w w' := by
  have HMK := Lib.hid (l35Made2 A C l w hA hB hl)
  clear hA hB hl
  obtain ⟨m, hm⟩ : ∃ m : Nat, (a0 : Int) % 9 = (m : Int) := ⟨a0 % 9, by omega⟩
  have hm8 : m ≤ 8 := by omega
  have HMM := Lib.hid hm
  clear hm
  go_enter Try.func6, Try.ntmps6
  go_wp2_with fail
  refine HMK.out.mono ?_
  rintro e w1 ⟨hb1, rfl | ⟨X, A1, A2, A3, C1, C2, C3, rfl, hX, hc1, hd1, ha, -, -⟩⟩
  · clear HMK
    go_wp2_with fail
    refine (l35awake_any _).mono ?_
    rintro e w2 ⟨rfl, hb2⟩
    have hbw := Below.then hb1 hb2 hb1.size
    clear hb1 hb2
    go_wp2
    go_ret
    exact ⟨rfl, hbw⟩
  have HB1 := Lib.hid hb1
  by_cases h6 : X.length ≤ 6
  rotate_left
  · rw [decide_eq_false h6]
    clear HMK hX hc1 hd1 ha hb1
    go_wp2_with fail
    refine (l35awake_any _).mono ?_
    rintro e w2 ⟨rfl, hb2⟩
    have hbw := Below.then HB1.out hb2 HB1.out.size
    clear hb2
    go_wp2
    go_ret
    exact ⟨rfl, hbw⟩
  rw [decide_eq_true h6]
  have HA := Lib.hid ha
  have HX := Lib.hid hX
  have HJ := Lib.hid (joinS_any m A1 C1 X w1 ha (by omega) hX (fun _ => by omega))
  clear HMK hX ha hb1
  go_wp2_with fail
  rw [HMM.out]
  refine HJ.out.mono ?_
  rintro e w2 ⟨h1, hb2, h2⟩
  have HB2 := Lib.hid (Below.then HB1.out hb2 HB1.out.size)
  have HA2 := Lib.hid (HA.out.upB hb2)
  have HFIN := Lib.hid (fun W (hb : Below w2.heap.size w2 W) => (l35awake_any W).mono fun e W' h => (⟨h.1, Below.then HB2.out (Below.then hb h.2 hb.size) HB2.out.size⟩ : e = .returned (.bool true) ∧ Below w.heap.size w W'))
  clear HJ hb2 HA
  by_cases he : errA m X = 0
  rotate_left
  · obtain rfl := h1 he
    have hnb : (errA m X != 0) = true := by simpa using he
    have hnc : (errA m X == 0) = false := by simpa using he
    clear h1 h2 he
    go_wp2_with fail
    refine (HFIN.out w2 (Below.refl _ _)).mono ?_
    rintro e w3 ⟨rfl, hb3⟩
    go_wp2
    go_ret
    exact ⟨rfl, hb3⟩
  obtain ⟨A', C', st, rfl, -, hst, hjc, hjd, hjs⟩ := h2 he
  obtain ⟨m', hm', hg⟩ := Good0.of HX.out he
  obtain rfl : m = m' := by omega
  rw [Int.toNat_natCast] at hjc hjs ⊢
  have hjl := Nat.le_trans hg.len (pow4 hm8)
  clear h1 h2 hm' he
  by_cases h200 : 200 < (joinF m (X.map RA.at)).length
  · have hd2 : decide ((200 : Int) < ((joinF m (X.map RA.at)).length : Int)) = true := decide_eq_true (by omega)
    generalize (joinF m (X.map RA.at)).length = L at *
    clear hjs hg hjc
    go_wp2_with fail
    refine (HFIN.out w2 (Below.refl _ _)).mono ?_
    rintro e w3 ⟨rfl, hb3⟩
    go_wp2
    go_ret
    exact ⟨rfl, hb3⟩
  have hd2 : decide ((200 : Int) < ((joinF m (X.map RA.at)).length : Int)) = false := decide_eq_false (by omega)
  have HG := Lib.hid hg
  have HRS := Lib.hid hg.rsOk
  have HSS := Lib.hid hg.joinSS
  have HEF := Lib.hid hg.errF
  have HAG := Lib.hid (hg.again (by omega) (by omega))
  have HJM := Lib.hid hg.mem
  have HJS := Lib.hid hjs
  generalize joinF m (X.map RA.at) = J at *
  clear hg hjs
  go_wp2_with fail
  go_loopw [13, 67] (fun v c wx => ∃ k : Nat, k ≤ m ∧ c = .int .i64 k ∧ wx.ownsRow w2.heap.size 3 1 v k ((ints (List.range k)).map (Value.int .i64)) ∧ Below w2.heap.size w2 wx) (fun _ c _ => m - (intOf c).toNat)
  case atStart => exact ⟨0, Nat.zero_le _, rfl, own_nil _ _ _ _, Below.refl _ _⟩
  case round =>
    obtain ⟨k, hk, rfl, hown, hbk⟩ := hrel
    have HO := Lib.hid hown
    have HBK := Lib.hid hbk
    have hzk := hbk.size
    obtain ⟨VA, VC, rfl, -, -, -⟩ := own_slice hown (by decide)
    clear hown hbk
    by_cases hkm : k < m
    · have hw1 : IntKind.i64.wrap ((k : Int) + 1) = ((k + 1 : Nat) : Int) := by rw [IntWalk.i64_in _ (by omega)]; omega
      have HRR : Hid ((ints (List.range (k + 1))).map (Value.int .i64) = (ints (List.range k)).map (Value.int .i64) ++ [.int .i64 (k : Nat)]) := by
        show _ = _
        unfold ints
        rw [List.range_succ, List.map_append, List.map_append]
        rfl
      go_wp2_with
        (at_builtin; refine app1Int rfl (.tmp 70) (.tmp 72) rfl w2.heap.size (.slice VA k VC) k ((ints (List.range k)).map (Value.int .i64)) rfl (HO.out.alloc _) wr.heap.size [.int .i64 (k : Nat)] rfl (Row.new wr 3 [.int .i64 (k : Nat)]) rfl (by simp [Value.oneCell']) (by omega) (by simp; omega) ?_
         intro v' w6 hown6 hg6 hat6
         obtain ⟨A6, C6, rfl, -, -, -⟩ := own_slice hown6 (by decide)
         rw [← HRR.out] at hown6
         have HO6 := Lib.hid hown6
         have HB6 := Lib.hid (HBK.out.trans (app_kept (fun b hb => own_base HO.out hb) hzk hg6))
         clear hown6 hg6 hat6)
      go_roundw
      case rel => exact ⟨k + 1, hkm, by go_num, HO6.out, HB6.out⟩
      case measure => simp [intOf]; omega
    · have HOM : Hid (wr.ownsRow w2.heap.size 3 1 (.slice VA m VC) m ((ints (List.range m)).map (Value.int .i64))) := by
        have h := HO.out
        rw [show k = m by omega] at h
        exact h
      obtain rfl : m = k := by omega
      obtain ⟨wv, hwv⟩ : ∃ wv, wv = wr := ⟨_, rfl⟩
      subst hwv
      have HJV := Lib.hid (HJS.out.upB HBK.out)
      have HAV := Lib.hid (HA2.out.upB HBK.out)
      have HJV0 := HJV
      clear HO
      go_wp2_with fail
      go_loopw [77] (fun c wx => ∃ i : Nat, i ≤ J.length ∧ c = .int .i64 i ∧ Below wv.heap.size wv wx) (fun c _ => J.length - (intOf c).toNat)
      case atStart => exact ⟨0, Nat.zero_le _, rfl, Below.refl _ _⟩
      case round =>
        obtain ⟨i, hi, rfl, hbi⟩ := hrel
        have HBI := Lib.hid hbi
        have hzi := hbi.size
        have HJI := Lib.hid (HJV.out.upB hbi)
        have HAI := Lib.hid (HAV.out.upB hbi)
        clear hbi
        by_cases hil : i < J.length
        · have HRL : Hid (J[i].length = m) := ((HJM.out J[i]).1 (List.getElem_mem hil)).1
          have HSAT : Hid (∀ a ∈ X, satA a.at J[i]) := ((HJM.out J[i]).1 (List.getElem_mem hil)).2
          have HROK := Lib.hid (HRS.out.at_ hil)
          obtain ⟨jb, jo, R1, RC1, rfl, hjb, c0, hc0, hm0, s0⟩ := slRs_at HJV.out hil
          have hjb2 : jb < wr.heap.size := Nat.lt_of_lt_of_le hjb hzi
          have k0 : wr.cell? ⟨jb, jo + i, none⟩ = some (.slice R1 m RC1) := (HBI.out.cell (p := ⟨jb, jo + i, none⟩) hjb).trans (by rw [c0, HRL.out])
          clear c0
          have HS0 := Lib.hid s0
          have hmm : ((m : Int) != (m : Int)) = false := by simp
          have HPREV : Hid (i ≠ 0 → ∃ (R0 : Option Addr) (RC0 : Nat) (y : RL.R), y.length = m ∧ wv.cell? ⟨jb, jo + (i - 1), none⟩ = some (.slice R0 m RC0) ∧ SlR wv.heap.size wv R0 y ∧ ROk y ∧ RL.cmpR y J[i] < 0) := fun h0 => by
            obtain ⟨jb', jo', R0, RC0, e, -, d0, -, -, t0⟩ := slRs_at HJV.out (i := i - 1) (by omega)
            injection e with e
            injection e with e1 e2
            subst e1 e2
            have hl1 : J[i - 1].length = m := ((HJM.out J[i - 1]).1 (List.getElem_mem _)).1
            exact ⟨R0, RC0, J[i - 1], hl1, by rw [← hl1]; exact d0, t0, HRS.out.at_ (by omega), RL.SS.get HSS.out (by omega) hil⟩
          generalize J[i] = r at *
          clear s0 hc0 hm0
          by_cases hi0 : i = 0
          rotate_left
          · obtain ⟨z, hz⟩ : ∃ z : Int, (i : Int) = z := ⟨_, rfl⟩
            have hzt : z.toNat = i := by omega
            rw [hz]
            rw [← hzt] at k0
            have g1 : (0 : Int) ≤ z := by omega
            have g2 : z < (J.length : Int) := by omega
            have hw1 : IntKind.i64.wrap (z + 1) = ((i + 1 : Nat) : Int) := by rw [IntWalk.i64_in _ (by omega)]; omega
            have HZI : Hid (J.length - z.toNat = J.length - i) := by show _ = _; rw [hzt]
            have hgt : decide ((0 : Int) < z) = true := decide_eq_true (by omega)
            obtain ⟨R0, RC0, y, hyl, d0, t0, hyo, hyr⟩ := HPREV.out hi0
            have d0 : wr.cell? ⟨jb, jo + (i - 1), none⟩ = some (.slice R0 m RC0) := (HBI.out.cell (p := ⟨jb, jo + (i - 1), none⟩) hjb).trans d0
            have hwi : IntKind.i64.wrap (z - 1) = ((i - 1 : Nat) : Int) := by rw [IntWalk.i64_in _ (by omega)]; omega
            have g3 : (0 : Int) ≤ ((i - 1 : Nat) : Int) := by omega
            have g4 : ((i - 1 : Nat) : Int) < (J.length : Int) := by omega
            clear hi0 hz hzt
            have HT0 := Lib.hid t0
            have HYO := Lib.hid (And.intro hyo hyr)
            have HL1 := Lib.hid (l7Row_any R0 RC0 y wr ((t0.below HBI.out (Nat.le_refl _)).more hzi) (by omega))
            have HL2 := Lib.hid (fun W (hb : Below wv.heap.size wv W) => l7Row_any R1 RC1 r W ((HS0.out.below hb (Nat.le_refl _)).more hb.size) (by have := HRL.out; omega))
            have HYL := Lib.hid hyl
            rw [hyl] at HL1
            rw [HRL.out] at HL2
            clear t0 hyo hyr hyl
            go_wp2_with fail
            refine HL1.out.mono ?_
            rintro e w5 ⟨v5, rfl, hown5, hb5⟩
            obtain ⟨-, B5, D5, rfl, -, -, hs5, -⟩ := SlR.of_own (by rw [← HYL.out] at hown5; exact hown5)
            rw [HYL.out]
            have HS5 := Lib.hid hs5
            have HB5 := Lib.hid (Below.then HBI.out hb5 hzi)
            clear hown5 hb5 hs5 HL1 d0
            go_wp2_with fail
            refine (HL2.out w5 HB5.out).mono ?_
            rintro e w6 ⟨v6, rfl, hown6, hb6⟩
            obtain ⟨-, B6, D6, rfl, -, -, hs6, -⟩ := SlR.of_own (by rw [← HRL.out] at hown6; exact hown6)
            rw [HRL.out]
            have HB6 := Lib.hid (Below.then HB5.out hb6 HB5.out.size)
            have HCM := Lib.hid (r7Compare_any B5 B6 D5 D6 y r w6 ((HS5.out.below hb6 (Nat.le_refl _)).more hb6.size) hs6 HYO.out.1 HROK.out)
            rw [HYL.out, HRL.out] at HCM
            clear hown6 hb6 hs6 HL2
            go_wp2_with fail
            refine HCM.out.mono ?_
            rintro e w7 ⟨rfl, hx7⟩
            have hge : decide ((0 : Int) ≤ RL.cmpR y r) = false := decide_eq_false (by have := HYO.out.2; omega)
            have HB3 : Hid (Below wv.heap.size wv w7) := Below.then HB6.out hx7.below HB6.out.size
            clear hx7 HCM
            go_wp2_with fail
            clear hge hgt hwi g3 g4
            try clear HPREV
            have HIL := Lib.hid hil
            clear g2 hil hi
            clear k0 hjb2 HBI hzi HJI HAI
            go_loopw [104] (fun c wx => ∃ j : Nat, j ≤ X.length ∧ c = .int .i64 j ∧ Below wv.heap.size wv wx) (fun c _ => X.length - (intOf c).toNat)
            case atStart => exact ⟨0, Nat.zero_le _, rfl, HB3.out⟩
            case round =>
              obtain ⟨j, hj, rfl, hbj⟩ := hrel
              have HBJ := Lib.hid hbj
              have hzj := hbj.size
              have HAJ := Lib.hid (HAV.out.upB hbj)
              have HSJ := Lib.hid ((HS0.out.below hbj (Nat.le_refl _)).more hzj)
              clear hbj
              by_cases hjl : j < X.length
              · obtain ⟨xb, xo, VX, VXC, PX, PXC, rfl, hxb, x0, x1, x2, v1, v2, p1, p2, sv, sp⟩ := ats_at HAJ.out hjl
                have HSV := Lib.hid sv
                have HSP := Lib.hid sp
                have HSM := Lib.hid (HG.out.sm X[j] (List.getElem_mem hjl))
                have HER := Lib.hid (errAt_zero (HG.out.ok X[j] (List.getElem_mem hjl)))
                have HST := Lib.hid (HSAT.out X[j] (List.getElem_mem hjl))
                have g5 : (0 : Int) ≤ (j : Int) := by omega
                have g6 : (j : Int) < (X.length : Int) := by omega
                have hwj : IntKind.i64.wrap ((j : Int) + 1) = ((j + 1 : Nat) : Int) := by rw [IntWalk.i64_in _ (by omega)]; omega
                generalize X[j] = x at *
                clear sv sp v1 v2 p1 p2
                obtain ⟨wj, hwj2⟩ : ∃ wj, wj = wr := ⟨_, rfl⟩
                subst hwj2
                obtain ⟨W5, hW5⟩ : ∃ W5, W5 = wj.alloc (.cells #[.slice VX x.vs.length VXC, .int .i64 x.ar, .slice PX x.P.length PXC] 52) := ⟨_, rfl⟩
                have hr5 : Row W5 wj.heap.size 52 [.slice VX x.vs.length VXC, .int .i64 x.ar, .slice PX x.P.length PXC] := by rw [hW5]; exact Row.new wj 52 _
                have hx5 : Ext wj W5 := by rw [hW5]; exact (Ext.refl wj).alloc _
                have y0 : W5.cell? ⟨wj.heap.size, 0, none⟩ = some (.slice VX x.vs.length VXC) := hr5.cell 0
                have hz5 := hr5.lt
                have HR5 := Lib.hid hr5
                have HX5 := Lib.hid hx5
                clear hr5 hx5
                go_wp2_with fail
                rw [← hW5]
                clear hW5 x0 x1 x2
                go_wp2_with fail
                go_loopw [19, 111] (fun v c wx => ∃ k : Nat, k ≤ x.vs.length ∧ c = .int .i64 k ∧ wx.ownsRow W5.heap.size 41 3 v k (rcells ((x.at.vs.take k).map (dv r))) ∧ Below W5.heap.size W5 wx) (fun _ c _ => x.vs.length - (intOf c).toNat)
                case atStart => exact ⟨0, Nat.zero_le _, rfl, own_nil _ _ _ _, Below.refl _ _⟩
                case round =>
                  obtain ⟨k, hk2, rfl, hown, hbk⟩ := hrel
                  have HO := Lib.hid hown
                  have HBK2 := Lib.hid hbk
                  have hzk2 := hbk.size
                  have HLN : Hid (((x.at.vs.take k).map (dv r)).length = k) := by
                    show _ = _
                    rw [List.length_map, List.length_take]
                    exact Nat.min_eq_left (by show k ≤ (x.vs.map Int.toNat).length; rw [List.length_map]; exact hk2)
                  have HBW := Lib.hid (Below.then HX5.out.below hbk HX5.out.size)
                  clear hown hbk y0
                  by_cases hkl : k < x.vs.length
                  · obtain ⟨vb, vo, rfl, hvb, d0⟩ := slI_at HSV.out hkl
                    have hq := HER.out.2.1 x.vs[k] (List.getElem_mem hkl)
                    obtain ⟨q, hqe⟩ := Int.eq_ofNat_of_zero_le hq.1
                    have hqm : q < m := by omega
                    have d0 : wr.cell? ⟨vb, vo + k, none⟩ = some (.int .i64 (q : Nat)) := (HBW.out.cell (p := ⟨vb, vo + k, none⟩) hvb).trans (by rw [d0, hqe])
                    have hvb2 : vb < wr.heap.size := Nat.lt_of_lt_of_le hvb HBW.out.size
                    have HSN : Hid ((x.at.vs.take (k + 1)).map (dv r) = (x.at.vs.take k).map (dv r) ++ [r[q]'(by have := HRL.out; omega)]) := by
                      show _ = _
                      have hkl2 : k < x.at.vs.length := by show k < (x.vs.map Int.toNat).length; rw [List.length_map]; exact hkl
                      rw [List.take_succ_eq_append_getElem hkl2, List.map_append]
                      congr 1
                      have e : x.at.vs[k] = q := by show (x.vs.map Int.toNat)[k]'(by rw [List.length_map]; exact hkl) = q; rw [List.getElem_map, hqe]; rfl
                      rw [e]
                      show [dv r q] = _
                      unfold dv
                      rw [List.getD_eq_getElem?_getD, List.getElem?_eq_getElem (by have := HRL.out; omega)]
                      rfl
                    obtain ⟨rb, ro, rfl, hrb, e0, e1, e2⟩ := slR_at HSJ.out (i := q) (by have := HRL.out; omega)
                    have hrb2 : rb < wr.heap.size := Nat.lt_of_lt_of_le hrb HBW.out.size
                    have e0 := (HBW.out.cell (p := ⟨rb, ro + q * 3, none⟩) hrb).trans e0
                    have e1 := (HBW.out.cell (p := ⟨rb, ro + q * 3 + 1, none⟩) hrb).trans e1
                    have e2 := (HBW.out.cell (p := ⟨rb, ro + q * 3 + 2, none⟩) hrb).trans e2
                    have g7 : (0 : Int) ≤ (k : Int) := by omega
                    have g8 : (k : Int) < (x.vs.length : Int) := by omega
                    have g9 : (0 : Int) ≤ (q : Int) := by omega
                    have g10 : (q : Int) < (m : Int) := by omega
                    have hwk : IntKind.i64.wrap ((k : Int) + 1) = ((k + 1 : Nat) : Int) := by rw [IntWalk.i64_in _ (by have := HSM.out.vl; omega)]; omega
                    have hkb : k < 1000 := by have := HSM.out.vl; omega
                    generalize r[q]'(by have := HRL.out; omega) = u at *
                    generalize (x.at.vs.take k).map (dv r) = Lk at *
                    obtain ⟨A5, C5, rfl, -, -, -⟩ := own_slice HO.out (by decide)
                    have HL1 : Hid ((Lk ++ [u]).length = k + 1) := by show _ = _; rw [List.length_append, HLN.out]; rfl
                    have HOL : Hid (wr.ownsRow W5.heap.size 41 3 (.slice A5 k C5) Lk.length (rcells Lk)) := by rw [HLN.out]; exact HO.out
                    clear hqe hq
                    go_wp2_with
                      (at_builtin
                       refine app1V rfl (.tmp 115) (.tmp 120) rfl W5.heap.size (.slice A5 k C5) Lk rfl (HOL.out.alloc _) wr.heap.size u rfl ((Row.new wr 41 [.int .i64 u.kind, .int .i64 u.int, .string u.str]).cell 0) ((Row.new wr 41 [.int .i64 u.kind, .int .i64 u.int, .string u.str]).cell 1) ((Row.new wr 41 [.int .i64 u.kind, .int .i64 u.int, .string u.str]).cell 2) (by have := HLN.out; omega) (by simp; omega) ?_
                       intro v' w6 hown6 hg6
                       rw [HL1.out, ← HSN.out] at hown6
                       obtain ⟨A6, C6, rfl, -, -, -⟩ := own_slice hown6 (by decide)
                       have HO6 := Lib.hid hown6
                       have HB6 : Hid (Below W5.heap.size W5 w6) := HBK2.out.trans (app_kept (fun b hb => own_base HO.out hb) hzk2 hg6)
                       clear hown6 hg6)
                    go_wp2
                    go_roundw
                    case rel => exact ⟨k + 1, hkl, by go_num, HO6.out, HB6.out⟩
                    case measure => simp [intOf]; omega
                  · have hke : k = x.vs.length := by omega
                    have HY : Hid ((x.at.vs.take k).map (dv r) ∈ x.P) := by
                      show _ ∈ _
                      rw [List.take_of_length_le (by show (x.vs.map Int.toNat).length ≤ k; rw [List.length_map]; omega)]
                      exact HST.out
                    generalize (x.at.vs.take k).map (dv r) = Lk at *
                    obtain ⟨A5, C5, rfl, -, -, -⟩ := own_slice HO.out (by decide)
                    have hOL : wr.ownsRow W5.heap.size 41 3 (.slice A5 k C5) Lk.length (rcells Lk) := by rw [HLN.out]; exact HO.out
                    have hs5 : SlR wr.heap.size wr A5 Lk := by
                      rw [← HLN.out] at hOL
                      obtain ⟨-, A', C', e, -, -, hs', -⟩ := SlR.of_own hOL
                      injection e with e1 _ e3
                      subst e1 e3
                      exact hs'
                    have hr6 := HR5.out.up HBK2.out
                    have y1 : wr.cell? ⟨wj.heap.size, 1, none⟩ = some (.int .i64 x.ar) := hr6.cell 1
                    have y2 : wr.cell? ⟨wj.heap.size, 2, none⟩ = some (.slice PX x.P.length PXC) := hr6.cell 2
                    have hz6 := hr6.lt
                    have hkb : k < 1001 := by have := HSM.out.vl; omega
                    have HSE := Lib.hid (rlSearch_any x.ar PX A5 PXC C5 x.P Lk wr ((HSP.out.upB HX5.out.below).upB HBK2.out) hs5 (by have := HSM.out.many; omega) HSM.out.rsOk (by have := HLN.out; omega) HSM.out.ss)
                    rw [decide_eq_true HY.out, HLN.out] at HSE
                    clear hr6 hs5 hke hOL
                    go_wp2_with fail
                    refine HSE.out.mono ?_
                    rintro e w8 ⟨rfl, hx8⟩
                    have HB8 := Lib.hid (Below.then (Below.then HBJ.out HBW.out hzj) hx8.below (by have := HBW.out.size; omega))
                    clear hx8 HSE y1 y2
                    go_wp2
                    go_roundw
                    case rel => exact ⟨j + 1, hjl, by go_num, HB8.out⟩
                    case measure => simp [intOf]; omega
              · go_wp2
                go_roundw
                case rel => exact ⟨_, HIL.out, by go_num, HBJ.out⟩
                case measure => have := HZI.out; have := HIL.out; simp [intOf]; omega
          · subst hi0
            rw [show ((0 : Nat) : Int) = 0 from rfl]
            rw [Nat.add_zero] at k0
            have g2 : (0 : Int) < (J.length : Int) := by omega
            have HZI : Hid (J.length - 0 = J.length) := rfl
            clear HPREV
            have HB3 : Hid (Below wv.heap.size wv wr) := HBI.out
            go_wp2_with fail
            try clear HPREV
            have HIL := Lib.hid hil
            clear g2 hil hi
            clear k0 hjb2 HBI hzi HJI HAI
            go_loopw [104] (fun c wx => ∃ j : Nat, j ≤ X.length ∧ c = .int .i64 j ∧ Below wv.heap.size wv wx) (fun c _ => X.length - (intOf c).toNat)
            case atStart => exact ⟨0, Nat.zero_le _, rfl, HB3.out⟩
            case round =>
              obtain ⟨j, hj, rfl, hbj⟩ := hrel
              have HBJ := Lib.hid hbj
              have hzj := hbj.size
              have HAJ := Lib.hid (HAV.out.upB hbj)
              have HSJ := Lib.hid ((HS0.out.below hbj (Nat.le_refl _)).more hzj)
              clear hbj
              by_cases hjl : j < X.length
              · obtain ⟨xb, xo, VX, VXC, PX, PXC, rfl, hxb, x0, x1, x2, v1, v2, p1, p2, sv, sp⟩ := ats_at HAJ.out hjl
                have HSV := Lib.hid sv
                have HSP := Lib.hid sp
                have HSM := Lib.hid (HG.out.sm X[j] (List.getElem_mem hjl))
                have HER := Lib.hid (errAt_zero (HG.out.ok X[j] (List.getElem_mem hjl)))
                have HST := Lib.hid (HSAT.out X[j] (List.getElem_mem hjl))
                have g5 : (0 : Int) ≤ (j : Int) := by omega
                have g6 : (j : Int) < (X.length : Int) := by omega
                have hwj : IntKind.i64.wrap ((j : Int) + 1) = ((j + 1 : Nat) : Int) := by rw [IntWalk.i64_in _ (by omega)]; omega
                generalize X[j] = x at *
                clear sv sp v1 v2 p1 p2
                obtain ⟨wj, hwj2⟩ : ∃ wj, wj = wr := ⟨_, rfl⟩
                subst hwj2
                obtain ⟨W5, hW5⟩ : ∃ W5, W5 = wj.alloc (.cells #[.slice VX x.vs.length VXC, .int .i64 x.ar, .slice PX x.P.length PXC] 52) := ⟨_, rfl⟩
                have hr5 : Row W5 wj.heap.size 52 [.slice VX x.vs.length VXC, .int .i64 x.ar, .slice PX x.P.length PXC] := by rw [hW5]; exact Row.new wj 52 _
                have hx5 : Ext wj W5 := by rw [hW5]; exact (Ext.refl wj).alloc _
                have y0 : W5.cell? ⟨wj.heap.size, 0, none⟩ = some (.slice VX x.vs.length VXC) := hr5.cell 0
                have hz5 := hr5.lt
                have HR5 := Lib.hid hr5
                have HX5 := Lib.hid hx5
                clear hr5 hx5
                go_wp2_with fail
                rw [← hW5]
                clear hW5 x0 x1 x2
                go_wp2_with fail
                go_loopw [19, 111] (fun v c wx => ∃ k : Nat, k ≤ x.vs.length ∧ c = .int .i64 k ∧ wx.ownsRow W5.heap.size 41 3 v k (rcells ((x.at.vs.take k).map (dv r))) ∧ Below W5.heap.size W5 wx) (fun _ c _ => x.vs.length - (intOf c).toNat)
                case atStart => exact ⟨0, Nat.zero_le _, rfl, own_nil _ _ _ _, Below.refl _ _⟩
                case round =>
                  obtain ⟨k, hk2, rfl, hown, hbk⟩ := hrel
                  have HO := Lib.hid hown
                  have HBK2 := Lib.hid hbk
                  have hzk2 := hbk.size
                  have HLN : Hid (((x.at.vs.take k).map (dv r)).length = k) := by
                    show _ = _
                    rw [List.length_map, List.length_take]
                    exact Nat.min_eq_left (by show k ≤ (x.vs.map Int.toNat).length; rw [List.length_map]; exact hk2)
                  have HBW := Lib.hid (Below.then HX5.out.below hbk HX5.out.size)
                  clear hown hbk y0
                  by_cases hkl : k < x.vs.length
                  · obtain ⟨vb, vo, rfl, hvb, d0⟩ := slI_at HSV.out hkl
                    have hq := HER.out.2.1 x.vs[k] (List.getElem_mem hkl)
                    obtain ⟨q, hqe⟩ := Int.eq_ofNat_of_zero_le hq.1
                    have hqm : q < m := by omega
                    have d0 : wr.cell? ⟨vb, vo + k, none⟩ = some (.int .i64 (q : Nat)) := (HBW.out.cell (p := ⟨vb, vo + k, none⟩) hvb).trans (by rw [d0, hqe])
                    have hvb2 : vb < wr.heap.size := Nat.lt_of_lt_of_le hvb HBW.out.size
                    have HSN : Hid ((x.at.vs.take (k + 1)).map (dv r) = (x.at.vs.take k).map (dv r) ++ [r[q]'(by have := HRL.out; omega)]) := by
                      show _ = _
                      have hkl2 : k < x.at.vs.length := by show k < (x.vs.map Int.toNat).length; rw [List.length_map]; exact hkl
                      rw [List.take_succ_eq_append_getElem hkl2, List.map_append]
                      congr 1
                      have e : x.at.vs[k] = q := by show (x.vs.map Int.toNat)[k]'(by rw [List.length_map]; exact hkl) = q; rw [List.getElem_map, hqe]; rfl
                      rw [e]
                      show [dv r q] = _
                      unfold dv
                      rw [List.getD_eq_getElem?_getD, List.getElem?_eq_getElem (by have := HRL.out; omega)]
                      rfl
                    obtain ⟨rb, ro, rfl, hrb, e0, e1, e2⟩ := slR_at HSJ.out (i := q) (by have := HRL.out; omega)
                    have hrb2 : rb < wr.heap.size := Nat.lt_of_lt_of_le hrb HBW.out.size
                    have e0 := (HBW.out.cell (p := ⟨rb, ro + q * 3, none⟩) hrb).trans e0
                    have e1 := (HBW.out.cell (p := ⟨rb, ro + q * 3 + 1, none⟩) hrb).trans e1
                    have e2 := (HBW.out.cell (p := ⟨rb, ro + q * 3 + 2, none⟩) hrb).trans e2
                    have g7 : (0 : Int) ≤ (k : Int) := by omega
                    have g8 : (k : Int) < (x.vs.length : Int) := by omega
                    have g9 : (0 : Int) ≤ (q : Int) := by omega
                    have g10 : (q : Int) < (m : Int) := by omega
                    have hwk : IntKind.i64.wrap ((k : Int) + 1) = ((k + 1 : Nat) : Int) := by rw [IntWalk.i64_in _ (by have := HSM.out.vl; omega)]; omega
                    have hkb : k < 1000 := by have := HSM.out.vl; omega
                    generalize r[q]'(by have := HRL.out; omega) = u at *
                    generalize (x.at.vs.take k).map (dv r) = Lk at *
                    obtain ⟨A5, C5, rfl, -, -, -⟩ := own_slice HO.out (by decide)
                    have HL1 : Hid ((Lk ++ [u]).length = k + 1) := by show _ = _; rw [List.length_append, HLN.out]; rfl
                    have HOL : Hid (wr.ownsRow W5.heap.size 41 3 (.slice A5 k C5) Lk.length (rcells Lk)) := by rw [HLN.out]; exact HO.out
                    clear hqe hq
                    go_wp2_with
                      (at_builtin
                       refine app1V rfl (.tmp 115) (.tmp 120) rfl W5.heap.size (.slice A5 k C5) Lk rfl (HOL.out.alloc _) wr.heap.size u rfl ((Row.new wr 41 [.int .i64 u.kind, .int .i64 u.int, .string u.str]).cell 0) ((Row.new wr 41 [.int .i64 u.kind, .int .i64 u.int, .string u.str]).cell 1) ((Row.new wr 41 [.int .i64 u.kind, .int .i64 u.int, .string u.str]).cell 2) (by have := HLN.out; omega) (by simp; omega) ?_
                       intro v' w6 hown6 hg6
                       rw [HL1.out, ← HSN.out] at hown6
                       obtain ⟨A6, C6, rfl, -, -, -⟩ := own_slice hown6 (by decide)
                       have HO6 := Lib.hid hown6
                       have HB6 : Hid (Below W5.heap.size W5 w6) := HBK2.out.trans (app_kept (fun b hb => own_base HO.out hb) hzk2 hg6)
                       clear hown6 hg6)
                    go_wp2
                    go_roundw
                    case rel => exact ⟨k + 1, hkl, by go_num, HO6.out, HB6.out⟩
                    case measure => simp [intOf]; omega
                  · have hke : k = x.vs.length := by omega
                    have HY : Hid ((x.at.vs.take k).map (dv r) ∈ x.P) := by
                      show _ ∈ _
                      rw [List.take_of_length_le (by show (x.vs.map Int.toNat).length ≤ k; rw [List.length_map]; omega)]
                      exact HST.out
                    generalize (x.at.vs.take k).map (dv r) = Lk at *
                    obtain ⟨A5, C5, rfl, -, -, -⟩ := own_slice HO.out (by decide)
                    have hOL : wr.ownsRow W5.heap.size 41 3 (.slice A5 k C5) Lk.length (rcells Lk) := by rw [HLN.out]; exact HO.out
                    have hs5 : SlR wr.heap.size wr A5 Lk := by
                      rw [← HLN.out] at hOL
                      obtain ⟨-, A', C', e, -, -, hs', -⟩ := SlR.of_own hOL
                      injection e with e1 _ e3
                      subst e1 e3
                      exact hs'
                    have hr6 := HR5.out.up HBK2.out
                    have y1 : wr.cell? ⟨wj.heap.size, 1, none⟩ = some (.int .i64 x.ar) := hr6.cell 1
                    have y2 : wr.cell? ⟨wj.heap.size, 2, none⟩ = some (.slice PX x.P.length PXC) := hr6.cell 2
                    have hz6 := hr6.lt
                    have hkb : k < 1001 := by have := HSM.out.vl; omega
                    have HSE := Lib.hid (rlSearch_any x.ar PX A5 PXC C5 x.P Lk wr ((HSP.out.upB HX5.out.below).upB HBK2.out) hs5 (by have := HSM.out.many; omega) HSM.out.rsOk (by have := HLN.out; omega) HSM.out.ss)
                    rw [decide_eq_true HY.out, HLN.out] at HSE
                    clear hr6 hs5 hke hOL
                    go_wp2_with fail
                    refine HSE.out.mono ?_
                    rintro e w8 ⟨rfl, hx8⟩
                    have HB8 := Lib.hid (Below.then (Below.then HBJ.out HBW.out hzj) hx8.below (by have := HBW.out.size; omega))
                    clear hx8 HSE y1 y2
                    go_wp2
                    go_roundw
                    case rel => exact ⟨j + 1, hjl, by go_num, HB8.out⟩
                    case measure => simp [intOf]; omega
              · go_wp2
                go_roundw
                case rel => exact ⟨_, HIL.out, by go_num, HBJ.out⟩
                case measure => have := HZI.out; have := HIL.out; simp [intOf]; omega
        · have HOF := Lib.hid (rlOf_any m A' C' J wr (by omega) (by omega) HJI.out HRS.out (by omega))
          have HLW := Lib.hid (fun A C W (h : SlRs W.heap.size W A J) => l7Rows_any A C J W h (by omega) HRS.out)
          go_wp2_with fail
          refine HOF.out.mono ?_
          rintro e w5 ⟨h1, -, hb5⟩
          obtain ⟨rv, rfl, PA, PC, rfl, hpc, hpm, hfr⟩ := h1 HEF.out
          rw [RL.ofF_self HSS.out] at hpc hfr ⊢
          have HB5 := Lib.hid (Below.then HBI.out hb5 hzi)
          have HSL5 := Lib.hid hfr.sl
          have HPC := Lib.hid (And.intro hpc hpm)
          have hzb5 := HB5.out.size
          obtain ⟨VB, VD, e, hvb, hvd, hvs⟩ := own_slice HOM.out (by decide)
          injection e with e1 _ e3
          subst e1 e3
          obtain ⟨Z, hZX, hZs, hZe⟩ := HAV.out.zs
          have hZl : Z.length = X.length := by rw [← hZX, List.length_map]
          have hil2 : (ints (List.range m)).length = m := by unfold ints; rw [List.length_map, List.length_range]
          obtain ⟨W6, hW6⟩ : ∃ W6, W6 = w5.alloc (.cells #[.int .i64 (m : Nat), .slice PA J.length PC] 48) := ⟨_, rfl⟩
          have hr6 : Row W6 w5.heap.size 48 [.int .i64 (m : Nat), .slice PA J.length PC] := by rw [hW6]; exact Row.new w5 48 _
          have hx6 : Ext w5 W6 := by rw [hW6]; exact (Ext.refl w5).alloc _
          have b0 : W6.cell? ⟨w5.heap.size, 0, none⟩ = some (.int .i64 (m : Nat)) := hr6.cell 0
          have b1 : W6.cell? ⟨w5.heap.size, 1, none⟩ = some (.slice PA J.length PC) := hr6.cell 1
          have hz6 := hr6.lt
          have HX7 : Hid (Ext w5 (W6.alloc (.cells #[.slice VA m VC, .int .i64 (m : Nat), .slice PA J.length PC] 52))) := hx6.alloc _
          have HBW7 := Lib.hid (Below.then HB5.out HX7.out.below hzb5)
          have hO7 := own_oneL W6 W6.heap.size 52 3 [.slice VA m VC, .int .i64 (m : Nat), .slice PA J.length PC] rfl (Nat.le_refl _)
          have HO7 := Lib.hid hO7
          have HZS := Lib.hid ((Sl.below hZs HBW7.out (Nat.le_refl _)).more HBW7.out.size)
          have hbw6 : Below wv.heap.size wv W6 := Below.then HB5.out hx6.below hzb5
          have HEL : Hid (∀ z ∈ (ownA m J, (⟨VA, VC, PA, PC, none, 0⟩ : HM)) :: Z, ElM W6.heap.size W6 z) := fun z hz => by
            rcases List.mem_cons.1 hz with rfl | hz
            · refine ⟨by show (ints (List.range m)).length ≤ VC; omega, hvd, hpc, hpm, fun hn => ?_, HSL5.out.upB hx6.below⟩
              obtain ⟨b, rfl, hb, hc⟩ := hvs hn
              exact ⟨b, 0, rfl, Nat.lt_of_lt_of_le hb hbw6.size, fun i u hu => by rw [Nat.zero_add]; exact (hbw6.cell (p := ⟨b, i, none⟩) hb).trans (hc i u hu)⟩
            · exact (hZe z hz).upB hbw6
          have HCC : Hid ([.slice VA m VC, .int .i64 (m : Nat), .slice PA J.length PC] ++ Z.flatMap outC = ((ownA m J, (⟨VA, VC, PA, PC, none, 0⟩ : HM)) :: Z).flatMap outC) := by
            show _ = _
            rw [List.flatMap_cons]
            congr 1
            show _ = [Value.slice VA (ints (List.range m)).length VC, .int .i64 (m : Nat), .slice PA J.length PC]
            rw [hil2]
          have HZX : Hid (((ownA m J, (⟨VA, VC, PA, PC, none, 0⟩ : HM)) :: Z).map Prod.fst = ownA m J :: X) := by show _ = _; rw [List.map_cons, hZX]
          have HZL : Hid (((ownA m J, (⟨VA, VC, PA, PC, none, 0⟩ : HM)) :: Z).length = 1 + X.length ∧ Z.length = X.length) := ⟨by rw [List.length_cons]; omega, hZl⟩
          have HLX : Hid ((ownA m J :: X).length = 1 + X.length) := by show _ = _; rw [List.length_cons]; omega
          have HJI2 := Lib.hid (HJI.out.upB (Below.refl _ _))
          have HBW6 := Lib.hid hbw6
          clear hbw6 hfr hb5 hpc hpm hvb hvd hvs hZX hZs hZe hZl hil2 hr6 hx6 hO7 HOF h1
          go_upto_region 34 with (fail)
          rw [← hW6]
          clear hW6
          go_wp2_with
            (at_builtin
             refine appLAs rfl (.tmp 145) (.tmp 146) rfl W6.heap.size (.slice (some ⟨W6.heap.size, 0, none⟩) 1 1) 1 [.slice VA m VC, .int .i64 (m : Nat), .slice PA J.length PC] rfl HO7.out A1 X.length C1 Z HZL.out.2 rfl HZS.out (by omega) (by simp) ?_
             intro v8 w8 hown8 hg8
             rw [HCC.out] at hown8
             have hb8 : Below W6.heap.size W6 w8 := ((Below.refl _ _).alloc (Nat.le_refl _) (.cells #[.slice VA m VC, .int .i64 (m : Nat), .slice PA J.length PC] 52)).grown hg8 (by simp) (fun k hk => own_base HO7.out hk)
             obtain ⟨A8, C8, rfl, -, -, ha8⟩ := own_atsM HZL.out.1 hown8 fun z hz => (HEL.out z hz).upB hb8
             have HB8 := Lib.hid (Below.then HBW6.out hb8 HBW6.out.size)
             rw [HZX.out] at ha8
             have HJ8 := Lib.hid (joinS_any m A8 C8 (ownA m J :: X) w8 ha8 (by rw [HLX.out]; omega) HAG.out.1.sm (fun _ => by omega))
             rw [HLX.out] at HJ8
             clear hown8 hg8 ha8 hb8)
          refine HJ8.out.mono ?_
          rintro e w9 ⟨-, hb9, h9⟩
          obtain ⟨A9, C9, st9, rfl, -, hst9, -, -, hs9⟩ := h9 HAG.out.1.errA
          rw [Int.toNat_natCast, HAG.out.2] at hs9 ⊢
          have HB9 := Lib.hid (Below.then HB8.out hb9 HB8.out.size)
          have HS9 := Lib.hid hs9
          have HLW9 := Lib.hid (HLW.out A' C' w9 (HJV.out.upB HB9.out))
          clear h9 hb9 hs9 HJ8 HLW
          go_wp2_with fail
          refine HLW9.out.mono ?_
          rintro e w10 ⟨v10, rfl, ho10, hb10⟩
          obtain ⟨A10, C10, rfl, -, -, hs10⟩ := ho10.sl
          have HB10 := Lib.hid (Below.then HB9.out hb10 HB9.out.size)
          have HSM := Lib.hid (same_refl A9 A10 C9 C10 J w10 (HS9.out.upB hb10) hs10 (by omega) HRS.out)
          clear ho10 hb10 hs10 HLW9 HS9
          go_wp2_with fail
          refine HSM.out.mono ?_
          rintro e w11 ⟨rfl, hb11⟩
          have HB11 := Lib.hid (Below.then HBK.out (Below.then HB10.out hb11 HB10.out.size) HBK.out.size)
          clear hb11 HSM
          go_wp2_with fail
          refine (HFIN.out w11 HB11.out).mono ?_
          rintro e w12 ⟨rfl, hb12⟩
          go_wp2
          go_ret
          exact ⟨rfl, hb12⟩

end Go.Proofs.Ytiomelogggilgaa
end

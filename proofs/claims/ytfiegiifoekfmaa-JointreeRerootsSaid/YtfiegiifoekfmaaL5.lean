import Derived.Test.YtfiegiifoekfmaaL3
import Derived.Test.YtfiegiifoekfmaaJRer2
import Derived.Deep.RegionHeld3
import Derived.Deep.DeepCutAuto
namespace Go.Proofs.Ytfiegiifoekfmaa
open Go.RowKit

theorem eqInt_same (XA YA : Option Addr) (XC YC n : Nat) (xs : List Int) (w : World) (hx : SlI .i64 w.heap.size w XA xs) (hy : SlI .i64 w.heap.size w YA xs) (hn : xs.length = n) (hxl : n ≤ 1000000) :
    Calls Try.prog 21 #[.slice XA n XC, .slice YA n YC] w fun e w' => e = .returned (.bool true) ∧ ∃ k, w' = w.drewN k := by
  subst hn
  have h := eqInt_any XA YA XC YC xs xs w hx hy hxl hxl
  rw [decide_eq_true rfl] at h
  exact h

theorem slI_fresh_set {k : IntKind} {B : Nat} {w : World} {A : Option Addr} {zs : List Int} {p : Addr} (h : SlI k B w A zs) (hf : ∀ ad : Addr, A = some ad → p.block < ad.block) (u : Value) : SlI k B (w.setCell p u) A zs := fun hn => by
  obtain ⟨b, o, e, hb, hc⟩ := h hn
  have := hf _ e
  exact ⟨b, o, e, hb, fun i u hu => far_cell (by show p.block ≠ b; simp only at this; omega) (hc i u hu)⟩

theorem idxF_root {ps : List Int} {r : Nat} (hr : JT.rootedB ps = true) (hrl : r < ps.length) (h : JT.par ps r = -1) : idxF ps (-1) = (r : Int) := by
  obtain ⟨_, hroots, _⟩ := JT.rooted_parts hr
  refine idxF_at hrl (by simpa [JT.par, hrl] using h) fun i h1 h2 he => ?_
  have := JT.one_root hroots h2 hrl (by simp [JT.par, h2, he]) (by omega)
  omega

set_option maxHeartbeats 4000000 in
set_option maxRecDepth 100000 in
theorem reroots_walk (PA : Option Addr) (PC : Nat) (ps : List Int) (root : Int) (w : World) (hP : SlI .i64 w.heap.size w PA ps) (hpl : ps.length ≤ 9223372036854775807) :
    Calls Try.prog 8 #[.slice PA ps.length PC, .int .i64 root] w fun e w' => e = .returned (.bool true) ∧ Below w.heap.size w w' := by
  by_cases h2 : 12 < ps.length
  · clear hP
    go_enter Try.func8, Try.ntmps8
    go_wp2_with fail
    refine (awake_any _).mono ?_
    rintro e w2 ⟨rfl, hb2⟩
    go_wp2
    go_ret
    exact ⟨rfl, hb2⟩
  have hpl2 : ps.length ≤ 1000000 := by omega
  have H0 := Lib.hid (PB.start (PC := PC) hP)
  clear hP
  cases hr : JT.rootedB ps
  · have HR := Lib.hid hr
    clear hr
    go_enter Try.func8, Try.ntmps8
    go_wp2_with fail
    refine (jtReroot_bad PA PC ps root _ H0.out.P hpl2 HR.out).mono ?_
    rintro e w1 ⟨rfl, hb1⟩
    have H1 := Lib.hid ((H0.out.keep hb1).alloc (.cells #[.slice none 0 0] 34))
    have hsz1 := (H0.out.keep hb1).sz
    clear hb1 H0
    go_wp2_with fail
    refine (refRooted_any PA PC ps _ H1.out.P hpl2).mono ?_
    rw [HR.out]
    rintro e w4 ⟨rfl, hb4⟩
    have H4 := Lib.hid (H1.out.keep hb4)
    have ht4 : w4.cell? ⟨w1.heap.size, 0, none⟩ = some (.slice none 0 0) := (hb4.cell (p := ⟨w1.heap.size, 0, none⟩) (by simp)).trans (by go_simp)
    clear hb4 H1
    go_wp2_with fail
    refine (awake_any _).mono ?_
    rintro e w5 ⟨rfl, hb5⟩
    have H5 := Lib.hid (H4.out.keep hb5)
    clear hb5 H4
    go_wp2
    go_ret
    exact ⟨rfl, H5.out.bel⟩
  have HR := Lib.hid hr
  clear hr
  by_cases hrng : root < 0 ∨ (ps.length : Int) ≤ root
  · go_enter Try.func8, Try.ntmps8
    go_wp2_with fail
    refine (jtReroot_range PA PC ps root _ H0.out.P hpl2 HR.out hrng).mono ?_
    rintro e w1 ⟨rfl, hb1⟩
    have H1 := Lib.hid ((H0.out.keep hb1).alloc (.cells #[.slice none 0 0] 34))
    have hsz1 := (H0.out.keep hb1).sz
    clear hb1 H0
    go_wp2_with fail
    refine (refRooted_any PA PC ps _ H1.out.P hpl2).mono ?_
    rw [HR.out]
    rintro e w4 ⟨rfl, hb4⟩
    have H4 := Lib.hid (H1.out.keep hb4)
    have ht4 : w4.cell? ⟨w1.heap.size, 0, none⟩ = some (.slice none 0 0) := (hb4.cell (p := ⟨w1.heap.size, 0, none⟩) (by simp)).trans (by go_simp)
    clear hb4 H1
    rcases hrng with hrng | hrng
    · go_wp2_with fail
      refine (awake_any _).mono ?_
      rintro e w5 ⟨rfl, hb5⟩
      have H5 := Lib.hid (H4.out.keep hb5)
      clear hb5 H4
      go_wp2
      go_ret
      exact ⟨rfl, H5.out.bel⟩
    · have hn0 : ¬ root < 0 := by omega
      go_wp2_with fail
      refine (awake_any _).mono ?_
      rintro e w5 ⟨rfl, hb5⟩
      have H5 := Lib.hid (H4.out.keep hb5)
      clear hb5 H4
      go_wp2
      go_ret
      exact ⟨rfl, H5.out.bel⟩
  obtain ⟨rt, rfl⟩ := Int.eq_ofNat_of_zero_le (show 0 ≤ root by omega)
  have hrt : rt < ps.length := by omega
  clear hrng
  obtain ⟨hql, hqr, r, hrl, hpr, hqq⟩ := JT.reroot_rooted HR.out hrt
  have HQL := Lib.hid hql
  have HQR := Lib.hid hqr
  have HQQ := Lib.hid hqq
  have HIX := Lib.hid (idxF_root HR.out hrl hpr)
  clear hql hqr hqq hpr
  have hd0 : decide ((rt : Int) < 0) = false := by simp
  have hd37 : decide (ps.length ≤ rt) = false := by simp; omega
  have hd12 : decide (12 < (ps.length : Int)) = false := by simp; omega
  go_enter Try.func8, Try.ntmps8
  go_wp2_with fail
  refine (jtReroot_ok PA PC ps rt _ H0.out.P hpl2 HR.out hrt).mono ?_
  rintro e w1 ⟨A, c, rfl, -, hs1, -, hb1⟩
  have H1 := Lib.hid ((H0.out.keep hb1).alloc (.cells #[.slice A ps.length c] 34))
  have HS1 := Lib.hid (hs1.alloc (Nat.le_refl _) (.cells #[.slice A ps.length c] 34))
  have hsz1 := (H0.out.keep hb1).sz
  clear hb1 H0 hs1
  go_wp2_with fail
  refine (refRooted_any PA PC ps _ H1.out.P hpl2).mono ?_
  rw [HR.out]
  rintro e w4 ⟨rfl, hb4⟩
  have H4 := Lib.hid (H1.out.keep hb4)
  have ht4 : w4.cell? ⟨w1.heap.size, 0, none⟩ = some (.slice A ps.length c) := (hb4.cell (p := ⟨w1.heap.size, 0, none⟩) (by simp)).trans (by go_simp)
  have hsz4 : w1.heap.size < w4.heap.size := by have := hb4.size; simp at this; omega
  have HS4 := Lib.hid ((HS1.out.below hb4 (by simp)).more (show w1.heap.size ≤ w4.heap.size by omega))
  have HBK : Hid (∀ W : World, SlI .i64 W.heap.size W A (JT.rerootF ps rt) → Calls Try.prog 26 #[.agg #[.slice A ps.length c], .int .i64 r] W fun e w' => ∃ A c, e = .returned (.tuple #[.agg #[.slice A ps.length c], .int .i64 0]) ∧ SlI .i64 w'.heap.size w' A ps ∧ (∀ ad : Addr, A = some ad → W.heap.size ≤ ad.block) ∧ Below W.heap.size W w') := fun W hW => by
    have h := jtReroot_ok A c (JT.rerootF ps rt) r W hW (by rw [HQL.out]; exact hpl2) HQR.out (by rw [HQL.out]; exact hrl)
    rw [HQL.out, HQQ.out] at h
    refine h.mono fun e w' ⟨A, c, h1, _, h3, h5, h4⟩ => ⟨A, c, h1, h3, h5, h4⟩
  clear hb4 H1 HS1
  go_upto_region 9 with (fail)
  go_cut [8, 9] (fun b8 e9 wx => ∃ (g : Nat) (A5 : Option Addr) (c5 : Nat), b8 = .pointer (some ⟨g, 0, none⟩) ∧ e9 = .int .i64 0 ∧ wx.cell? ⟨g, 0, none⟩ = some (.slice A5 ps.length c5) ∧ g < wx.heap.size ∧ SlI .i64 wx.heap.size wx A5 ps ∧ PB w PA PC ps wx ∧ wx.cell? ⟨w1.heap.size, 0, none⟩ = some (.slice A ps.length c) ∧ w1.heap.size < wx.heap.size ∧ SlI .i64 wx.heap.size wx A (JT.rerootF ps rt))
  case first =>
    have hne : w4.heap.size ≠ w1.heap.size := by omega
    go_region_held3 (fun w' => w'.cell? ⟨w1.heap.size, 0, none⟩ = some (.slice A ps.length c)) (first | exact far_cell hne hS | go_keep)
      (first | (go_at_call 20; refine (idxInt_any PA PC ps (-1) _ ?_ hpl2).mono ?_; (first | exact H4.out.P | exact (H4.out.alloc _).P); rw [HIX.out]; rintro e w' ⟨rfl, rfl⟩)
             | (go_at_call 26; (with_reducible refine (HBK.out w4.drew ?_).mono ?_); (exact HS4.out); rintro e w5 ⟨A5, c5, rfl, hs5, hfr5, hb5⟩; have hS : w5.cell? ⟨w1.heap.size, 0, none⟩ = some (.slice A ps.length c) := (hb5.cell (p := ⟨w1.heap.size, 0, none⟩) hsz4).trans ht4; have hsz5 : w1.heap.size < w5.heap.size := Nat.lt_of_lt_of_le hsz4 hb5.size)
             | (go_at_call 26; (with_reducible refine (HBK.out (w4.alloc (.cells #[.slice none 0 0] 34)).drew ?_).mono ?_); (exact (HS4.out.alloc (Nat.le_refl _) _).more (by simp)); rintro e w5 ⟨A5, c5, rfl, hs5, hfr5, hb5⟩; have hS : w5.cell? ⟨w1.heap.size, 0, none⟩ = some (.slice A ps.length c) := (hb5.cell (p := ⟨w1.heap.size, 0, none⟩) (by simp; omega)).trans (by go_simp); have hbx : w5.cell? ⟨w4.heap.size, 0, none⟩ = some (.slice none 0 0) := (hb5.cell (p := ⟨w4.heap.size, 0, none⟩) (by simp)).trans (by go_simp); have hbf : w5.frozen? ⟨w4.heap.size, 0, none⟩ = false := (hb5.frozen (p := ⟨w4.heap.size, 0, none⟩) (by simp)).trans (by go_simp); have hsz5 : w4.heap.size < w5.heap.size := by have := hb5.size; simp at this; omega))
    · go_wp2_with fail
      go_meet
      have hb6 := Below.undrew hb5
      exact ⟨w5.heap.size, A5, c5, rfl, rfl, by go_simp, by simp, (hs5.alloc (Nat.le_refl _) _).more (by simp), (H4.out.keep hb6).alloc _, old_cell _ _ hsz5 hS, by simp; omega, ((HS4.out.below hb6 (Nat.le_refl _)).alloc hb6.size _).more (by have := hb6.size; simp; omega)⟩
    all_goals
      go_wp2_with fail
      go_meet
      have hb6 := Below.undrew hb5
      have hcmp : w4.heap.size + 1 ≤ w5.heap.size := by omega
      have hb7 : Below w4.heap.size w4 w5 := ((Below.refl _ _).alloc (Nat.le_refl _) _).trans (hb6.mono (by simp))
      refine ⟨w4.heap.size, A5, c5, rfl, rfl, World.cell?_setCell_same _ _ _ hbx, by simp; omega, ?_, (H4.out.keep hb7).setCell (by show w.heap.size < w4.heap.size; omega) _, far_cell hne hS, by simp; omega, ?_⟩
      · exact (slI_fresh_set hs5 (fun ad h => by have := hfr5 ad h; simp at this; show w4.heap.size < ad.block; omega) _).more (by simp)
      · exact ((HS4.out.below hb7 (Nat.le_refl _)).setCell (Nat.le_refl _) _).more (by simp; omega)
  case rest =>
    obtain ⟨g, A5, c5, rfl, rfl, hg, hgl, hs5, hpb, ht, htl, hsA⟩ := hcut
    have HS5 := Lib.hid hs5
    have HPB := Lib.hid hpb
    have HSA := Lib.hid hsA
    clear hs5 hpb hsA ht4 H4 HS4
    go_wp2
    go_region_held3 (fun w' => w'.cell? ⟨w1.heap.size, 0, none⟩ = some (.slice A ps.length c) ∧ w'.cell? ⟨g, 0, none⟩ = some (.slice A5 ps.length c5)) (first | exact ⟨hk1, hk2⟩ | go_keep)
      (first
        | (go_at_call 27; refine (refReroot_any PA PC ps rt _ ?_ hpl2 HR.out hrt).mono ?_; (exact HPB.out.P); rintro e w6 ⟨A6, c6, rfl, hs6, hb6⟩
           have hk1 : w6.cell? ⟨w1.heap.size, 0, none⟩ = some (.slice A ps.length c) := (hb6.cell (p := ⟨w1.heap.size, 0, none⟩) htl).trans ht
           have hk2 : w6.cell? ⟨g, 0, none⟩ = some (.slice A5 ps.length c5) := (hb6.cell (p := ⟨g, 0, none⟩) hgl).trans hg
           have htl6 : w1.heap.size < w6.heap.size := Nat.lt_of_lt_of_le htl hb6.size
           have hgl6 : g < w6.heap.size := Nat.lt_of_lt_of_le hgl hb6.size
           have H6 := Lib.hid (HPB.out.keep (Below.undrew hb6))
           have HS6 := Lib.hid hs6
           have HSA6 := Lib.hid ((HSA.out.below (Below.undrew hb6) (Nat.le_refl _)).more hb6.size)
           have HS56 := Lib.hid ((HS5.out.below (Below.undrew hb6) (Nat.le_refl _)).more hb6.size)
           clear hs6 hb6)
        | (go_at_call 21; (with_reducible refine (eqInt_same A A6 c c6 ps.length (JT.rerootF ps rt) _ ?_ ?_ HQL.out hpl2).mono ?_); (exact HSA6.out); (exact HS6.out); rintro e w7 ⟨rfl, n7, rfl⟩)
        | (go_at_call 21; (with_reducible refine (eqInt_same A5 PA c5 PC ps.length ps _ ?_ ?_ rfl hpl2).mono ?_); (exact HS56.out); (exact H6.out.P); rintro e w7 ⟨rfl, n8, rfl⟩)
        | (go_at_call 11; refine (awake_any _).mono ?_; rintro e w9 ⟨rfl, hb9⟩
           have hk1 : w9.cell? ⟨w1.heap.size, 0, none⟩ = some (.slice A ps.length c) := (hb9.cell (p := ⟨w1.heap.size, 0, none⟩) htl6).trans hk1
           have hk2 : w9.cell? ⟨g, 0, none⟩ = some (.slice A5 ps.length c5) := (hb9.cell (p := ⟨g, 0, none⟩) hgl6).trans hk2
           have H9 := Lib.hid (H6.out.keep ⟨hb9.os, hb9.tape, hb9.output, hb9.size, hb9.block⟩)
           clear hb9))
    all_goals
      go_wp2
      go_ret
      exact ⟨rfl, H9.out.bel⟩

end Go.Proofs.Ytfiegiifoekfmaa

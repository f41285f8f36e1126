import Derived.Test.YtfiegiifoekfmaaW12
namespace Go.Proofs.Ytfiegiifoekfmaa
open Go.RowKit

theorem nz_any (x : Nat) (w : World) : Calls Try.prog 35 #[.int .u32 x] w fun e w' => e = .returned (.bool ((x : Int) != 0)) ∧ w = w' := by
  go_enter Try.func35, Try.ntmps35
  go_wp2
  go_ret
  exact ⟨rfl, rfl⟩

set_option maxHeartbeats 1000000 in
theorem nzIdx_any (A : Option Addr) (c : Nat) (xs : List Nat) (w : World) (hx : SlN .u32 w.heap.size w A xs) (hxl : xs.length ≤ 1000000) :
    Calls Try.prog 41 #[.slice A xs.length c, .func (.func 35) #[] #[]] w fun e w' => (∃ i : Int, e = .returned (.int .i64 i) ∧ decide (0 ≤ i) = !(xs.all fun z => z == 0)) ∧ w = w' := by
  go_enter Try.func41, Try.ntmps41
  go_wp2
  go_loop [8] (fun i => ∃ k : Nat, k ≤ xs.length ∧ i = .int .i64 k ∧ (∀ i (h1 : i < k) (h2 : i < xs.length), xs[i] = 0)) (fun i => xs.length - (intOf i).toNat)
  case atStart => exact ⟨0, Nat.zero_le _, rfl, fun i h => absurd h (by omega)⟩
  case round =>
    obtain ⟨k, hk, rfl, hall⟩ := hrel
    have HA := Lib.hid hall
    clear hall
    by_cases hlt : k < xs.length
    · obtain ⟨b, o, rfl, hbb, hc⟩ := slN_at hx hlt
      have HX : Hid (∀ q, q = xs[k] → q ≠ 0 → (xs.all fun z => z == 0) = false) := fun q hq hne => by
        rw [Bool.eq_false_iff]
        intro h
        rw [List.all_eq_true] at h
        exact hne (hq.trans (by simpa using h _ (List.getElem_mem hlt)))
      generalize hxk : xs[k] = xk at *
      have HX2 := Lib.hid hxk
      clear hxk hx
      by_cases heq : xk = 0
      · have HE := Lib.hid heq
        have hs : ((xk : Int) != 0) = false := by simp [heq]
        clear heq
        go_wp2_with (go_at_call 35; refine (nz_any xk _).mono ?_; rintro e w' ⟨rfl, rfl⟩)
        go_round
        case rel =>
          refine ⟨k + 1, by omega, by go_num, ?_⟩
          intro i h1 h2
          by_cases hik : i < k
          · exact HA.out i hik h2
          · obtain rfl : i = k := by omega
            rw [HX2.out]; exact HE.out
        case measure => simp [intOf]; omega
      · have HN := Lib.hid (HX.out xk rfl heq)
        have hs : ((xk : Int) != 0) = true := by simp; omega
        clear heq
        go_wp2_with (go_at_call 35; refine (nz_any xk _).mono ?_; rintro e w' ⟨rfl, rfl⟩)
        go_ret
        exact ⟨⟨k, rfl, by rw [HN.out]; simp⟩, rfl⟩
    · have HN : Hid ((xs.all fun z => z == 0) = true) := by
        show _ = _
        rw [List.all_eq_true]
        intro x hx2
        rw [beq_iff_eq]
        obtain ⟨i, hi, rfl⟩ := List.getElem_of_mem hx2
        exact HA.out i (by omega) hi
      clear hx
      go_wp2
      go_ret
      exact ⟨⟨-1, rfl, by rw [HN.out]; decide⟩, rfl⟩

set_option maxHeartbeats 1000000 in
theorem nzHas_any (A : Option Addr) (c : Nat) (xs : List Nat) (w : World) (hx : SlN .u32 w.heap.size w A xs) (hxl : xs.length ≤ 1000000) :
    Calls Try.prog 34 #[.slice A xs.length c, .func (.func 35) #[] #[]] w fun e w' => e = .returned (.bool (!(xs.all fun z => z == 0))) ∧ w = w' := by
  have HI := Lib.hid (nzIdx_any A c xs w hx hxl)
  clear hx
  go_enter Try.func34, Try.ntmps34
  go_wp2_with fail
  refine HI.out.mono ?_
  rintro e w' ⟨⟨i, rfl, hi⟩, rfl⟩
  have HII := Lib.hid hi
  clear hi HI
  go_wp2
  go_ret
  exact ⟨ret_bool HII.out, rfl⟩

set_option maxHeartbeats 1000000 in
theorem acyclic_any (n : Nat) (EA : Option Addr) (EC : Nat) (es : List Nat) (w : World)
   (hE : SlN .u32 w.heap.size w EA es) (hu : JT.U32 es) (hk : JT.hgCheckF n es = 0) (hm : 0 < es.length) :
    Calls Try.prog 17 #[.agg #[.int .i64 n, .slice EA es.length EC]] w fun r w' => r = .returned (.bool ((JT.reduceF n es).rest.all fun z => z == 0)) ∧ Below w.heap.size w w' := by
  obtain ⟨n', hn0, hn32, hm64, -⟩ := JT.hgCheckF_zero hk
  have hel : es.length ≤ 1000000 := by omega
  have HU := Lib.hid hu
  have HK := Lib.hid hk
  have HE : Hid (∀ o1, SlN .u32 (w.alloc o1).heap.size (w.alloc o1) EA es) := fun o1 => (hE.alloc (Nat.le_refl _) o1).more (by simp)
  have hn' : n ≤ 32 := by omega
  clear hE hu hk hn32 hn0
  go_enter Try.func17, Try.ntmps17
  go_wp2_with fail
  refine (hgCheck_any n EA EC es _ (HE.out _) HU.out hel).mono ?_
  rw [HK.out]
  rintro e w1 ⟨rfl, hb1⟩
  have hc1 : w1.cell? ⟨w.heap.size, 0, none⟩ = some (.int .i64 n) := (hb1.cell (p := ⟨w.heap.size, 0, none⟩) (by simp)).trans (by go_simp)
  have hc2 : w1.cell? ⟨w.heap.size, 1, none⟩ = some (.slice EA es.length EC) := (hb1.cell (p := ⟨w.heap.size, 1, none⟩) (by simp)).trans (by go_simp)
  have hbw := Below.box hb1 (by simp)
  have hsz1 : w.heap.size + 1 ≤ w1.heap.size := by have := hb1.size; simpa using this
  have HE1 := Lib.hid (((HE.out _).below hb1 (Nat.le_refl _)).more (show _ ≤ w1.heap.size by simp; omega))
  clear hb1 HE
  go_wp2_with fail
  refine (reduce_walk n EA EC es _ HE1.out HU.out HK.out hm).mono ?_
  rintro e w2 ⟨v, g, cap, rfl, hst, hown, hb2⟩
  have HO := Lib.hid hown
  have hbw2 := Below.then hbw hb2 hbw.size
  clear hst hown hb2 hbw
  have hlen : (JT.reduceF n es).rest.length = es.length := (JT.reduceF_ok HU.out hn').lrest
  have HC := nzHas_any (some ⟨g, 0, none⟩) cap (JT.reduceF n es).rest w2 (own_sl HO.out) (by rw [hlen]; omega)
  rw [hlen] at HC
  replace HC := Lib.hid HC
  clear hlen HO
  go_wp2_with fail
  refine HC.out.mono ?_
  rintro e w3 ⟨rfl, rfl⟩
  clear HC
  go_wp2
  go_ret
  exact ⟨ret_bool (by simp), hbw2⟩

end Go.Proofs.Ytfiegiifoekfmaa

import Derived.Test.YtfiegiifoekfmaaW7
namespace Go.Proofs.Ytfiegiifoekfmaa
open Go.RowKit

set_option maxHeartbeats 1000000 in
set_option maxRecDepth 100000 in
theorem refJoin_any (n : Nat) (EA PA : Option Addr) (EC PC : Nat) (es : List Nat) (ps : List Int) (w : World)
   (he : SlN .u32 w.heap.size w EA es) (hu : U32s es) (hp : SlI .i64 w.heap.size w PA ps) (hel : es.length ≤ 1000000) (hn : n ≤ 32) (hl : ps.length = es.length) (hv : ∀ p ∈ ps, -1 ≤ p ∧ p < ps.length) :
    Calls Try.prog 14 #[.int .i64 n, .slice EA es.length EC, .slice PA ps.length PC] w fun e w' => e = .returned (.bool (JT.joinB n es ps)) ∧ w = w' := by
  have HU := Lib.hid hu
  have HL := Lib.hid hl
  have HV := Lib.hid hv
  have hpl : ps.length ≤ 1000000 := by omega
  clear hu hl hv
  go_enter Try.func14, Try.ntmps14
  go_wp2
  go_loop [7] (fun i => ∃ v : Nat, v ≤ n ∧ i = .int .i64 v ∧ (∀ u, u < v → JT.vOk es ps u)) (fun i => n - (intOf i).toNat)
  case atStart => exact ⟨0, Nat.zero_le _, rfl, by omega⟩
  case round =>
    obtain ⟨v, hvn, rfl, hall⟩ := hrel
    have HA := Lib.hid hall
    clear hall
    by_cases hlt : v < n
    · go_wp2
      go_loop [8, 9, 10] (fun a b i => ∃ k : Nat, k ≤ es.length ∧ i = .int .i64 k ∧ a = .int .i64 (JT.nodesTo es v k : Nat) ∧ b = .int .i64 (JT.linksTo es ps v k : Nat)) (fun _ _ i => es.length - (intOf i).toNat)
      case atStart => exact ⟨0, Nat.zero_le _, rfl, rfl, rfl⟩
      case round =>
        obtain ⟨k, hk, rfl, rfl, rfl⟩ := hrel
        have hnl := JT.nodesTo_le es v k
        have hll := JT.linksTo_le es ps v k
        by_cases hkl : k < es.length
        · have hkp : k < ps.length := by have := HL.out; omega
          have hns := JT.nodesTo_succ es v k
          have hls := JT.linksTo_succ es ps v k
          have hek : es[k]?.getD 0 = es[k] := by simp [hkl]
          have hpk : ps[k]?.getD 0 = ps[k] := by simp [hkp]
          have hue : es[k] ≤ 4294967295 := HU.out _ (List.getElem_mem hkl)
          have hvk := HV.out ps[k] (List.getElem_mem hkp)
          unfold JT.linkB at hls
          rw [hek] at hns hls
          rw [hpk] at hls
          obtain ⟨b, o, rfl, hbb, hc⟩ := slN_at he hkl
          obtain ⟨b2, o2, rfl, hbb2, hc2⟩ := slI_at hp hkp
          generalize es[k] = ek at *
          generalize ps[k] = p at *
          generalize JT.nodesTo es v k = nk at *
          generalize JT.linksTo es ps v k = lk at *
          clear hek hpk
          have HNS := Lib.hid hns
          have HLS := Lib.hid hls
          clear hns hls
          cases hh : JT.has ek v
          · have HH := Lib.hid hh
            clear hh
            go_wp2_with (go_at_call 31; refine (has_any ek v _ (by omega) (by omega)).mono ?_; rw [HH.out]; rintro e w' ⟨rfl, rfl⟩)
            go_round
            case rel => exact ⟨k + 1, by omega, by go_num, by rw [HNS.out, HH.out]; rfl, by rw [HLS.out, HH.out]; rfl⟩
            case measure => simp [intOf]; omega
          · have HH := Lib.hid hh
            clear hh
            by_cases hneg : p < 0
            · go_wp2_with (go_at_call 31; refine (has_any ek v _ (by omega) (by omega)).mono ?_; rw [HH.out]; rintro e w' ⟨rfl, rfl⟩)
              go_round
              case rel => exact ⟨k + 1, by omega, by go_num, by rw [HNS.out, HH.out]; go_num, by rw [HLS.out, HH.out, decide_eq_false (by omega : ¬ 0 ≤ p)]; rfl⟩
              case measure => simp [intOf]; omega
            · obtain ⟨q, rfl⟩ := Int.eq_ofNat_of_zero_le (show 0 ≤ p by omega)
              have hq : q < es.length := by have := HL.out; omega
              obtain ⟨b', o', e', hb', hcq⟩ := slN_at he hq
              simp at e'
              obtain ⟨rfl, rfl⟩ := e'
              have huq : es[q] ≤ 4294967295 := HU.out _ (List.getElem_mem hq)
              have hqq : es[((q : Nat) : Int).toNat]?.getD 0 = es[q] := by simp [hq]
              have HQQ := Lib.hid hqq
              clear hqq he hp
              generalize es[q] = eq at *
              have hLS := HLS.out
              rw [HQQ.out] at hLS
              have HLS2 := Lib.hid hLS
              clear hLS HLS HQQ
              go_wp2_with fail
              refine (has_any ek v _ (by omega) (by omega)).mono ?_
              rw [HH.out]
              rintro e w' ⟨rfl, rfl⟩
              go_wp2_with fail
              refine (has_any eq v _ (by omega) (by omega)).mono ?_
              cases hh2 : JT.has eq v
              · rintro e w' ⟨rfl, rfl⟩
                have HH2 := Lib.hid hh2
                clear hh2
                go_wp2
                go_round
                case rel => exact ⟨k + 1, by omega, by go_num, by rw [HNS.out, HH.out]; go_num, by rw [HLS2.out, HH.out, HH2.out]; simp⟩
                case measure => simp [intOf]; omega
              · rintro e w' ⟨rfl, rfl⟩
                have HH2 := Lib.hid hh2
                clear hh2
                go_wp2
                go_round
                case rel => exact ⟨k + 1, by omega, by go_num, by rw [HNS.out, HH.out]; go_num, by rw [HLS2.out, HH.out, HH2.out]; simp⟩
                case measure => simp [intOf]; omega
        · obtain rfl : k = es.length := by omega
          by_cases h0 : JT.nodesTo es v es.length = 0
          · have HO : Hid (JT.vOk es ps v) := .inl h0
            rw [h0]
            clear h0 hnl
            generalize JT.linksTo es ps v es.length = lk at *
            go_wp2
            go_round
            case rel =>
              refine ⟨v + 1, by omega, by go_num, fun u hu => ?_⟩
              by_cases huv : u < v
              · exact HA.out u huv
              · obtain rfl : u = v := by omega
                exact HO.out
            case measure => simp [intOf]; omega
          · by_cases h1 : (JT.nodesTo es v es.length : Int) - JT.linksTo es ps v es.length = 1
            · have HO : Hid (JT.vOk es ps v) := .inr h1
              generalize JT.linksTo es ps v es.length = lk at *
              generalize JT.nodesTo es v es.length = nk at *
              have hs : ((nk : Int) - (lk : Int) != 1) = false := by simp [h1]
              clear h1
              go_wp2
              go_round
              case rel =>
                refine ⟨v + 1, by omega, by go_num, fun u hu => ?_⟩
                by_cases huv : u < v
                · exact HA.out u huv
                · obtain rfl : u = v := by omega
                  exact HO.out
              case measure => simp [intOf]; omega
            · have HF : Hid (JT.joinB n es ps = false) := JT.joinB_false hlt (by rintro (h | h); exact h0 h; exact h1 h)
              generalize JT.linksTo es ps v es.length = lk at *
              generalize JT.nodesTo es v es.length = nk at *
              have hs : ((nk : Int) - (lk : Int) != 1) = true := by simp [h1]
              clear h1
              go_wp2
              go_ret
              exact ⟨ret_bool HF.out.symm, rfl⟩
    · have HF : Hid (JT.joinB n es ps = true) := JT.joinB_true fun u hu => HA.out u (by omega)
      go_wp2
      go_ret
      exact ⟨ret_bool HF.out.symm, rfl⟩

end Go.Proofs.Ytfiegiifoekfmaa

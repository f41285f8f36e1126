import Derived.Test.YtfiegiifoekfmaaW9
import Derived.Test.YtfiegiifoekfmaaJRer
namespace Go.Proofs.Ytfiegiifoekfmaa
open Go.RowKit

theorem boolInfo : (Try.prog.info? 4).map (fun i => (i.zero, i.size, i.bytes)) = some (some (.bool false), 1, 1) := by kernel_rfl
theorem makeBools (n : Nat) (hn : n ≤ 1000000) (w : World) : (Instr.makeSlice 66 (.int .i64 (n : Int)) (.int .i64 (n : Int))).run Try.prog w = .ok (.slice (some ⟨w.heap.size, 0, none⟩) n n) (w.alloc (.cells (zerosA (.bool false) n) 4)) := by
  obtain ⟨i0, hi0, hz0, hz1, hz2⟩ := info_parts boolInfo
  have := run_make (P := Try.prog) w 66 4 i0 _ Try.underlying66 hi0 hz0 .i64 .i64 n n (by omega) (by omega) (by rw [hz2]; omega) (by omega)
  rw [this, hz1]
  simp only [Int.toNat_natCast]
  rw [zeros_made _ _ rfl]

set_option maxHeartbeats 1000000 in
set_option maxRecDepth 100000 in
theorem refOrder_any (PA : Option Addr) (PC : Nat) (ps : List Int) (w : World) (hp : SlI .i64 w.heap.size w PA ps) (hpl : ps.length ≤ 1000000) (hr : JT.rootedB ps = true) :
    Calls Try.prog 22 #[.slice PA ps.length PC] w fun e w' => ∃ v, e = .returned v ∧ w'.ownsRow w.heap.size 3 1 v (JT.orderF ps).length (natV (JT.orderF ps)) ∧ Below w.heap.size w w' := by
  have hmk := makeBools ps.length hpl
  have HR := Lib.hid hr
  clear hr
  go_enter Try.func22, Try.ntmps22
  go_wp2
  go_loopw [3] (fun nv wr => ∃ D : List Nat, JT.Greedy ps D ∧ wr.ownsRow (w.heap.size + 1) 3 1 nv D.length (natV D) ∧ Row wr w.heap.size 4 ((JT.dnF ps.length D).map Value.bool) ∧ Below w.heap.size w wr) (fun nv _ => ps.length - lenOf nv)
  case atStart =>
    refine ⟨[], JT.Greedy.nil ps, own_nil _ _ _ _, ?_, (Below.refl _ _).alloc (Nat.le_refl _) _⟩
    have := Row.zeros w 4 (.bool false) ps.length
    rw [JT.dnF_nil, List.map_replicate]
    exact this
  case round =>
    obtain ⟨D, hG, hown, hrow, hb⟩ := hrel
    have hlen := hG.length
    obtain ⟨A, cc, hu3, hcc, -, -⟩ := Sl.of_own hown
    rw [List.length_map] at hu3 hcc
    subst hu3
    have HG := Lib.hid hG
    have HO := Lib.hid hown
    have HRW := Lib.hid hrow
    clear hG hown hrow
    by_cases hlt : D.length < ps.length
    · go_wp2
      go_loop [5, 6] (fun nx i => ∃ (j : Nat) (x : Int), j ≤ ps.length ∧ i = .int .i64 ((j : Int) - 1) ∧ nx = .int .i64 x ∧ JT.NextFrom ps D j x) (fun _ i => (intOf i + 1).toNat)
      case atStart => exact ⟨ps.length, -1, Nat.le_refl _, rfl, rfl, JT.NextFrom.start ps D⟩
      case round =>
        obtain ⟨j, x, hj, rfl, rfl, hnx⟩ := hrel
        have HNX := Lib.hid hnx
        clear hnx
        by_cases hj0 : j = 0
        · subst hj0
          rw [show (((0 : Nat) : Int) - 1) = (-1 : Int) by omega]
          obtain ⟨v, rfl, hv, hG'⟩ := HNX.out.found HR.out HG.out hlt
          have hdl : v < (JT.dnF ps.length D).length := by rw [JT.dnF_length]; omega
          have hdn := HRW.out.cell_ (i := v) (by rw [List.length_map]; exact hdl)
          have hfz := HRW.out.frozen v
          rw [List.getElem_map] at hdn
          generalize (JT.dnF ps.length D)[v] = dv at *
          have HG' := Lib.hid hG'
          have hsz : w.heap.size < wr.heap.size := HRW.out.lt
          clear hG' HNX HG
          go_wp2_with (at_builtin; refine app1Int rfl (.tmp 55) (.tmp 57) rfl (w.heap.size + 1) (.slice A D.length cc) D.length (natV D) rfl (by exact ((ownsRow_setCell_below HO.out (by show w.heap.size < _; omega) _).alloc _)) wr.heap.size (v : Int) rfl (by go_simp) (by omega) (by simp; omega) ?_
                       intro v' w' hown' hg'
                       have hkp : Below (w.heap.size + 1) (wr.setCell ⟨w.heap.size, v, none⟩ (.bool true)) w' := app_kept (fun kk hk => own_base HO.out hk) (by simp; omega) hg'
                       have hb' : Below w.heap.size w w' := (hb.setCell (by show w.heap.size ≤ w.heap.size; omega) _).trans (hkp.mono (by omega))
                       have HR' := Lib.hid ((HRW.out.set v (.bool true)).below hkp (by omega))
                       have HO' := Lib.hid hown'
                       clear hown' hg' hkp)
          go_roundw
          case rel =>
            refine ⟨D ++ [v], HG'.out, by simpa [natV] using HO'.out, ?_, hb'⟩
            have h9 := HR'.out
            rw [← JT.dnF_set, List.map_set]
            exact h9
          case measure =>
            have e1 := own_len HO'.out
            have e2 : lenOf (Value.slice A D.length cc) = D.length := rfl
            omega
        · obtain ⟨i, rfl⟩ : ∃ i, j = i + 1 := ⟨j - 1, by omega⟩
          rw [show (((i + 1 : Nat) : Int) - 1) = (i : Int) by omega]
          have hdl : i < (JT.dnF ps.length D).length := by rw [JT.dnF_length]; omega
          have hdn := HRW.out.cell_ (i := i) (by rw [List.length_map]; exact hdl)
          rw [List.getElem_map, JT.dnF_get] at hdn
          have h0 : JT.rdyTo ps D i 0 = !(D.contains i) := by simp [JT.rdyTo]
          generalize D.contains i = dc at *
          have H0 := Lib.hid h0
          clear h0
          go_wp2
          go_loop [7, 8] (fun rd kk => ∃ k : Nat, k ≤ ps.length ∧ kk = .int .i64 k ∧ rd = .bool (JT.rdyTo ps D i k)) (fun _ kk => ps.length - (intOf kk).toNat)
          case atStart => exact ⟨0, Nat.zero_le _, rfl, by rw [H0.out]⟩
          case round =>
            obtain ⟨k, hk, rfl, rfl⟩ := hrel
            by_cases hkl : k < ps.length
            · have hdl2 : k < (JT.dnF ps.length D).length := by rw [JT.dnF_length]; omega
              have hdn2 := HRW.out.cell_ (i := k) (by rw [List.length_map]; exact hdl2)
              rw [List.getElem_map, JT.dnF_get] at hdn2
              obtain ⟨b, o, rfl, hbb, hc⟩ := slI_at (hp.below hb (Nat.le_refl _)) hkl
              have hsu := JT.rdyTo_succ ps D i k
              have hpk : JT.par ps k = ps[k] := by simp [JT.par, hkl]
              rw [hpk] at hsu
              generalize ps[k] = p at *
              generalize D.contains k = dk at *
              have HSU := Lib.hid hsu
              clear hsu hpk
              cases hrk : JT.rdyTo ps D i k
              · have HRK := Lib.hid hrk
                clear hrk
                go_wp2
                go_round
                case rel => exact ⟨k + 1, by omega, by go_num, by rw [HSU.out, HRK.out]; rfl⟩
                case measure => simp [intOf]; omega
              · have HRK := Lib.hid hrk
                clear hrk
                by_cases hpi : p = (i : Int)
                · have hs1 : (p != (i : Int)) = false := by simp [hpi]
                  have HPI := Lib.hid hpi
                  clear hpi
                  cases dk
                  all_goals
                    go_wp2
                    go_round
                    case rel => exact ⟨k + 1, by omega, by go_num, by rw [HSU.out, HRK.out, HPI.out]; simp⟩
                    case measure => simp [intOf]; omega
                · have hs1 : (p != (i : Int)) = true := by simp [hpi]
                  have HPI := Lib.hid hpi
                  clear hpi
                  go_wp2
                  go_round
                  case rel => exact ⟨k + 1, by omega, by go_num, by rw [HSU.out, HRK.out]; simp [HPI.out]⟩
                  case measure => simp [intOf]; omega
            · obtain rfl : k = ps.length := by omega
              have hwh := JT.rdyTo_whole (ps := ps) (D := D) (i := i) (by omega)
              cases hrk : JT.rdyTo ps D i ps.length
              · have HN : Hid (¬ JT.ready ps D i) := fun h => by rw [hwh.2 h] at hrk; cases hrk
                clear hwh hrk
                go_wp2
                go_round
                case rel => exact ⟨i, x, by omega, rfl, rfl, HNX.out.no HN.out⟩
                case measure => simp [intOf]
              · have HN : Hid (JT.ready ps D i) := hwh.1 hrk
                clear hwh hrk
                go_wp2
                go_round
                case rel => exact ⟨i, i, by omega, rfl, rfl, JT.NextFrom.yes HN.out⟩
                case measure => simp [intOf]
    · have HF := Lib.hid (JT.order_unique (JT.greedy_whole HG.out (by omega)))
      go_wp2
      go_ret
      refine ⟨_, rfl, ?_, hb⟩
      rw [← HF.out]
      exact own_weaken HO.out (by omega)

set_option maxHeartbeats 1000000 in
set_option maxRecDepth 100000 in
theorem refReroot_any (PA : Option Addr) (PC : Nat) (ps : List Int) (root : Nat) (w : World) (hp : SlI .i64 w.heap.size w PA ps) (hpl : ps.length ≤ 1000000) (hr : JT.rootedB ps = true) (hroot : root < ps.length) :
    Calls Try.prog 27 #[.slice PA ps.length PC, .int .i64 root] w fun e w' => ∃ A c, e = .returned (.slice A ps.length c) ∧ SlI .i64 w'.heap.size w' A (JT.rerootF ps root) ∧ Below w.heap.size w w' := by
  obtain ⟨hv, _, hup⟩ := JT.rooted_parts hr
  have HV := Lib.hid hv
  have HUP := Lib.hid (hup root hroot)
  have HW := Lib.hid hp
  obtain ⟨b, o, rfl, hbb, -⟩ := slI_at hp hroot
  have HC := Lib.hid hp.cells
  clear hp hr hv hup
  obtain ⟨i0, hi0, hz0, hz1, hz2⟩ := info_parts intInfo
  go_enter Try.func27, Try.ntmps27
  go_wp2_with (at_builtin; refine wpList_append_own _ rfl (.tmp 9) (.tmp 10) 25 rfl w.heap.size 3 i0 _ 1 8 Try.underlying25 hi0 hz0 hz1 hz2 rfl (by decide) (.slice none 0 0) 0 [] rfl (own_nil _ _ _ _) ⟨b, o, none⟩ ps.length PC (ps.map (Value.int .i64)) rfl (by simp) HC.out (by simp [Value.oneCell']) (by simp only [maxLen]; omega) (by omega) (Nat.le_refl _) ?_; intro v' w' hown' hg' hn'; have HO' := Lib.hid hown'; have HG := Lib.hid hg'; clear hown' hg' hn')
  have hb1 : Below w.heap.size w w' := (Below.refl _ _).grown HG.out (Nat.le_refl _) (by simp [Value.ownBlock])
  have hown := HO'.out
  simp only [Nat.zero_add, List.nil_append] at hown
  obtain ⟨g, cap, hv', hg1, hg2, hncap, hown⟩ := own_form hown (by omega)
  have HO := Lib.hid hown
  rw [hv']
  clear hv' HG HO' hown
  go_loopg [6, 7] ps.length (fun gk a f wr => ∃ (av ab : Int) (out : List Int), a = .int .i64 av ∧ f = .int .i64 ab ∧ -1 ≤ av ∧ av < ps.length ∧ -1 ≤ ab ∧ ab < ps.length ∧ JT.up ps gk av < 0 ∧ JT.rerootGo ps gk av ab out = JT.rerootF ps root ∧ out.length = ps.length ∧ wr.ownsRow w.heap.size 3 1 (.slice (some ⟨g, 0, none⟩) ps.length cap) ps.length (out.map (Value.int .i64)) ∧ Below w.heap.size w wr)
  case atStart => exact ⟨root, -1, ps, rfl, rfl, by omega, by omega, by omega, by omega, HUP.out, rfl, rfl, HO.out, hb1⟩
  case round =>
    clear HO hb1
    obtain ⟨av, ab, out, rfl, rfl, ha1, ha2, hb1, hb2, hup, hgo, hol, hown, hb⟩ := hrel
    have HO := Lib.hid hown
    have HU := Lib.hid hup
    have HGO := Lib.hid hgo
    have HOL := Lib.hid hol
    clear hown hup hgo hol
    by_cases hneg : av < 0
    · have hout : out = JT.rerootF ps root := by rw [← HGO.out, JT.rerootGo_neg hneg]
      have HOUT := Lib.hid hout
      clear hout
      go_wp2
      go_ret
      refine ⟨_, _, rfl, ?_, hb⟩
      rw [← HOUT.out]
      obtain ⟨A, c, e, _, _, hs⟩ := Sl.of_own HO.out
      injection e with e1 e2 e3
      subst e1
      exact hs
    · obtain ⟨q, rfl⟩ := Int.eq_ofNat_of_zero_le (show 0 ≤ av by omega)
      have hq : q < ps.length := by omega
      obtain ⟨b', o', e', hbb', hc⟩ := slI_at (HW.out.below hb (Nat.le_refl _)) hq
      simp at e'
      obtain ⟨rfl, rfl⟩ := e'
      obtain ⟨gk', rfl, hup'⟩ := JT.up_pos HU.out hq
      have hgo' := HGO.out
      rw [JT.rerootGo_step hq] at hgo'
      have hvq := HV.out ps[q] (List.getElem_mem hq)
      have hqo : q < out.length := by rw [HOL.out]; exact hq
      have hcq := own_cell HO.out (j := q) (by simpa using hqo)
      have hfq := HO.out.frozenAt q
      have HST := Lib.hid (HO.out.stored q (.int .i64 ab))
      have HU' := Lib.hid hup'
      have HGO' := Lib.hid hgo'
      rw [List.getElem_map] at hcq
      generalize ps[q] = p at *
      generalize out[q] = oq at *
      clear hup' hgo' HU HGO
      go_wp2
      go_roundg gk'
      case measure => omega
      case rel =>
        refine ⟨p, q, out.set q ab, rfl, rfl, by omega, by omega, by omega, by omega, HU'.out, HGO'.out, by rw [List.length_set]; exact HOL.out, ?_, hb.setCell (by show w.heap.size ≤ g; omega) _⟩
        rw [List.map_set]; exact HST.out.1

end Go.Proofs.Ytfiegiifoekfmaa

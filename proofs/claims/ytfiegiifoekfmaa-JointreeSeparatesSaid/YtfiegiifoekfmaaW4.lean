import Derived.Test.YtfiegiifoekfmaaW3
import Derived.Test.YtfiegiifoekfmaaJOrd
namespace Go.Proofs.Ytfiegiifoekfmaa
open Go.RowKit

theorem makeInts (n : Nat) (hn : n ≤ 1000000) (w : World) : (Instr.makeSlice 25 (.int .i64 (n : Int)) (.int .i64 (n : Int))).run Try.prog w = .ok (.slice (some ⟨w.heap.size, 0, none⟩) n n) (w.alloc (.cells (zerosA (.int .i64 0) n) 3)) := by
  obtain ⟨i0, hi0, hz0, hz1, hz2⟩ := info_parts intInfo
  have := run_make (P := Try.prog) w 25 3 i0 _ Try.underlying25 hi0 hz0 .i64 .i64 n n (by omega) (by omega) (by rw [hz2]; omega) (by omega)
  rw [this, hz1]
  simp only [Int.toNat_natCast]
  rw [zeros_made _ _ rfl]

/-- Natural numbers as values of kind int. -/
abbrev natV (D : List Nat) : List Value := D.map fun d : Nat => Value.int .i64 (d : Int)

set_option maxHeartbeats 400000 in
set_option maxRecDepth 100000 in
theorem order_walk (PA : Option Addr) (PC : Nat) (ps : List Int) (w : World) (hp : SlI .i64 w.heap.size w PA ps) (hpl : ps.length ≤ 1000000) (hv : ∀ p ∈ ps, -1 ≤ p ∧ p < ps.length) :
    Calls Try.prog 36 #[.agg #[.slice PA ps.length PC]] w fun e w' => ∃ v D, e = .returned v ∧ JT.IsOrder ps D ∧ w'.ownsRow w.heap.size 3 1 v D.length (natV D) ∧ Below w.heap.size w w' := by
  have hmk := makeInts ps.length hpl
  have HV := Lib.hid hv
  clear hv
  go_enter Try.func36, Try.ntmps36
  go_wp2
  go_loopw [16] (fun i wr => ∃ (k : Nat) (cs : List Int), k ≤ ps.length ∧ i = .int .i64 k ∧ JT.Cnts ps.length cs (JT.cnt1 ps k) ∧ Row wr (w.heap.size + 1) 3 (cs.map (Value.int .i64)) ∧ Below w.heap.size w wr ∧ wr.cell? ⟨w.heap.size, 0, none⟩ = some (.slice PA ps.length PC)) (fun i _ => ps.length - (intOf i).toNat)
  case atStart =>
    refine ⟨0, List.replicate ps.length 0, Nat.zero_le _, rfl, JT.Cnts.zero _, ?_, ((Below.refl _ _).alloc (Nat.le_refl _) _).alloc (by simp) _, by go_simp⟩
    have := Row.zeros (w.alloc (Obj.cells #[Value.slice PA ps.length PC] 34)) 3 (.int .i64 0) ps.length
    simpa using this
  case round =>
    obtain ⟨k, cs, hk, rfl, hcs, hrow, hb, hbox⟩ := hrel
    have HCS := Lib.hid hcs
    have HR := Lib.hid hrow
    clear hcs hrow
    by_cases hlt : k < ps.length
    · obtain ⟨b, o, rfl, hbb, hc⟩ := slI_at (hp.below hb (Nat.le_refl _)) hlt
      have hvk := HV.out ps[k] (List.getElem_mem hlt)
      have hpar : JT.par ps k = ps[k] := by simp [JT.par, hlt]
      generalize ps[k] = p at *
      have HP := Lib.hid hpar
      clear hpar hp
      by_cases hneg : p < 0
      · go_wp2
        go_roundw
        case rel =>
          refine ⟨k + 1, cs, by omega, by go_num, HCS.out.congr fun u _ => ?_, HR.out, hb, hbox⟩
          rw [JT.cnt1_succ, HP.out, if_neg (by omega)]; rfl
        case measure => simp [intOf]; omega
      · obtain ⟨j, rfl⟩ := Int.eq_ofNat_of_zero_le (show 0 ≤ p by omega)
        have hj : j < ps.length := by omega
        have hjc : j < cs.length := by rw [HCS.out.1]; exact hj
        have hcj := HR.out.cell_ (i := j) (by simpa using hjc)
        have hfj := HR.out.frozen j
        have hle := JT.cnt1_le ps k j
        rw [List.getElem_map, HCS.out.get hj hjc] at hcj
        generalize hcc : JT.cnt1 ps k j = c at *
        have HC := Lib.hid hcc
        clear hcc
        go_wp2
        go_roundw
        case rel =>
          refine ⟨k + 1, cs.set j (c + 1), by omega, by go_num, HCS.out.put ?_ fun u _ hne => ?_, ?_, hb.setCell (by simp) _, ?_⟩
          · rw [JT.cnt1_succ, HP.out, if_pos rfl, HC.out]; simp
          · rw [JT.cnt1_succ, HP.out, if_neg (by omega)]; rfl
          · rw [List.map_set]; exact HR.out.set j _
          · rw [World.cell?_setCell_other]; exact hbox; simp
        case measure => simp [intOf]; omega
    · have : k = ps.length := by omega
      subst this
      go_wp2
      have hcs0 : JT.Cnts ps.length cs (JT.cntF ps []) := HCS.out.congr fun u _ => JT.cnt1_whole ps u
      have HCS0 := Lib.hid hcs0
      clear hcs0 HCS
      obtain ⟨w1, rfl⟩ : ∃ w1 : World, w1 = wr := ⟨_, rfl⟩
      go_loopw [6, 32] (fun nv i wr => ∃ (k : Nat) (D : List Nat) (cs : List Int), k ≤ ps.length ∧ i = .int .i64 k ∧ JT.Greedy ps D ∧ JT.Cnts ps.length cs (JT.cntF ps D) ∧ (∀ d ∈ D, d < k) ∧ (∀ u, JT.ready ps D u → k ≤ u) ∧ Row wr (w.heap.size + 1) 3 (cs.map (Value.int .i64)) ∧ wr.ownsRow (w.heap.size + 2) 3 1 nv D.length (natV D) ∧ Below w.heap.size w wr ∧ wr.cell? ⟨w.heap.size, 0, none⟩ = some (.slice PA ps.length PC)) (fun _ i _ => ps.length - (intOf i).toNat)
      case atStart => exact ⟨0, [], cs, Nat.zero_le _, rfl, JT.Greedy.nil ps, HCS0.out, by simp, by omega, HR.out, own_nil _ _ _ _, hb, hbox⟩
      case round =>
        clear hb hbox HCS0 HR cs hlt hk
        obtain ⟨k, D, cs, hk, rfl, hG, hcs, hlD, hrD, hrow, hown, hb, hbox⟩ := hrel
        by_cases hlt : k < ps.length
        · have HI := Lib.hid (JT.InnerI.start hG hcs hlD hrD)
          have HR := Lib.hid hrow
          have HO := Lib.hid hown
          clear hG hcs hlD hrD hrow hown
          go_wp2
          obtain ⟨w2, rfl⟩ : ∃ w2 : World, w2 = wr := ⟨_, rfl⟩
          go_loopw [6, 8] (fun nv vv wr => ∃ (D : List Nat) (cs : List Int) (v : Int), vv = .int .i64 v ∧ -1 ≤ v ∧ v < ps.length ∧ JT.InnerI ps k D cs v ∧ Row wr (w.heap.size + 1) 3 (cs.map (Value.int .i64)) ∧ wr.ownsRow (w.heap.size + 2) 3 1 nv D.length (natV D) ∧ Below w.heap.size w wr ∧ wr.cell? ⟨w.heap.size, 0, none⟩ = some (.slice PA ps.length PC)) (fun nv _ _ => ps.length - lenOf nv)
          case atStart => exact ⟨D, cs, k, rfl, by omega, by omega, HI.out, HR.out, HO.out, hb, hbox⟩
          case round =>
            clear hb hbox HI HR HO cs D
            obtain ⟨D, cs, v, rfl, hv1, hv2, hI, hrow, hown, hb, hbox⟩ := hrel
            have HI := Lib.hid hI
            have HR := Lib.hid hrow
            have HO := Lib.hid hown
            clear hI hrow hown
            by_cases hneg : v < 0
            · go_wp2
              go_roundw
              case rel => exact ⟨k + 1, D, cs, by omega, by go_num, HI.out.greedy, HI.out.cnts, fun d hd => by have := HI.out.le d hd; omega, HI.out.done (.inl hneg), HR.out, HO.out, hb, hbox⟩
              case measure => simp [intOf]; omega
            · obtain ⟨j, rfl⟩ := Int.eq_ofNat_of_zero_le (show 0 ≤ v by omega)
              have hj : j < ps.length := by omega
              by_cases hgt : k < j
              · go_wp2
                go_roundw
                case rel => exact ⟨k + 1, D, cs, by omega, by go_num, HI.out.greedy, HI.out.cnts, fun d hd => by have := HI.out.le d hd; omega, HI.out.done (.inr (.inl (by omega))), HR.out, HO.out, hb, hbox⟩
                case measure => simp [intOf]; omega
              · have hjc : j < cs.length := by rw [HI.out.cnts.1]; exact hj
                have hcj := HR.out.cell_ (i := j) (by simpa using hjc)
                rw [List.getElem_map, HI.out.cnts.get hj hjc] at hcj
                by_cases h0 : JT.cntF ps D j = 0
                · have hlD := HI.out.length hj
                  obtain ⟨b, o, rfl, hbb, hc⟩ := slI_at (hp.below hb (Nat.le_refl _)) hj
                  have hvk := HV.out ps[j] (List.getElem_mem hj)
                  have hpar : JT.par ps j = ps[j] := by simp [JT.par, hj]
                  generalize ps[j] = p at *
                  have HP := Lib.hid hpar
                  have H0 := Lib.hid h0
                  rw [h0] at hcj
                  clear hpar hp h0
                  have hsz : w.heap.size + 1 < wr.heap.size := HR.out.lt
                  have HI0 := Lib.hid HO.out
                  by_cases hneg2 : p < 0
                  · go_wp2_with (at_builtin; refine app1Int rfl (.tmp 50) (.tmp 52) rfl (w.heap.size + 2) u6 D.length (natV D) rfl (by exact HO.out.alloc _) wr.heap.size (j : Int) rfl (by go_simp) (by omega) (by simp; omega) ?_
                                 intro v' w' hown' hg'
                                 have hkp : Below (w.heap.size + 2) wr w' := app_kept (fun kk hk => own_base HO.out hk) (by omega) hg'
                                 have hb' : Below w.heap.size w w' := hb.trans (hkp.mono (by omega))
                                 have HR' := Lib.hid (HR.out.below hkp (by omega))
                                 have hbox' : w'.cell? ⟨w.heap.size, 0, none⟩ = some (.slice (some ⟨b, o, none⟩) ps.length PC) := (hkp.cell (p := ⟨w.heap.size, 0, none⟩) (by show w.heap.size < _; omega)).trans hbox
                                 have hc' : w'.cell? ⟨b, o + j, none⟩ = some (.int .i64 p) := (hkp.cell (p := ⟨b, o + j, none⟩) (by show b < _; omega)).trans hc
                                 have HO' := Lib.hid hown'
                                 clear hown' hg' hkp hc hcj hbox HO HR)
                    go_roundw
                    case rel =>
                      refine ⟨D ++ [j], cs, p, rfl, by omega, by omega, ?_, HR'.out, by simpa [natV] using HO'.out, hb', hbox'⟩
                      rw [← HP.out]
                      refine HI.out.emit hj (by omega) H0.out (HI.out.cnts.congr fun u _ => ?_)
                      rw [JT.cnt_emit hj (HI.out.out j rfl), HP.out, if_neg (by omega)]; rfl
                    case measure => have e1 := own_len HO'.out; have e2 := own_len HI0.out; omega
                  · obtain ⟨q, rfl⟩ := Int.eq_ofNat_of_zero_le (show 0 ≤ p by omega)
                    have hq : q < ps.length := by omega
                    have hqc : q < cs.length := by rw [HI.out.cnts.1]; exact hq
                    have hem := JT.cnt_emit (u := q) hj (HI.out.out j rfl)
                    rw [HP.out, if_pos rfl] at hem
                    have hcl := JT.cntF_le ps (D ++ [j]) q
                    have hget := HI.out.cnts.get hq hqc
                    rw [hem] at hget
                    have HGT := Lib.hid hget
                    clear hem hget
                    go_wp2_with (at_builtin; refine app1Int rfl (.tmp 50) (.tmp 52) rfl (w.heap.size + 2) u6 D.length (natV D) rfl (by exact HO.out.alloc _) wr.heap.size (j : Int) rfl (by go_simp) (by omega) (by simp; omega) ?_
                                 intro v' w' hown' hg'
                                 have hkp : Below (w.heap.size + 2) wr w' := app_kept (fun kk hk => own_base HO.out hk) (by omega) hg'
                                 have hb' : Below w.heap.size w w' := hb.trans (hkp.mono (by omega))
                                 have HR' := Lib.hid (HR.out.below hkp (by omega))
                                 have hbox' : w'.cell? ⟨w.heap.size, 0, none⟩ = some (.slice (some ⟨b, o, none⟩) ps.length PC) := (hkp.cell (p := ⟨w.heap.size, 0, none⟩) (by show w.heap.size < _; omega)).trans hbox
                                 have hc' : w'.cell? ⟨b, o + j, none⟩ = some (.int .i64 q) := (hkp.cell (p := ⟨b, o + j, none⟩) (by show b < _; omega)).trans hc
                                 have HO' := Lib.hid hown'
                                 have hcq := HR'.out.cell_ (i := q) (by simpa using hqc)
                                 rw [List.getElem_map, HGT.out] at hcq
                                 have hfq := HR'.out.frozen q
                                 clear hown' hg' hkp hc hcj hbox HO HR)
                    go_roundw
                    case rel =>
                      refine ⟨D ++ [j], cs.set q (JT.cntF ps (D ++ [j]) q : Nat), q, rfl, by omega, by omega, ?_, ?_, ?_, hb'.setCell (by simp) _, ?_⟩
                      · rw [← HP.out]
                        refine HI.out.emit hj (by omega) H0.out (HI.out.cnts.put rfl fun u _ hne => ?_)
                        rw [JT.cnt_emit hj (HI.out.out j rfl), HP.out, if_neg (by omega)]; rfl
                      · rw [List.map_set]
                        have h7 := HR'.out.set q (.int .i64 ((JT.cntF ps (D ++ [j]) q : Nat) : Int))
                        exact h7
                      · have h8 := ownsRow_setCell_below HO'.out (a := ⟨w.heap.size + 1, q, none⟩) (by show w.heap.size + 1 < _; omega) (.int .i64 ((JT.cntF ps (D ++ [j]) q : Nat) : Int))
                        simpa [natV] using h8
                      · rw [World.cell?_setCell_other]; exact hbox'; simp
                    case measure => have e1 := own_len HO'.out; have e2 := own_len HI0.out; omega
                · have HN : Hid _ := h0
                  have hne : (((JT.cntF ps D j : Nat) : Int) == 0) = false := by simp; omega
                  clear h0
                  go_wp2
                  go_roundw
                  case rel => exact ⟨k + 1, D, cs, by omega, by go_num, HI.out.greedy, HI.out.cnts, fun d hd => by have := HI.out.le d hd; omega, HI.out.done (.inr (.inr ⟨j, rfl, HN.out⟩)), HR.out, HO.out, hb, hbox⟩
                  case measure => simp [intOf]; omega
        · have HG := Lib.hid hG
          have HO := Lib.hid hown
          have HN : Hid (∀ u, ¬ JT.ready ps D u) := fun u hu => by have := hrD u hu; have := hu.1; omega
          clear hG hcs hlD hrD hrow hown
          go_wp2
          go_ret
          exact ⟨_, D, rfl, ⟨HG.out, HN.out⟩, own_weaken HO.out (by omega), hb⟩

/-- jointree.order. -/
theorem order_any (PA : Option Addr) (PC : Nat) (ps : List Int) (w : World) (hp : SlI .i64 w.heap.size w PA ps) (hpl : ps.length ≤ 1000000) (hv : ∀ p ∈ ps, -1 ≤ p ∧ p < ps.length) :
    Calls Try.prog 36 #[.agg #[.slice PA ps.length PC]] w fun e w' => ∃ v, e = .returned v ∧ w'.ownsRow w.heap.size 3 1 v (JT.orderF ps).length (natV (JT.orderF ps)) ∧ Below w.heap.size w w' :=
  (order_walk PA PC ps w hp hpl hv).mono fun e w' ⟨v, D, h1, h2, h3, h4⟩ => by
    have := JT.order_unique h2
    subst this
    exact ⟨v, h1, h3, h4⟩

theorem order_sl (PA : Option Addr) (PC : Nat) (ps : List Int) (w : World) (hp : SlI .i64 w.heap.size w PA ps) (hpl : ps.length ≤ 1000000) (hv : ∀ p ∈ ps, -1 ≤ p ∧ p < ps.length) :
    Calls Try.prog 36 #[.agg #[.slice PA ps.length PC]] w fun e w' => ∃ A c, e = .returned (.slice A (JT.orderF ps).length c) ∧ Sl w'.heap.size w' A (natV (JT.orderF ps)) ∧ Below w.heap.size w w' :=
  (order_any PA PC ps w hp hpl hv).mono fun e w' ⟨v, h1, h3, h4⟩ => by
    obtain ⟨A, c, rfl, _, _, h5⟩ := Sl.of_own h3
    simp only [natV, List.length_map] at h1
    exact ⟨A, c, h1, h5, h4⟩

end Go.Proofs.Ytfiegiifoekfmaa

/- Parts of the proof, merged: G39, G32a, G32, G36, GY7, G37, W10, W11. -/
import Derived.Test.YthgaflmldbgbnaaGreatDoorQ3
import Derived.Test.YthgaflmldbgbnaaGreatDoorQ12
import Derived.Test.YthgaflmldbgbnaaGreatDoorQ8
import Derived.Test.YthgaflmldbgbnaaGreatDoorQ11
import Derived.ChangeKeysEq
import Derived.Test.YthgaflmldbgbnaaGreatDoorQ9
import Derived.Test.YthgaflmldbgbnaaGreatDoorQ7

set_option maxRecDepth 100000
namespace Go.Proofs.YthgaflmldbgbnaaGreatDoor
section
open Go.RowKit Go.Sort

def colsK (us ks : List Nat) (k : Nat) : List Nat := (List.range k).filter fun i => decide (us.getD i 0 ∈ ks)
theorem colsK_yes {us ks : List Nat} {k : Nat} (h : k < us.length) (hm : us[k] ∈ ks) : colsK us ks (k + 1) = colsK us ks k ++ [k] := by
  have := colsF_succ us ks k h
  rw [if_pos hm] at this
  exact this
theorem colsK_no {us ks : List Nat} {k : Nat} (h : k < us.length) (hm : us[k] ∉ ks) : colsK us ks (k + 1) = colsK us ks k := by
  have := colsF_succ us ks k h
  rw [if_neg hm, List.append_nil] at this
  exact this
theorem colsK_len (us ks : List Nat) (k : Nat) : (colsK us ks k).length ≤ k := by
  unfold colsK
  exact Nat.le_trans (List.length_filter_le _ _) (by rw [List.length_range]; exact Nat.le_refl _)
def RefN (lo : Nat) (w : World) (v : Value) (vs : List Int) (P : List RL.R) : Prop := ∃ VA VC PA PC, v = .agg #[.slice VA vs.length VC, .slice PA P.length PC] ∧ vs.length ≤ VC ∧ VC ≤ 9223372036854775807 ∧ P.length ≤ PC ∧ PC ≤ 9223372036854775807 ∧
  ∀ W : World, (∀ p : Addr, lo ≤ p.block → p.block < w.heap.size → W.cell? p = w.cell? p) → SlI .i64 w.heap.size W VA vs ∧ SlRs w.heap.size W PA P
theorem RefN.v {lo : Nat} {w : World} {v : Value} {vs : List Int} {P : List RL.R} (h : RefN lo w v vs P) : RefV w v vs P := by
  obtain ⟨VA, VC, PA, PC, e, c1, c2, c3, c4, h1⟩ := h
  obtain ⟨g1, g2⟩ := h1 w fun _ _ _ => rfl
  exact ⟨VA, VC, PA, PC, e, c1, c2, c3, c4, g1, g2⟩
theorem sl_own_keep {w : World} {base : Nat} {e : TypeId} {A : Option Addr} {C n m : Nat} {xs : List Value} (h : w.ownsRow base e 1 (.slice A n C) m xs) (W : World) (hag : ∀ p : Addr, base ≤ p.block → p.block < w.heap.size → W.cell? p = w.cell? p) : Sl w.heap.size W A xs := by
  obtain ⟨A', C', e1, -, -, hs⟩ := Sl.of_own h
  injection e1 with e2 _ _
  subst e2
  intro hne
  obtain ⟨b, o, e3, hb, hc⟩ := hs hne
  have h1 := own_base h (k := b) (by rw [e3]; rfl)
  exact ⟨b, o, e3, hb, fun i u hu => (hag ⟨b, o + i, none⟩ h1 hb).trans (hc i u hu)⟩
def ProjRP (a : At) (ks : List Nat) (w : World) (e : Ending) (w' : World) : Prop := ∃ v, e = .returned v ∧ RefN w.heap.size w' v ((projA a fun v => decide (v ∈ ks)).vs.map Int.ofNat) (projA a fun v => decide (v ∈ ks)).P ∧ Below w.heap.size w w'

set_option maxHeartbeats 16000000 in
theorem r36Project_any (va : Value) (a : At) (M : Nat) (ks : List Nat) (w : World) (ha : RefV w va (a.vs.map Int.ofNat) a.P) (ga : Gd a) (hbit : ∀ v ∈ a.vs, M / 2 ^ v % 2 = if v ∈ ks then 1 else 0) :
    Calls Tryz.prog 19 #[va, .int .u32 (M : Nat)] w (ProjRP a ks w) := by
  obtain ⟨us, P⟩ := a
  obtain ⟨VA, VC, PA, PC, rfl, c1, c2, c3, c4, hv, hP⟩ := ha
  simp only [List.length_map] at *
  have hul : us.length ≤ 32 := ga.vl
  have HPC := Lib.hid (projA_cols ga ks)
  obtain ⟨W0, hW0⟩ : ∃ W0, W0 = w.alloc (.cells #[.slice VA us.length VC, .slice PA P.length PC] 45) := ⟨_, rfl⟩
  obtain ⟨W1, hW1⟩ : ∃ W1, W1 = W0.alloc (.cells #[.slice none 0 0, .slice none 0 0] 45) := ⟨_, rfl⟩
  obtain ⟨W2, hW2⟩ : ∃ W2, W2 = W1.alloc (.cells #[.slice none 0 0, .slice none 0 0] 45) := ⟨_, rfl⟩
  have hz0 : W0.heap.size = w.heap.size + 1 := by rw [hW0]; simp
  have hz1 : W1.heap.size = w.heap.size + 1 + 1 := by rw [hW1, World.size_alloc, hz0]
  have hx2 : Ext w W2 := by rw [hW2, hW1, hW0]; exact (((Ext.refl w).alloc _).alloc _).alloc _
  have HR0 : Hid (Row W2 w.heap.size 45 [.slice VA us.length VC, .slice PA P.length PC]) := by show Row _ _ _ _; rw [hW2, hW1, hW0]; exact ((Row.new w 45 _).alloc _).alloc _
  have HR1 : Hid (Row W2 (w.heap.size + 1) 45 [.slice none 0 0, .slice none 0 0]) := by
    show Row _ _ _ _
    have h := (Row.new W0 45 [.slice none 0 0, .slice none 0 0]).alloc (.cells #[.slice none 0 0, .slice none 0 0] 45)
    rw [hz0] at h
    rw [hW2, hW1]; exact h
  obtain ⟨g, hg⟩ : ∃ g, g = w.heap.size + 1 + 1 := ⟨_, rfl⟩
  have HR2 : Hid (Row W2 g 45 [.slice none 0 0, .slice none 0 0]) := by
    show Row _ _ _ _
    have h := Row.new W1 45 [.slice none 0 0, .slice none 0 0]
    rw [hz1] at h
    rw [hW2, hg]; exact h
  have HZ : Hid (W2.heap.size = g + 1 ∧ g = w.heap.size + 2) := ⟨by rw [hW2, World.size_alloc, hz1, hg], by omega⟩
  have HWE : Hid (((w.alloc (.cells #[.slice VA us.length VC, .slice PA P.length PC] 45)).alloc (.cells #[.slice none 0 0, .slice none 0 0] 45)).alloc (.cells #[.slice none 0 0, .slice none 0 0] 45) = W2) := by show _ = _; rw [hW2, hW1, hW0]
  have HGE : Hid (w.heap.size + 1 + 1 = g) := hg.symm
  have HX2 := Lib.hid hx2
  have HV := Lib.hid hv
  have HP := Lib.hid hP
  have HGA := Lib.hid ga
  have HBI := Lib.hid hbit
  have HCA := Lib.hid (And.intro (And.intro c1 c2) (And.intro c3 c4))
  clear hv hP ga hbit hx2 hW0 hW1 hW2 hz0 hz1 hg c1 c2 c3 c4
  go_enter Tryz.func19, Tryz.ntmps19
  go_upto_region 2 with (fail)
  rw [HWE.out, HGE.out]
  clear HWE HGE
  go_wp2_with fail
  go_loopw [6, 7] (fun vc c wx => ∃ (k : Nat) (vo : Value), k ≤ us.length ∧ c = .int .i64 k ∧ Row wx g 45 [vo, .slice none 0 0] ∧ wx.ownsRow (g + 1) 3 1 vo (colsK us ks k).length ((colsK us ks k).map fun i : Nat => Value.int .i64 (us.getD i 0 : Nat)) ∧
    wx.ownsRow (g + 1) 3 1 vc (colsK us ks k).length ((colsK us ks k).map fun i : Nat => Value.int .i64 (i : Nat)) ∧ (∀ b, vo.ownBlock = some b → vc.ownBlock ≠ some b) ∧ Below g W2 wx) (fun _ c _ => us.length - (intOf c).toNat)
  case atStart => exact ⟨0, _, Nat.zero_le _, rfl, HR2.out, own_nil _ _ _ _, own_nil _ _ _ _, fun b h => (by cases h), Below.refl _ _⟩
  case round =>
    obtain ⟨k, vo, hk, rfl, hrow, hown, howc, hne, hbw⟩ := hrel
    have HROW := Lib.hid hrow
    have HO := Lib.hid hown
    have HOC := Lib.hid howc
    have HNE := Lib.hid hne
    have HB := Lib.hid hbw
    have HBA : Hid (Below w.heap.size w wr) := by
      have h1 := hbw.mono (show w.heap.size ≤ g by have := HZ.out.2; omega)
      exact Below.trans HX2.out.below h1
    have hr0 := HR0.out.below hbw (show w.heap.size < g by have := HZ.out.2; omega)
    have hr1 := HR1.out.below hbw (show w.heap.size + 1 < g by have := HZ.out.2; omega)
    have p0 : wr.cell? ⟨w.heap.size, 0, none⟩ = some (.slice VA us.length VC) := hr0.cell 0
    have p1 : wr.cell? ⟨w.heap.size, 1, none⟩ = some (.slice PA P.length PC) := hr0.cell 1
    have p2 := hr0.lt
    have q0 : wr.cell? ⟨g, 0, none⟩ = some vo := hrow.cell 0
    have q1 : wr.cell? ⟨g, 1, none⟩ = some (.slice none 0 0) := hrow.cell 1
    have q2 := hrow.lt
    have HRR1 := Lib.hid hr1
    have HRR0 := Lib.hid hr0
    clear hrow hown howc hne hbw hr0 hr1
    obtain ⟨vcc, hvcc⟩ : ∃ vcc, vcc = u6 := ⟨_, rfl⟩
    subst hvcc
    by_cases hkl : k < us.length
    rotate_left
    · obtain rfl : k = us.length := by omega
      have r1 : ¬ (us.length : Int) < (us.length : Int) := by omega
      have hle : colsK us ks us.length = colsF us ks := rfl
      rw [hle] at HO HOC
      have hci : (colsI us ks).length = (colsF us ks).length := by unfold colsI; rw [List.length_map]
      obtain ⟨NA, NC, e1, -, -, -⟩ := Sl.of_own HO.out
      rw [List.length_map] at e1
      subst e1
      obtain ⟨CA, CC, e2, -, -, -⟩ := Sl.of_own HOC.out
      rw [List.length_map] at e2
      subst e2
      have hcs : SlI .i64 wr.heap.size wr CA (colsI us ks) := slI_own HOC.out
      have hcl : (colsF us ks).length ≤ us.length := by unfold colsF; exact Nat.le_trans (List.length_filter_le _ _) (by rw [List.length_range]; exact Nat.le_refl _)
      have HRP := Lib.hid (r7Project_P PA CA PC CC P (colsI us ks) wr (HP.out.upB HBA.out) hcs (Nat.le_trans HGA.out.many (by omega)) (by omega) HGA.out.rsOk (fun x hx c hc => by
        unfold colsI at hc
        obtain ⟨i, hi, rfl⟩ := List.mem_map.1 hc
        have h1 := colsF_lt us ks i hi
        have h2 : x.length = us.length := HGA.out.len x hx
        exact ⟨Int.natCast_nonneg _, by show ((i : Nat) : Int) < _; omega⟩))
      rw [hci] at HRP
      have hcap := own_cap HO.out
      have HNC := Lib.hid hcap
      have HPV : Hid ((projA (⟨us, P⟩ : At) fun v => decide (v ∈ ks)).vs = (colsF us ks).map fun i => us.getD i 0) := HPC.out.1
      have HPP : Hid ((projA (⟨us, P⟩ : At) fun v => decide (v ∈ ks)).P = RL.ofF (P.map fun x => projF x (colsI us ks))) := HPC.out.2
      clear hle hci hcs hcl hcap HPC
      generalize hn : (colsF us ks).length = n at *
      have HN := Lib.hid hn
      clear hn
      go_wp2_with fail
      refine HRP.out.mono ?_
      rintro e w2 ⟨v2, rfl, ⟨A2, C2, rfl, k1, k2, hs2⟩, hb2⟩
      have HR9 := Lib.hid (HROW.out.up hb2)
      have HR8 := Lib.hid (HRR1.out.up hb2)
      have HO2 := Lib.hid (own_keep HO.out hb2)
      have HKK := Lib.hid (And.intro k1 k2)
      have HS2 := Lib.hid hs2
      have HB2 := Lib.hid (Below.then HBA.out hb2 HBA.out.size)
      have HZ2 : Hid (wr.heap.size ≤ w2.heap.size ∧ g < wr.heap.size) := ⟨hb2.size, q2⟩
      have m0 : w2.cell? ⟨g, 0, none⟩ = some (.slice NA n NC) := HR9.out.cell 0
      have m1 : w2.cell? ⟨g, 1, none⟩ = some (.slice none 0 0) := HR9.out.cell 1
      have m2 := HR9.out.frozen 1
      have m3 := HR9.out.lt
      have n0 : w2.cell? ⟨w.heap.size + 1, 0, none⟩ = some (.slice none 0 0) := HR8.out.cell 0
      have n1 : w2.cell? ⟨w.heap.size + 1, 1, none⟩ = some (.slice none 0 0) := HR8.out.cell 1
      have n2 := HR8.out.frozen 0
      have n3 := HR8.out.frozen 1
      have n4 := HR8.out.lt
      have hgr : ¬ g = w.heap.size + 1 := by have := HZ.out.2; omega
      have hgr2 : ¬ w.heap.size + 1 = g := by have := HZ.out.2; omega
      clear hb2 k1 k2 hs2 HRP p0 p1 p2 q0 q1 q2
      generalize hY : RL.ofF (P.map (projF · (colsI us ks))) = Y at *
      have HY := Lib.hid hY
      clear hY
      go_wp2_with fail
      obtain ⟨V6, hV6⟩ : ∃ V', V' = ((w2.setCell ⟨g, 1, none⟩ (.slice A2 Y.length C2)).setCell ⟨w.heap.size + 1, 0, none⟩ (.slice NA n NC)).setCell ⟨w.heap.size + 1, 1, none⟩ (.slice A2 Y.length C2) := ⟨_, rfl⟩
      rw [← hV6]
      have q : Row V6 (w.heap.size + 1) 45 [.slice NA n NC, .slice A2 Y.length C2] := by rw [hV6]; exact ((HR8.out.far (p := ⟨g, 1, none⟩) (by show w.heap.size + 1 ≠ g; omega) _).set 0 _).set 1 _
      have f0 := q.cell 0
      have f1 := q.cell 1
      have hcell : ∀ p : Addr, p.block ≠ w.heap.size + 1 → p.block ≠ g → V6.cell? p = w2.cell? p := fun p hp hp2 => by
        rw [hV6, World.cell?_setCell_other _ _ _ _ (fun e => hp (by rw [← e])), World.cell?_setCell_other _ _ _ _ (fun e => hp (by rw [← e])), World.cell?_setCell_other _ _ _ _ (fun e => hp2 (by rw [← e]))]
      have hsz : V6.heap.size = w2.heap.size := by rw [hV6]; simp
      have ho6 : V6.ownsRow (g + 1) 3 1 (.slice NA n NC) n ((colsF us ks).map fun i : Nat => Value.int .i64 (us.getD i 0 : Nat)) := by
        have hne1 : ∀ b, (Value.slice NA n NC).ownBlock = some b → b ≠ g ∧ b ≠ w.heap.size + 1 := fun b hb => by have := own_base HO2.out hb; have := HZ.out.2; omega
        rw [hV6]
        exact own_far (own_far (own_far HO2.out (p := ⟨g, 1, none⟩) (fun e => (hne1 _ e).1 rfl) _) (p := ⟨w.heap.size + 1, 0, none⟩) (fun e => (hne1 _ e).2 rfl) _) (p := ⟨w.heap.size + 1, 1, none⟩) (fun e => (hne1 _ e).2 rfl) _
      have hsv : ∀ W : World, (∀ p : Addr, w.heap.size ≤ p.block → p.block < V6.heap.size → W.cell? p = V6.cell? p) → SlI .i64 V6.heap.size W NA (((colsF us ks).map fun i => us.getD i 0).map Int.ofNat) := fun W hag => by
        show Sl _ _ _ _
        rw [List.map_map, List.map_map]
        exact sl_own_keep ho6 W fun p h1 h2 => hag p (by have := HZ.out.2; omega) h2
      refine bodyPost_ret (v := .agg #[.slice NA n NC, .slice A2 Y.length C2]) (by simp [results, Tryz.results19, go_sem, f0, f1]) rfl ?_
      unfold ProjRP
      rw [HPV.out, HPP.out]
      refine ⟨_, rfl, ⟨NA, NC, A2, C2, ?_, ?_, HNC.out.2, HKK.out.1, HKK.out.2, fun W hag => ⟨hsv W hag, ?_⟩⟩, ?_⟩
      · rw [List.length_map, List.length_map, HN.out]
      · rw [List.length_map, List.length_map, HN.out]; exact HNC.out.1
      · rw [hsz]
        exact (HS2.out.keep fun p h1 h2 => (hag p (by have := HZ2.out; have := HZ.out; omega) (by rw [hsz]; exact h1)).trans (hcell p (by have := HZ2.out; have := HZ.out; omega) (by have := HZ2.out; omega))).sl
      · rw [hV6]
        exact ((HB2.out.setCell (p := ⟨g, 1, none⟩) (by have := HZ.out.2; show w.heap.size ≤ g; omega) _).setCell (p := ⟨w.heap.size + 1, 0, none⟩) (by show w.heap.size ≤ w.heap.size + 1; omega) _).setCell (p := ⟨w.heap.size + 1, 1, none⟩) (by show w.heap.size ≤ w.heap.size + 1; omega) _
    have r0 : (0 : Int) ≤ (k : Int) := by omega
    have r1 : (k : Int) < (us.length : Int) := by omega
    have r3 : IntKind.i64.wrap ((k : Int) + 1) = ((k + 1 : Nat) : Int) := by rw [IntWalk.i64_in _ (by omega)]; omega
    obtain ⟨vb, vj, hva, hvb, vc⟩ := slI_at HV.out (i := k) (by rw [List.length_map]; exact hkl)
    subst hva
    have vc := (HBA.out.cell (p := ⟨vb, vj + k, none⟩) hvb).trans vc
    rw [List.getElem_map] at vc
    change wr.cell? ⟨vb, vj + k, none⟩ = some (.int .i64 (us[k] : Nat)) at vc
    have hvb2 : vb < wr.heap.size := Nat.lt_of_lt_of_le hvb HBA.out.size
    have hv32 := HGA.out.lt _ (List.getElem_mem hkl)
    have hbt := HBI.out _ (List.getElem_mem hkl)
    have HYES : Hid (us[k] ∈ ks → colsK us ks (k + 1) = colsK us ks k ++ [k]) := fun h => colsK_yes hkl h
    have HNO : Hid (us[k] ∉ ks → colsK us ks (k + 1) = colsK us ks k) := fun h => colsK_no hkl h
    have HGET : Hid (us.getD k 0 = us[k]) := by show _ = _; simp [hkl]
    generalize us[k] = v at *
    have s0 : (0 : Int) ≤ (v : Int) := by omega
    have s1 : (v : Int) ≤ 32 := by omega
    by_cases hm : v ∈ ks
    rotate_left
    · rw [if_neg hm] at hbt
      have hq : (((M : Int) / 2 ^ v).tmod 2 == 1) = false := by
        rw [bit_eq, hbt]; rfl
      have HN := Lib.hid (HNO.out hm)
      clear hbt hm HYES HNO
      go_wp2_with fail
      go_roundw
      case rel => exact ⟨k + 1, vo, hkl, by go_num, HROW.out, by rw [HN.out]; exact HO.out, by rw [HN.out]; exact HOC.out, HNE.out, HB.out⟩
      case measure => simp [intOf]; omega
    rw [if_pos hm] at hbt
    have hq : (((M : Int) / 2 ^ v).tmod 2 == 1) = true := by
      rw [bit_eq, hbt]; rfl
    have HY := Lib.hid (HYES.out hm)
    clear hbt hm HYES HNO
    have HLK : Hid ((colsK us ks k).length ≤ 1000) := Nat.le_trans (colsK_len _ _ _) (by omega)
    generalize colsK us ks k = cs at *
    obtain ⟨l, hl⟩ : ∃ l : List Nat, l = cs.map fun i => us.getD i 0 := ⟨_, rfl⟩
    have HOL : Hid (wr.ownsRow (g + 1) 3 1 vo l.length (l.map fun z : Nat => Value.int .i64 (z : Int))) := by
      show World.ownsRow _ _ _ _ _ _ _
      rw [hl, List.map_map, List.length_map]
      exact HO.out
    have HLL : Hid (l.length ≤ 1000000 ∧ l.length = cs.length) := ⟨by rw [hl, List.length_map]; have := HLK.out; omega, by rw [hl, List.length_map]⟩
    have HLE : Hid ((l ++ [v]).map (fun z : Nat => Value.int .i64 (z : Int)) = (cs ++ [k]).map fun i : Nat => Value.int .i64 (us.getD i 0 : Nat)) := by
      show _ = _
      rw [hl, List.map_append, List.map_append, List.map_map]
      have : ([k].map fun i : Nat => Value.int .i64 (us.getD i 0 : Nat)) = [v].map fun z : Nat => Value.int .i64 (z : Int) := by
        simp only [List.map_cons, List.map_nil]
        rw [HGET.out]
      rw [this]
      rfl
    have HOB : Hid (∀ j, vo.ownBlock = some j → g + 1 ≤ j) := fun j hj => own_base HO.out hj
    have HLT : Hid (w.heap.size < g ∧ vb < g ∧ g < wr.heap.size) := ⟨by have := HZ.out.2; omega, by have := HZ.out.2; omega, q2⟩
    clear hl HO
    go_upto_region 7 with (fail)
    refine regionZ (S := (fun w' => w'.cell? ⟨g, 0, none⟩ = some vo ∧ w'.cell? ⟨w.heap.size, 0, none⟩ = some (.slice (some ⟨vb, vj, none⟩) us.length VC) ∧ w'.cell? ⟨vb, vj + k, none⟩ = some (.int .i64 (v : Nat)))) 10 (by kernel_rfl) ⟨q0, p0, vc⟩ (fun hHeld => ?_)
    refine takeZ (i := 0) (v := ?_) (some 25) rfl rfl (by kernel_rfl) (by decide) (by kernel_rfl) (by kernel_rfl) (by kernel_rfl) (by kernel_rfl) (fun _ _ _ h => h) (Or.inl ⟨by rfl, ?_⟩) (by assumption) ?_
    rotate_left 1
    · (intro w0 hSw; (try dsimp only at hSw); go_simp; try (with_reducible rfl))
    try simp only [Act.put, List.setIfInBounds_toArray, List.set_cons_succ, List.set_cons_zero]
    refine takeZ (i := 1) (v := ?_) (some 26) rfl rfl (by kernel_rfl) (by decide) (by kernel_rfl) (by kernel_rfl) (by kernel_rfl) (by kernel_rfl) (fun _ _ _ h => h) (Or.inl ⟨by rfl, ?_⟩) (by assumption) ?_
    rotate_left 1
    · (intro w0 hSw; (try dsimp only at hSw); go_simp; try (with_reducible rfl))
    try simp only [Act.put, List.setIfInBounds_toArray, List.set_cons_succ, List.set_cons_zero]
    refine takeZ (i := 2) (v := ?_) (some 27) rfl rfl (by kernel_rfl) (by decide) (by kernel_rfl) (by kernel_rfl) (by kernel_rfl) (by kernel_rfl) (fun _ _ _ h => h) (Or.inl ⟨by rfl, ?_⟩) (by assumption) ?_
    rotate_left 1
    · (intro w0 hSw; (try dsimp only at hSw); go_simp; try (with_reducible rfl))
    try simp only [Act.put, List.setIfInBounds_toArray, List.set_cons_succ, List.set_cons_zero]
    refine takeZ (i := 3) (v := ?_) (some 28) rfl rfl (by kernel_rfl) (by decide) (by kernel_rfl) (by kernel_rfl) (by kernel_rfl) (by kernel_rfl) (fun _ _ _ h => h) (Or.inl ⟨by rfl, ?_⟩) (by assumption) ?_
    rotate_left 1
    · (intro w0 hSw; (try dsimp only at hSw); go_simp; try (with_reducible rfl))
    try simp only [Act.put, List.setIfInBounds_toArray, List.set_cons_succ, List.set_cons_zero]
    refine takeZ (i := 4) (v := ?_) (some 29) rfl rfl (by kernel_rfl) (by decide) (by kernel_rfl) (by kernel_rfl) (by kernel_rfl) (by kernel_rfl) (fun _ _ _ h => h) (Or.inl ⟨by rfl, ?_⟩) (by assumption) ?_
    rotate_left 1
    · (intro w0 hSw; (try dsimp only at hSw); go_simp; try (with_reducible rfl))
    try simp only [Act.put, List.setIfInBounds_toArray, List.set_cons_succ, List.set_cons_zero]
    refine takeZ (i := 5) (v := ?_) (some 30) rfl rfl (by kernel_rfl) (by decide) (by kernel_rfl) (by kernel_rfl) (by kernel_rfl) (by kernel_rfl) (fun _ _ _ h => h) (Or.inl ⟨by rfl, ?_⟩) (by assumption) ?_
    rotate_left 1
    · (intro w0 hSw; (try dsimp only at hSw); go_simp; try (with_reducible rfl))
    try simp only [Act.put, List.setIfInBounds_toArray, List.set_cons_succ, List.set_cons_zero]
    refine takeZ (i := 6) (v := ?_) (some 31) rfl rfl (by kernel_rfl) (by decide) (by kernel_rfl) (by kernel_rfl) (by kernel_rfl) (by kernel_rfl) (fun _ _ _ h => h) (Or.inl ⟨by rfl, ?_⟩) (by assumption) ?_
    rotate_left 1
    · (intro w0 hSw; (try dsimp only at hSw); go_simp; try (with_reducible rfl))
    try simp only [Act.put, List.setIfInBounds_toArray, List.set_cons_succ, List.set_cons_zero]
    refine oneZ (i := 7) (by kernel_rfl) rfl (by decide) (fun K hK => ?_)
    go_simp
    have hxa : Ext wr ((wr.alloc (.cells #[.int .i64 (v : Nat)] 3)).drew) := ((Ext.refl wr).alloc _).drew
    have KEEP := (⟨(hxa.cell q2).trans q0, (hxa.cell p2).trans p0, (hxa.cell hvb2).trans vc⟩ : _ ∧ _ ∧ _)
    clear hxa
    refine hK.out _ _ KEEP (fun hHeld => ?_)
    clear hK K
    try simp only [Act.put, List.setIfInBounds_toArray, List.set_cons_succ, List.set_cons_zero]
    refine oneZ (i := 8) (by kernel_rfl) rfl (by decide) (fun K hK => ?_)
    refine stepI (w := (wr.alloc (.cells #[.int .i64 (v : Nat)] 3)).drew) rfl (.tmp 26) (.tmp 32) rfl (g + 1) vo l (by simp [Act.eval]) (own_keep HOL.out (((Ext.refl wr).alloc _).drew).below) wr.heap.size v (by simp [Act.eval]) (Row.new wr 3 [.int .i64 (v : Nat)]) HLL.out.1 (by have := HLT.out; simp; omega) ?_
    intro ng cap w2 hown2 hg2 hat2
    have hzz : wr.heap.size ≤ ((wr.alloc (.cells #[.int .i64 (v : Nat)] 3)).drew).heap.size := by simp
    have hlt := HLT.out
    have KEEP2 : w2.cell? ⟨g, 0, none⟩ = some vo ∧ w2.cell? ⟨w.heap.size, 0, none⟩ = some (.slice (some ⟨vb, vj, none⟩) us.length VC) ∧ w2.cell? ⟨vb, vj + k, none⟩ = some (.int .i64 (v : Nat)) := by
      refine ⟨(grown_cell hg2 (p := ⟨g, 0, none⟩) (Nat.lt_of_lt_of_le q2 hzz) (fun e => by have := HOB.out _ e.symm; simp only at this; omega)).trans KEEP.1, (grown_cell hg2 (p := ⟨w.heap.size, 0, none⟩) (Nat.lt_of_lt_of_le p2 hzz) (fun e => by have := HOB.out _ e.symm; simp only at this; omega)).trans KEEP.2.1, (grown_cell hg2 (p := ⟨vb, vj + k, none⟩) (Nat.lt_of_lt_of_le hvb2 hzz) (fun e => by have := HOB.out _ e.symm; simp only at this; omega)).trans KEEP.2.2⟩
    have HR2 : Hid (Row w2 g 45 [vo, .slice none 0 0]) :=
      ((HROW.out.alloc (.cells #[.int .i64 (v : Nat)] 3)).drew).grown hg2 (fun e => by have := HOB.out _ e.symm; omega)
    have HO2 := Lib.hid hown2
    have HOC2 : Hid (w2.ownsRow (g + 1) 3 1 vcc cs.length (cs.map fun i : Nat => Value.int .i64 (i : Nat))) := own_grown (own_keep HOC.out (((Ext.refl wr).alloc _).drew).below) hg2 (fun b hb e => HNE.out b e.symm hb)
    have HNE2 : Hid (∀ b, vcc.ownBlock = some b → b ≠ ng ∧ b < wr.heap.size) := fun b hb => ⟨fun e => by
      have h1 := own_lt HOC.out b hb
      rcases hat2 with h2 | h2
      · exact HNE.out ng h2 (by rw [← e]; exact hb)
      · simp at h2; omega, own_lt HOC.out b hb⟩
    have HNGL : Hid (ng < w2.heap.size) := own_lt hown2 ng rfl
    have HB2' : Hid (Below g W2 w2) := ((HB.out.alloc (by have := HB.out.size; have := HZ.out.1; omega) (.cells #[.int .i64 (v : Nat)] 3)).drew).grown hg2 (by simp; omega) (fun j hj => by have := HOB.out j hj; omega)
    have u0 := HR2.out.frozen 0
    have u1 := HR2.out.lt
    have u2 := KEEP2.1
    clear hown2 hg2 hat2 hzz hlt
    refine hK.out _ _ KEEP2 (fun hHeld => ?_)
    clear hK K
    try simp only [Act.put, List.setIfInBounds_toArray, List.set_cons_succ, List.set_cons_zero]
    refine takeZ (i := 9) (v := ?_) (some 34) rfl rfl (by kernel_rfl) (by decide) (by kernel_rfl) (by kernel_rfl) (by kernel_rfl) (by kernel_rfl) (fun _ _ _ h => h) (Or.inl ⟨by rfl, ?_⟩) (by assumption) ?_
    rotate_left 1
    · (intro w0 hSw; (try dsimp only at hSw); go_simp; try (with_reducible rfl))
    try simp only [Act.put, List.setIfInBounds_toArray, List.set_cons_succ, List.set_cons_zero]
    refine lastZ (by kernel_rfl) rfl (by kernel_rfl) (fun K hK => ?_)
    go_simp
    go_wp2_with fail
    refine hK.out _ _ ?_
    clear hK K
    try simp only [Act.put, List.setIfInBounds_toArray, List.set_cons_succ, List.set_cons_zero]
    obtain ⟨vn, hvn⟩ : ∃ vn, vn = Value.slice (some ⟨ng, 0, none⟩) (l.length + 1) cap := ⟨_, rfl⟩
    obtain ⟨W3, hW3⟩ : ∃ W3, W3 = w2.setCell ⟨g, 0, none⟩ vn := ⟨_, rfl⟩
    rw [← hvn, ← hW3]
    have HR3 : Hid (Row W3 g 45 [vn, .slice none 0 0]) := by rw [hW3]; exact HR2.out.set 0 vn
    have HO3 : Hid (W3.ownsRow (g + 1) 3 1 vn (l.length + 1) ((l ++ [v]).map fun z : Nat => Value.int .i64 (z : Int))) := by
      rw [hW3, hvn]
      exact own_far HO2.out (p := ⟨g, 0, none⟩) (fun e => by have h1 := own_base HO2.out e; simp only at h1; omega) _
    have HOC3 : Hid (W3.ownsRow (g + 1) 3 1 vcc cs.length (cs.map fun i : Nat => Value.int .i64 (i : Nat))) := by
      rw [hW3]
      exact own_far HOC2.out (p := ⟨g, 0, none⟩) (fun e => by have h1 := own_base HOC2.out e; simp only at h1; omega) _
    have HB3 : Hid (Below g W2 W3) := by rw [hW3]; exact HB2'.out.setCell (p := ⟨g, 0, none⟩) (Nat.le_refl _) _
    have HZ3 : Hid (W3.heap.size = w2.heap.size) := by show _ = _; rw [hW3]; simp
    have HVN : Hid (∀ b, vn.ownBlock = some b → b = ng) := fun b hb => by rw [hvn] at hb; injection hb with hb; exact hb.symm
    clear hHeld hW3 hvn HO2 HOC2 HB2' HR2 HROW HOL u0 u1 u2 KEEP KEEP2 q0 q1 q2 p0 p1 p2 vc
    have HOA : Hid (∀ o : Obj, (W3.alloc o).ownsRow (g + 1) 3 1 vcc cs.length (cs.map fun i : Nat => Value.int .i64 (i : Nat))) := fun o => own_keep HOC3.out ((Ext.refl W3).alloc o).below
    have HVA : Hid (∀ o : Obj, (W3.alloc o).ownsRow (g + 1) 3 1 vn (l.length + 1) ((l ++ [v]).map fun z : Nat => Value.int .i64 (z : Int))) := fun o => own_keep HO3.out ((Ext.refl W3).alloc o).below
    have HRA : Hid (∀ o : Obj, Row (W3.alloc o) g 45 [vn, .slice none 0 0]) := fun o => HR3.out.alloc o
    have HGL : Hid (g + 1 ≤ W3.heap.size) := HR3.out.lt
    have HBA3 : Hid (∀ o : Obj, Below g W2 (W3.alloc o)) := fun o => Below.then HB3.out ((Ext.refl W3).alloc o).below (by have := HGL.out; omega)
    have HBZ : Hid (∀ o : Obj, g + 1 ≤ (W3.alloc o).heap.size) := fun o => Nat.le_trans HGL.out ((Ext.refl W3).alloc o).size
    have HRN := Lib.hid (Row.new W3 3 [.int .i64 (k : Nat)])
    go_wp2_with (at_builtin; go_loud (refine app1Int rfl (.tmp 35) (.tmp 37) rfl (g + 1) vcc cs.length (cs.map fun i : Nat => Value.int .i64 (i : Nat)) rfl (HOA.out _) W3.heap.size [.int .i64 (k : Nat)] rfl HRN.out rfl (by simp [Value.oneCell']) (by have := HLK.out; omega) (HBZ.out _) ?_)
                 intro v5 w5 hown5 hg5 hb5
                 have HO5 := Lib.hid hown5
                 have HR5 : Hid (Row w5 g 45 [vn, .slice none 0 0]) := (HRA.out _).grown hg5 (fun e => by have := own_base (HOA.out (.cells #[.int .i64 (k : Nat)] 3)) e.symm; omega)
                 have HV5 : Hid (w5.ownsRow (g + 1) 3 1 vn (l.length + 1) ((l ++ [v]).map fun z : Nat => Value.int .i64 (z : Int))) := own_grown (HVA.out _) hg5 (fun b hb e => (HNE2.out b e.symm).1 (HVN.out b hb))
                 have HNE5 : Hid (∀ b, vn.ownBlock = some b → v5.ownBlock ≠ some b) := fun b hb e => by
                   have h1 := HVN.out b hb
                   rcases hb5 b e with h2 | h2
                   · exact (HNE2.out b h2).1 h1
                   · have := HNGL.out; have := HZ3.out; have := ((Ext.refl W3).alloc (.cells #[.int .i64 (k : Nat)] 3)).size; omega
                 have HB5 : Hid (Below g W2 w5) := (HBA3.out _).grown hg5 (by have := HBZ.out (.cells #[.int .i64 (k : Nat)] 3); omega) (fun j hj => by have := own_base (HOA.out (.cells #[.int .i64 (k : Nat)] 3)) hj; omega)
                 clear hown5 hg5 hb5)
    go_roundw
    case rel => exact ⟨k + 1, vn, hkl, by go_num, HR5.out, by rw [HY.out, ← HLE.out, List.length_append, List.length_singleton, ← HLL.out.2]; exact HV5.out, by rw [HY.out, List.map_append, List.length_append]; exact HO5.out, HNE5.out, HB5.out⟩
    case measure => simp [intOf]; omega
end
section
open Go.RowKit Go.Sort

theorem eq3 (W : World) (a b c : Int) : (Op.equalIn 10000 76 (.agg #[.int .i64 a, .int .i64 b, .int .i64 c]) (.agg #[.int .i64 a, .int .i64 b, .int .i64 c])).run Tryz.prog W = .ok true W := by
  obtain ⟨i0, hi0⟩ : ∃ i, Tryz.prog.info? 2 = some i := Option.isSome_iff_exists.1 (by kernel_rfl)
  rw [run_equalIn_array W 9999 _ _ Tryz.underlying76 hi0]
  have hc : Tryz.prog.cellsOf 2 = 1 := by kernel_rfl
  have he : ∀ (x : Int) (V : World), (Op.equalIn 9999 2 (.int .i64 x) (.int .i64 x)).run Tryz.prog V = .ok true V := fun x V => by rw [run_equalIn_int V 9998 2 .i64 .i64 x x Tryz.underlying2]; simp
  simp [Op.eqItems, List.range_succ, part, go_sem, hc, he]
end
section
open Go.RowKit Go.Sort

def w36_1 (w : World) : World := w.alloc (.cells #[.int .u8 1, .int .u8 2, .int .u8 0, .int .u8 0, .int .u8 3, .int .u8 0, .int .u8 0, .int .u8 0] 67)
def w36_2 (w : World) : World := (w36_1 w).alloc (.cells #[.int .u8 2, .int .u8 1, .int .u8 0, .int .u8 0] 67)
def w36_3 (w : World) : World := (w36_2 w).alloc (.cells #[.int .u8 3, .slice (some ⟨w.heap.size, 0, none⟩) 2 2, .int .u8 0, .int .u8 6, .slice (some ⟨w.heap.size + 1, 0, none⟩) 1 1, .int .u8 0] 24)
theorem w36_ext (w : World) : Ext w (w36_3 w) := (((Ext.refl w).alloc _).alloc _).alloc _
theorem w36_mem (w : World) : AtsL (w36_3 w).heap.size (w36_3 w) (some ⟨w.heap.size + 1 + 1, 0, none⟩) x36 := fun _ => by
  have r1 : Row (w36_1 w) w.heap.size 67 ([[1, 2, 0, 0], [3, 0, 0, 0]].flatMap four) := Row.new w 67 _
  have r2 : Row (w36_2 w) (w.heap.size + 1) 67 ([[2, 1, 0, 0]].flatMap four) := by
    have h := Row.new (w36_1 w) 67 ([[2, 1, 0, 0]].flatMap four)
    rw [show (w36_1 w).heap.size = w.heap.size + 1 by unfold w36_1; simp] at h
    exact h
  have r3 : Row (w36_3 w) (w.heap.size + 1 + 1) 24 [.int .u8 3, .slice (some ⟨w.heap.size, 0, none⟩) 2 2, .int .u8 0, .int .u8 6, .slice (some ⟨w.heap.size + 1, 0, none⟩) 1 1, .int .u8 0] := by
    have h := Row.new (w36_2 w) 24 [.int .u8 3, .slice (some ⟨w.heap.size, 0, none⟩) 2 2, .int .u8 0, .int .u8 6, .slice (some ⟨w.heap.size + 1, 0, none⟩) 1 1, .int .u8 0]
    rw [show (w36_2 w).heap.size = w.heap.size + 1 + 1 by unfold w36_2 w36_1; simp] at h
    exact h
  have x12 : Ext (w36_1 w) (w36_2 w) := (Ext.refl _).alloc _
  have x23 : Ext (w36_2 w) (w36_3 w) := (Ext.refl _).alloc _
  have hz : (w36_3 w).heap.size = w.heap.size + 1 + 1 + 1 := by unfold w36_3 w36_2 w36_1; simp
  refine ⟨w.heap.size + 1 + 1, 0, rfl, by omega, fun i hi => ?_⟩
  match i, hi with
  | 0, _ => exact ⟨some ⟨w.heap.size, 0, none⟩, 2, r3.cell 0, r3.cell 1, r3.cell 2, slA_row _ ((r1.up x12.below).up x23.below) (by omega)⟩
  | 1, _ => exact ⟨some ⟨w.heap.size + 1, 0, none⟩, 1, r3.cell 3, r3.cell 4, r3.cell 5, slA_row _ (r2.up x23.below) (by omega)⟩
  | i + 2, hi => exact absurd hi (by show ¬ i + 2 < 2; omega)
theorem two_at {w : World} {A : Option Addr} {a b : At} (h : AtsM w.heap.size w A [a.ra, b.ra]) : ∃ bk o VA VC PA PC UA UC QA QC, A = some ⟨bk, o, none⟩ ∧ bk < w.heap.size ∧
    ((w.cell? ⟨bk, o, none⟩ = some (.slice VA a.vs.length VC) ∧ w.cell? ⟨bk, o + 1, none⟩ = some (.int .i64 (a.vs.length : Nat)) ∧ w.cell? ⟨bk, o + 2, none⟩ = some (.slice PA a.P.length PC)) ∧
      w.cell? ⟨bk, o + 3, none⟩ = some (.slice UA b.vs.length UC) ∧ w.cell? ⟨bk, o + 3 + 1, none⟩ = some (.int .i64 (b.vs.length : Nat)) ∧ w.cell? ⟨bk, o + 3 + 2, none⟩ = some (.slice QA b.P.length QC)) ∧
    AtV w (.agg #[.slice VA a.vs.length VC, .int .i64 (a.vs.length : Nat), .slice PA a.P.length PC]) a ∧ AtV w (.agg #[.slice UA b.vs.length UC, .int .i64 (b.vs.length : Nat), .slice QA b.P.length QC]) b := by
  obtain ⟨bk, o, e, hb, hc⟩ := h (by simp)
  have hl : ∀ c : At, c.ra.vs.length = c.vs.length := fun c => by unfold At.ra; simp
  obtain ⟨VA, VC, PA, PC, h1, h2, h3, d1, d2, d3, d4, h4, h5⟩ := hc 0 (by simp)
  obtain ⟨UA, UC, QA, QC, k1, k2, k3, f1, f2, f3, f4, k4, k5⟩ := hc 1 (by simp)
  simp only [List.getElem_cons_zero, List.getElem_cons_succ, hl, Nat.zero_mul, Nat.add_zero, Nat.one_mul] at h1 h2 h3 k1 k2 k3 d1 f1
  exact ⟨bk, o, VA, VC, PA, PC, UA, UC, QA, QC, e, hb, ⟨⟨h1, h2, h3⟩, k1, k2, k3⟩, ⟨VA, VC, PA, PC, rfl, d1, d2, d3, d4, h4, h5⟩, UA, UC, QA, QC, rfl, f1, f2, f3, f4, k4, k5⟩

theorem made36_any (w : World) : Calls Tryz.prog 7 #[.slice (some ⟨w.heap.size + 1 + 1, 0, none⟩) 2 2] (w36_3 w) fun e w' => ∃ A1 C1 A2 C2 A3 C3, e = .returned (.tuple #[.slice A1 2 C1, .slice A2 2 C2, .slice A3 2 C3, .bool true]) ∧ AtsM w'.heap.size w' A1 [xa0.ra, xa1.ra] ∧ Below w.heap.size w w' :=
  (l35Made_any (some ⟨w.heap.size + 1 + 1, 0, none⟩) 2 x36 (w36_3 w) (w36_mem w) x36_bytes (by decide)).mono fun e w' ⟨h1, _, hb⟩ => by
    obtain ⟨A1, C1, A2, C2, A3, C3, he, _, _, _, _, _, _, ha, _, _⟩ := h1 x36_ok
    rw [x36_ra] at ha
    exact ⟨A1, C1, A2, C2, A3, C3, he, ha, Below.then (w36_ext w).below hb (w36_ext w).size⟩

set_option maxHeartbeats 32000000 in
theorem l36awake_any (w : World) : Calls Tryz.prog 8 #[] w fun e w' => e = .returned (.bool true) ∧ Below w.heap.size w w' := by
  have HM := Lib.hid (made36_any w)
  go_enter Tryz.func8, Tryz.ntmps8
  go_wp2_with fail
  refine HM.out.mono ?_
  rintro e w1 ⟨A1, C1, A2, C2, A3, C3, rfl, ha, hb1⟩
  have HA := Lib.hid ha
  obtain ⟨b, o, VA, VC, PA, PC, UA, UC, QA, QC, rfl, hbl, hcs, hv0, hv1⟩ := two_at ha
  have HS : Hid (∀ W, Below w1.heap.size w1 W → (W.cell? ⟨b, o, none⟩ = some (.slice VA 2 VC) ∧ W.cell? ⟨b, o + 1, none⟩ = some (.int .i64 2) ∧ W.cell? ⟨b, o + 2, none⟩ = some (.slice PA 2 PC)) ∧ W.cell? ⟨b, o + 3, none⟩ = some (.slice UA 2 UC) ∧ W.cell? ⟨b, o + 3 + 1, none⟩ = some (.int .i64 2) ∧ W.cell? ⟨b, o + 3 + 2, none⟩ = some (.slice QA 1 QC)) := fun W h => by
    have hc : ∀ i, W.cell? ⟨b, i, none⟩ = w1.cell? ⟨b, i, none⟩ := fun i => h.cell (p := ⟨b, i, none⟩) hbl
    rw [hc, hc, hc, hc, hc, hc]
    exact hcs
  have HSJ : Hid (∀ W, Below w1.heap.size w1 W → Calls Tryz.prog 9 #[.agg #[.slice VA 2 VC, .int .i64 2, .slice PA 2 PC], .agg #[.slice UA 2 UC, .int .i64 2, .slice QA 1 QC]] W (XPost W 0 ⟨[0, 1], [[valI 1, valI 2]]⟩)) := fun W h => by
    have h1 := sjSemiX_any _ _ xa0.ra xa1.ra W (hv0.up h).ra (hv1.up h).ra (by decide) ⟨xa0.vs, semiF xa0 xa1⟩ fun W' hb _ _ => sjSemi_ok _ _ xa0 xa1 W' ((hv0.up h).up hb) ((hv1.up h).up hb) xa0_gd xa1_gd
    rw [x36_err, x36_semi] at h1
    exact h1
  have HJJ : Hid (∀ W, Below w1.heap.size w1 W → Calls Tryz.prog 10 #[.agg #[.slice VA 2 VC, .int .i64 2, .slice PA 2 PC], .agg #[.slice UA 2 UC, .int .i64 2, .slice QA 1 QC]] W (XPost W 0 ⟨[0, 1, 2], [[valI 1, valI 2, valI 1]]⟩)) := fun W h => by
    have h1 := sjJoinX_any _ _ xa0.ra xa1.ra W (hv0.up h).ra (hv1.up h).ra (by decide) (joinA (uniV xa0.vs xa1.vs) xa0 xa1) fun W' hb _ _ => sjJoin_ok _ _ xa0 xa1 W' ((hv0.up h).up hb) ((hv1.up h).up hb) xa0_gd xa1_gd (by
      refine Nat.le_trans (flat_le (n := 1) fun x _ => ?_) (by show 2 * 1 ≤ 60000; decide)
      rw [List.length_map]
      exact List.length_filter_le _ _)
    rw [x36_err, x36_join] at h1
    exact h1
  have HB1 := Lib.hid hb1
  have hbl2 := hbl
  clear hb1 ha hcs hv0 hv1 HM
  go_wp2_with fail
  go_upto_region 4 with (fail)
  go_cut [5, 6] from 33 to 42 (fun r e wx => ∃ g : Nat, r = .pointer (some ⟨g, 0, none⟩) ∧ e = .int .i64 (0) ∧ BoxA wx g (resA 0 ⟨[0, 1], [[valI 1, valI 2]]⟩) ∧ Below w1.heap.size w1 wx)
  case first =>
    refine wp_region_held_drew (S := (fun w' => (w'.cell? ⟨b, o, none⟩ = some (.slice VA 2 VC) ∧ w'.cell? ⟨b, o + 1, none⟩ = some (.int .i64 2) ∧ w'.cell? ⟨b, o + 2, none⟩ = some (.slice PA 2 PC)) ∧ w'.cell? ⟨b, o + 3, none⟩ = some (.slice UA 2 UC) ∧ w'.cell? ⟨b, o + 3 + 1, none⟩ = some (.int .i64 2) ∧ w'.cell? ⟨b, o + 3 + 2, none⟩ = some (.slice QA 1 QC))) (by kernel_rfl) (HS.out w1.drew (Below.refl _ _).drew) (fun hHeld => ?_)
    obtain ⟨V0, hV0⟩ : ∃ V, V = w1.drew := ⟨_, rfl⟩
    have HV : Hid (Below w1.heap.size w1 V0) := by show Below _ _ _; rw [hV0]; exact (Below.refl _ _).drew
    rw [← hV0] at hHeld ⊢
    clear hV0
    refine takeOp (i := 0) (v := ?_) (some 34) rfl rfl (by kernel_rfl) (by kernel_rfl) (by kernel_rfl) (fun _ _ _ h => h) (Or.inl ⟨by rfl, ?_⟩) (by assumption) ?_
    rotate_left 1
    · (intro w0 hSw; (try dsimp only at hSw); go_simp; try (with_reducible rfl))
    try simp only [Act.put, List.setIfInBounds_toArray, List.set_cons_succ, List.set_cons_zero]
    refine takeOp (i := 1) (v := ?_) (some 35) rfl rfl (by kernel_rfl) (by kernel_rfl) (by kernel_rfl) (fun _ _ _ h => h) (Or.inl ⟨by rfl, ?_⟩) (by assumption) ?_
    rotate_left 1
    · (intro w0 hSw; (try dsimp only at hSw); go_simp; try (with_reducible rfl))
    try simp only [Act.put, List.setIfInBounds_toArray, List.set_cons_succ, List.set_cons_zero]
    refine takeOp (i := 2) (v := ?_) (some 36) rfl rfl (by kernel_rfl) (by kernel_rfl) (by kernel_rfl) (fun _ _ _ h => h) (Or.inl ⟨by rfl, ?_⟩) (by assumption) ?_
    rotate_left 1
    · (intro w0 hSw; (try dsimp only at hSw); go_simp; try (with_reducible rfl))
    try simp only [Act.put, List.setIfInBounds_toArray, List.set_cons_succ, List.set_cons_zero]
    refine takeOp (i := 3) (v := ?_) (some 37) rfl rfl (by kernel_rfl) (by kernel_rfl) (by kernel_rfl) (fun _ _ _ h => h) (Or.inl ⟨by rfl, ?_⟩) (by assumption) ?_
    rotate_left 1
    · (intro w0 hSw; (try dsimp only at hSw); go_simp; try (with_reducible rfl))
    try simp only [Act.put, List.setIfInBounds_toArray, List.set_cons_succ, List.set_cons_zero]
    refine takeOp (i := 4) (v := ?_) (some 38) rfl rfl (by kernel_rfl) (by kernel_rfl) (by kernel_rfl) (fun _ _ _ h => h) (Or.inl ⟨by rfl, ?_⟩) (by assumption) ?_
    rotate_left 1
    · (intro w0 hSw; (try dsimp only at hSw); go_simp; try (with_reducible rfl))
    try simp only [Act.put, List.setIfInBounds_toArray, List.set_cons_succ, List.set_cons_zero]
    refine takeOp (i := 5) (v := ?_) (some 39) rfl rfl (by kernel_rfl) (by kernel_rfl) (by kernel_rfl) (fun _ _ _ h => h) (Or.inl ⟨by rfl, ?_⟩) (by assumption) ?_
    rotate_left 1
    · (intro w0 hSw; (try dsimp only at hSw); go_simp; try (with_reducible rfl))
    try simp only [Act.put, List.setIfInBounds_toArray, List.set_cons_succ, List.set_cons_zero]
    refine wpAnyH_ready (rs := [6, 10]) (by kernel_rfl) (by simp) ?_
    refine (AllReadyH.cons rfl (fun K hK => ?_) (AllReadyH.cons rfl (fun K hK => ?_) AllReadyH.nil))
    · go_simp
      refine (HSJ.out V0 HV.out).mono ?_
      rintro e V1 hp
      obtain ⟨SA, SC, TA, TC, rfl, hat, hb⟩ := hp.one
      have HAT := Lib.hid hat
      have HVS : Hid (w1.heap.size ≤ V0.heap.size) := HV.out.size
      have HV := Lib.hid (Below.then HV.out hb HV.out.size)
      clear hat hb hp
      go_wp2_with fail
      refine hK.out _ _ (HS.out V1 HV.out) (fun hHeld => ?_)
      clear hK K
      try simp only [Act.put, List.setIfInBounds_toArray, List.set_cons_succ, List.set_cons_zero]
      refine takeOp (i := 7) (v := ?_) (some 33) rfl rfl (by kernel_rfl) (by kernel_rfl) (by kernel_rfl) (fun _ _ _ h => h) (Or.inl ⟨by rfl, ?_⟩) (by assumption) ?_
      rotate_left 1
      · (intro w0 hSw; (try dsimp only at hSw); go_simp; try (with_reducible rfl))
      try simp only [Act.put, List.setIfInBounds_toArray, List.set_cons_succ, List.set_cons_zero]
      refine takeOp (i := 8) (v := ?_) (some 41) rfl rfl (by kernel_rfl) (by kernel_rfl) (by kernel_rfl) (fun _ _ _ h => h) (Or.inl ⟨by rfl, ?_⟩) (by assumption) ?_
      rotate_left 1
      · (intro w0 hSw; (try dsimp only at hSw); go_simp; try (with_reducible rfl))
      try simp only [Act.put, List.setIfInBounds_toArray, List.set_cons_succ, List.set_cons_zero]
      refine takeOp (i := 9) (v := ?_) (some 42) rfl rfl (by kernel_rfl) (by kernel_rfl) (by kernel_rfl) (fun _ _ _ h => h) (Or.inl ⟨by rfl, ?_⟩) (by assumption) ?_
      rotate_left 1
      · (intro w0 hSw; (try dsimp only at hSw); go_simp; try (with_reducible rfl))
      try simp only [Act.put, List.setIfInBounds_toArray, List.set_cons_succ, List.set_cons_zero]
      refine wpAnyH_ready (rs := [10]) (by kernel_rfl) (by simp) ?_
      refine (AllReadyH.cons rfl (fun K hK => ?_) AllReadyH.nil)
      go_simp
      obtain ⟨V2, hV⟩ : ∃ V', V' = V1.alloc (.cells #[.slice none 0 0, .int .i64 0, .slice none 0 0] 36) := ⟨_, rfl⟩
      rw [← hV]
      have hx : Ext V1 V2 := by rw [hV]; exact (Ext.refl V1).alloc _
      obtain ⟨gb, hgb⟩ : ∃ gb, gb = V1.heap.size := ⟨_, rfl⟩
      have HG : Hid (Row V2 gb 36 [.slice none 0 0, .int .i64 0, .slice none 0 0]) := by show Row _ _ _ _; rw [hV, hgb]; exact Row.new V1 _ _
      have HGZ : Hid (w1.heap.size ≤ gb ∧ gb + 1 = V2.heap.size ∧ gb = V1.heap.size) := ⟨by rw [hgb]; exact HV.out.size, by rw [hV, hgb]; simp, hgb⟩
      have HAT := Lib.hid (HAT.out.keep (P' := fun c => c < gb) (fun p hp _ => hx.below.cell hp) hx.size fun b hb _ => by rw [hgb]; exact hb)
      have HV := Lib.hid (Below.then HV.out hx.below HV.out.size)
      rw [← hgb]
      clear hx hV hgb
      refine hK.out _ _ (HS.out V2 HV.out) (fun hHeld => ?_)
      clear hK K
      try simp only [Act.put, List.setIfInBounds_toArray, List.set_cons_succ, List.set_cons_zero]
      refine wpAnyH_ready (rs := [11]) (by kernel_rfl) (by simp) ?_
      refine (AllReadyH.cons rfl (fun K hK => ?_) AllReadyH.nil)
      have m0 := HG.out.frozen 0
      have m1 := HG.out.frozen 1
      have m2 := HG.out.frozen 2
      have m3 := HG.out.lt
      have n0 : V2.cell? ⟨gb, 0, none⟩ = some (.slice none 0 0) := HG.out.cell 0
      have n1 : V2.cell? ⟨gb, 1, none⟩ = some (.int .i64 0) := HG.out.cell 1
      have n2 : V2.cell? ⟨gb, 2, none⟩ = some (.slice none 0 0) := HG.out.cell 2
      go_simp
      go_wp2_with fail
      obtain ⟨V3, hV⟩ : ∃ V', V' = ((V2.setCell ⟨gb, 0, none⟩ (.slice SA (resA 0 ⟨[0, 1], [[valI 1, valI 2]]⟩).vs.length SC)).setCell ⟨gb, 1, none⟩ (.int .i64 ((resA 0 ⟨[0, 1], [[valI 1, valI 2]]⟩).vs.length : Nat))).setCell ⟨gb, 2, none⟩ (.slice TA (resA 0 ⟨[0, 1], [[valI 1, valI 2]]⟩).P.length TC) := ⟨_, rfl⟩
      rw [← hV]
      have HBX := Lib.hid (BoxA.put HG.out HAT.out (by show ¬ gb < gb; omega) hV)
      have hz := HGZ.out.1
      have HV : Hid (Below w1.heap.size w1 V3) := by show Below _ _ _; rw [hV]; exact ((HV.out.setCell (by show w1.heap.size ≤ gb; omega) _).setCell (by show w1.heap.size ≤ gb; omega) _).setCell (by show w1.heap.size ≤ gb; omega) _
      clear hV m0 m1 m2 m3 n0 n1 n2 hz
      refine hK.out _ _ (HS.out V3 HV.out) (fun hHeld => ?_)
      clear hK K
      try simp only [Act.put, List.setIfInBounds_toArray, List.set_cons_succ, List.set_cons_zero]
      refine takeOp (i := 12) (v := ?_) (some 6) rfl rfl (by kernel_rfl) (by kernel_rfl) (by kernel_rfl) (fun _ _ _ h => h) (Or.inl ⟨by rfl, ?_⟩) (by assumption) ?_
      rotate_left 1
      · (intro w0 hSw; (try dsimp only at hSw); go_simp; try (with_reducible rfl))
      try simp only [Act.put, List.setIfInBounds_toArray, List.set_cons_succ, List.set_cons_zero]
      refine wpAnyH_done (by kernel_rfl) ?_ _
      go_wp2_with fail
      go_meet
      case rel => exact ⟨gb, rfl, rfl, HBX.out, HV.out⟩
    · go_simp
      obtain ⟨V1, hV⟩ : ∃ V', V' = V0.alloc (.cells #[.slice none 0 0, .int .i64 0, .slice none 0 0] 36) := ⟨_, rfl⟩
      rw [← hV]
      have hx : Ext V0 V1 := by rw [hV]; exact (Ext.refl V0).alloc _
      obtain ⟨gb, hgb⟩ : ∃ gb, gb = V0.heap.size := ⟨_, rfl⟩
      have HG : Hid (Row V1 gb 36 [.slice none 0 0, .int .i64 0, .slice none 0 0]) := by show Row _ _ _ _; rw [hV, hgb]; exact Row.new V0 _ _
      have HGZ : Hid (w1.heap.size ≤ gb ∧ gb + 1 = V1.heap.size ∧ gb = V0.heap.size) := ⟨by rw [hgb]; exact HV.out.size, by rw [hV, hgb]; simp, hgb⟩
      have HV := Lib.hid (Below.then HV.out hx.below HV.out.size)
      rw [← hgb]
      clear hx hV hgb
      refine hK.out _ _ (HS.out V1 HV.out) (fun hHeld => ?_)
      clear hK K
      try simp only [Act.put, List.setIfInBounds_toArray, List.set_cons_succ, List.set_cons_zero]
      refine wpAnyH_ready (rs := [6]) (by kernel_rfl) (by simp) ?_
      refine (AllReadyH.cons rfl (fun K hK => ?_) AllReadyH.nil)
      go_simp
      refine (HSJ.out V1 HV.out).mono ?_
      rintro e V2 hp
      obtain ⟨SA, SC, TA, TC, rfl, hat, hb⟩ := hp.one
      have HAT := Lib.hid hat
      have HVS : Hid (w1.heap.size ≤ V1.heap.size) := HV.out.size
      have HG := Lib.hid (HG.out.up hb)
      have HV := Lib.hid (Below.then HV.out hb HV.out.size)
      clear hat hb hp
      go_wp2_with fail
      refine hK.out _ _ (HS.out V2 HV.out) (fun hHeld => ?_)
      clear hK K
      try simp only [Act.put, List.setIfInBounds_toArray, List.set_cons_succ, List.set_cons_zero]
      refine takeOp (i := 7) (v := ?_) (some 33) rfl rfl (by kernel_rfl) (by kernel_rfl) (by kernel_rfl) (fun _ _ _ h => h) (Or.inl ⟨by rfl, ?_⟩) (by assumption) ?_
      rotate_left 1
      · (intro w0 hSw; (try dsimp only at hSw); go_simp; try (with_reducible rfl))
      try simp only [Act.put, List.setIfInBounds_toArray, List.set_cons_succ, List.set_cons_zero]
      refine takeOp (i := 8) (v := ?_) (some 41) rfl rfl (by kernel_rfl) (by kernel_rfl) (by kernel_rfl) (fun _ _ _ h => h) (Or.inl ⟨by rfl, ?_⟩) (by assumption) ?_
      rotate_left 1
      · (intro w0 hSw; (try dsimp only at hSw); go_simp; try (with_reducible rfl))
      try simp only [Act.put, List.setIfInBounds_toArray, List.set_cons_succ, List.set_cons_zero]
      refine takeOp (i := 9) (v := ?_) (some 42) rfl rfl (by kernel_rfl) (by kernel_rfl) (by kernel_rfl) (fun _ _ _ h => h) (Or.inl ⟨by rfl, ?_⟩) (by assumption) ?_
      rotate_left 1
      · (intro w0 hSw; (try dsimp only at hSw); go_simp; try (with_reducible rfl))
      try simp only [Act.put, List.setIfInBounds_toArray, List.set_cons_succ, List.set_cons_zero]
      refine wpAnyH_ready (rs := [11]) (by kernel_rfl) (by simp) ?_
      refine (AllReadyH.cons rfl (fun K hK => ?_) AllReadyH.nil)
      have m0 := HG.out.frozen 0
      have m1 := HG.out.frozen 1
      have m2 := HG.out.frozen 2
      have m3 := HG.out.lt
      have n0 : V2.cell? ⟨gb, 0, none⟩ = some (.slice none 0 0) := HG.out.cell 0
      have n1 : V2.cell? ⟨gb, 1, none⟩ = some (.int .i64 0) := HG.out.cell 1
      have n2 : V2.cell? ⟨gb, 2, none⟩ = some (.slice none 0 0) := HG.out.cell 2
      go_simp
      go_wp2_with fail
      obtain ⟨V3, hV⟩ : ∃ V', V' = ((V2.setCell ⟨gb, 0, none⟩ (.slice SA (resA 0 ⟨[0, 1], [[valI 1, valI 2]]⟩).vs.length SC)).setCell ⟨gb, 1, none⟩ (.int .i64 ((resA 0 ⟨[0, 1], [[valI 1, valI 2]]⟩).vs.length : Nat))).setCell ⟨gb, 2, none⟩ (.slice TA (resA 0 ⟨[0, 1], [[valI 1, valI 2]]⟩).P.length TC) := ⟨_, rfl⟩
      rw [← hV]
      have HBX := Lib.hid (BoxA.put HG.out HAT.out (by have := HGZ.out; show ¬ _ + 3 ≤ gb; omega) hV)
      have hz := HGZ.out.1
      have HV : Hid (Below w1.heap.size w1 V3) := by show Below _ _ _; rw [hV]; exact ((HV.out.setCell (by show w1.heap.size ≤ gb; omega) _).setCell (by show w1.heap.size ≤ gb; omega) _).setCell (by show w1.heap.size ≤ gb; omega) _
      clear hV m0 m1 m2 m3 n0 n1 n2 hz
      refine hK.out _ _ (HS.out V3 HV.out) (fun hHeld => ?_)
      clear hK K
      try simp only [Act.put, List.setIfInBounds_toArray, List.set_cons_succ, List.set_cons_zero]
      refine takeOp (i := 12) (v := ?_) (some 6) rfl rfl (by kernel_rfl) (by kernel_rfl) (by kernel_rfl) (fun _ _ _ h => h) (Or.inl ⟨by rfl, ?_⟩) (by assumption) ?_
      rotate_left 1
      · (intro w0 hSw; (try dsimp only at hSw); go_simp; try (with_reducible rfl))
      try simp only [Act.put, List.setIfInBounds_toArray, List.set_cons_succ, List.set_cons_zero]
      refine wpAnyH_done (by kernel_rfl) ?_ _
      go_wp2_with fail
      go_meet
      case rel => exact ⟨gb, rfl, rfl, HBX.out, HV.out⟩
  case rest =>
    obtain ⟨g5, rfl, rfl, hbx, hbw⟩ := hcut
    generalize wc = wA at *
    have HBXA := Lib.hid hbx
    have HBA := Lib.hid hbw
    have HSA : Hid (∀ W, Below wA.heap.size wA W → (W.cell? ⟨b, o, none⟩ = some (.slice VA 2 VC) ∧ W.cell? ⟨b, o + 1, none⟩ = some (.int .i64 2) ∧ W.cell? ⟨b, o + 2, none⟩ = some (.slice PA 2 PC)) ∧ W.cell? ⟨b, o + 3, none⟩ = some (.slice UA 2 UC) ∧ W.cell? ⟨b, o + 3 + 1, none⟩ = some (.int .i64 2) ∧ W.cell? ⟨b, o + 3 + 2, none⟩ = some (.slice QA 1 QC)) := fun W h => HS.out W (Below.then HBA.out h HBA.out.size)
    have HJA := Lib.hid (fun W (h : Below wA.heap.size wA W) => HJJ.out W (Below.then HBA.out h HBA.out.size))
    have hbl : b < wA.heap.size := Nat.lt_of_lt_of_le hbl2 HBA.out.size
    clear hbx hbw
    go_upto_region 5 with (fail)
    go_cut [7, 8] from 43 to 52 (fun r e wx => ∃ g : Nat, r = .pointer (some ⟨g, 0, none⟩) ∧ e = .int .i64 (0) ∧ BoxA wx g (resA 0 ⟨[0, 1, 2], [[valI 1, valI 2, valI 1]]⟩) ∧ Below wA.heap.size wA wx)
    case first =>
      refine wp_region_held_drew (S := (fun w' => (w'.cell? ⟨b, o, none⟩ = some (.slice VA 2 VC) ∧ w'.cell? ⟨b, o + 1, none⟩ = some (.int .i64 2) ∧ w'.cell? ⟨b, o + 2, none⟩ = some (.slice PA 2 PC)) ∧ w'.cell? ⟨b, o + 3, none⟩ = some (.slice UA 2 UC) ∧ w'.cell? ⟨b, o + 3 + 1, none⟩ = some (.int .i64 2) ∧ w'.cell? ⟨b, o + 3 + 2, none⟩ = some (.slice QA 1 QC))) (by kernel_rfl) (HSA.out wA.drew (Below.refl _ _).drew) (fun hHeld => ?_)
      obtain ⟨V0, hV0⟩ : ∃ V, V = wA.drew := ⟨_, rfl⟩
      have HV : Hid (Below wA.heap.size wA V0) := by show Below _ _ _; rw [hV0]; exact (Below.refl _ _).drew
      rw [← hV0] at hHeld ⊢
      clear hV0
      refine takeOp (i := 0) (v := ?_) (some 44) rfl rfl (by kernel_rfl) (by kernel_rfl) (by kernel_rfl) (fun _ _ _ h => h) (Or.inl ⟨by rfl, ?_⟩) (by assumption) ?_
      rotate_left 1
      · (intro w0 hSw; (try dsimp only at hSw); go_simp; try (with_reducible rfl))
      try simp only [Act.put, List.setIfInBounds_toArray, List.set_cons_succ, List.set_cons_zero]
      refine takeOp (i := 1) (v := ?_) (some 45) rfl rfl (by kernel_rfl) (by kernel_rfl) (by kernel_rfl) (fun _ _ _ h => h) (Or.inl ⟨by rfl, ?_⟩) (by assumption) ?_
      rotate_left 1
      · (intro w0 hSw; (try dsimp only at hSw); go_simp; try (with_reducible rfl))
      try simp only [Act.put, List.setIfInBounds_toArray, List.set_cons_succ, List.set_cons_zero]
      refine takeOp (i := 2) (v := ?_) (some 46) rfl rfl (by kernel_rfl) (by kernel_rfl) (by kernel_rfl) (fun _ _ _ h => h) (Or.inl ⟨by rfl, ?_⟩) (by assumption) ?_
      rotate_left 1
      · (intro w0 hSw; (try dsimp only at hSw); go_simp; try (with_reducible rfl))
      try simp only [Act.put, List.setIfInBounds_toArray, List.set_cons_succ, List.set_cons_zero]
      refine takeOp (i := 3) (v := ?_) (some 47) rfl rfl (by kernel_rfl) (by kernel_rfl) (by kernel_rfl) (fun _ _ _ h => h) (Or.inl ⟨by rfl, ?_⟩) (by assumption) ?_
      rotate_left 1
      · (intro w0 hSw; (try dsimp only at hSw); go_simp; try (with_reducible rfl))
      try simp only [Act.put, List.setIfInBounds_toArray, List.set_cons_succ, List.set_cons_zero]
      refine takeOp (i := 4) (v := ?_) (some 48) rfl rfl (by kernel_rfl) (by kernel_rfl) (by kernel_rfl) (fun _ _ _ h => h) (Or.inl ⟨by rfl, ?_⟩) (by assumption) ?_
      rotate_left 1
      · (intro w0 hSw; (try dsimp only at hSw); go_simp; try (with_reducible rfl))
      try simp only [Act.put, List.setIfInBounds_toArray, List.set_cons_succ, List.set_cons_zero]
      refine takeOp (i := 5) (v := ?_) (some 49) rfl rfl (by kernel_rfl) (by kernel_rfl) (by kernel_rfl) (fun _ _ _ h => h) (Or.inl ⟨by rfl, ?_⟩) (by assumption) ?_
      rotate_left 1
      · (intro w0 hSw; (try dsimp only at hSw); go_simp; try (with_reducible rfl))
      try simp only [Act.put, List.setIfInBounds_toArray, List.set_cons_succ, List.set_cons_zero]
      refine wpAnyH_ready (rs := [6, 10]) (by kernel_rfl) (by simp) ?_
      refine (AllReadyH.cons rfl (fun K hK => ?_) (AllReadyH.cons rfl (fun K hK => ?_) AllReadyH.nil))
      · go_simp
        refine (HJA.out V0 HV.out).mono ?_
        rintro e V1 hp
        obtain ⟨SA, SC, TA, TC, rfl, hat, hb⟩ := hp.one
        have HAT := Lib.hid hat
        have HVS : Hid (wA.heap.size ≤ V0.heap.size) := HV.out.size
        have HV := Lib.hid (Below.then HV.out hb HV.out.size)
        clear hat hb hp
        go_wp2_with fail
        refine hK.out _ _ (HSA.out V1 HV.out) (fun hHeld => ?_)
        clear hK K
        try simp only [Act.put, List.setIfInBounds_toArray, List.set_cons_succ, List.set_cons_zero]
        refine takeOp (i := 7) (v := ?_) (some 43) rfl rfl (by kernel_rfl) (by kernel_rfl) (by kernel_rfl) (fun _ _ _ h => h) (Or.inl ⟨by rfl, ?_⟩) (by assumption) ?_
        rotate_left 1
        · (intro w0 hSw; (try dsimp only at hSw); go_simp; try (with_reducible rfl))
        try simp only [Act.put, List.setIfInBounds_toArray, List.set_cons_succ, List.set_cons_zero]
        refine takeOp (i := 8) (v := ?_) (some 51) rfl rfl (by kernel_rfl) (by kernel_rfl) (by kernel_rfl) (fun _ _ _ h => h) (Or.inl ⟨by rfl, ?_⟩) (by assumption) ?_
        rotate_left 1
        · (intro w0 hSw; (try dsimp only at hSw); go_simp; try (with_reducible rfl))
        try simp only [Act.put, List.setIfInBounds_toArray, List.set_cons_succ, List.set_cons_zero]
        refine takeOp (i := 9) (v := ?_) (some 52) rfl rfl (by kernel_rfl) (by kernel_rfl) (by kernel_rfl) (fun _ _ _ h => h) (Or.inl ⟨by rfl, ?_⟩) (by assumption) ?_
        rotate_left 1
        · (intro w0 hSw; (try dsimp only at hSw); go_simp; try (with_reducible rfl))
        try simp only [Act.put, List.setIfInBounds_toArray, List.set_cons_succ, List.set_cons_zero]
        refine wpAnyH_ready (rs := [10]) (by kernel_rfl) (by simp) ?_
        refine (AllReadyH.cons rfl (fun K hK => ?_) AllReadyH.nil)
        go_simp
        obtain ⟨V2, hV⟩ : ∃ V', V' = V1.alloc (.cells #[.slice none 0 0, .int .i64 0, .slice none 0 0] 36) := ⟨_, rfl⟩
        rw [← hV]
        have hx : Ext V1 V2 := by rw [hV]; exact (Ext.refl V1).alloc _
        obtain ⟨gb, hgb⟩ : ∃ gb, gb = V1.heap.size := ⟨_, rfl⟩
        have HG : Hid (Row V2 gb 36 [.slice none 0 0, .int .i64 0, .slice none 0 0]) := by show Row _ _ _ _; rw [hV, hgb]; exact Row.new V1 _ _
        have HGZ : Hid (wA.heap.size ≤ gb ∧ gb + 1 = V2.heap.size ∧ gb = V1.heap.size) := ⟨by rw [hgb]; exact HV.out.size, by rw [hV, hgb]; simp, hgb⟩
        have HAT := Lib.hid (HAT.out.keep (P' := fun c => c < gb) (fun p hp _ => hx.below.cell hp) hx.size fun b hb _ => by rw [hgb]; exact hb)
        have HV := Lib.hid (Below.then HV.out hx.below HV.out.size)
        rw [← hgb]
        clear hx hV hgb
        refine hK.out _ _ (HSA.out V2 HV.out) (fun hHeld => ?_)
        clear hK K
        try simp only [Act.put, List.setIfInBounds_toArray, List.set_cons_succ, List.set_cons_zero]
        refine wpAnyH_ready (rs := [11]) (by kernel_rfl) (by simp) ?_
        refine (AllReadyH.cons rfl (fun K hK => ?_) AllReadyH.nil)
        have m0 := HG.out.frozen 0
        have m1 := HG.out.frozen 1
        have m2 := HG.out.frozen 2
        have m3 := HG.out.lt
        have n0 : V2.cell? ⟨gb, 0, none⟩ = some (.slice none 0 0) := HG.out.cell 0
        have n1 : V2.cell? ⟨gb, 1, none⟩ = some (.int .i64 0) := HG.out.cell 1
        have n2 : V2.cell? ⟨gb, 2, none⟩ = some (.slice none 0 0) := HG.out.cell 2
        go_simp
        go_wp2_with fail
        obtain ⟨V3, hV⟩ : ∃ V', V' = ((V2.setCell ⟨gb, 0, none⟩ (.slice SA (resA 0 ⟨[0, 1, 2], [[valI 1, valI 2, valI 1]]⟩).vs.length SC)).setCell ⟨gb, 1, none⟩ (.int .i64 ((resA 0 ⟨[0, 1, 2], [[valI 1, valI 2, valI 1]]⟩).vs.length : Nat))).setCell ⟨gb, 2, none⟩ (.slice TA (resA 0 ⟨[0, 1, 2], [[valI 1, valI 2, valI 1]]⟩).P.length TC) := ⟨_, rfl⟩
        rw [← hV]
        have HBX := Lib.hid (BoxA.put HG.out HAT.out (by show ¬ gb < gb; omega) hV)
        have hz := HGZ.out.1
        have HV : Hid (Below wA.heap.size wA V3) := by show Below _ _ _; rw [hV]; exact ((HV.out.setCell (by show wA.heap.size ≤ gb; omega) _).setCell (by show wA.heap.size ≤ gb; omega) _).setCell (by show wA.heap.size ≤ gb; omega) _
        clear hV m0 m1 m2 m3 n0 n1 n2 hz
        refine hK.out _ _ (HSA.out V3 HV.out) (fun hHeld => ?_)
        clear hK K
        try simp only [Act.put, List.setIfInBounds_toArray, List.set_cons_succ, List.set_cons_zero]
        refine takeOp (i := 12) (v := ?_) (some 8) rfl rfl (by kernel_rfl) (by kernel_rfl) (by kernel_rfl) (fun _ _ _ h => h) (Or.inl ⟨by rfl, ?_⟩) (by assumption) ?_
        rotate_left 1
        · (intro w0 hSw; (try dsimp only at hSw); go_simp; try (with_reducible rfl))
        try simp only [Act.put, List.setIfInBounds_toArray, List.set_cons_succ, List.set_cons_zero]
        refine wpAnyH_done (by kernel_rfl) ?_ _
        go_wp2_with fail
        go_meet
        case rel => exact ⟨gb, rfl, rfl, HBX.out, HV.out⟩
      · go_simp
        obtain ⟨V1, hV⟩ : ∃ V', V' = V0.alloc (.cells #[.slice none 0 0, .int .i64 0, .slice none 0 0] 36) := ⟨_, rfl⟩
        rw [← hV]
        have hx : Ext V0 V1 := by rw [hV]; exact (Ext.refl V0).alloc _
        obtain ⟨gb, hgb⟩ : ∃ gb, gb = V0.heap.size := ⟨_, rfl⟩
        have HG : Hid (Row V1 gb 36 [.slice none 0 0, .int .i64 0, .slice none 0 0]) := by show Row _ _ _ _; rw [hV, hgb]; exact Row.new V0 _ _
        have HGZ : Hid (wA.heap.size ≤ gb ∧ gb + 1 = V1.heap.size ∧ gb = V0.heap.size) := ⟨by rw [hgb]; exact HV.out.size, by rw [hV, hgb]; simp, hgb⟩
        have HV := Lib.hid (Below.then HV.out hx.below HV.out.size)
        rw [← hgb]
        clear hx hV hgb
        refine hK.out _ _ (HSA.out V1 HV.out) (fun hHeld => ?_)
        clear hK K
        try simp only [Act.put, List.setIfInBounds_toArray, List.set_cons_succ, List.set_cons_zero]
        refine wpAnyH_ready (rs := [6]) (by kernel_rfl) (by simp) ?_
        refine (AllReadyH.cons rfl (fun K hK => ?_) AllReadyH.nil)
        go_simp
        refine (HJA.out V1 HV.out).mono ?_
        rintro e V2 hp
        obtain ⟨SA, SC, TA, TC, rfl, hat, hb⟩ := hp.one
        have HAT := Lib.hid hat
        have HVS : Hid (wA.heap.size ≤ V1.heap.size) := HV.out.size
        have HG := Lib.hid (HG.out.up hb)
        have HV := Lib.hid (Below.then HV.out hb HV.out.size)
        clear hat hb hp
        go_wp2_with fail
        refine hK.out _ _ (HSA.out V2 HV.out) (fun hHeld => ?_)
        clear hK K
        try simp only [Act.put, List.setIfInBounds_toArray, List.set_cons_succ, List.set_cons_zero]
        refine takeOp (i := 7) (v := ?_) (some 43) rfl rfl (by kernel_rfl) (by kernel_rfl) (by kernel_rfl) (fun _ _ _ h => h) (Or.inl ⟨by rfl, ?_⟩) (by assumption) ?_
        rotate_left 1
        · (intro w0 hSw; (try dsimp only at hSw); go_simp; try (with_reducible rfl))
        try simp only [Act.put, List.setIfInBounds_toArray, List.set_cons_succ, List.set_cons_zero]
        refine takeOp (i := 8) (v := ?_) (some 51) rfl rfl (by kernel_rfl) (by kernel_rfl) (by kernel_rfl) (fun _ _ _ h => h) (Or.inl ⟨by rfl, ?_⟩) (by assumption) ?_
        rotate_left 1
        · (intro w0 hSw; (try dsimp only at hSw); go_simp; try (with_reducible rfl))
        try simp only [Act.put, List.setIfInBounds_toArray, List.set_cons_succ, List.set_cons_zero]
        refine takeOp (i := 9) (v := ?_) (some 52) rfl rfl (by kernel_rfl) (by kernel_rfl) (by kernel_rfl) (fun _ _ _ h => h) (Or.inl ⟨by rfl, ?_⟩) (by assumption) ?_
        rotate_left 1
        · (intro w0 hSw; (try dsimp only at hSw); go_simp; try (with_reducible rfl))
        try simp only [Act.put, List.setIfInBounds_toArray, List.set_cons_succ, List.set_cons_zero]
        refine wpAnyH_ready (rs := [11]) (by kernel_rfl) (by simp) ?_
        refine (AllReadyH.cons rfl (fun K hK => ?_) AllReadyH.nil)
        have m0 := HG.out.frozen 0
        have m1 := HG.out.frozen 1
        have m2 := HG.out.frozen 2
        have m3 := HG.out.lt
        have n0 : V2.cell? ⟨gb, 0, none⟩ = some (.slice none 0 0) := HG.out.cell 0
        have n1 : V2.cell? ⟨gb, 1, none⟩ = some (.int .i64 0) := HG.out.cell 1
        have n2 : V2.cell? ⟨gb, 2, none⟩ = some (.slice none 0 0) := HG.out.cell 2
        go_simp
        go_wp2_with fail
        obtain ⟨V3, hV⟩ : ∃ V', V' = ((V2.setCell ⟨gb, 0, none⟩ (.slice SA (resA 0 ⟨[0, 1, 2], [[valI 1, valI 2, valI 1]]⟩).vs.length SC)).setCell ⟨gb, 1, none⟩ (.int .i64 ((resA 0 ⟨[0, 1, 2], [[valI 1, valI 2, valI 1]]⟩).vs.length : Nat))).setCell ⟨gb, 2, none⟩ (.slice TA (resA 0 ⟨[0, 1, 2], [[valI 1, valI 2, valI 1]]⟩).P.length TC) := ⟨_, rfl⟩
        rw [← hV]
        have HBX := Lib.hid (BoxA.put HG.out HAT.out (by have := HGZ.out; show ¬ _ + 3 ≤ gb; omega) hV)
        have hz := HGZ.out.1
        have HV : Hid (Below wA.heap.size wA V3) := by show Below _ _ _; rw [hV]; exact ((HV.out.setCell (by show wA.heap.size ≤ gb; omega) _).setCell (by show wA.heap.size ≤ gb; omega) _).setCell (by show wA.heap.size ≤ gb; omega) _
        clear hV m0 m1 m2 m3 n0 n1 n2 hz
        refine hK.out _ _ (HSA.out V3 HV.out) (fun hHeld => ?_)
        clear hK K
        try simp only [Act.put, List.setIfInBounds_toArray, List.set_cons_succ, List.set_cons_zero]
        refine takeOp (i := 12) (v := ?_) (some 8) rfl rfl (by kernel_rfl) (by kernel_rfl) (by kernel_rfl) (fun _ _ _ h => h) (Or.inl ⟨by rfl, ?_⟩) (by assumption) ?_
        rotate_left 1
        · (intro w0 hSw; (try dsimp only at hSw); go_simp; try (with_reducible rfl))
        try simp only [Act.put, List.setIfInBounds_toArray, List.set_cons_succ, List.set_cons_zero]
        refine wpAnyH_done (by kernel_rfl) ?_ _
        go_wp2_with fail
        go_meet
        case rel => exact ⟨gb, rfl, rfl, HBX.out, HV.out⟩
    case rest =>
      obtain ⟨g7, rfl, rfl, hbx, hbw⟩ := hcut
      generalize wc = wB at *
      have HBXB := Lib.hid hbx
      have HBXA2 := Lib.hid (HBXA.out.up hbw)
      have HBB : Hid (Below w1.heap.size w1 wB) := Below.then HBA.out hbw HBA.out.size
      clear hbx hbw hbl HSA HJA HBXA
      have hx6 : Ext wB (wB.alloc (.cells #[.int .i64 (-1), .int .i64 0] 3)) := (Ext.refl wB).alloc _
      have hr6 := Row.new wB 3 [.int .i64 (-1), .int .i64 0]
      have HA6 := HA.out.upB (Below.then HBB.out hx6.below HBB.out.size)
      have hev := sjEvaluate_any (some ⟨wB.heap.size, 0, none⟩) (some ⟨b, o, none⟩) 2 C1 [-1, 0] [xa0.ra, xa1.ra] 5 (wB.alloc (.cells #[.int .i64 (-1), .int .i64 0] 3)) HA6 (by decide) x36_small (fun _ => ⟨wB.heap.size, 0, rfl, hr6.lt, fun j u hu => by rw [Nat.zero_add, hr6.cell j]; exact hu⟩) (by decide) (by decide) (fun _ => x36_few)
      have HEV := Lib.hid hev
      have HX6 := Lib.hid hx6
      clear hev hx6 hr6 HA6 HA HS HSJ HJJ
      go_wp2_with fail
      refine HEV.out.mono ?_
      rintro e w6 ⟨-, -, h3, hb6⟩
      obtain ⟨v, a, rfl, hat, hef⟩ := h3 x36_tree x36_keep
      have ha := x36_eval hef
      subst ha
      have HAT := Lib.hid hat
      obtain ⟨KA, KC, LA', LC, he, -⟩ := hat
      replace he : v = .agg #[.slice KA 2 KC, .int .i64 2, .slice LA' 1 LC] := he
      subst he
      have HB6 : Hid (Below wB.heap.size wB w6) := Below.then HX6.out.below hb6 HX6.out.size
      obtain ⟨W7, hW7⟩ : ∃ W, W = w6.alloc (.cells #[.slice KA 2 KC, .int .i64 2, .slice LA' 1 LC] 36) := ⟨_, rfl⟩
      obtain ⟨g9, hg9⟩ : ∃ g, g = w6.heap.size := ⟨_, rfl⟩
      have hx7 : Ext w6 W7 := by rw [hW7]; exact (Ext.refl w6).alloc _
      have hr9 : Row W7 g9 36 [.slice KA 2 KC, .int .i64 2, .slice LA' 1 LC] := by rw [hW7, hg9]; exact Row.new w6 _ _
      have HR9 := Lib.hid hr9
      have HAT7 := Lib.hid (HAT.out.up hx7.below)
      have HB7 : Hid (Below wB.heap.size wB W7) := Below.then HB6.out hx7.below HB6.out.size
      have HG9E := Lib.hid hg9
      have HW7E := Lib.hid hW7
      clear h3 hb6 hef HEV HX6 hW7 hg9 hx7 hr9
      go_upto_region 7 with (fail)
      rw [← HW7E.out, ← HG9E.out]
      clear HW7E HG9E HB6 HAT
      obtain ⟨P5A, P5C, P5P, P5D, r5, v5⟩ := (HBXA2.out.up HB7.out)
      obtain ⟨P7A, P7C, P7P, P7D, r7, v7⟩ := (HBXB.out.up HB7.out)
      have HV5 : Hid (AtV W7 (.agg #[.slice P5A 2 P5C, .int .i64 2, .slice P5P 1 P5D]) ⟨[0, 1], [[valI 1, valI 2]]⟩) := v5
      have HV7 : Hid (AtV W7 (.agg #[.slice P7A 3 P7C, .int .i64 3, .slice P7P 1 P7D]) ⟨[0, 1, 2], [[valI 1, valI 2, valI 1]]⟩) := v7
      have HV9 : Hid (AtV W7 (.agg #[.slice KA 2 KC, .int .i64 2, .slice LA' 1 LC]) ⟨[0, 2], [[valI 1, valI 1]]⟩) := HAT7.out
      have hup : ∀ W, Below W7.heap.size W7 W → ((W.cell? ⟨g5, 0, none⟩ = some (.slice P5A 2 P5C) ∧ W.cell? ⟨g5, 1, none⟩ = some (.int .i64 2) ∧ W.cell? ⟨g5, 2, none⟩ = some (.slice P5P 1 P5D) ∧ g5 < W.heap.size) ∧ (W.cell? ⟨g7, 0, none⟩ = some (.slice P7A 3 P7C) ∧ W.cell? ⟨g7, 1, none⟩ = some (.int .i64 3) ∧ W.cell? ⟨g7, 2, none⟩ = some (.slice P7P 1 P7D) ∧ g7 < W.heap.size)) ∧ (W.cell? ⟨g9, 0, none⟩ = some (.slice KA 2 KC) ∧ W.cell? ⟨g9, 1, none⟩ = some (.int .i64 2) ∧ W.cell? ⟨g9, 2, none⟩ = some (.slice LA' 1 LC) ∧ g9 < W.heap.size) := fun W h =>
        ⟨⟨⟨(r5.up h).cell 0, (r5.up h).cell 1, (r5.up h).cell 2, (r5.up h).lt⟩, (r7.up h).cell 0, (r7.up h).cell 1, (r7.up h).cell 2, (r7.up h).lt⟩, (HR9.out.up h).cell 0, (HR9.out.up h).cell 1, (HR9.out.up h).cell 2, (HR9.out.up h).lt⟩
      have HUP := Lib.hid hup
      have hgd : ∀ {vs : List Nat} {r : RL.R}, vs.Pairwise (· < ·) → (∀ v ∈ vs, v < 32) → r.length = vs.length → (∀ c ∈ r, IsI c) → Gd ⟨vs, [r]⟩ := fun h1 h2 h3 h4 => ⟨h1, h2, fun r hr => by rw [List.mem_singleton.1 hr]; exact h3, ss_one _, fun r hr => by rw [List.mem_singleton.1 hr]; exact h4, by show 1 ≤ 60000; omega⟩
      have hI : ∀ {r : List Nat}, ∀ c ∈ r.map valI, IsI c := fun c hc => by obtain ⟨x, -, rfl⟩ := List.mem_map.1 hc; exact ⟨x, rfl⟩
      have H5 : Hid (∀ W, Below W7.heap.size W7 W → Calls Tryz.prog 27 #[.agg #[.slice P5A 2 P5C, .int .i64 2, .slice P5P 1 P5D]] W fun e w' => e = .returned (.agg #[.int .i64 1, .int .i64 2, .int .i64 0]) ∧ Below W.heap.size W w') := fun W h => l36awake1_any _ ⟨[0, 1], [[valI 1, valI 2]]⟩ W (HV5.out.up h) (hgd (by decide) (by decide) rfl (hI (r := [1, 2])))
      have H7 : Hid (∀ W, Below W7.heap.size W7 W → Calls Tryz.prog 27 #[.agg #[.slice P7A 3 P7C, .int .i64 3, .slice P7P 1 P7D]] W fun e w' => e = .returned (.agg #[.int .i64 1, .int .i64 2, .int .i64 1]) ∧ Below W.heap.size W w') := fun W h => l36awake1_any _ ⟨[0, 1, 2], [[valI 1, valI 2, valI 1]]⟩ W (HV7.out.up h) (hgd (by decide) (by decide) rfl (hI (r := [1, 2, 1])))
      have H9 : Hid (∀ W, Below W7.heap.size W7 W → Calls Tryz.prog 27 #[.agg #[.slice KA 2 KC, .int .i64 2, .slice LA' 1 LC]] W fun e w' => e = .returned (.agg #[.int .i64 1, .int .i64 1, .int .i64 0]) ∧ Below W.heap.size W w') := fun W h => l36awake1_any _ ⟨[0, 2], [[valI 1, valI 1]]⟩ W (HV9.out.up h) (hgd (by decide) (by decide) rfl (hI (r := [1, 1])))
      have HBW : Hid (Below w.heap.size w W7) := Below.then HB1.out (Below.then HBB.out HB7.out HBB.out.size) HB1.out.size
      clear r5 v5 r7 v7 hgd hI HR9 HAT7 HBXA2 HBXB hup HV5 HV7 HV9 HB7 HBB HBA HB1
      obtain ⟨⟨⟨a0, a1, a2, a3⟩, b0, b1, b2, b3⟩, d0, d1, d2, d3⟩ := HUP.out W7 (Below.refl _ _)
      have hq1 := fun W => eq3 W 1 2 0
      have hq2 := fun W => eq3 W 1 2 1
      have hq3 := fun W => eq3 W 1 1 0
      go_wp2_with fail
      refine (rlLen_any 2 P5P 1 P5D W7).mono ?_
      rintro e u0 ⟨rfl, hx⟩
      have HU0 : Hid (Below W7.heap.size W7 u0) := Below.then (Below.refl W7.heap.size W7) hx.below ((Below.refl W7.heap.size W7)).size
      clear hx a0 a1 a2 a3 b0 b1 b2 b3 d0 d1 d2 d3
      obtain ⟨⟨⟨a0, a1, a2, a3⟩, b0, b1, b2, b3⟩, d0, d1, d2, d3⟩ := HUP.out u0 HU0.out
      go_wp2_with fail
      refine (H5.out u0 HU0.out).mono ?_
      rintro e u1 ⟨rfl, hb⟩
      have HU1 : Hid (Below W7.heap.size W7 u1) := Below.then HU0.out hb (HU0.out).size
      clear hb a0 a1 a2 a3 b0 b1 b2 b3 d0 d1 d2 d3
      obtain ⟨⟨⟨a0, a1, a2, a3⟩, b0, b1, b2, b3⟩, d0, d1, d2, d3⟩ := HUP.out u1 HU1.out
      go_wp2_with fail
      refine (rlLen_any 3 P7P 1 P7D u1).mono ?_
      rintro e u2 ⟨rfl, hx⟩
      have HU2 : Hid (Below W7.heap.size W7 u2) := Below.then HU1.out hx.below (HU1.out).size
      clear hx a0 a1 a2 a3 b0 b1 b2 b3 d0 d1 d2 d3
      obtain ⟨⟨⟨a0, a1, a2, a3⟩, b0, b1, b2, b3⟩, d0, d1, d2, d3⟩ := HUP.out u2 HU2.out
      go_wp2_with fail
      refine (H7.out u2 HU2.out).mono ?_
      rintro e u3 ⟨rfl, hb⟩
      have HU3 : Hid (Below W7.heap.size W7 u3) := Below.then HU2.out hb (HU2.out).size
      clear hb a0 a1 a2 a3 b0 b1 b2 b3 d0 d1 d2 d3
      obtain ⟨⟨⟨a0, a1, a2, a3⟩, b0, b1, b2, b3⟩, d0, d1, d2, d3⟩ := HUP.out u3 HU3.out
      go_wp2_with fail
      refine (rlLen_any 2 LA' 1 LC u3).mono ?_
      rintro e u4 ⟨rfl, hx⟩
      have HU4 : Hid (Below W7.heap.size W7 u4) := Below.then HU3.out hx.below (HU3.out).size
      clear hx a0 a1 a2 a3 b0 b1 b2 b3 d0 d1 d2 d3
      obtain ⟨⟨⟨a0, a1, a2, a3⟩, b0, b1, b2, b3⟩, d0, d1, d2, d3⟩ := HUP.out u4 HU4.out
      go_wp2_with fail
      refine (H9.out u4 HU4.out).mono ?_
      rintro e u5 ⟨rfl, hb⟩
      have HU5 : Hid (Below W7.heap.size W7 u5) := Below.then HU4.out hb (HU4.out).size
      clear hb a0 a1 a2 a3 b0 b1 b2 b3 d0 d1 d2 d3
      obtain ⟨⟨⟨a0, a1, a2, a3⟩, b0, b1, b2, b3⟩, d0, d1, d2, d3⟩ := HUP.out u5 HU5.out
      go_wp2_with fail
      go_ret
      exact ⟨rfl, Below.then HBW.out HU5.out HBW.out.size⟩
end
section
open Go.RowKit Go.Sort

theorem l35Made3 (A : Option Addr) (C : Nat) (l : List LA) (w : World) (hA : AtsL w.heap.size w A l) (hB : LBytes l) (hl : l.length ≤ 3518437208780) :
    Calls Tryz.prog 7 #[.slice A l.length C] w fun e w' => Below w.heap.size w w' ∧ (e = .returned (.tuple #[.slice none 0 0, .slice none 0 0, .slice none 0 0, .bool false]) ∨ ∃ (X : List RA) (A1 A2 A3 : Option Addr) (C1 C2 C3 : Nat), e = .returned (.tuple #[.slice A1 X.length C1, .slice A2 X.length C2, .slice A3 X.length C3, .bool (decide (X.length ≤ 6))]) ∧
    (X = l.map LA.ra ∧ (∀ a ∈ l, a.Ok)) ∧ AtsM w'.heap.size w' A1 X ∧ AtsR w'.heap.size w' A2 X ∧ SlI .i64 w'.heap.size w' A3 (X.map (·.ar))) := (l35Made_any A C l w hA hB hl).mono fun e w' ⟨h1, h2, hb⟩ => by
  refine ⟨hb, ?_⟩
  by_cases h : ∀ a ∈ l, a.Ok
  · obtain ⟨A1, C1, A2, C2, A3, C3, he, c1, d1, -, -, -, -, ha, hr, hz⟩ := h1 h
    refine .inr ⟨l.map LA.ra, A1, A2, A3, C1, C2, C3, ?_, ⟨rfl, h⟩, ha, hr, ?_⟩
    · rw [List.length_map]; exact he
    · rw [List.map_map]; exact hz
  · exact .inl (h2 h)
end
section
open Go.RowKit Go.Sort

section
variable {al : List At} {ps : List Int} {X : Nat → At} (hX : X = fun i => al.getD i ⟨[], []⟩) (hg : ∀ a ∈ al, Gd a) (hl : al.length ≤ 32) (h : TreeOk al ps X)
include hX
theorem mkL_fn (R : Nat → List RL.R) (i : Nat) : ((mkL al.length X R).getD i ⟨[], []⟩).vs = (X i).vs := by
  by_cases hi : i < al.length
  · rw [List.getD_eq_getElem?_getD, mkL_get hi]; rfl
  · rw [List.getD_eq_getElem?_getD, List.getElem?_eq_none (by rw [mkL_len]; omega), hX]
    simp [Nat.le_of_not_lt hi]
include hg h
omit h in
theorem mkL_gd : ∀ a ∈ mkL al.length X (redF ps X), Gd a := fun a ha => by
  unfold mkL at ha
  obtain ⟨i, hi, rfl⟩ := List.mem_map.1 ha
  exact red_gd hX hg i (List.mem_range.1 hi)
omit hg in
theorem tree_red : TreeOk (mkL al.length X (redF ps X)) ps (fun i => (mkL al.length X (redF ps X)).getD i ⟨[], []⟩) where
  len := by rw [mkL_len]; exact h.len
  pos := by rw [mkL_len]; exact h.pos
  root := h.root
  nd := h.nd
  mem := by rw [mkL_len]; exact h.mem
  rip := PRip.mono (fun i v => by rw [mkL_fn hX]) h.rip
theorem red_twice {n : Nat} (hn : n < al.length) : redF ps (fun i => (mkL al.length X (redF ps X)).getD i ⟨[], []⟩) n = redF ps X n := by
  have hg' := mkL_gd (ps := ps) hX hg
  have h' := tree_red hX h
  have hn' : n < (mkL al.length X (redF ps X)).length := by rw [mkL_len]; exact hn
  refine RL.SS.ext ?_ (red_gd hX hg n hn).ss fun x => ?_
  · exact (red_gd rfl hg' n hn').ss
  · rw [red_rows rfl hg' h' hn', red_rows hX hg h hn]
    unfold PrF
    simp only [satD_list rfl, satD_list hX, sat_red hX hg h, mkL_fn hX]
theorem proj_red {n : Nat} (hn : n < al.length) (q : Nat → Bool) (x : RL.R) : x ∈ (projA ⟨(X n).vs, redF ps X n⟩ q).P ↔ ∃ f, satL al f ∧ rowF ((X n).vs.filter q) f = x := by
  have hG := red_gd hX hg (ps := ps) n hn
  rw [proj_pr (X := X) (D := fun i => i < al.length) hG.nodup fun x => red_rows hX hg h hn x]
  unfold PrF
  simp only [satD_list hX]
  rfl
theorem red_pair {i k : Nat} (hi : i < al.length) (hk : k < al.length) {q : Nat → Bool} (hq : ∀ v, q v = true ↔ v ∈ (X i).vs ∧ v ∈ (X k).vs) : projA ⟨(X i).vs, redF ps X i⟩ q = projA ⟨(X k).vs, redF ps X k⟩ q := by
  have hv : (X i).vs.filter q = (X k).vs.filter q := nat_asc_ext ((X_gd hX hg hi).asc.filter _) ((X_gd hX hg hk).asc.filter _) fun v => by
    rw [List.mem_filter, List.mem_filter, hq]
    exact ⟨fun h => ⟨h.2.2, h.2⟩, fun h => ⟨h.2.1, h.2⟩⟩
  refine at_ext hv (RL.SS.of _) (RL.SS.of _) fun x => ?_
  rw [proj_red hX hg h hi, proj_red hX hg h hk, hv]
include hl
theorem red_full : (∀ a ∈ mkL al.length X (redF ps X), a.P ≠ []) ↔ (joinR al).P ≠ [] := by
  constructor
  · intro hall
    have h0 : (⟨(X 0).vs, redF ps X 0⟩ : At) ∈ mkL al.length X (redF ps X) := by
      unfold mkL
      exact List.mem_map.2 ⟨0, List.mem_range.2 h.pos, rfl⟩
    obtain ⟨x, hx⟩ := List.exists_mem_of_ne_nil _ (hall _ h0)
    obtain ⟨f, hf, -⟩ := (red_rows hX hg h h.pos x).1 hx
    intro e
    have hm := (rows_joinR hg hl _).2 ⟨f, (satD_list hX f).1 hf, rfl⟩
    rw [e] at hm
    simp at hm
  · intro hne a ha e
    obtain ⟨z, hz⟩ := List.exists_mem_of_ne_nil _ hne
    obtain ⟨f, hf, -⟩ := (rows_joinR hg hl z).1 hz
    unfold mkL at ha
    obtain ⟨i, hi, rfl⟩ := List.mem_map.1 ha
    have hm : rowF (X i).vs f ∈ redF ps X i := (red_rows hX hg h (List.mem_range.1 hi) _).2 ⟨f, (satD_list hX f).2 hf, rfl⟩
    have e : redF ps X i = [] := e
    rw [e] at hm
    simp at hm
omit h in
theorem ev_ref {keep : Nat → Bool} {a : At} (he : EvF X al.length keep a) : a = projA (joinR al) keep := by
  have hv : a.vs = (unionV al).filter keep := nat_asc_ext he.gd.asc ((unionV_asc al).filter _) fun v => by
    rw [he.mem, List.mem_filter, mem_unionV hg, and_comm]
    refine and_congr_left fun _ => ?_
    subst hX
    constructor
    · rintro ⟨i, hi, hv⟩
      exact ⟨al[i], List.getElem_mem hi, by simpa [hi] using hv⟩
    · rintro ⟨b, hb, hv⟩
      obtain ⟨i, hi, rfl⟩ := List.getElem_of_mem hb
      exact ⟨i, hi, by simpa [hi] using hv⟩
  refine at_ext hv he.gd.ss (RL.SS.of _) fun x => ?_
  rw [he.rows, rows_projR hg hl, hv]
  unfold PrF
  simp only [satD_list hX]
end
theorem set_union (al : List At) (hg : ∀ a ∈ al, Gd a) : setN (unionV al) = orF al := Nat.eq_of_testBit_eq fun v => by
  rw [setN_bit, orF_bit]
  exact decide_eq_decide.2 (mem_unionV hg v)
theorem red_trees {al : List At} {ps qs : List Int} {X : Nat → At} (hX : X = fun i => al.getD i ⟨[], []⟩) (hg : ∀ a ∈ al, Gd a) (h : TreeOk al ps X) (h' : TreeOk al qs X) : mkL al.length X (redF ps X) = mkL al.length X (redF qs X) := by
  unfold mkL
  refine List.map_congr_left fun i hi => ?_
  have hi := List.mem_range.1 hi
  have e : redF ps X i = redF qs X i := RL.SS.ext (red_gd hX hg i hi).ss (red_gd hX hg i hi).ss fun x => by rw [red_rows hX hg h hi, red_rows hX hg h' hi]
  show (⟨(X i).vs, redF ps X i⟩ : At) = ⟨(X i).vs, redF qs X i⟩
  rw [e]
end
section
open Go.RowKit Go.Sort

theorem errC_gd {al : List At} (h : ∀ a ∈ al, Gd a) (hl : al.length ≤ 32) : errC (al.map At.ra) = 0 := by
  unfold errC
  rw [if_neg (by rw [List.length_map]; omega)]
  have : (al.map At.ra).find? (fun a => errAt 32 a != 0) = none := List.find?_eq_none.2 fun r hr => by
    obtain ⟨a, ha, rfl⟩ := List.mem_map.1 hr
    simp [(h a ha).err0]
  rw [this]
section
variable {a b : At} {w : World} {va vb : Value} (ga : Gd a) (gb : Gd b) (hm : (joinR [a, b]).P.length ≤ 60000)
include ga gb
include hm
end
theorem same36 {a : At} (ga : Gd a) {w : World} {vx vy : Value} (hx : RefV w vx (a.vs.map Int.ofNat) a.P) (hy : RefV w vy (a.vs.map Int.ofNat) a.P) : Calls Tryz.prog 21 #[vx, vy] w fun e w' => e = .returned (.bool true) ∧ Below w.heap.size w w' := by
  have hv : (a.vs.map Int.ofNat).length ≤ 1000000 := by rw [List.length_map]; have := ga.vl; omega
  have hP : a.P.length ≤ 1000000 := by have := ga.many; omega
  refine (r36Same_any vx vy _ _ _ _ w hx hy hv hv hP hP ga.rsOk ga.rsOk).mono fun e w' ⟨h1, h2⟩ => ⟨by rw [h1, decide_eq_true ⟨rfl, rfl⟩], h2⟩
end
section
open Go.RowKit

theorem boolInfo : (Tryz.prog.info? 4).map (fun i => (i.zero, i.size, i.bytes)) = some (some (.bool false), 1, 1) := by kernel_rfl
theorem makeBools (n : Nat) (hn : n ≤ 1000000) (w : World) : (Instr.makeSlice 146 (.int .i64 (n : Int)) (.int .i64 (n : Int))).run Tryz.prog w = .ok (.slice (some ⟨w.heap.size, 0, none⟩) n n) (w.alloc (.cells (zerosA (.bool false) n) 4)) := by
  obtain ⟨i0, hi0, hz0, hz1, hz2⟩ := info_parts boolInfo
  have := run_make (P := Tryz.prog) w 146 4 i0 _ Tryz.underlying146 hi0 hz0 .i64 .i64 n n (by omega) (by omega) (by rw [hz2]; omega) (by omega)
  rw [this, hz1]
  simp only [Int.toNat_natCast]
  rw [zeros_made _ _ rfl]
end
section
open Go.RowKit

abbrev SlB (B : Nat) (w : World) (A : Option Addr) (bs : List Bool) : Prop := Sl B w A (bs.map Value.bool)
theorem slB_at {B : Nat} {w : World} {A : Option Addr} {zs : List Bool} (h : SlB B w A zs) {i : Nat} (hi : i < zs.length) :
    ∃ b o, A = some ⟨b, o, none⟩ ∧ b < B ∧ w.cell? ⟨b, o + i, none⟩ = some (.bool zs[i]) := by
  obtain ⟨b, o, e, hb, hc⟩ := Sl.at_ h (k := i) (by simpa using hi)
  exact ⟨b, o, e, hb, by simpa using hc⟩

theorem below_set3 {w W : World} (h : Below w.heap.size w W) (a b c : Value) : Below w.heap.size w (((W.setCell ⟨w.heap.size, 0, none⟩ a).setCell ⟨w.heap.size, 1, none⟩ b).setCell ⟨w.heap.size, 2, none⟩ c) :=
  ((h.setCell (p := ⟨w.heap.size, 0, none⟩) (Nat.le_refl _) a).setCell (p := ⟨w.heap.size, 1, none⟩) (Nat.le_refl _) b).setCell (p := ⟨w.heap.size, 2, none⟩) (Nat.le_refl _) c

theorem bit_test (x v : Nat) (hx : x < 4294967296) : (bits .and .u32 ((x : Int) / 2 ^ v) 1 == 1) = JT.has x v := by
  have h1 : (x : Int) / 2 ^ v = ((x / 2 ^ v : Nat) : Int) := by simp
  have h2 : x / 2 ^ v ≤ x := Nat.div_le_self _ _
  rw [h1, show (1 : Int) = ((1 : Nat) : Int) from rfl, u32_and_nat _ 1 (by omega) (by omega), nat_mask1]
  unfold JT.has
  rw [Bool.eq_iff_iff, beq_iff_eq, beq_iff_eq]
  omega

abbrev stepV27 (e i v : Int) : Value := .agg #[.int .i64 e, .int .i64 i, .int .i64 v]
def AbsorbPost (R : List Nat) (rem : List Bool) (w : World) (r : Ending) (w' : World) : Prop :=
  ((∃ e i : Nat, JT.IsAbsorb R rem e i ∧ r = .returned (.tuple #[stepV27 e i (-1), .bool true])) ∨ (JT.NoAbsorb R rem ∧ r = .returned (.tuple #[stepV27 0 0 0, .bool false]))) ∧ Below w.heap.size w w'

theorem absorbs_false1 (R : List Nat) (rem : List Bool) (e : Nat) : JT.absorbs R rem e e = false := by simp [JT.absorbs]
theorem absorbs_false2 {R : List Nat} {rem : List Bool} {e i : Nat} (h : rem[e]?.getD true = true) : JT.absorbs R rem e i = false := by simp [JT.absorbs, h]
theorem absorbs_false3 {R : List Nat} {rem : List Bool} {e i : Nat} (h : rem[i]?.getD true = true) : JT.absorbs R rem e i = false := by simp [JT.absorbs, h]
theorem absorbs_false4 {R : List Nat} {rem : List Bool} {e i : Nat} (h : JT.dif (R[e]?.getD 0) (R[i]?.getD 0) ≠ 0) : JT.absorbs R rem e i = false := by simp [JT.absorbs, h]
theorem absorbs_true {R : List Nat} {rem : List Bool} {e i : Nat} (h : e ≠ i) (h2 : rem[e]?.getD true = false) (h3 : rem[i]?.getD true = false) (h4 : JT.dif (R[e]?.getD 0) (R[i]?.getD 0) = 0) : JT.absorbs R rem e i = true := by simp [JT.absorbs, h, h2, h3, h4]

theorem lt_succ_all {p : Nat → Prop} {k : Nat} (h : ∀ i, i < k → p i) (hk : p k) : ∀ i, i < k + 1 → p i := fun i hi => by
  by_cases h1 : i < k
  · exact h i h1
  · obtain rfl : i = k := by omega
    exact hk

set_option maxHeartbeats 4000000 in
theorem absorb_any (RA BA : Option Addr) (RC BC : Nat) (R : List Nat) (rem : List Bool) (w : World)
   (hR : SlN .u32 w.heap.size w RA R) (hu : JT.U32 R) (hB : SlB w.heap.size w BA rem) (hl : rem.length = R.length) (hm : R.length ≤ 1000000) :
    Calls Tryz.prog 82 #[.slice RA R.length RC, .slice BA rem.length BC] w (AbsorbPost R rem w) := by
  have HU := Lib.hid hu
  have HL := Lib.hid hl
  have hbm : rem.length ≤ 1000000 := by omega
  have HR := Lib.hid hR
  have HB := Lib.hid hB
  have hbel : ∀ n o, Below w.heap.size w ((w.alloc o).drewN n) := fun n o => Below.drewN' ((Below.refl _ _).alloc (Nat.le_refl _) o) n
  have HBEL := Lib.hid hbel
  clear hR hB hu hl hbel
  go_enter Tryz.func82, Tryz.ntmps82
  go_wp2
  go_loopw [10] (fun x wr => ∃ e : Nat, e ≤ R.length ∧ x = .int .i64 e ∧ (∀ e', e' < e → ∀ i', i' < R.length → JT.absorbs R rem e' i' = false) ∧ ∃ n, wr = (w.alloc (.cells #[.int .i64 0, .int .i64 0, .int .i64 0] 121)).drewN n) (fun x _ => R.length - (intOf x).toNat)
  case atStart => exact ⟨0, Nat.zero_le _, rfl, by omega, 0, rfl⟩
  case round =>
    obtain ⟨e, he, rfl, hall, n, rfl⟩ := hrel
    have HA := Lib.hid hall
    clear hall
    by_cases hel : e < R.length
    · go_wp2
      go_loopw [15] (fun x wr => ∃ i : Nat, i ≤ R.length ∧ x = .int .i64 i ∧ (∀ i', i' < i → JT.absorbs R rem e i' = false) ∧ ∃ n, wr = (w.alloc (.cells #[.int .i64 0, .int .i64 0, .int .i64 0] 121)).drewN n) (fun x _ => R.length - (intOf x).toNat)
      case atStart => exact ⟨0, Nat.zero_le _, rfl, by omega, n, rfl⟩
      case round =>
        clear n
        obtain ⟨i, hi, rfl, hall, n, rfl⟩ := hrel
        have HI := Lib.hid hall
        clear hall
        by_cases hil : i < R.length
        · have hebl : e < rem.length := by have := HL.out; omega
          have hibl : i < rem.length := by have := HL.out; omega
          have hue := HU.out.get e
          have hui := HU.out.get i
          have hre : R[e]?.getD 0 = R[e] := by simp [hel]
          have hri : R[i]?.getD 0 = R[i] := by simp [hil]
          have hme : rem[e]?.getD true = rem[e] := by simp [hebl]
          have hmi : rem[i]?.getD true = rem[i] := by simp [hibl]
          obtain ⟨b, o, rfl, hb, hc1⟩ := slN_at HR.out hel
          obtain ⟨b', o', e', -, hc2⟩ := slN_at HR.out hil
          simp at e'
          obtain ⟨rfl, rfl⟩ := e'
          obtain ⟨b2, o2, rfl, hb2, hc3⟩ := slB_at HB.out hebl
          obtain ⟨b', o', e', -, hc4⟩ := slB_at HB.out hibl
          simp at e'
          obtain ⟨rfl, rfl⟩ := e'
          rw [hre] at hue
          rw [hri] at hui
          have HF1 := Lib.hid (absorbs_false1 R rem e)
          have HF2 : Hid (rem[e] = true → JT.absorbs R rem e i = false) := fun h => absorbs_false2 (by rw [hme]; exact h)
          have HF3 : Hid (rem[i] = true → JT.absorbs R rem e i = false) := fun h => absorbs_false3 (by rw [hmi]; exact h)
          have HF4 : Hid (JT.dif R[e] R[i] ≠ 0 → JT.absorbs R rem e i = false) := fun h => absorbs_false4 (by rw [hre, hri]; exact h)
          have HT : Hid (e ≠ i → rem[e] = false → rem[i] = false → JT.dif R[e] R[i] = 0 → JT.absorbs R rem e i = true) := fun h1 h2 h3 h4 => absorbs_true h1 (by rw [hme]; exact h2) (by rw [hmi]; exact h3) (by rw [hre, hri]; exact h4)
          clear hre hri hme hmi
          generalize R[e] = re at *
          generalize R[i] = ri at *
          generalize rem[e] = me at *
          generalize rem[i] = mi at *
          have hbits : bits .andNot .u32 (re : Int) (ri : Int) = (JT.dif re ri : Nat) := u32_andNot_nat re ri (by omega) (by omega)
          generalize JT.dif re ri = d at *
          by_cases hei : e = i
          · have hs : ((e : Int) != (i : Int)) = false := by simp [hei]
            have HF : Hid (JT.absorbs R rem e i = false) := by rw [← hei]; exact HF1.out
            clear hei
            go_wp2
            go_quiet (fail)
            go_wp2
            go_roundw
            case rel => exact ⟨i + 1, by omega, by go_num, lt_succ_all HI.out HF.out, _, rfl⟩
            case measure => simp [intOf]; omega
          have hs : ((e : Int) != (i : Int)) = true := by simp; omega
          cases me
          rotate_left
          · have HF := Lib.hid (HF2.out rfl)
            clear hei
            go_wp2
            go_quiet (fail)
            go_wp2
            go_roundw
            case rel => exact ⟨i + 1, by omega, by go_num, lt_succ_all HI.out HF.out, _, rfl⟩
            case measure => simp [intOf]; omega
          cases mi
          rotate_left
          · have HF := Lib.hid (HF3.out rfl)
            clear hei
            go_wp2
            go_quiet (fail)
            go_wp2
            go_roundw
            case rel => exact ⟨i + 1, by omega, by go_num, lt_succ_all HI.out HF.out, _, rfl⟩
            case measure => simp [intOf]; omega
          by_cases hd : d = 0
          · have HX : Hid (JT.IsAbsorb R rem e i) := ⟨hel, hil, HT.out hei rfl rfl hd, HI.out, HA.out⟩
            subst hd
            clear hei
            go_wp2
            go_quiet (fail)
            go_wp2
            refine bodyPost_ret (v := .tuple #[stepV27 e i (-1), .bool true]) (by simp [results, Tryz.results82, go_sem]) rfl ⟨.inl ⟨e, i, HX.out, rfl⟩, ?_⟩
            exact below_set3 (HBEL.out _ _) _ _ _
          · have HF := Lib.hid (HF4.out hd)
            have hs2 : ((d : Int) == 0) = false := by simp; omega
            clear hei hd
            go_wp2
            go_quiet (fail)
            go_wp2
            go_roundw
            case rel => exact ⟨i + 1, by omega, by go_num, lt_succ_all HI.out HF.out, _, rfl⟩
            case measure => simp [intOf]; omega
        · have HI' : Hid (∀ i', i' < R.length → JT.absorbs R rem e i' = false) := fun i' hi' => HI.out i' (by omega)
          go_wp2
          go_roundw
          case rel => exact ⟨e + 1, by omega, by go_num, lt_succ_all HA.out HI'.out, n, rfl⟩
          case measure => simp [intOf]; omega
    · have HN : Hid (JT.NoAbsorb R rem) := fun e' he' i' hi' => HA.out e' (by omega) i' hi'
      go_wp2
      refine bodyPost_ret (v := .tuple #[stepV27 0 0 0, .bool false]) (by simp [results, Tryz.results82, go_sem]) rfl ⟨.inr ⟨HN.out, rfl⟩, ?_⟩
      exact below_set3 (HBEL.out _ _) _ _ _

def IsolatePost (n : Nat) (R : List Nat) (w : World) (r : Ending) (w' : World) : Prop :=
  ((∃ e v : Nat, v < n ∧ JT.vcnt R v R.length = 1 ∧ (∀ u, u < v → JT.vcnt R u R.length ≠ 1) ∧ e = JT.vlast R v R.length ∧ r = .returned (.tuple #[stepV27 e (-1) v, .bool true])) ∨ ((∀ v, v < n → JT.vcnt R v R.length ≠ 1) ∧ r = .returned (.tuple #[stepV27 0 0 0, .bool false]))) ∧ Below w.heap.size w w'

set_option maxHeartbeats 4000000 in
theorem isolate_any (n : Nat) (RA : Option Addr) (RC : Nat) (R : List Nat) (w : World)
   (hR : SlN .u32 w.heap.size w RA R) (hu : JT.U32 R) (hm : R.length ≤ 1000000) (hn : n ≤ 32) :
    Calls Tryz.prog 83 #[.int .i64 n, .slice RA R.length RC] w (IsolatePost n R w) := by
  have HU := Lib.hid hu
  have HR := Lib.hid hR
  have HBEL : Hid (∀ o, Below w.heap.size w (w.alloc o)) := fun o => (Below.refl _ _).alloc (Nat.le_refl _) o
  clear hR hu
  go_enter Tryz.func83, Tryz.ntmps83
  go_wp2
  go_loop [11] (fun x => ∃ v : Nat, v ≤ n ∧ x = .int .i64 v ∧ (∀ u, u < v → JT.vcnt R u R.length ≠ 1)) (fun x => n - (intOf x).toNat)
  case atStart => exact ⟨0, Nat.zero_le _, rfl, by omega⟩
  case round =>
    obtain ⟨v, hv, rfl, hall⟩ := hrel
    have HA := Lib.hid hall
    clear hall
    by_cases hvl : v < n
    · go_wp2
      go_loop [7, 8, 16] (fun a b x => ∃ k : Nat, k ≤ R.length ∧ x = .int .i64 k ∧ a = .int .i64 (JT.vcnt R v k : Nat) ∧ b = .int .i64 (JT.vlast R v k : Nat)) (fun _ _ x => R.length - (intOf x).toNat)
      case atStart => exact ⟨0, Nat.zero_le _, rfl, rfl, rfl⟩
      case round =>
        obtain ⟨k, hk, rfl, rfl, rfl⟩ := hrel
        by_cases hkl : k < R.length
        · have hs1 : JT.vcnt R v (k + 1) = JT.vcnt R v k + if JT.has (R[k]?.getD 0) v then 1 else 0 := JT.nodesTo_succ R v k
          have hs2 : JT.vlast R v (k + 1) = if JT.has (R[k]?.getD 0) v then k else JT.vlast R v k := rfl
          have hle : JT.vcnt R v k ≤ k := JT.nodesTo_le R v k
          have hue := HU.out.get k
          have hre : R[k]?.getD 0 = R[k] := by simp [hkl]
          obtain ⟨b, o, rfl, hb, hc1⟩ := slN_at HR.out hkl
          rw [hre] at hs1 hs2 hue
          clear hre
          generalize R[k] = rk at *
          have HS1 := Lib.hid hs1
          have HS2 := Lib.hid hs2
          clear hs1 hs2
          generalize JT.vcnt R v k = ck at *
          generalize JT.vlast R v k = lk at *
          have hbit := bit_test rk v hue
          cases hh : JT.has rk v
          · rw [hh] at hbit
            have HH := Lib.hid hh
            clear hh
            go_wp2
            go_round
            case rel => exact ⟨k + 1, by omega, by go_num, by rw [HS1.out, HH.out]; rfl, by rw [HS2.out, HH.out]; rfl⟩
            case measure => simp [intOf]; omega
          · rw [hh] at hbit
            have HH := Lib.hid hh
            clear hh
            go_wp2
            go_round
            case rel => exact ⟨k + 1, by omega, by go_num, by rw [HS1.out, HH.out]; go_num, by rw [HS2.out, HH.out]; rfl⟩
            case measure => simp [intOf]; omega
        · obtain rfl : k = R.length := by omega
          have hle : JT.vcnt R v R.length ≤ R.length := JT.nodesTo_le R v _
          by_cases h1 : JT.vcnt R v R.length = 1
          · have H1 := Lib.hid h1
            rw [h1]
            clear h1 hle
            generalize hlk : JT.vlast R v R.length = lk at *
            have HLK := Lib.hid hlk
            clear hlk
            go_wp2
            refine bodyPost_ret (v := .tuple #[stepV27 lk (-1) v, .bool true]) (by simp [results, Tryz.results83, go_sem]) rfl ⟨.inl ⟨lk, v, hvl, H1.out, HA.out, HLK.out.symm, rfl⟩, ?_⟩
            exact HBEL.out _
          · have H1 := Lib.hid h1
            generalize JT.vlast R v R.length = lk at *
            have hs : ((JT.vcnt R v R.length : Int) == 1) = false := by simp; omega
            clear h1
            generalize JT.vcnt R v R.length = ck at hs hle ⊢
            go_wp2
            go_round
            case rel => exact ⟨v + 1, by omega, by go_num, lt_succ_all HA.out H1.out⟩
            case measure => simp [intOf]; omega
    · have HN : Hid (∀ u, u < n → JT.vcnt R u R.length ≠ 1) := fun u hu => HA.out u (by omega)
      go_wp2
      refine bodyPost_ret (v := .tuple #[stepV27 0 0 0, .bool false]) (by simp [results, Tryz.results83, go_sem]) rfl ⟨.inr ⟨HN.out, rfl⟩, ?_⟩
      exact HBEL.out _
end
end Go.Proofs.YthgaflmldbgbnaaGreatDoor

/- Parts of the proof, merged: V15, U3, K5, N8, N8a. -/
import Derived.Test.YtlcammcifjihpaaQ2
import Derived.Test.YtlcammcifjihpaaQ5
import Derived.Test.YtlcammcifjihpaaQ4
import Derived.Deep.DeepCutAuto
import Derived.Test.YtlcammcifjihpaaQ3

section
/- Walk: relation.Project. -/
namespace Go.Proofs.Ytlcammcifjihpaa
open Go.RowKit Go.Sort

theorem MadeRs.hb {w : World} {g B : Nat} {E : TypeId} {X : List RL.R} (h : MadeRs w g E X X.length B) (hok : RsOk X) :
    ∃ d : Array (El w g), d.size = X.length ∧ X = d.toList.map El.row ∧ HB w w g 0 d := by
  obtain ⟨hs, h1, h2, h3, h4⟩ := h
  have pick : ∀ i (hi : i < X.length), ∃ e : El w g, hs[i]? = some e.val ∧ e.row = X[i] := fun i hi => by
    obtain ⟨A', C', g1, g2, g3, g4, g5⟩ := h4 i hi hi
    exact ⟨⟨.slice A' X[i].length C', X[i], A', C', rfl, g2, g3, g4, hok.at_ hi, fun hy ad e => (g5 hy ad e).1⟩, g1, rfl⟩
  obtain ⟨F, hF⟩ : ∃ F : Nat → El w g, ∀ i (hi : i < X.length), hs[i]? = some (F i).val ∧ (F i).row = X[i] :=
    ⟨fun i => if hi : i < X.length then (pick i hi).choose else default, fun i hi => by simp only [hi, dif_pos]; exact (pick i hi).choose_spec⟩
  refine ⟨((List.range X.length).map F).toArray, by simp, ?_, ⟨⟨rfl, rfl, rfl, Nat.le_refl _, fun _ _ _ => rfl⟩, fun j hj => ?_, h1.lt⟩⟩
  · apply List.ext_getElem (by simp)
    intro i h3 h4
    simp only [List.getElem_map, List.getElem_range]
    exact (hF i h3).2.symm
  · have hj' : j < X.length := by simpa using hj
    have e : ((List.range X.length).map F).toArray[j]! = F j := by
      rw [getElem!_pos ((List.range X.length).map F).toArray j hj]
      simp
    rw [e, Nat.zero_add]
    exact ⟨by rw [h1.cell]; exact (hF j hj').1, h1.frozen j⟩

theorem rlProject_arity (n : Int) (RA CA : Option Addr) (l RC c CC : Nat) (w : World) (h : 32 < c) (hc : c ≤ 1000000) :
    Calls Try.prog 41 #[.agg #[.int .i64 n, .slice RA l RC], .slice CA c CC] w fun e w' => e = .returned (.tuple #[.agg #[.int .i64 0, .slice none 0 0], .int .i64 6]) ∧ Ext w w' := by
  have h' : 32 < (c : Int) := by omega
  go_enter Try.func41, Try.ntmps41
  go_wp2
  exact bodyPost_ret (v := .tuple #[.agg #[.int .i64 0, .slice none 0 0], .int .i64 6]) (by simp [results, Try.results41, go_sem]) rfl ⟨rfl, ((Ext.refl w).alloc _).alloc _⟩

/-- All columns exist. -/
def colsOk (n : Int) (cs : List Int) : Bool := cs.all fun c => decide (0 ≤ c) && decide (c < n)

/-- What relation.Project leaves, of at most 32 columns. -/
def ProjPost (w : World) (n : Int) (X : List RL.R) (cs : List Int) (e : Ending) (w' : World) : Prop :=
  (colsOk n cs = false → e = .returned (.tuple #[.agg #[.int .i64 0, .slice none 0 0], .int .i64 3])) ∧ (colsOk n cs = true → ∃ v, e = .returned (.tuple #[v, .int .i64 0]) ∧ RelNew w.heap.size w' cs.length (RL.ofF (X.map (projF · cs))) v) ∧ Below w.heap.size w w'

theorem RsOk.proj {X : List RL.R} (h : RsOk X) {n : Int} {cs : List Int} (hcl : cs.length ≤ 32) (hlen : ∀ x ∈ X, (x.length : Int) = n) (hc : colsOk n cs = true) : RsOk (X.map (projF · cs)) := fun y hy => by
  obtain ⟨x, hx, rfl⟩ := List.mem_map.1 hy
  refine ⟨by simp [projF]; omega, fun v hv => ?_⟩
  obtain ⟨c, hcm, rfl⟩ := List.mem_map.1 hv
  have hok := List.all_eq_true.1 hc c hcm
  simp only [Bool.and_eq_true, decide_eq_true_eq] at hok
  have hl := hlen x hx
  have hlt : c.toNat < x.length := by omega
  have e : x.getD c.toNat zV = x[c.toNat] := by simp [List.getD, hlt]
  rw [e]
  exact (h x hx).2 _ (List.getElem_mem hlt)

set_option maxHeartbeats 2000000 in
set_option maxRecDepth 100000 in
theorem rlProject_any (n : Int) (RA CA : Option Addr) (RC CC : Nat) (X : List RL.R) (cs : List Int) (w : World) (hX : SlRs w.heap.size w RA X) (hcs : SlI .i64 w.heap.size w CA cs) (hXo : RsOk X) (hXl : X.length ≤ 60000) (hcl : cs.length ≤ 32) (hlen : ∀ x ∈ X, (x.length : Int) = n) :
    Calls Try.prog 41 #[.agg #[.int .i64 n, .slice RA X.length RC], .slice CA cs.length CC] w (ProjPost w n X cs) := by
  have HX := Lib.hid hX
  have HCS := Lib.hid hcs
  have HXO := Lib.hid hXo
  have HLEN := Lib.hid hlen
  have hmk := makeRows X.length (by omega)
  have HMK := Lib.hid hmk
  clear hX hcs hXo hlen hmk
  go_enter Try.func41, Try.ntmps41
  have h32 : decide (32 < (cs.length : Int)) = false := by simp; omega
  have q1 := (Row.new w 54 [.int .i64 n, .slice RA X.length RC]).alloc (.cells #[.int .i64 0, .slice none 0 0] 54)
  have q2 := Row.new (w.alloc (.cells #[.int .i64 n, .slice RA X.length RC] 54)) 54 [.int .i64 0, .slice none 0 0]
  simp only [World.size_alloc] at q2
  have HQ1 := Lib.hid q1
  have HQ2 := Lib.hid q2
  have HE0 := Lib.hid (((Ext.refl w).alloc (.cells #[.int .i64 n, .slice RA X.length RC] 54)).alloc (.cells #[.int .i64 0, .slice none 0 0] 54))
  clear q1 q2
  go_wp2
  generalize (w.alloc (.cells #[.int .i64 n, .slice RA X.length RC] 54)).alloc (.cells #[.int .i64 0, .slice none 0 0] 54) = W0 at *
  have hz0 := HQ2.out.lt
  go_loopw [15] (fun i wr => ∃ k m : Nat, k ≤ cs.length ∧ i = .int .i64 k ∧ colsOk n (cs.take k) = true ∧ wr = W0.drewN m) (fun i _ => cs.length - (intOf i).toNat)
  case atStart => exact ⟨0, 0, Nat.zero_le _, rfl, rfl, rfl⟩
  case round =>
    obtain ⟨k, m, hk, rfl, hco, rfl⟩ := hrel
    have HCO := Lib.hid hco
    clear hco
    by_cases h1 : k < cs.length
    · obtain ⟨b, o, rfl, hb, c1⟩ := slI_at HCS.out h1
      have d1 := (HE0.out.cell hb).trans c1
      have n0 : W0.cell? ⟨w.heap.size, 0, none⟩ = some (.int .i64 n) := HQ1.out.cell 0
      have HT := Lib.hid (List.take_succ_eq_append_getElem h1)
      have HM := Lib.hid (List.getElem_mem h1)
      generalize cs[k] = c at d1 HT HM
      by_cases g1 : c < 0
      · have HF : Hid (colsOk n cs = false) := by
          show _ = _
          unfold colsOk
          rw [List.all_eq_false]
          exact ⟨c, HM.out, by simp; omega⟩
        have r0 : (W0.drewN m).cell? ⟨w.heap.size + 1, 0, none⟩ = some (.int .i64 0) := HQ2.out.cell 0
        have r1 : (W0.drewN m).cell? ⟨w.heap.size + 1, 1, none⟩ = some (.slice none 0 0) := HQ2.out.cell 1
        have f0 : W0.frozen? ⟨w.heap.size + 1, 0, none⟩ = false := HQ2.out.frozen 0
        have f1 : W0.frozen? ⟨w.heap.size + 1, 1, none⟩ = false := HQ2.out.frozen 1
        have r0' : W0.cell? ⟨w.heap.size + 1, 0, none⟩ = some (.int .i64 0) := HQ2.out.cell 0
        have r1' : W0.cell? ⟨w.heap.size + 1, 1, none⟩ = some (.slice none 0 0) := HQ2.out.cell 1
        clear r0 r1 c1
        go_wp2
        go_quiet (fail)
        go_wp2
        refine bodyPost_ret (v := .tuple #[.agg #[.int .i64 0, .slice none 0 0], .int .i64 3]) (by simp [results, Try.results41, go_sem, r0', r1']) rfl ⟨fun _ => rfl, (fun h => by rw [HF.out] at h; cases h), ?_⟩
        exact ((Below.drewN' HE0.out.below _).setCell (p := ⟨w.heap.size + 1, 0, none⟩) (show w.heap.size ≤ w.heap.size + 1 by omega) _).setCell (p := ⟨w.heap.size + 1, 1, none⟩) (show w.heap.size ≤ w.heap.size + 1 by omega) _
      · by_cases g2 : n ≤ c
        · have HF : Hid (colsOk n cs = false) := by
            show _ = _
            unfold colsOk
            rw [List.all_eq_false]
            exact ⟨c, HM.out, by simp; omega⟩
          have f0 : W0.frozen? ⟨w.heap.size + 1, 0, none⟩ = false := HQ2.out.frozen 0
          have f1 : W0.frozen? ⟨w.heap.size + 1, 1, none⟩ = false := HQ2.out.frozen 1
          have r0' : W0.cell? ⟨w.heap.size + 1, 0, none⟩ = some (.int .i64 0) := HQ2.out.cell 0
          have r1' : W0.cell? ⟨w.heap.size + 1, 1, none⟩ = some (.slice none 0 0) := HQ2.out.cell 1
          have g1' : decide (c < 0) = false := by simpa using g1
          clear c1
          go_wp2
          go_quiet (fail)
          go_wp2
          refine bodyPost_ret (v := .tuple #[.agg #[.int .i64 0, .slice none 0 0], .int .i64 3]) (by simp [results, Try.results41, go_sem, r0', r1']) rfl ⟨fun _ => rfl, (fun h => by rw [HF.out] at h; cases h), ?_⟩
          exact ((Below.drewN' HE0.out.below _).setCell (p := ⟨w.heap.size + 1, 0, none⟩) (show w.heap.size ≤ w.heap.size + 1 by omega) _).setCell (p := ⟨w.heap.size + 1, 1, none⟩) (show w.heap.size ≤ w.heap.size + 1 by omega) _
        · have HCO2 : Hid (colsOk n (cs.take (k + 1)) = true) := by
            show _ = _
            rw [HT.out]
            unfold colsOk
            rw [List.all_append]
            have := HCO.out
            unfold colsOk at this
            rw [this]
            simp; omega
          have g1' : decide (c < 0) = false := by simpa using g1
          have g2' : decide (n ≤ c) = false := by simpa using g2
          clear c1
          go_wp2
          go_quiet (fail)
          go_wp2
          go_roundw
          case rel => exact ⟨k + 1, _, by omega, by go_num, HCO2.out, rfl⟩
          case measure => simp [intOf]; omega
    · have HT := Lib.hid (List.take_of_length_le (show cs.length ≤ k by omega))
      rw [HT.out] at HCO
      have hmk := HMK.out
      have n1 : W0.cell? ⟨w.heap.size, 1, none⟩ = some (.slice RA X.length RC) := HQ1.out.cell 1
      go_wp2
      clear hmk HMK
      have hz1 := HQ1.out.lt
      have HM0 := Lib.hid (MadeRs.start (W0.drewN m) 47 (X.map (projF · cs)))
      have hml : (X.map (projF · cs)).length = X.length := by simp
      rw [hml] at HM0
      have HML := Lib.hid hml
      clear hml n1
      have HQ1' := Lib.hid (((HQ1.out.drewN m).alloc (.cells (zerosA (.slice none 0 0) X.length) 47)))
      have HQ2' := Lib.hid (((HQ2.out.drewN m).alloc (.cells (zerosA (.slice none 0 0) X.length) 47)))
      have HB0 := Lib.hid ((Below.drewN' HE0.out.below m).alloc (show w.heap.size ≤ W0.heap.size by omega) (.cells (zerosA (.slice none 0 0) X.length) 47))
      have HYO := Lib.hid (HXO.out.proj hcl HLEN.out HCO.out)
      have hlo : w.heap.size + 1 < W0.heap.size := hz0
      have HM1 : Hid (MadeRs ((W0.drewN m).alloc (.cells (zerosA (.slice none 0 0) X.length) 47)) W0.heap.size 47 (X.map (projF · cs)) 0 W0.heap.size) := HM0.out
      clear HM0
      go_loopw [40] (fun i wr => ∃ k : Nat, k ≤ X.length ∧ i = .int .i64 k ∧ MadeRs wr W0.heap.size 47 (X.map (projF · cs)) k W0.heap.size ∧ Row wr w.heap.size 54 [.int .i64 n, .slice RA X.length RC] ∧ Row wr (w.heap.size + 1) 54 [.int .i64 0, .slice none 0 0] ∧ Below w.heap.size w wr) (fun i _ => X.length - (intOf i).toNat)
      case atStart => exact ⟨0, Nat.zero_le _, rfl, HM1.out, HQ1'.out, HQ2'.out, HB0.out⟩
      case round =>
        obtain ⟨j, hj, rfl, hM, hr1, hr2, hbel⟩ := hrel
        have HM := Lib.hid hM
        have HR1 := Lib.hid hr1
        have HR2 := Lib.hid hr2
        have HB := Lib.hid hbel
        have hml := hM.lt
        clear hM HM1 HQ1' HQ2' HB0
        by_cases h2 : j < X.length
        · obtain ⟨b, o, A1, C1, rfl, hb, c1, -, -, s1⟩ := slRs_at HX.out h2
          have d1 := (hbel.cell (p := ⟨b, o + j, none⟩) hb).trans c1
          have n1 : wr.cell? ⟨w.heap.size, 1, none⟩ = some (.slice (some ⟨b, o, none⟩) X.length RC) := hr1.cell 1
          have hxl := HLEN.out X[j] (List.getElem_mem h2)
          have HC := Lib.hid (rwProject_ok A1 CA C1 CC X[j] cs wr ((s1.below hbel (Nat.le_refl _)).more hbel.size) ((HCS.out.below hbel (Nat.le_refl _)).more hbel.size) (HXO.out.at_ h2).1 (by omega) (fun c hc => by
            have hok := List.all_eq_true.1 HCO.out c hc
            simp only [Bool.and_eq_true, decide_eq_true_eq] at hok
            omega))
          have hjy : j < (X.map (projF · cs)).length := by rw [HML.out]; exact h2
          have HY : Hid ((X.map (projF · cs))[j] = projF X[j] cs) := by show _ = _; simp
          clear c1 s1 hbel hr1 hr2 hxl
          generalize X[j] = x at d1 HC HY
          go_wp2_with fail
          refine HC.out.mono ?_
          rintro e w4 ⟨rfl, hrow4, hb4⟩
          have hsl4 : SlR w4.heap.size w4 (some ⟨wr.heap.size, 0, none⟩) (projF x cs) := hrow4.sl
          have hpl : (projF x cs).length = cs.length := projF_length x cs
          have HM4 := Lib.hid (HM.out.keep hb4)
          obtain ⟨u, hu⟩ := HM4.out.cell hjy
          have hfz := HM4.out.frozen j
          have hset := HM4.out.set hjy (A' := some ⟨wr.heap.size, 0, none⟩) (C' := cs.length) (by rw [HY.out, hpl]; exact Nat.le_refl _) (by omega) (by rw [HY.out]; exact hsl4) (fun _ ad e => by injection e with e; subst e; exact ⟨by simp only; omega, by simp only; omega, fun o => hrow4.frozen o⟩)
          rw [HY.out, hpl] at hset
          have HSET := Lib.hid hset
          have HR14 := Lib.hid ((HR1.out.below hb4 HR1.out.lt).far (p := ⟨W0.heap.size, j, none⟩) (show w.heap.size ≠ W0.heap.size by omega) (.slice (some ⟨wr.heap.size, 0, none⟩) cs.length cs.length))
          have HR24 := Lib.hid ((HR2.out.below hb4 HR2.out.lt).far (p := ⟨W0.heap.size, j, none⟩) (show w.heap.size + 1 ≠ W0.heap.size by omega) (.slice (some ⟨wr.heap.size, 0, none⟩) cs.length cs.length))
          have HB4 := Lib.hid ((Below.then HB.out hb4 HB.out.size).setCell (p := ⟨W0.heap.size, j, none⟩) (show w.heap.size ≤ W0.heap.size by omega) (.slice (some ⟨wr.heap.size, 0, none⟩) cs.length cs.length))
          have hz4 := hb4.size
          clear hset hrow4 hb4 hsl4 hpl HC d1 n1
          go_wp2
          go_roundw
          case rel => exact ⟨j + 1, by omega, by go_num, HSET.out, HR14.out, HR24.out, HB4.out⟩
          case measure => simp [intOf]; omega
        · obtain rfl : j = X.length := by omega
          by_cases hnil : X = []
          · subst hnil
            simp only [List.length_nil, List.map_nil] at *
            go_wp2_with fail
            refine (rlBuild_nil (cs.length : Int) (some ⟨W0.heap.size, 0, none⟩) 0 _).mono ?_
            rintro e w5 ⟨rfl, hx5⟩
            have r5 := HR2.out.below hx5.below HR2.out.lt
            have c0 : w5.cell? ⟨w.heap.size + 1, 0, none⟩ = some (.int .i64 0) := r5.cell 0
            have c1 : w5.cell? ⟨w.heap.size + 1, 1, none⟩ = some (.slice none 0 0) := r5.cell 1
            have f0 := r5.frozen 0
            have f1 := r5.frozen 1
            have hz5 := r5.lt
            have HB5 := Lib.hid (Below.then HB.out hx5.below HB.out.size)
            have z0 : (w5.setCell ⟨w.heap.size + 1, 0, none⟩ (.int .i64 cs.length)).cell? ⟨w.heap.size + 1, 0, none⟩ = some (.int .i64 cs.length) := World.cell?_setCell_same _ _ _ c0
            have z1 : ((w5.setCell ⟨w.heap.size + 1, 0, none⟩ (.int .i64 cs.length)).setCell ⟨w.heap.size + 1, 1, none⟩ (.slice (some ⟨W0.heap.size, 0, none⟩) 0 0)).cell? ⟨w.heap.size + 1, 1, none⟩ = some (.slice (some ⟨W0.heap.size, 0, none⟩) 0 0) := World.cell?_setCell_same _ _ _ ((World.cell?_setCell_other _ _ _ _ (by simp)).trans c1)
            have Z0 := Lib.hid z0
            have Z1 := Lib.hid z1
            clear r5 hx5 z0 z1 hr1 hr2
            go_wp2
            refine bodyPost_ret (v := .tuple #[.agg #[.int .i64 cs.length, .slice (some ⟨W0.heap.size, 0, none⟩) 0 0], .int .i64 0]) (by simp [results, Try.results41, go_sem, Z0.out, Z1.out]) rfl ⟨(fun h => by rw [HCO.out] at h; cases h), ?_, ?_⟩
            · intro _
              exact ⟨_, rfl, _, 0, rfl, by simp [RL.ofF], by omega, FreshRs.nil⟩
            · exact (HB5.out.setCell (p := ⟨w.heap.size + 1, 0, none⟩) (show w.heap.size ≤ w.heap.size + 1 by omega) _).setCell (p := ⟨w.heap.size + 1, 1, none⟩) (show w.heap.size ≤ w.heap.size + 1 by omega) _
          · have hpos : 1 ≤ X.length := by cases X with | nil => exact absurd rfl hnil | cons _ _ => simp
            have hM2 : MadeRs wr W0.heap.size 47 (X.map (projF · cs)) (X.map (projF · cs)).length W0.heap.size := by rw [HML.out]; exact HM.out
            obtain ⟨d, hds, hrows, hHB⟩ := hM2.hb HYO.out
            rw [HML.out] at hds
            have HBU := Lib.hid (rlBuild_any (cs.length : Int) X.length hHB (by omega) (by omega) (by omega) (by omega) _ hrows)
            rw [hds] at HBU
            have hofl := RL.ofF_length_le (X.map (projF · cs))
            rw [HML.out] at hofl
            clear hHB hrows hds hnil hM2 hr1 hr2
            obtain ⟨Y, hY⟩ : ∃ Y, Y = RL.ofF (X.map (projF · cs)) := ⟨_, rfl⟩
            rw [← hY] at HBU hofl
            have HYE := Lib.hid hY
            clear hY
            go_wp2_with fail
            refine HBU.out.mono ?_
            rintro e w5 ⟨rfl, hs5, hg5⟩
            have hne : w.heap.size + 1 ≠ W0.heap.size := by omega
            have r5 := HR2.out.grown hg5 (fun e => hne (by injection e))
            have c0 : w5.cell? ⟨w.heap.size + 1, 0, none⟩ = some (.int .i64 0) := r5.cell 0
            have c1 : w5.cell? ⟨w.heap.size + 1, 1, none⟩ = some (.slice none 0 0) := r5.cell 1
            have f0 := r5.frozen 0
            have f1 := r5.frozen 1
            have hz5 := r5.lt
            have h2z := HR2.out.lt
            have HB5 := Lib.hid (HB.out.grown hg5 (by omega) (fun k hk => by injection hk with hk; omega))
            have z0 : (w5.setCell ⟨w.heap.size + 1, 0, none⟩ (.int .i64 cs.length)).cell? ⟨w.heap.size + 1, 0, none⟩ = some (.int .i64 cs.length) := World.cell?_setCell_same _ _ _ c0
            have z1 : ((w5.setCell ⟨w.heap.size + 1, 0, none⟩ (.int .i64 cs.length)).setCell ⟨w.heap.size + 1, 1, none⟩ (.slice (some ⟨W0.heap.size, 0, none⟩) Y.length X.length)).cell? ⟨w.heap.size + 1, 1, none⟩ = some (.slice (some ⟨W0.heap.size, 0, none⟩) Y.length X.length) := World.cell?_setCell_same _ _ _ ((World.cell?_setCell_other _ _ _ _ (by simp)).trans c1)
            have Z0 := Lib.hid z0
            have Z1 := Lib.hid z1
            have HSL : Hid (FreshRs w.heap.size ((w5.setCell ⟨w.heap.size + 1, 0, none⟩ (.int .i64 cs.length)).setCell ⟨w.heap.size + 1, 1, none⟩ (.slice (some ⟨W0.heap.size, 0, none⟩) Y.length X.length)) (some ⟨W0.heap.size, 0, none⟩) Y) := fun w'' hk => by
              have h := hs5 w'' (fun p hpl hp => by
                have hpn : p.block ≠ w.heap.size + 1 := by rcases hp with hp | hp <;> omega
                rw [hk p (by rcases hp with hp | hp <;> omega) (by simpa using hpl)]
                exact (far_cell (p := ⟨w.heap.size + 1, 1, none⟩) (fun e => hpn e.symm) (far_cell (p := ⟨w.heap.size + 1, 0, none⟩) (fun e => hpn e.symm) rfl)))
              simpa using h
            clear r5 hs5 hg5 z0 z1
            go_wp2
            refine bodyPost_ret (v := .tuple #[.agg #[.int .i64 cs.length, .slice (some ⟨W0.heap.size, 0, none⟩) Y.length X.length], .int .i64 0]) (by simp [results, Try.results41, go_sem, Z0.out, Z1.out]) rfl ⟨(fun h => by rw [HCO.out] at h; cases h), ?_, ?_⟩
            · intro _
              rw [← HYE.out]
              exact ⟨_, rfl, _, X.length, rfl, by omega, by omega, HSL.out⟩
            · exact (HB5.out.setCell (p := ⟨w.heap.size + 1, 0, none⟩) (show w.heap.size ≤ w.heap.size + 1 by omega) _).setCell (p := ⟨w.heap.size + 1, 1, none⟩) (show w.heap.size ≤ w.heap.size + 1 by omega) _

end Go.Proofs.Ytlcammcifjihpaa
end

section
/- Words for trie.New: the error of a list of columns, an empty trie, slices.Contains. -/
namespace Go.Proofs.Ytlcammcifjihpaa
open Go.RowKit Go.Sort

theorem slContains_any (XA : Option Addr) (XC : Nat) (xs : List Int) (x : Int) (w : World) (hx : SlI .i64 w.heap.size w XA xs) (hxl : xs.length ≤ 1000000) :
    Calls Try.prog 40 #[.slice XA xs.length XC, .int .i64 x] w fun e w' => e = .returned (.bool (decide (x ∈ xs))) ∧ w = w' := by
  have HI := Lib.hid (fun W (h : SlI .i64 W.heap.size W XA xs) => idxInt_any XA XC xs x W h hxl)
  have HX := Lib.hid hx
  have hq : (x ∈ xs ∧ 0 ≤ idxF xs x ∧ idxF xs x ≤ 1000000) ∨ (x ∉ xs ∧ idxF xs x = -1) := by
    unfold idxF
    cases hf : xs.findIdx? (· == x) with
    | none =>
      right
      rw [List.findIdx?_eq_none_iff] at hf
      exact ⟨fun hm => by have := hf x hm; simp at this, rfl⟩
    | some i =>
      left
      rw [List.findIdx?_eq_some_iff_findIdx_eq] at hf
      have hlt : xs.findIdx (· == x) < xs.length := by rw [hf.2]; exact hf.1
      have := List.findIdx_getElem (w := hlt)
      simp at this
      refine ⟨?_, by simp, by simp; omega⟩
      rw [← this]
      exact List.getElem_mem _
  clear hx
  rcases hq with ⟨h1, h2, h3⟩ | ⟨h1, h2⟩
  · have HD : Hid (decide (x ∈ xs) = true) := by show _ = _; simpa using h1
    rw [HD.out]
    generalize idxF xs x = q at *
    clear h1
    go_enter Try.func40, Try.ntmps40
    go_wp2_with fail
    refine (HI.out w HX.out).mono ?_
    rintro e w' ⟨rfl, hw⟩
    obtain rfl := hw.symm
    go_wp2
    go_ret
    exact ⟨rfl, rfl⟩
  · have HD : Hid (decide (x ∈ xs) = false) := by show _ = _; simpa using h1
    rw [HD.out]
    rw [h2] at HI
    clear h1 h2
    go_enter Try.func40, Try.ntmps40
    go_wp2_with fail
    refine (HI.out w HX.out).mono ?_
    rintro e w' ⟨rfl, hw⟩
    obtain rfl := hw.symm
    go_wp2
    go_ret
    exact ⟨rfl, rfl⟩

/-- The error at column number i, or 0. -/
def colErr (n : Int) (cs : List Int) (i : Nat) : Int := if cs.getD i 0 < 0 ∨ n ≤ cs.getD i 0 then 3 else if cs.getD i 0 ∈ cs.take i then 8 else 0
/-- The first error of the columns, or 0. -/
def newErr (n : Int) (cs : List Int) : Int := (((List.range cs.length).map (colErr n cs)).find? fun e => e != 0).getD 0
theorem newErr_at {n : Int} {cs : List Int} {k : Nat} (hk : k < cs.length) (h : ∀ j, j < k → colErr n cs j = 0) (hne : colErr n cs k ≠ 0) : newErr n cs = colErr n cs k := by
  unfold newErr
  have e : List.range cs.length = List.range k ++ k :: (List.range cs.length).drop (k + 1) := by
    conv => lhs; rw [← List.take_append_drop k (List.range cs.length)]
    congr 1
    · rw [List.take_range, Nat.min_eq_left (by omega)]
    · rw [List.drop_eq_getElem_cons (by simpa using hk)]
      simp
  rw [e, List.map_append, List.find?_append, List.map_cons]
  have h1 : ((List.range k).map (colErr n cs)).find? (fun e => e != 0) = none := by
    rw [List.find?_eq_none]
    intro x hx
    obtain ⟨j, hj, rfl⟩ := List.mem_map.1 hx
    rw [h j (List.mem_range.1 hj)]
    simp
  rw [h1, List.find?_cons_of_pos (by simpa using hne)]
  rfl
theorem newErr_zero {n : Int} {cs : List Int} (h : ∀ j, j < cs.length → colErr n cs j = 0) : newErr n cs = 0 := by
  unfold newErr
  have h1 : ((List.range cs.length).map (colErr n cs)).find? (fun e => e != 0) = none := by
    rw [List.find?_eq_none]
    intro x hx
    obtain ⟨j, hj, rfl⟩ := List.mem_map.1 hx
    rw [h j (List.mem_range.1 hj)]
    simp
  rw [h1]
  rfl
theorem cols_of_zero {n : Int} {cs : List Int} (h : ∀ j, j < cs.length → colErr n cs j = 0) : colsOk n cs = true := by
  unfold colsOk
  rw [List.all_eq_true]
  intro c hc
  obtain ⟨j, hj, rfl⟩ := List.getElem_of_mem hc
  have h1 := h j hj
  unfold colErr at h1
  rw [List.getD_eq_getElem?_getD, List.getElem?_eq_getElem hj] at h1
  simp only [Option.getD_some] at h1
  split at h1
  · omega
  · simp
    omega

theorem levelInfo : (Try.prog.info? 74).map (fun i => (i.zero, i.size, i.bytes)) = some (some (.agg #[.slice none 0 0, .slice none 0 0]), 2, 48) := by kernel_rfl
theorem nils_made (n : Nat) : madeCells (Value.agg #[.slice none 0 0, .slice none 0 0]).cells (n * 2) = zerosA (.slice none 0 0) (n * 2) := by
  have e : (Value.agg #[.slice none 0 0, .slice none 0 0]).cells = #[.slice none 0 0, .slice none 0 0] := by rfl
  rw [e]
  unfold madeCells zerosA
  apply Array.ext
  · simp
  · intro i h1 h2
    have : i % 2 = 0 ∨ i % 2 = 1 := by omega
    rcases this with h | h <;> simp [h]
theorem makeLevels (n : Nat) (hn : n ≤ 1000000) (w : World) : (Instr.makeSlice 29 (.int .i64 (n : Int)) (.int .i64 (n : Int))).run Try.prog w = .ok (.slice (some ⟨w.heap.size, 0, none⟩) n n) (w.alloc (.cells (zerosA (.slice none 0 0) (n * 2)) 74)) := by
  obtain ⟨i0, hi0, hz0, hz1, hz2⟩ := info_parts levelInfo
  have := run_make (P := Try.prog) w 29 74 i0 _ Try.underlying29 hi0 hz0 .i64 .i64 n n (by omega) (by omega) (by rw [hz2]; omega) (by omega)
  rw [this, hz1]
  simp only [Int.toNat_natCast]
  rw [nils_made]

/-- A trie whose levels are still empty. -/
theorem BldM.start {B : Nat} {w : World} {lb d : Nat} (h : Row w lb 74 (List.replicate (d * 2) (.slice none 0 0))) (hlB : lb < B) (hB : B ≤ w.heap.size) : BldM B (fun _ => True) w lb d (fun _ => []) (fun _ => []) := by
  refine ⟨_, h, by simp, hlB, hB, fun i u hu => ?_, fun i j u u' k hu hu' hne hk => ?_, fun _ _ _ _ _ => trivial⟩
  · have hi := (List.getElem?_eq_some_iff.1 hu).1
    rw [List.length_replicate] at hi
    rw [List.getElem?_replicate, if_pos hi] at hu
    injection hu with hu
    subst hu
    unfold spF
    split
    · exact own_nil _ _ _ _
    · exact own_nil _ _ _ _
  · have hi := (List.getElem?_eq_some_iff.1 hu).1
    rw [List.length_replicate] at hi
    rw [List.getElem?_replicate, if_pos hi] at hu
    injection hu with hu
    subst hu
    simp [Value.ownBlock] at hk

/-- What the levels hold when k rows have been added. -/
theorem take_snoc' {α : Type} (l : List α) (k : Nat) (h : k < l.length) : l.take (k + 1) = l.take k ++ [l[k]] := List.take_succ_eq_append_getElem h
def lastOf (P : List RL.R) (k : Nat) : RL.R := (P.take k).getLastD []
theorem take_last {P : List RL.R} {k : Nat} (hk : k < P.length) : lastOf P (k + 1) = P[k] := by unfold lastOf; rw [take_snoc' P k hk, List.getLastD_concat]
theorem lastOf_len {P : List RL.R} {d : Nat} (hd : ∀ r ∈ P, r.length = d) (k : Nat) : (lastOf P k).length ≤ d := by
  unfold lastOf
  rcases List.eq_nil_or_concat (P.take k) with h | ⟨Q, z, h⟩
  · rw [h]; simp
  · rw [h, List.concat_eq_append, List.getLastD_concat]
    have hz : z ∈ P.take k := by rw [h]; simp
    exact Nat.le_of_eq (hd z (List.mem_of_mem_take hz))
def vsB (d : Nat) (P : List RL.R) (k l : Nat) : RL.R := (RL.nodes d (P.take k) l).map RL.lastV
def fsB (d : Nat) (P : List RL.R) (k l : Nat) : List Nat := RL.firsts d (P.take k) l
theorem vsB_len (d : Nat) (P : List RL.R) (k l : Nat) : (vsB d P k l).length ≤ P.length := by
  unfold vsB
  have := RL.nodes_len d (P.take k) l
  rw [List.length_take] at this
  rw [List.length_map]
  omega
theorem fsB_len (d : Nat) (P : List RL.R) (k l : Nat) : (fsB d P k l).length ≤ P.length := by
  unfold fsB RL.firsts
  have := RL.nodes_len d (P.take k) l
  rw [List.length_take] at this
  rw [List.length_map]
  omega
theorem vsB_zero (d : Nat) (P : List RL.R) : vsB d P 0 = fun _ => [] := by funext l; unfold vsB; rw [List.take_zero, RL.nodes_nil]; rfl
theorem fsB_zero (d : Nat) (P : List RL.R) : fsB d P 0 = fun _ => [] := by funext l; unfold fsB; rw [List.take_zero, RL.firsts_nil]
theorem vsB_all (d : Nat) (P : List RL.R) : vsB d P P.length = vsF d P := by funext l; unfold vsB vsF; rw [List.take_length]
theorem fsB_all (d : Nat) (P : List RL.R) (l : Nat) : fsF d P l = fsB d P P.length l ++ [(RL.nodes d P (l + 1)).length] := by unfold fsB fsF; rw [List.take_length]
section
variable {d : Nat} {P : List RL.R} (hS : RL.SS P) (hd : ∀ r ∈ P, r.length = d)
include hS hd
theorem vsB_step {k : Nat} (hk : k < P.length) : addV (vsB d P k) P[k] (RL.sharedN (lastOf P k) P[k]) d = vsB d P (k + 1) := by
  funext l
  have e := take_snoc' P k hk
  have hS' : RL.SS (P.take k ++ [P[k]]) := by rw [← e]; exact RL.SS.take hS _
  have hd' : ∀ r ∈ P.take k ++ [P[k]], r.length = d := by rw [← e]; exact fun r hr => hd r (List.mem_of_mem_take hr)
  unfold addV vsB
  rw [e]
  by_cases hl : l < d
  · rw [RL.nodes_snoc hS' hd' hl]
    unfold lastOf
    by_cases h1 : l < RL.sharedN ((P.take k).getLastD []) P[k]
    · rw [if_pos h1, if_neg (by omega)]
    · rw [if_neg h1, if_pos (by omega), List.map_append, List.map_singleton]
      congr 2
      have hlen : P[k].length = d := hd _ (List.getElem_mem hk)
      have hl' : l < P[k].length := by omega
      rw [take_snoc' P[k] l hl', RL.lastV_snoc, List.getD_eq_getElem?_getD, List.getElem?_eq_getElem hl']
      rfl
  · rw [if_neg (by omega), RL.nodes_out (by omega), RL.nodes_out (by omega)]
theorem fsB_step {k : Nat} (hk : k < P.length) : ∀ l, l < d → addF d (vsB d P k) (fsB d P k) (RL.sharedN (lastOf P k) P[k]) d l = fsB d P (k + 1) l := by
  intro l hl
  have e := take_snoc' P k hk
  have hS' : RL.SS (P.take k ++ [P[k]]) := by rw [← e]; exact RL.SS.take hS _
  have hd' : ∀ r ∈ P.take k ++ [P[k]], r.length = d := by rw [← e]; exact fun r hr => hd r (List.mem_of_mem_take hr)
  unfold addF fsB
  rw [e, RL.firsts_snoc hS' hd' hl]
  unfold lastOf
  by_cases h1 : l < RL.sharedN ((P.take k).getLastD []) P[k]
  · rw [if_pos h1, if_neg (by omega)]
  · rw [if_neg h1, if_pos (by omega)]
    congr 2
    unfold sizeF vsB
    rw [List.length_map]
    split
    · rfl
    · rw [RL.nodes_out (by omega)]; rfl
end
/-- What the second slices hold when the ends of k levels are laid. -/
def fsH (d : Nat) (P : List RL.R) (k j : Nat) : List Nat := if j < k then fsF d P j else fsB d P P.length j
theorem fsH_step (d : Nat) (P : List RL.R) (k : Nat) : fsH d P (k + 1) = upd (fsH d P k) k (fsB d P P.length k ++ [(RL.nodes d P (k + 1)).length]) := by
  funext j
  unfold fsH upd
  by_cases e : j = k
  · subst e; rw [if_pos (by omega), if_pos rfl, fsB_all]
  · rw [if_neg e]
    dsimp only
    by_cases h : j < k
    · rw [if_pos h, if_pos (by omega)]
    · rw [if_neg h, if_neg (by omega)]
theorem fsH_at (d : Nat) (P : List RL.R) (k : Nat) : fsH d P k k = fsB d P P.length k := by unfold fsH; rw [if_neg (by omega)]
/-- Only the levels below the depth count. -/
theorem BldM.congr {B : Nat} {Q : Nat → Prop} {w : World} {lb d : Nat} {vs vs' : Nat → RL.R} {fs fs' : Nat → List Nat} (h : BldM B Q w lb d vs fs) (hv : ∀ l, l < d → vs l = vs' l) (hf : ∀ l, l < d → fs l = fs' l) : BldM B Q w lb d vs' fs' := by
  obtain ⟨hs, h1, h2, h3, h3', h4, h5, h6⟩ := h
  refine ⟨hs, h1, h2, h3, h3', fun i u hu => ?_, h5, h6⟩
  have hi := (List.getElem?_eq_some_iff.1 hu).1
  have h := h4 i u hu
  have e : spF vs fs i = spF vs' fs' i := by
    unfold spF
    rw [hv (i / 2) (by omega), hf (i / 2) (by omega)]
  rw [← e]
  exact h

end Go.Proofs.Ytlcammcifjihpaa
end

section
/- Walk: the reference's Project of chapter 34. -/
namespace Go.Proofs.Ytlcammcifjihpaa
open Go.RowKit Go.Sort

/-- A store into a row of the call's own. -/
theorem own_set {w : World} {base : Nat} {e : TypeId} {g n cap : Nat} {xs : List Value} (h : w.ownsRow base e 1 (.slice (some ⟨g, 0, none⟩) n cap) n xs) {i : Nat} (_hi : i < n) (u : Value) :
    (w.setCell ⟨g, i, none⟩ u).ownsRow base e 1 (.slice (some ⟨g, 0, none⟩) n cap) n (xs.set i u) := by
  obtain ⟨h0, h1⟩ := h
  refine ⟨by simpa using h0, ?_⟩
  rcases h1 with ⟨h1, _⟩ | ⟨g', cap', cur, h1, h2, h3, h4, h5, h6, h7⟩
  · injection h1 with h1; cases h1
  · injection h1 with h1 h1b h1c
    injection h1 with h1
    injection h1 with h1 _ _
    subst h1 h1c
    refine .inr ⟨g, cap, cur.setIfInBounds i u, rfl, h2, ?_, h4, h5, by simpa using h6, ?_⟩
    · simp [World.setCell, Array.getElem?_modify, h3]
    · rw [← h7, Array.toList_setIfInBounds, List.take_set]
theorem own_cell {w : World} {base : Nat} {e : TypeId} {g n cap : Nat} {xs : List Value} (h : w.ownsRow base e 1 (.slice (some ⟨g, 0, none⟩) n cap) n xs) {i : Nat} {u : Value} (hu : xs[i]? = some u) : w.cell? ⟨g, i, none⟩ = some u := by
  obtain ⟨A, C, e1, _, _, hs⟩ := Sl.of_own h
  injection e1 with e1 _ _
  subst e1
  obtain ⟨b, o, e2, _, hc⟩ := hs (by intro h0; rw [h0] at hu; simp at hu)
  injection e2 with e2
  injection e2 with e2 e3 _
  subst e2 e3
  have := hc i u hu
  rwa [Nat.zero_add] at this

theorem grownBelow {w w' : World} {row : Option Nat} {B : Nat} (h : w.grownBy w' row) (hv : ∀ j, row = some j → B ≤ j) (hB : B ≤ w.heap.size := by simp; omega) : Below B w w' := ⟨h.os, h.tape, h.output, h.size, fun b hb => h.block b (by omega) (fun e => by have := hv b e.symm; omega)⟩
/-- One step of the shift. -/
theorem shift_step {hs : List Value} {k : Nat} (hk : k + 1 ≤ hs.length) (u : Value) : (hs.take (k + 1) ++ u :: hs.drop (k + 1)).set (k + 1) (hs[k]'(by omega)) = hs.take k ++ (hs[k]'(by omega)) :: hs.drop k := by
  rw [List.set_append_right _ _ (by simp; omega)]
  have e : k + 1 - (hs.take (k + 1)).length = 0 := by simp; omega
  rw [e, List.set_cons_zero, List.take_succ_eq_append_getElem (by omega), List.append_assoc]
  congr 1
  rw [List.drop_eq_getElem_cons (i := k) (by omega)]
  rfl
theorem shift_last {hs : List Value} {k : Nat} (hk : k ≤ hs.length) (u r : Value) : (hs.take k ++ u :: hs.drop k).set k r = hs.take k ++ r :: hs.drop k := by
  rw [List.set_append_right _ _ (by simp; omega)]
  have e : k - (hs.take k).length = 0 := by simp; omega
  rw [e, List.set_cons_zero]
theorem shift_get {hs : List Value} {k : Nat} (hk : k + 1 ≤ hs.length) (u : Value) : (hs.take (k + 1) ++ u :: hs.drop (k + 1))[k]? = some (hs[k]'(by omega)) := by
  rw [List.getElem?_append_left (by simp; omega), List.getElem?_take_of_lt (by omega), List.getElem?_eq_getElem (by omega)]

theorem shift_at {hs : List Value} {k : Nat} (hk : k + 1 ≤ hs.length) (u : Value) : (hs.take (k + 1) ++ u :: hs.drop (k + 1))[k + 1]? = some u := by
  rw [List.getElem?_append_right (by simp; omega)]
  have e : k + 1 - (hs.take (k + 1)).length = 0 := by simp; omega
  rw [e, List.getElem?_cons_zero]
theorem shift_at' {hs : List Value} {k : Nat} (hk : k ≤ hs.length) (u : Value) : (hs.take k ++ u :: hs.drop k)[k]? = some u := by
  rw [List.getElem?_append_right (by simp; omega)]
  have e : k - (hs.take k).length = 0 := by simp; omega
  rw [e, List.getElem?_cons_zero]
theorem own_frz {w : World} {base : Nat} {e : TypeId} {g n cap : Nat} {xs : List Value} (h : w.ownsRow base e 1 (.slice (some ⟨g, 0, none⟩) n cap) n xs) (i : Nat) : w.frozen? ⟨g, i, none⟩ = false := by
  rcases h.2 with ⟨h1, _⟩ | ⟨g', cap', cur, h1, h2, h3, _⟩
  · injection h1 with h1; cases h1
  · injection h1 with h1
    injection h1 with h1
    injection h1 with h1 _ _
    subst h1
    simp [World.frozen?, h3]
theorem own_some {w : World} {base : Nat} {e : TypeId} {v : Value} {n : Nat} {xs : List Value} (h : w.ownsRow base e 1 v (n + 1) xs) : ∃ g cap, v = .slice (some ⟨g, 0, none⟩) (n + 1) cap ∧ base ≤ g ∧ g < w.heap.size := by
  rcases h.2 with ⟨_, h0⟩ | ⟨g, cap, cur, g1, g2, g3, g4⟩
  · omega
  · exact ⟨g, cap, g1, g2, own_lt h g (by rw [g1]; rfl)⟩
theorem hdrs_app {w w6 : World} {v : Value} {L : List RL.R} {hs : List Value} {g l C : Nat} (q2 : ∀ i (h : i < L.length), ∃ A' C', hs[i]? = some (.slice A' L[i].length C') ∧ L[i].length ≤ C' ∧ C' ≤ 9223372036854775807 ∧ SlR w.heap.size w A' L[i] ∧ (L[i] ≠ [] → ∀ ad, A' = some ad → v.ownBlock ≠ some ad.block)) (hl : hs.length = L.length) (hg : w.grownBy w6 v.ownBlock) (hat : (Value.slice (some ⟨g, 0, none⟩) l C).ownBlock = v.ownBlock ∨ (Value.slice (some ⟨g, 0, none⟩) l C).ownBlock = some w.heap.size) : Hdrs (fun b => b ≠ g) w6.heap.size w6 hs L := by
  refine ⟨hl, fun i u y hu hy => ?_⟩
  have hi := (List.getElem?_eq_some_iff.1 hy).1
  obtain ⟨A', C', k1, k2, k3, k4, k5⟩ := q2 i hi
  have hyy : L[i] = y := (List.getElem?_eq_some_iff.1 hy).2
  rw [hyy] at k1 k2 k4 k5
  rw [k1] at hu
  injection hu with hu
  refine ⟨A', C', hu.symm, k2, k3, k4.grown hg k5, fun hne ad e e2 => ?_⟩
  rcases hat with h | h
  · exact k5 hne ad e (by rw [← h]; exact congrArg some e2.symm)
  · simp only [Value.ownBlock, Option.some.injEq] at h
    have := k4.ltB hne ad e
    omega
/-- Headers that read as rows, none of which lies in the block of the headers. -/
theorem own_hdrs {w : World} {B : Nat} {E : TypeId} {g n cap : Nat} {hs : List Value} {Y : List RL.R} (h : w.ownsRow B E 1 (.slice (some ⟨g, 0, none⟩) n cap) n hs) (hd : Hdrs (fun b => b ≠ g) w.heap.size w hs Y) (hn : n = Y.length) : OwnRs w B E (.slice (some ⟨g, 0, none⟩) n cap) Y := by
  subst hn
  refine ⟨hs, h, fun i hi => ?_⟩
  obtain ⟨A', C', h1, h2, h3, h4, h5⟩ := hd.at_ hi
  exact ⟨A', C', h1, h2, h3, h4, fun hy ad e e2 => h5 hy ad e (by injection e2 with e2; exact e2.symm)⟩
theorem hdrs_of_own {w : World} {B : Nat} {E : TypeId} {v : Value} {X : List RL.R} (h : OwnRs w B E v X) (hX : X ≠ []) : ∃ g cap hs, v = .slice (some ⟨g, 0, none⟩) X.length cap ∧ w.ownsRow B E 1 (.slice (some ⟨g, 0, none⟩) X.length cap) X.length hs ∧ Hdrs (fun b => b ≠ g) w.heap.size w hs X ∧ B ≤ g ∧ g < w.heap.size := by
  obtain ⟨hs, h1, h2⟩ := h
  have hl : hs.length = X.length := by have := h1.1; omega
  rcases h1.2 with ⟨g1, g0⟩ | ⟨g, cap, cur, g1, g2, g3, g4⟩
  · exact absurd (List.eq_nil_of_length_eq_zero g0) hX
  · have hlt : g < w.heap.size := own_lt h1 g (by rw [g1]; rfl)
    refine ⟨g, cap, hs, g1, by rw [← g1]; exact h1, ⟨hl, fun i u y hu hy => ?_⟩, g2, hlt⟩
    have hi := (List.getElem?_eq_some_iff.1 hy).1
    obtain ⟨A', C', k1, k2, k3, k4, k5⟩ := h2 i hi
    have hyy : X[i] = y := (List.getElem?_eq_some_iff.1 hy).2
    rw [hyy] at k1 k2 k4 k5
    rw [k1] at hu
    injection hu with hu
    exact ⟨A', C', hu.symm, k2, k3, k4, fun hne ad e e2 => k5 hne ad e (by rw [g1]; exact congrArg some e2.symm)⟩
/-- append of one value, laid in a block of its own, to a row of the call's own, at a step of a region that draws its order. -/
theorem stepVR {w : World} {ops : Array Oper} {o : Oper} {a : Act} {K : Act → World → Prop} {Q : Exit → Act → World → Prop} {E : Prop} (hgd : o.guard = none) (s x : Operand)
    (ho : o.op = .call { callee := .builtin .append, args := #[s, x], argTypes := #[47, 47] })
    (base : Nat) (v : Value) (l : RL.R) (hs : a.eval s = v) (hown : w.ownsRow base 38 3 v l.length (rcells l))
    (gt : Nat) (z : RL.V) (hx : a.eval x = .slice (some ⟨gt, 0, none⟩) 1 1) (hg : Row w gt 38 (vcells z))
    (hn : l.length ≤ 1000000) (hbase : base ≤ w.heap.size)
    (h : ∀ g cap w', w'.ownsRow base 38 3 (.slice (some ⟨g, 0, none⟩) (l.length + 1) cap) (l.length + 1) (rcells (l ++ [z])) → w.grownBy w' v.ownBlock → (v.ownBlock = some g ∨ g = w.heap.size) → K (a.put o.dst (.slice (some ⟨g, 0, none⟩) (l.length + 1) cap)) w') :
    if Region.wanted o (yielded ops a.tmps) = true then Oper.wp Try.prog o a w K Q else E := by
  obtain ⟨i0, hi0, hz0, hz1, hz2⟩ := info_parts valInfo
  refine step_append_lies w hgd s x 47 ho base 38 i0 _ 3 32 Try.underlying47 hi0 hz0 hz1 hz2 rfl (by decide) v l.length (rcells l) hs hown ⟨gt, 0, none⟩ 1 1 (vcells z) hx rfl ?_ ?_ (by decide) (by simp only [maxLen]; omega) (by omega) hbase w.heap.size rfl ?_
  · intro j u hu
    have := hg.cell j
    rw [hu] at this
    rw [Addr.add_lit, Nat.zero_add]
    exact this
  · intro u hu; simp [vcells] at hu; rcases hu with rfl | rfl | rfl <;> rfl
  · intro g cap w' k1 k2 k3 _
    refine h g cap w' ?_ k2 k3
    rw [rcells_append]
    have : rcells [z] = vcells z := by simp [rcells]
    rw [this]
    exact k1

set_option maxHeartbeats 8000000 in
set_option maxRecDepth 100000 in
theorem r34Project_any (n : Nat) (XA CA : Option Addr) (XC CC : Nat) (X : List RL.R) (cs : List Int) (w : World) (hX : SlRs w.heap.size w XA X) (hcs : SlI .i64 w.heap.size w CA cs) (hXl : X.length ≤ 60000) (hcl : cs.length ≤ 1000) (hlen : ∀ x ∈ X, x.length = n) (hok : ∀ c ∈ cs, 0 ≤ c ∧ c < (n : Int)) (_hn : n ≤ 1000) :
    Calls Try.prog 26 #[.slice XA X.length XC, .slice CA cs.length CC] w fun e w' => ∃ v, e = .returned v ∧ OwnRs w' w.heap.size 47 v (RL.ofF (X.map (projF · cs))) ∧ Below w.heap.size w w' := by
  have HX := Lib.hid hX
  have HCS := Lib.hid hcs
  have HLEN := Lib.hid hlen
  have HOK := Lib.hid hok
  clear hX hcs hlen hok
  go_enter Try.func26, Try.ntmps26
  go_wp2
  go_loopw [5, 6] (fun v m wr => ∃ i : Nat, i ≤ X.length ∧ m = .int .i64 i ∧ OwnRs wr w.heap.size 47 v (RL.ofF ((X.take i).map (projF · cs))) ∧ Below w.heap.size w wr) (fun _ m _ => X.length - (intOf m).toNat)
  case atStart => exact ⟨0, Nat.zero_le _, rfl, OwnRs.nil _ _ _, Below.refl _ _⟩
  case round =>
    obtain ⟨i, hia, rfl, hown, hb⟩ := hrel
    have HO := Lib.hid hown
    have HB := Lib.hid hb
    have hzz := hb.size
    clear hown hb
    by_cases h1 : i < X.length
    rotate_left
    · obtain rfl : i = X.length := by omega
      rw [List.take_length] at HO
      go_wp2
      go_ret
      exact ⟨_, rfl, HO.out, HB.out⟩
    obtain ⟨wo, hwo⟩ : ∃ wo, wo = wr := ⟨_, rfl⟩
    subst hwo
    obtain ⟨b, o, A', C', rfl, hb1, c1, hc1, hm1, hsx⟩ := slRs_at HX.out h1
    have c1 := (HB.out.cell (p := ⟨b, o + i, none⟩) hb1).trans c1
    have HSX := Lib.hid (SlR.below hsx HB.out (Nat.le_refl _))
    have hxn : X[i].length = n := HLEN.out _ (List.getElem_mem h1)
    have hbw : b < wo.heap.size := by omega
    have HOF : Hid (RL.ofF ((X.take (i + 1)).map (projF · cs)) = RL.insF (RL.ofF ((X.take i).map (projF · cs))) (projF X[i] cs)) := by
      show _ = _
      rw [List.take_succ_eq_append_getElem h1, List.map_append]
      exact RL.ofF_append _ _
    have HLL : Hid ((RL.ofF ((X.take i).map (projF · cs))).length ≤ 60000) := by
      show _ ≤ _
      have := RL.ofF_length_le ((X.take i).map (projF · cs))
      rw [List.length_map, List.length_take] at this
      omega
    have HSS := Lib.hid (RL.SS.of ((X.take i).map (projF · cs)))
    have HLD : Hid (∀ y ∈ RL.ofF ((X.take i).map (projF · cs)), y.length = cs.length) := fun y hy => by
      obtain ⟨z, _, rfl⟩ := List.mem_map.1 ((RL.mem_ofF _ _).1 hy)
      exact projF_length z cs
    have HXN := Lib.hid hxn
    generalize X[i] = x at *
    have hx1 : x.length ≤ n := by omega
    have hx2 : n ≤ x.length := by omega
    generalize RL.ofF ((X.take i).map (projF · cs)) = L at *
    clear hsx hxn
    go_wp2
    go_loopw [7, 8] (fun v m wr => ∃ k : Nat, k ≤ cs.length ∧ m = .int .i64 k ∧ wr.ownsRow wo.heap.size 38 3 v k (rcells ((projF x cs).take k)) ∧ Below wo.heap.size wo wr) (fun _ m _ => cs.length - (intOf m).toNat)
    case atStart => exact ⟨0, Nat.zero_le _, rfl, own_nil _ _ _ _, Below.refl _ _⟩
    case round =>
      obtain ⟨k, hka, rfl, hown, hb⟩ := hrel
      have HOW := Lib.hid hown
      have HB2 := Lib.hid hb
      have hz2 := hb.size
      clear hown hb
      by_cases h2 : k < cs.length
      rotate_left
      · obtain rfl : k = cs.length := by omega
        rw [show (projF x cs).take cs.length = projF x cs from by rw [← projF_length x cs, List.take_length]] at HOW
        obtain ⟨hkl, RA, RC, hu7, hrc, hrm, hrs, hrb⟩ := SlR.of_own HOW.out
        have HRS := Lib.hid hrs
        have HRB := Lib.hid hrb
        have HRL : Hid ((projF x cs).length = cs.length) := projF_length x cs
        have hrl : (projF x cs).length ≤ 1000 := by rw [projF_length]; omega
        generalize hrr : projF x cs = r at *
        clear hrr hkl hrs hrb HOW
        subst hu7
        have hown := HO.out.keep HB2.out
        have HBW := Lib.hid (Below.then HB.out HB2.out hzz)
        have HO2 := Lib.hid hown
        obtain ⟨OA, OC, hu5, hoc, hom, hosl⟩ := hown.sl
        have HOS := Lib.hid hosl
        have HOB : Hid (∀ jj, u5.ownBlock = some jj → jj < wo.heap.size) := by obtain ⟨hs, q1, _⟩ := HO.out; exact own_lt q1
        clear hown hosl HO HB HB2 c1
        subst hu5
        have hLl := HLL.out
        obtain ⟨wq, hwq⟩ : ∃ wq, wq = wr := ⟨_, rfl⟩
        subst hwq
        have hrkl := RL.rank_le L r
        obtain ⟨hs1, hs2⟩ := RL.rank_split HSS.out r
        have HS1 := Lib.hid hs1
        have HS2 := Lib.hid hs2
        have HMR := Lib.hid (RL.mem_iff_rank HSS.out r)
        have HIN : Hid (RL.insF L r = if r ∈ L then L else L.take (RL.rank L r) ++ r :: L.drop (RL.rank L r)) := rfl
        clear hs1 hs2
        generalize RL.rank L r = rk at *
        have HCR : Hid (∀ (j : Nat) (hj : j < L.length) (W : World), Ext wq W → ∃ b o A'' C'', OA = some ⟨b, o, none⟩ ∧ b < wq.heap.size ∧ W.cell? ⟨b, o + j, none⟩ = some (.slice A'' L[j].length C'') ∧ ∀ W', Ext W W' → Calls Try.prog 45 #[.slice A'' L[j].length C'', .slice RA r.length RC, .slice none 0 0] W' fun e w' => e = .returned (.int .i64 (RL.cmpR L[j] r)) ∧ Ext W' w') := fun j hj W hx => by
          obtain ⟨b, o, A'', C'', e1, e2, e3, e4, e5, e6⟩ := slRs_at HOS.out hj
          have hlen : L[j].length = cs.length := HLD.out _ (List.getElem_mem hj)
          refine ⟨b, o, A'', C'', e1, e2, (hx.cell e2).trans e3, fun W' hx' => ?_⟩
          have hxx := hx.trans hx'
          exact r3CompareRows_any A'' RA C'' RC L[j] r W' ((e6.ext (Nat.le_refl _) hxx).more hxx.size) ((HRS.out.ext (Nat.le_refl _) hxx).more hxx.size) (by omega) (by omega)
        go_wp2
        go_loopw [9] (fun a wr => ∃ j : Nat, j ≤ rk ∧ a = .int .i64 j ∧ Ext wq wr) (fun a _ => rk - (intOf a).toNat)
        case atStart => exact ⟨0, Nat.zero_le _, rfl, Ext.refl _⟩
        case round =>
          obtain ⟨j, hjr, rfl, hx⟩ := hrel
          have HXX := Lib.hid hx
          have hzx := hx.size
          clear hx
          by_cases h3 : j < rk
          · obtain ⟨b4, o4, A4, C4, hOA, hb4, d1, hcall⟩ := HCR.out j (by omega) wr HXX.out
            subst hOA
            have hneg := HS1.out j (by omega) h3
            have HC := Lib.hid hcall
            have hjL : (j : Int) < (L.length : Int) := by omega
            have hjL2 : j < L.length := by omega
            generalize L[j] = y at *
            generalize RL.cmpR y r = q at *
            clear hcall
            go_wp2_with fail
            refine (HC.out wr (Ext.refl _)).mono ?_
            rintro e w2 ⟨rfl, hx2⟩
            have HX2 := Lib.hid (HXX.out.trans hx2)
            have hq : decide (q < 0) = true := by simpa using hneg
            clear hx2 HC
            go_wp2
            go_roundw
            case rel => exact ⟨j + 1, by omega, by go_num, HX2.out⟩
            case measure => simp [intOf]; omega
          · obtain rfl : j = rk := by omega
            by_cases hB : j < L.length
            case' pos =>
              obtain ⟨b4, o4, A4, C4, hOA, hb4, d1, hcall⟩ := HCR.out j hB wr HXX.out
              have hge := HS2.out j hB (Nat.le_refl _)
              have HC := Lib.hid hcall
              have hjL : (j : Int) < (L.length : Int) := by omega
              have HZ : Hid (RL.cmpR L[j] r = 0 ↔ L[j] = r) := RL.tot_cmpR.z _ _
              have HM2 : Hid (r ∈ L ↔ L[j] = r) := HMR.out.trans ⟨fun h => h.2, fun h => ⟨hB, h⟩⟩
              have HDC : Hid (∀ W, Ext wr W → W.cell? ⟨b4, o4 + j, none⟩ = some (.slice A4 L[j].length C4)) := fun W hW => (hW.cell (by omega)).trans d1
              generalize L[j] = y at *
              subst hOA
              generalize RL.cmpR y r = q at *
              clear hcall
              go_wp2_with fail
              refine (HC.out wr (Ext.refl _)).mono ?_
              rintro e w2 ⟨rfl, hx2⟩
              have HX2 := Lib.hid hx2
              have hq : decide (q < 0) = false := by simpa using hge
              have d2 := HDC.out w2 hx2
              clear hx2
              go_wp2_with fail
              refine (HC.out w2 HX2.out).mono ?_
              rintro e w5 ⟨rfl, hx5⟩
              have HX5 := Lib.hid ((HXX.out.trans HX2.out).trans hx5)
              clear hx5 HC d1 d2 HX2 HDC
              by_cases hq0 : q = 0
              · have hin : r ∈ L := HM2.out.2 (HZ.out.1 hq0)
                have HI2 := Lib.hid (HIN.out.trans (if_pos hin))
                have hqb : (q == 0) = true := by simpa using hq0
                clear hin hq0
                go_wp2
                go_roundw
                case rel => exact ⟨i + 1, by omega, by go_num, by rw [HOF.out, HI2.out]; exact HO2.out.keep HX5.out.below, Below.then HBW.out HX5.out.below HBW.out.size⟩
                case measure => simp [intOf]; omega
              have hnin : ¬ r ∈ L := fun h => hq0 (HZ.out.2 (HM2.out.1 h))
              have HI2 := Lib.hid (HIN.out.trans (if_neg hnin))
              have hqb : (q == 0) = false := by simpa using hq0
              clear hnin hq0 hge hjL HZ HM2 hB hb4
              have HOL := Lib.hid (HO2.out.keep HX5.out.below)
              have hz5 := HX5.out.size
              clear HXX HO2
              go_upto_region 14 with (fail)
            case' neg =>
              have hjL : ¬ (j : Int) < (L.length : Int) := by omega
              have hnin : ¬ r ∈ L := fun h => by obtain ⟨h1, _⟩ := HMR.out.1 h; omega
              have HI2 := Lib.hid (HIN.out.trans (if_neg hnin))
              obtain ⟨w5, hw5⟩ : ∃ w5, w5 = wr := ⟨_, rfl⟩
              subst hw5
              have HX5 := Lib.hid HXX.out
              clear hnin hB
              have HOL := Lib.hid (HO2.out.keep HX5.out.below)
              have hz5 := HX5.out.size
              clear HXX HO2
              go_upto_region 14 with (fail)
              clear hjL
            all_goals
              have hO6 := HOL.out.keep ((Below.refl w5.heap.size w5).alloc (Nat.le_refl _) (.cells #[.slice none 0 0] 47))
              obtain ⟨hs, q1, q2⟩ := hO6
              have HQ1 := Lib.hid q1
              have HQ2 := Lib.hid q2
              have HHL : Hid (hs.length = L.length) := by have := q1.1; show _ = _; omega
              have hwq5 := HBW.out.size
              clear q1 q2
              go_wp2_with (at_builtin; refine appH1 rfl (.tmp 64) (.tmp 65) rfl w.heap.size _ L.length hs rfl HQ1.out w5.heap.size (.slice none 0 0) rfl (by go_simp) rfl (by omega) (by simp; omega) ?_)
              intro v6 w6 hown6 hg6 hat6
              have hvb := HOL.out.base
              have HB6 := Lib.hid (Below.then HBW.out (Below.then (HX5.out.below.mono hwq5) (app_kept hvb (by omega) hg6) (Nat.le_refl _)) (Nat.le_refl _))
              have hrne : r ≠ [] → ∀ ad, RA = some ad → ad.block < wq.heap.size := HRS.out.ltB
              have hrov : r ≠ [] → ∀ ad, RA = some ad → (Value.slice _ L.length OC).ownBlock ≠ some ad.block := fun hr ad e e2 => by
                have h1 := HRB.out ad e
                have h2 := HOB.out _ e2
                omega
              obtain ⟨g, cap, rfl, hbg, hgl⟩ := own_some hown6
              have hge6 : wq.heap.size ≤ w6.heap.size := by have := hg6.size; simp at this; omega
              have HHD := Lib.hid (hdrs_app HQ2.out HHL.out hg6 (by rw [World.size_alloc]; exact hat6))
              have HR6 := Lib.hid ((SlR.up HRS.out (HX5.out.alloc (.cells #[.slice none 0 0] 47))).grown hg6 hrov)
              have hrap : r ≠ [] → ∀ ad, RA = some ad → ad.block ≠ g := fun hr ad e e2 => by
                rcases hat6 with h3 | h3
                · exact hrov hr ad e (by rw [← h3]; exact congrArg some e2.symm)
                · have := hrne hr ad e
                  simp only [Value.ownBlock, Option.some.injEq] at h3
                  omega
              have HRP := Lib.hid hrap
              have how0 : ∃ A6 l6 C6, w6.ownsRow w.heap.size 47 1 (.slice (some ⟨g, 0, none⟩) (L.length + 1) cap) (L.length + 1) (hs.take L.length ++ (.slice A6 l6 C6) :: hs.drop L.length) := by
                refine ⟨none, 0, 0, ?_⟩
                rw [List.take_of_length_le (by have := HHL.out; omega), List.drop_of_length_le (by have := HHL.out; omega)]
                exact hown6
              have HOW0 := Lib.hid how0
              have hhl1 : hs.length ≤ L.length := Nat.le_of_eq HHL.out
              have hhl2 : L.length ≤ hs.length := Nat.le_of_eq HHL.out.symm
              clear hown6 hg6 hat6 hvb hrne hrov how0 hrap HQ1 HQ2 HOL HRS HRB
              have hw1 : IntKind.i64.wrap ((L.length : Int) + 1 - 1) = (L.length : Int) := by rw [IntWalk.i64_in _ (by omega)]; omega
              have hw2 : (L.length : Int) + 1 - 1 = (L.length : Int) := by omega
              go_wp2
              go_loopw [10] (fun a wr => ∃ k : Nat, j ≤ k ∧ k ≤ L.length ∧ a = .int .i64 k ∧ (∃ A6 l6 C6, wr.ownsRow w.heap.size 47 1 (.slice (some ⟨g, 0, none⟩) (L.length + 1) cap) (L.length + 1) (hs.take k ++ (.slice A6 l6 C6) :: hs.drop k)) ∧ w6.grownBy wr (some g) ∧ w6.heap.size ≤ wr.heap.size) (fun a _ => (intOf a).toNat)
              case atStart => exact ⟨L.length, by omega, Nat.le_refl _, rfl, HOW0.out, ⟨rfl, rfl, rfl, Nat.le_refl _, fun _ _ _ => rfl⟩, Nat.le_refl _⟩
              case round =>
                obtain ⟨k, hjk, hkL, rfl, ⟨A6, l6, C6, how⟩, hgr, hzg⟩ := hrel
                have HOWK := Lib.hid how
                have HGR := Lib.hid hgr
                clear how hgr
                by_cases h5 : j < k
                · obtain ⟨k', rfl⟩ : ∃ k', k = k' + 1 := ⟨k - 1, by omega⟩
                  have hk' : k' + 1 ≤ hs.length := by omega
                  have c1 := own_cell HOWK.out (shift_get hk' (.slice A6 l6 C6))
                  have HST := Lib.hid (shift_step hk' (.slice A6 l6 C6))
                  have hs2 := own_set HOWK.out (show k' + 1 < L.length + 1 by omega) (hs[k']'(by omega))
                  rw [HST.out] at hs2
                  have hf := own_frz HOWK.out (k' + 1)
                  have c2 := own_cell HOWK.out (shift_at hk' (.slice A6 l6 C6))
                  obtain ⟨A7, C7, h7, -⟩ := HHD.out.at_ (show k' < L.length by omega)
                  have h7' : ∃ l7, hs[k']'(by omega) = .slice A7 l7 C7 := ⟨_, (List.getElem?_eq_some_iff.1 h7).2⟩
                  obtain ⟨l7, h7'⟩ := h7'
                  rw [h7'] at c1 hs2
                  have HS2 := Lib.hid hs2
                  have hw1 : IntKind.i64.wrap (((k' + 1 : Nat) : Int) - 1) = (k' : Int) := by rw [IntWalk.i64_in _ (by omega)]; omega
                  have hw2 : ((k' + 1 : Nat) : Int) - 1 = (k' : Int) := by omega
                  have hw3 : (k' : Int) + 1 - 1 = (k' : Int) := by omega
                  have hlt1 : (j : Int) < (k' : Int) + 1 := by omega
                  clear hs2 h7 h7'
                  go_wp2
                  go_roundw
                  case rel => exact ⟨k', by omega, by omega, by go_num, ⟨_, _, _, HS2.out⟩, grown_trans HGR.out (grown_set wr g (k' + 1) _), by simp; omega⟩
                  case measure => simp [intOf]
                · obtain rfl : k = j := by omega
                  have hs2 := own_set HOWK.out (show k < L.length + 1 by omega) (.slice RA r.length RC)
                  rw [shift_last (by omega) (.slice A6 l6 C6) (.slice RA r.length RC)] at hs2
                  have HS2 := Lib.hid hs2
                  have hf := own_frz HOWK.out k
                  have c2 := own_cell HOWK.out (shift_at' (by omega) (.slice A6 l6 C6))
                  have hlt1 : (k : Int) < (L.length : Int) + 1 := by omega
                  clear hs2
                  go_wp2
                  go_roundw
                  case rel =>
                    have hgt := grown_trans HGR.out (grown_set wr g k (.slice RA r.length RC))
                    refine ⟨i + 1, by omega, by go_num, ?_, Below.then HB6.out (below_of_grown hgt (by omega : w.heap.size ≤ g) HB6.out.size) (Nat.le_refl _)⟩
                    rw [HOF.out, HI2.out]
                    have hh : Hdrs (fun b => b ≠ g) w6.heap.size w6 (hs.take k ++ (Value.slice RA r.length RC) :: hs.drop k) (L.take k ++ r :: L.drop k) := by
                      have h1 := (HHD.out.take k).append ((Hdrs.one (P := fun b => b ≠ g) (B := w6.heap.size) (w := w6) (u := .slice RA r.length RC) (y := r) ⟨RA, RC, rfl, hrc, hrm, HR6.out, HRP.out⟩).append (HHD.out.drop k))
                      exact h1
                    have hh2 := (hh.keep (w' := wr.setCell ⟨g, k, none⟩ (.slice RA r.length RC)) (fun p hp hne => World.cell?_of_block (hgt.block p.block hp (fun e => hne (by injection e))))).more hgt.size
                    have hlen : (L.take k ++ r :: L.drop k).length = L.length + 1 := by simp; omega
                    exact own_hdrs HS2.out hh2 hlen.symm
                  case measure => simp [intOf]; omega
      obtain ⟨b2, o2, hCA, hb2, d1⟩ := slI_at HCS.out h2
      subst hCA
      obtain ⟨hk0, hkn⟩ := HOK.out _ (List.getElem_mem h2)
      have hPT : (projF x cs).take (k + 1) = (projF x cs).take k ++ [x.getD (cs[k]).toNat zV] := by
        have hk' : k < (projF x cs).length := by rw [projF_length]; exact h2
        rw [List.take_succ_eq_append_getElem hk']
        have e : (projF x cs)[k] = x.getD (cs[k]).toNat zV := by simp [projF]
        rw [e]
      have HPT := Lib.hid hPT
      generalize cs[k] = c at *
      obtain ⟨q, hq⟩ : ∃ q : Nat, c = (q : Int) := ⟨c.toNat, by omega⟩
      subst hq
      rw [Int.toNat_natCast] at HPT
      have hqx : q < x.length := by omega
      obtain ⟨b3, o3, rfl, hb3, e1, e2, e3⟩ := slR_at HSX.out hqx
      have hgd : x.getD q zV = x[q] := by rw [List.getD_eq_getElem?_getD, List.getElem?_eq_getElem hqx]; rfl
      rw [hgd] at HPT
      generalize x[q] = u at *
      have c1' := (HB2.out.cell (p := ⟨b, o + i, none⟩) hbw).trans c1
      have d1 := ((Below.then HB.out HB2.out hzz).cell (p := ⟨b2, o2 + k, none⟩) hb2).trans d1
      have e1 := (HB2.out.cell (p := ⟨b3, o3 + q * 3, none⟩) (by show b3 < _; omega)).trans e1
      have e2 := (HB2.out.cell (p := ⟨b3, o3 + q * 3 + 1, none⟩) (by show b3 < _; omega)).trans e2
      have e3 := (HB2.out.cell (p := ⟨b3, o3 + q * 3 + 2, none⟩) (by show b3 < _; omega)).trans e3
      have hbr : b < wr.heap.size := by omega
      have hb2r : b2 < wr.heap.size := by omega
      have hb3r : b3 < wr.heap.size := by omega
      have g1 : (i : Int) < (X.length : Int) := by omega
      have g2 : (k : Int) < (cs.length : Int) := by omega
      have g3 : (q : Int) < (x.length : Int) := by omega
      clear hPT hgd hk0 hkn
      have HTL : Hid (((projF x cs).take k).length = k) := by show _ = _; rw [List.length_take, projF_length]; omega
      generalize (projF x cs).take k = Lk at *
      have HV7 : Hid (∀ j, u7.ownBlock = some j → wo.heap.size ≤ j) := fun j hj => own_base HOW.out hj
      go_wp2
      refine wp_region_held_drew (S := (fun w' => w'.cell? ⟨b, o + i, none⟩ = some (.slice (some ⟨b3, o3, none⟩) x.length C') ∧ w'.cell? ⟨b2, o2 + k, none⟩ = some (.int .i64 q) ∧ w'.cell? ⟨b3, o3 + q * 3, none⟩ = some (.int .i64 u.kind) ∧ w'.cell? ⟨b3, o3 + q * 3 + 1, none⟩ = some (.int .i64 u.int) ∧ w'.cell? ⟨b3, o3 + q * 3 + 2, none⟩ = some (.string u.str))) (by kernel_rfl) ⟨c1', d1, e1, e2, e3⟩ (fun hHeld => ?_)
      refine takeOp (i := 0) (v := ?_) (some 23) rfl rfl (by kernel_rfl) (by kernel_rfl) (by kernel_rfl) (fun _ _ _ h => h) (Or.inl ⟨by rfl, ?_⟩) (by assumption) ?_
      rotate_left 1
      · (intro w0 hSw; (try dsimp only at hSw); go_simp; try (with_reducible rfl))
      try simp only [Act.put]
      try simp only [List.setIfInBounds_toArray]
      try simp only [List.set_cons_succ]
      try simp only [List.set_cons_zero]
      refine takeOp (i := 1) (v := ?_) (some 24) rfl rfl (by kernel_rfl) (by kernel_rfl) (by kernel_rfl) (fun _ _ _ h => h) (Or.inl ⟨by rfl, ?_⟩) (by assumption) ?_
      rotate_left 1
      · (intro w0 hSw; (try dsimp only at hSw); go_simp; try (with_reducible rfl))
      try simp only [Act.put]
      try simp only [List.setIfInBounds_toArray]
      try simp only [List.set_cons_succ]
      try simp only [List.set_cons_zero]
      refine takeOp (i := 2) (v := ?_) (some 25) rfl rfl (by kernel_rfl) (by kernel_rfl) (by kernel_rfl) (fun _ _ _ h => h) (Or.inl ⟨by rfl, ?_⟩) (by assumption) ?_
      rotate_left 1
      · (intro w0 hSw; (try dsimp only at hSw); go_simp; try (with_reducible rfl))
      try simp only [Act.put]
      try simp only [List.setIfInBounds_toArray]
      try simp only [List.set_cons_succ]
      try simp only [List.set_cons_zero]
      refine takeOp (i := 3) (v := ?_) (some 26) rfl rfl (by kernel_rfl) (by kernel_rfl) (by kernel_rfl) (fun _ _ _ h => h) (Or.inl ⟨by rfl, ?_⟩) (by assumption) ?_
      rotate_left 1
      · (intro w0 hSw; (try dsimp only at hSw); go_simp; try (with_reducible rfl))
      try simp only [Act.put]
      try simp only [List.setIfInBounds_toArray]
      try simp only [List.set_cons_succ]
      try simp only [List.set_cons_zero]
      refine takeOp (i := 4) (v := ?_) (some 27) rfl rfl (by kernel_rfl) (by kernel_rfl) (by kernel_rfl) (fun _ _ _ h => h) (Or.inl ⟨by rfl, ?_⟩) (by assumption) ?_
      rotate_left 1
      · (intro w0 hSw; (try dsimp only at hSw); go_simp; try (with_reducible rfl))
      try simp only [Act.put]
      try simp only [List.setIfInBounds_toArray]
      try simp only [List.set_cons_succ]
      try simp only [List.set_cons_zero]
      refine takeOp (i := 5) (v := ?_) (some 28) rfl rfl (by kernel_rfl) (by kernel_rfl) (by kernel_rfl) (fun _ _ _ h => h) (Or.inl ⟨by rfl, ?_⟩) (by assumption) ?_
      rotate_left 1
      · (intro w0 hSw; (try dsimp only at hSw); go_simp; try (with_reducible rfl))
      try simp only [Act.put]
      try simp only [List.setIfInBounds_toArray]
      try simp only [List.set_cons_succ]
      try simp only [List.set_cons_zero]
      refine takeOp (i := 6) (v := ?_) (some 29) rfl rfl (by kernel_rfl) (by kernel_rfl) (by kernel_rfl) (fun _ _ _ h => h) (Or.inl ⟨by rfl, ?_⟩) (by assumption) ?_
      rotate_left 1
      · (intro w0 hSw; (try dsimp only at hSw); go_simp; try (with_reducible rfl))
      try simp only [Act.put]
      try simp only [List.setIfInBounds_toArray]
      try simp only [List.set_cons_succ]
      try simp only [List.set_cons_zero]
      refine takeOp (i := 7) (v := ?_) (some 30) rfl rfl (by kernel_rfl) (by kernel_rfl) (by kernel_rfl) (fun _ _ _ h => h) (Or.inl ⟨by rfl, ?_⟩) (by assumption) ?_
      rotate_left 1
      · (intro w0 hSw; (try dsimp only at hSw); go_simp; try (with_reducible rfl))
      try simp only [Act.put]
      try simp only [List.setIfInBounds_toArray]
      try simp only [List.set_cons_succ]
      try simp only [List.set_cons_zero]
      refine takeOp (i := 8) (v := ?_) (some 31) rfl rfl (by kernel_rfl) (by kernel_rfl) (by kernel_rfl) (fun _ _ _ h => h) (Or.inl ⟨by rfl, ?_⟩) (by assumption) ?_
      rotate_left 1
      · (intro w0 hSw; (try dsimp only at hSw); go_simp; try (with_reducible rfl))
      try simp only [Act.put]
      try simp only [List.setIfInBounds_toArray]
      try simp only [List.set_cons_succ]
      try simp only [List.set_cons_zero]
      refine takeOp (i := 9) (v := ?_) (some 32) rfl rfl (by kernel_rfl) (by kernel_rfl) (by kernel_rfl) (fun _ _ _ h => h) (Or.inl ⟨by rfl, ?_⟩) (by assumption) ?_
      rotate_left 1
      · (intro w0 hSw; (try dsimp only at hSw); go_simp; try (with_reducible rfl))
      try simp only [Act.put]
      try simp only [List.setIfInBounds_toArray]
      try simp only [List.set_cons_succ]
      try simp only [List.set_cons_zero]
      refine takeOp (i := 10) (v := ?_) (some 33) rfl rfl (by kernel_rfl) (by kernel_rfl) (by kernel_rfl) (fun _ _ _ h => h) (Or.inl ⟨by rfl, ?_⟩) (by assumption) ?_
      rotate_left 1
      · (intro w0 hSw; (try dsimp only at hSw); go_simp; try (with_reducible rfl))
      try simp only [Act.put]
      try simp only [List.setIfInBounds_toArray]
      try simp only [List.set_cons_succ]
      try simp only [List.set_cons_zero]
      refine wpAnyH_ready (rs := [11]) (by kernel_rfl) (by simp) ?_
      refine AllReadyH.cons rfl (fun K hK => ?_) AllReadyH.nil
      go_simp
      have hxa : Ext wr ((wr.alloc (.cells #[.int .i64 u.kind, .int .i64 u.int, .string u.str] 38)).drew) := ((Ext.refl wr).alloc _).drew
      have KEEP1 := (⟨(hxa.cell hbr).trans c1', (hxa.cell hb2r).trans d1, (hxa.cell hb3r).trans e1, (hxa.cell hb3r).trans e2, (hxa.cell hb3r).trans e3⟩ : _ ∧ _ ∧ _ ∧ _ ∧ _)
      clear hxa
      refine hK.out _ _ KEEP1 (fun hHeld => ?_)
      clear hK K
      try simp only [Act.put]
      try simp only [List.setIfInBounds_toArray]
      try simp only [List.set_cons_succ]
      try simp only [List.set_cons_zero]
      refine wpAnyH_ready (rs := [12]) (by kernel_rfl) (by simp) ?_
      refine AllReadyH.cons rfl (fun K hK => ?_) AllReadyH.nil
      refine stepVR (w := (wr.alloc (.cells #[.int .i64 u.kind, .int .i64 u.int, .string u.str] 38)).drew) rfl (.tmp 23) (.tmp 34) rfl wo.heap.size u7 Lk (by simp [Act.eval]) (by rw [HTL.out]; exact HOW.out.alloc _) wr.heap.size u (by simp [Act.eval]) (Row.new wr 38 (vcells u)) (by rw [HTL.out]; omega) (by simp; omega) ?_
      intro ng cap w2 hown2 hg2 hat2
      have hz : wr.heap.size ≤ ((wr.alloc (.cells #[.int .i64 u.kind, .int .i64 u.int, .string u.str] 38)).drew).heap.size := by simp
      have hng : ∀ (p : Addr), p.block < wo.heap.size → some p.block ≠ u7.ownBlock := fun p hp e => by have := HV7.out _ e.symm; omega
      have KEEP2 : w2.cell? ⟨b, o + i, none⟩ = some (.slice (some ⟨b3, o3, none⟩) x.length C') ∧ w2.cell? ⟨b2, o2 + k, none⟩ = some (.int .i64 q) ∧ w2.cell? ⟨b3, o3 + q * 3, none⟩ = some (.int .i64 u.kind) ∧ w2.cell? ⟨b3, o3 + q * 3 + 1, none⟩ = some (.int .i64 u.int) ∧ w2.cell? ⟨b3, o3 + q * 3 + 2, none⟩ = some (.string u.str) :=
        ⟨(grown_cell hg2 (p := ⟨b, o + i, none⟩) (Nat.lt_of_lt_of_le hbr hz) (hng _ hbw)).trans KEEP1.1, (grown_cell hg2 (p := ⟨b2, o2 + k, none⟩) (Nat.lt_of_lt_of_le hb2r hz) (hng _ (by show b2 < _; omega))).trans KEEP1.2.1, (grown_cell hg2 (p := ⟨b3, o3 + q * 3, none⟩) (Nat.lt_of_lt_of_le hb3r hz) (hng _ (by show b3 < _; omega))).trans KEEP1.2.2.1, (grown_cell hg2 (p := ⟨b3, o3 + q * 3 + 1, none⟩) (Nat.lt_of_lt_of_le hb3r hz) (hng _ (by show b3 < _; omega))).trans KEEP1.2.2.2.1, (grown_cell hg2 (p := ⟨b3, o3 + q * 3 + 2, none⟩) (Nat.lt_of_lt_of_le hb3r hz) (hng _ (by show b3 < _; omega))).trans KEEP1.2.2.2.2⟩
      have HOWN2 := Lib.hid hown2
      have HG2 := Lib.hid hg2
      clear hown2 hg2 hat2 hng hz
      refine hK.out _ _ KEEP2 (fun hHeld => ?_)
      clear hK K
      try simp only [Act.put]
      try simp only [List.setIfInBounds_toArray]
      try simp only [List.set_cons_succ]
      try simp only [List.set_cons_zero]
      refine takeOp (i := 13) (v := ?_) (some 7) rfl rfl (by kernel_rfl) (by kernel_rfl) (by kernel_rfl) (fun _ _ _ h => h) (Or.inl ⟨by rfl, ?_⟩) (by assumption) ?_
      rotate_left 1
      · (intro w0 hSw; (try dsimp only at hSw); go_simp; try (with_reducible rfl))
      try simp only [Act.put]
      try simp only [List.setIfInBounds_toArray]
      try simp only [List.set_cons_succ]
      try simp only [List.set_cons_zero]
      refine wpAnyH_done (by kernel_rfl) ?_ _
      go_wp2
      go_roundw
      case rel =>
        refine ⟨k + 1, by omega, by go_num, by rw [HPT.out, ← HTL.out]; exact HOWN2.out, Below.then HB2.out ?_ (Nat.le_refl _)⟩
        exact Below.then ((((Ext.refl wr).alloc (.cells #[.int .i64 u.kind, .int .i64 u.int, .string u.str] 38)).drew).below.mono hz2) (grownBelow HG2.out HV7.out) (Nat.le_refl _)
      case measure => simp [intOf]; omega

end Go.Proofs.Ytlcammcifjihpaa
end

section
/- Memory for the depth-first traversal: lists of rows in new blocks; append of a whole row of values. -/
namespace Go.Proofs.Ytlcammcifjihpaa
open Go.RowKit Go.Sort

/-- A list of rows all of which lies in blocks from B on. -/
def OwnRsF (w : World) (B : Nat) (v : Value) (X : List RL.R) : Prop :=
  ∃ hs, w.ownsRow B 47 1 v X.length hs ∧ Hdrs (fun b => B ≤ b ∧ v.ownBlock ≠ some b) w.heap.size w hs X
section
variable {w w' : World} {B : Nat} {v : Value} {X : List RL.R}
theorem OwnRsF.nil (w : World) (B : Nat) : OwnRsF w B (.slice none 0 0) [] := ⟨[], own_nil _ _ _ _, Hdrs.nil⟩
theorem OwnRsF.up (h : OwnRsF w B v X) (hb : Below w.heap.size w w') : OwnRsF w' B v X := by
  obtain ⟨hs, h1, h2⟩ := h
  exact ⟨hs, own_keep h1 hb, (h2.keep (fun p hp _ => hb.cell hp)).more hb.size⟩
theorem OwnRsF.grown {g : Nat} (h : OwnRsF w B v X) (hg : w.grownBy w' (some g)) (hgB : g < B) : OwnRsF w' B v X := by
  obtain ⟨hs, h1, h2⟩ := h
  refine ⟨hs, own_grown h1 hg (fun k hk e => by have := own_base h1 hk; injection e; omega), (h2.keep (fun p hp hP => World.cell?_of_block (hg.block p.block hp (fun e => by injection e; omega)))).more hg.size⟩
theorem OwnRsF.own (h : OwnRsF w B v X) : OwnRs w B 47 v X := by
  obtain ⟨hs, h1, h2⟩ := h
  refine ⟨hs, h1, fun i hi => ?_⟩
  obtain ⟨A', C', g1, g2, g3, g4, g5⟩ := h2.at_ hi
  exact ⟨A', C', g1, g2, g3, g4, fun hy ad e => (g5 hy ad e).2⟩
theorem OwnRsF.weak {B' : Nat} (h : OwnRsF w B v X) (hB : B' ≤ B) : OwnRsF w B' v X := by
  obtain ⟨hs, h1, h2⟩ := h
  exact ⟨hs, own_weaken h1 hB, h2.weak (fun b _ hb => ⟨by omega, hb.2⟩)⟩
/-- Two lists in one, behind an append. -/
theorem OwnRsF.join {hs ks : List Value} {B' : Nat} {l v' : Value} {Y : List RL.R} (h1 : w.ownsRow B 47 1 v X.length hs) (h2 : Hdrs (fun b => B ≤ b ∧ v.ownBlock ≠ some b) w.heap.size w hs X)
    (k2 : Hdrs (fun b => B' ≤ b ∧ l.ownBlock ≠ some b) w.heap.size w ks Y) (hB : B ≤ B') (hvB : ∀ j, v.ownBlock = some j → j < B')
    (hown : w'.ownsRow B 47 1 v' (X.length + Y.length) (hs ++ ks)) (hg : w.grownBy w' v.ownBlock) (hat : v'.ownBlock = v.ownBlock ∨ v'.ownBlock = some w.heap.size) : OwnRsF w' B v' (X ++ Y) := by
  have hY := k2.weak (P' := fun b => B ≤ b ∧ v.ownBlock ≠ some b) (fun b _ hb => ⟨by omega, fun e => by have := hvB b e; omega⟩)
  have hj := h2.append hY
  have hk := (hj.keep (w' := w') (fun p hp hP => World.cell?_of_block (hg.block p.block hp (fun e => hP.2 e.symm)))).more hg.size
  refine ⟨hs ++ ks, by rw [List.length_append]; exact hown, hk.1, fun i u y hu hy => ?_⟩
  obtain ⟨A', C', rfl, g2, g3, g4, g5⟩ := hj.2 i u y hu hy
  refine ⟨A', C', rfl, g2, g3, ?_, fun hne ad e => ⟨(g5 hne ad e).1, fun e2 => ?_⟩⟩
  · obtain ⟨A2, C2, e2, -, -, q, -⟩ := hk.2 i _ y hu hy
    injection e2 with e2
    subst e2
    exact q
  · rcases hat with h | h
    · rw [h] at e2; exact (g5 hne ad e).2 e2
    · rw [h] at e2
      injection e2 with e2
      have := g4.ltB hne ad e
      omega
end

/-- append of a row of values to an empty slice of the call's own: what it leaves. -/
theorem run_manyV (w : World) (ty : TypeId) (base g : Nat) (hrow : Row w g 38 []) (hbg : base ≤ g) (A : Option Addr) (C : Nat) (y : RL.R) (hy : SlR w.heap.size w A y) (hn : y.length ≤ 1000000) :
    ∃ v' w', (Builtin.append_ #[47, 47] ty #[.slice (some ⟨g, 0, none⟩) 0 0, .slice A y.length C]).run Try.prog w = .ok v' w' ∧ w'.ownsRow base 38 3 v' y.length (rcells y) ∧ w.grownBy w' (some g) ∧ (∀ k, v'.ownBlock = some k → k = g ∨ w.heap.size ≤ k) := by
  have hbase : base ≤ w.heap.size := Nat.le_trans hbg (Nat.le_of_lt hrow.lt)
  have hm2 : (0 + y.length) * 32 ≤ 140737488355328 := by rw [Nat.zero_add]; exact Nat.le_trans (Nat.mul_le_mul_right 32 hn) (by decide)
  have hm1 : 0 + y.length ≤ maxLen := by rw [Nat.zero_add]; exact Nat.le_trans hn (by decide)
  have h1 : w.ownsRow base 38 3 (.slice (some ⟨g, 0, none⟩) 0 0) 0 [] := ⟨rfl, .inr ⟨g, 0, #[], rfl, hbg, hrow, Nat.le_refl _, by simp [maxLen], rfl, rfl⟩⟩
  obtain ⟨i0, hi0, hz0, hz1, hz2⟩ := info_parts valInfo
  rcases A with _ | ad
  · have hy0 : y = [] := by
      cases y with
      | nil => rfl
      | cons v y =>
        obtain ⟨b, o, e, _⟩ := hy (by simp [rcells_cons, vcells])
        cases e
    subst hy0
    have hrun := run_append_none (P := Try.prog) w base 47 ty 38 i0 3 Try.underlying47 hi0 _ 0 [] h1 C
    exact ⟨_, w, hrun, h1, ⟨rfl, rfl, rfl, Nat.le_refl _, fun _ _ _ => rfl⟩, fun k hk => by injection hk with hk; exact .inl hk.symm⟩
  · have hcl : ∀ j u, (rcells y)[j]? = some u → w.cell? (ad.add j) = some u := by
      clear hm1 hm2 hn h1
      intro j u hu
      obtain ⟨b, o, e, hb, hc⟩ := hy (by intro h0; rw [h0] at hu; simp at hu)
      obtain rfl := Option.some.inj e
      rw [Addr.add_lit]
      exact hc j u hu
    obtain ⟨v', w', hrun, k2, k3, _, k5⟩ := run_append_own_at (P := Try.prog) w base 47 ty 38 i0 _ 3 32 Try.underlying47 hi0 hz0 hz1 hz2 rfl (by decide) _ 0 [] h1 ad y.length C (rcells y) (rcells_length y) hcl (rcells_one y) hm1 hm2 hbase
    refine ⟨v', w', hrun, by rw [Nat.zero_add, List.nil_append] at k2; exact k2, k3, fun q hq => ?_⟩
    rcases k5 with k5 | k5
    · rw [k5] at hq; injection hq with hq; exact .inl hq.symm
    · rw [k5] at hq; injection hq with hq; exact .inr (by omega)
/-- The same, in a region in the text's order. -/
theorem appManyVals {w : World} {ops : Array Oper} {rest : List Oper} {o : Oper} {a : Act} {Q : Exit → Act → World → Prop} (hgd : o.guard = none) (s x : Operand)
    (ho : o.op = .call { callee := .builtin .append, args := #[s, x], argTypes := #[47, 47] })
    (base g : Nat) (hs : a.eval s = .slice (some ⟨g, 0, none⟩) 0 0) (hrow : Row w g 38 []) (hbg : base ≤ g) (A : Option Addr) (C : Nat) (y : RL.R) (hx : a.eval x = .slice A y.length C) (hy : SlR w.heap.size w A y) (hn : y.length ≤ 1000000)
    (h : ∀ v' w', w'.ownsRow base 38 3 v' y.length (rcells y) → w.grownBy w' (some g) → (∀ k, v'.ownBlock = some k → k = g ∨ w.heap.size ≤ k) → wpList Try.prog ops Q rest (a.put o.dst v') w') : wpList Try.prog ops Q (o :: rest) a w := by
  refine wpList_plain hgd fun K hK => ?_
  obtain ⟨v', w', hrun, k1, k2, k3⟩ := run_manyV w o.type base g hrow hbg A C y hy hn
  unfold Oper.wp execOp
  simp only [ho, resolve, invoke, builtin, Sem.run_bind, Sem.run_pure, Result.andThen_ok, List.map_toArray, List.map_cons, List.map_nil, hs, hx, hrun]
  exact hK _ _ (h v' w' k1 k2 k3)
/-- The same, at a step of a region that draws its order. -/
theorem stepManyVals {w : World} {ops : Array Oper} {o : Oper} {a : Act} {K : Act → World → Prop} {Q : Exit → Act → World → Prop} {E : Prop} (hgd : o.guard = none) (s x : Operand)
    (ho : o.op = .call { callee := .builtin .append, args := #[s, x], argTypes := #[47, 47] })
    (base g : Nat) (hs : a.eval s = .slice (some ⟨g, 0, none⟩) 0 0) (hrow : Row w g 38 []) (hbg : base ≤ g) (A : Option Addr) (C : Nat) (y : RL.R) (hx : a.eval x = .slice A y.length C) (hy : SlR w.heap.size w A y) (hn : y.length ≤ 1000000)
    (h : ∀ v' w', w'.ownsRow base 38 3 v' y.length (rcells y) → w.grownBy w' (some g) → (∀ k, v'.ownBlock = some k → k = g ∨ w.heap.size ≤ k) → K (a.put o.dst v') w') :
    if Region.wanted o (yielded ops a.tmps) = true then Oper.wp Try.prog o a w K Q else E := by
  have hw : Region.wanted o (yielded ops a.tmps) = true := by simp [Region.wanted, hgd]
  rw [if_pos hw]
  obtain ⟨v', w', hrun, k1, k2, k3⟩ := run_manyV w o.type base g hrow hbg A C y hy hn
  unfold Oper.wp execOp
  simp only [ho, resolve, invoke, builtin, Sem.run_bind, Sem.run_pure, Result.andThen_ok, List.map_toArray, List.map_cons, List.map_nil, hs, hx, hrun]
  exact h v' w' k1 k2 k3

/-- An iterator that stands on the node q. -/
def AtNode (d : Nat) (P : List RL.R) (q : RL.R) (x : Pl) : Prop := (q = [] ∧ x = none) ∨ ∃ p v i, q = p ++ [v] ∧ x = some (p, i) ∧ (RL.kids d P p)[i]? = some v
theorem up_at {d : Nat} {P : List RL.R} (hd : ∀ r ∈ P, r.length = d) {q : RL.R} {x : Pl} (h : AtNode d P q x) (k : Nat) : upX d P (some (q, k)) = x := by
  rcases h with ⟨rfl, rfl⟩ | ⟨p, v, i, rfl, rfl, hi⟩
  · simp [upX]
  · show (if _ then _ else _) = _
    rw [if_neg (by simp), List.dropLast_concat, RL.lastV_snoc]
    obtain ⟨hk, hv⟩ := List.getElem?_eq_some_iff.1 hi
    have hnd : (RL.kids d P p).Nodup := (RL.kids_asc hd p).imp fun {a b} hab e => by rw [e, RL.tot_cmpV.self] at hab; omega
    rw [← hv, hnd.idxOf_getElem i hk]
theorem open_at {d : Nat} {P : List RL.R} {q : RL.R} {x : Pl} (h : AtNode d P q x) (hq : q.length < d) (hP : P ≠ []) : openB d P x = true ∧ openX d P x = some (q, 0) := by
  rcases h with ⟨rfl, rfl⟩ | ⟨p, v, i, rfl, rfl, hi⟩
  · have e : openB d P none = true := by show (decide (0 < d) && decide (P ≠ [])) = true; simp at hq; simp [hP, hq]
    refine ⟨e, ?_⟩
    show (if _ then _ else _) = _
    rw [e]; rfl
  · obtain ⟨hk, hv⟩ := List.getElem?_eq_some_iff.1 hi
    have e : openB d P (some (p, i)) = true := by
      show (decide (i < (RL.kids d P p).length) && decide (p.length + 1 < d)) = true
      simp at hq
      simp [hk, hq]
    refine ⟨e, ?_⟩
    show (if _ then _ else _) = _
    rw [e]
    have e2 : keyV d P (some (p, i)) = v := by show (RL.kids d P p).getD i _ = _; rw [List.getD_eq_getElem?_getD, hi]; rfl
    rw [e2]; rfl

end Go.Proofs.Ytlcammcifjihpaa
end

section
/- Walk: the depth-first traversal of chapter 34's laws. -/
namespace Go.Proofs.Ytlcammcifjihpaa
open Go.RowKit Go.Sort

theorem OwnRsF.one {w : World} {base : Nat} {v' : Value} {q : RL.R} (hown : w.ownsRow base 38 3 v' q.length (rcells q)) (hb : base ≤ w.heap.size) :
    OwnRsF (w.alloc (.cells #[v'] 47)) base (.slice (some ⟨w.heap.size, 0, none⟩) 1 1) [q] := by
  obtain ⟨-, A, C, rfl, h1, h2, h3, h4⟩ := SlR.of_own hown
  refine ⟨[.slice A q.length C], ⟨by simp, .inr ⟨w.heap.size, 1, #[.slice A q.length C], rfl, hb, Row.new w 47 [.slice A q.length C], Nat.le_refl _, by simp [maxLen], by simp, by simp⟩⟩, Hdrs.one ⟨A, C, rfl, h1, h2, h3.alloc1 _, fun hy ad e => ⟨h4 ad e, fun e2 => ?_⟩⟩⟩
  have e3 : w.heap.size = ad.block := Option.some.inj e2
  have := h3.ltB hy ad e
  omega

set_option maxHeartbeats 4000000 in
set_option maxRecDepth 100000 in
theorem l34walk_zero (g d : Nat) (QA : Option Addr) (QC left : Nat) (q : RL.R) (w : World) (hq : q.length = d) (hd : d ≤ 32) (hs : SlR w.heap.size w QA q) :
    Calls Try.prog 29 #[.pointer (some ⟨g, 0, none⟩), .int .i64 d, .slice QA q.length QC, .int .i64 left] w fun e w' => ∃ v, e = .returned (.tuple #[v, .int .i64 left]) ∧ OwnRsF w' w.heap.size v [q] ∧ Below w.heap.size w w' := by
  subst hq
  have HS := Lib.hid hs
  clear hs
  go_enter Try.func29, Try.ntmps29
  go_wp2_with (at_builtin; refine appManyVals rfl (.tmp 19) (.tmp 20) rfl w.heap.size w.heap.size rfl (Row.new w 38 []) (Nat.le_refl _) QA QC q rfl (HS.out.alloc1 _) (by omega) ?_)
  intro v1 w1 hown hg hat
  obtain ⟨-, A1, C1, rfl, -⟩ := SlR.of_own hown
  have HO := Lib.hid hown
  have HB := Lib.hid (Below.box (below_of_grown hg (Nat.le_refl _) (by simp)) (Nat.le_refl _))
  clear hown hg hat
  go_wp2
  go_ret2
  exact ⟨_, rfl, OwnRsF.one HO.out HB.out.size, Below.then HB.out ((Ext.refl w1).alloc _).below HB.out.size⟩

theorem at_pos {d : Nat} {P : List RL.R} (hd : ∀ r ∈ P, r.length = d) {q : RL.R} {x : Pl} (h : AtNode d P q x) (hq : q.length < d) (hP : P ≠ []) : 0 < (RL.kids d P q).length := by
  have h1 : ∃ y ∈ P, y.take q.length = q := by
    rcases h with ⟨rfl, -⟩ | ⟨p, v, i, rfl, -, hi⟩
    · obtain ⟨y, hy⟩ := List.exists_mem_of_ne_nil _ hP
      exact ⟨y, hy, by simp⟩
    · obtain ⟨y, hy, e⟩ := (RL.mem_kids hd (by simp at hq; omega) v).1 (List.mem_of_getElem? hi)
      exact ⟨y, hy, by simpa using e⟩
  obtain ⟨y, hy, e⟩ := h1
  have hyl := hd y hy
  have hlt : q.length < y.length := by omega
  exact List.length_pos_of_mem ((RL.mem_kids hd hq y[q.length]).2 ⟨y, hy, by rw [List.take_succ_eq_append_getElem hlt, e]⟩)
theorem walk_key {d : Nat} {P : List RL.R} {q : RL.R} {i : Nat} (hi : i < (RL.kids d P q).length) : keyV d P (some (q, i)) = (RL.kids d P q)[i] := by
  show (RL.kids d P q).getD i _ = _
  rw [List.getD_eq_getElem?_getD, List.getElem?_eq_getElem hi]; rfl
theorem rowsK_le {d : Nat} {P : List RL.R} {m : Nat} {q : RL.R} {k : Nat} (hk : k < (RL.kids d P q).length) : (rowsK d P m q k).length + (rowsN' d P m (q ++ [(RL.kids d P q)[k]])).length ≤ (rowsN' d P (m + 1) q).length := by
  rw [← List.length_append, ← rowsK_succ hk, ← rowsK_all]
  unfold rowsK
  rw [List.take_length]
  conv => rhs; rw [← List.take_append_drop (k + 1) (RL.kids d P q), List.flatMap_append, List.length_append]
  exact Nat.le_add_right _ _

theorem own_parts {w : World} {base : Nat} {e : TypeId} {v : Value} {n : Nat} {xs : List Value} (h : w.ownsRow base e 1 v n xs) : ∃ A C, v = .slice A n C ∧ (∀ ad, A = some ad → ∀ j u, xs[j]? = some u → w.cell? (ad.add j) = some u) ∧ (A = none → xs = []) := by
  rcases h.2 with ⟨rfl, rfl⟩ | ⟨g, cap, cur, rfl, -⟩
  · exact ⟨none, 0, rfl, (fun _ e => nomatch e), fun _ => List.eq_nil_of_length_eq_zero (by rw [h.1])⟩
  · refine ⟨_, cap, rfl, fun ad e j u hu => ?_, (fun e => nomatch e)⟩
    obtain rfl := Option.some.inj e
    rw [Addr.add_lit, Nat.zero_add]
    exact own_cell h hu

set_option maxHeartbeats 8000000 in
set_option maxRecDepth 100000 in
theorem l34walk_any (g : Nat) (LA : Option Addr) (d C : Nat) (P : List RL.R) (s B : Nat) (hd : d ≤ 32) (hP : P.length ≤ 100000) (hr : ∀ r ∈ P, r.length = d) (hP0 : P ≠ []) (hBg : B ≤ g) :
    ∀ (m : Nat) (q : RL.R) (x : Pl) (left : Nat) (QA : Option Addr) (QC : Nat) (w : World), q.length + m = d → AtNode d P q x → IterP w g LA d C P x s → TrM B w LA d (vsF d P) (fsF d P) → SlR w.heap.size w QA q → (q ≠ [] → ∀ ad, QA = some ad → ad.block ≠ g) → belowN d P m q ≤ left → left ≤ 1000 → (rowsN' d P m q).length ≤ 1000 →
    Calls Try.prog 29 #[.pointer (some ⟨g, 0, none⟩), .int .i64 d, .slice QA q.length QC, .int .i64 left] w fun e w' => ∃ v, e = .returned (.tuple #[v, .int .i64 ((left - belowN d P m q : Nat) : Int)]) ∧ OwnRsF w' w.heap.size v (rowsN' d P m q) ∧ IterP w' g LA d C P x s ∧ w.grownBy w' (some g) := by
  intro m
  induction m with
  | zero =>
    intro q x left QA QC w hq hat hit htr hs hqg hbl hl hrl
    refine (l34walk_zero g d QA QC left q w (by omega) hd hs).mono ?_
    rintro e w' ⟨v, rfl, hown, hb⟩
    exact ⟨v, by simp [belowN], hown, hit.up hb, grown_of_below hb _⟩
  | succ m ih =>
    intro q x left QA QC w hq hat hit htr hs hqg hbl hl hrl
    have hqd : q.length < d := by omega
    have hgw := hit.lt
    obtain ⟨ho1, ho2⟩ := open_at hat hqd hP0
    have hk0 := at_pos hr hat hqd hP0
    have HO := Lib.hid (itOpen B g LA d C P x s w htr (by omega) hit hd hP hr)
    rw [ho1, ho2] at HO
    have HUP := Lib.hid (fun k => up_at hr hat k)
    obtain ⟨ks, hks⟩ : ∃ ks, ks = RL.kids d P q := ⟨_, rfl⟩
    rw [← hks] at hk0
    have HK := Lib.hid hks
    have HIH := Lib.hid ih
    have HS := Lib.hid hs
    have HQG := Lib.hid hqg
    have HTR := Lib.hid htr
    have HRL := Lib.hid hrl
    have HBL := Lib.hid hbl
    have HR := Lib.hid hr
    have HP0 := Lib.hid hP0
    have hqb : ((q.length : Int) == (d : Int)) = false := by simp; omega
    clear ih hs hqg htr hrl hbl hr hP0 hat hit ho1 ho2 hks
    go_enter Try.func29, Try.ntmps29
    go_wp2_with fail
    refine HO.out.mono ?_
    rintro e w1 ⟨rfl, hit1, hg1⟩
    have HI1 := Lib.hid hit1
    have HG1 := Lib.hid hg1
    have hz1 := hg1.size
    clear hit1 hg1 HO
    go_wp2_with fail
    go_loopw [3, 10, 11] (fun l o k wr => ∃ i v, i ≤ ks.length ∧ l = .int .i64 ((left - belowK d P m q i : Nat) : Int) ∧ o = v ∧ k = .bool (decide (i < ks.length)) ∧ OwnRsF wr w.heap.size v (rowsK d P m q i) ∧ IterP wr g LA d C P (some (q, i)) s ∧ w.grownBy wr (some g)) (fun l _ _ _ => (intOf l).toNat)
    case atStart => exact ⟨0, _, Nat.zero_le _, by rw [belowK_zero]; rfl, rfl, by simp [hk0], by rw [rowsK_zero]; exact OwnRsF.weak (OwnRsF.nil _ w1.heap.size) hz1, HI1.out, HG1.out⟩
    case round =>
      obtain ⟨i, v, hik, rfl, rfl, rfl, hown, hit, hg⟩ := hrel
      have HOW := Lib.hid hown
      have HIT := Lib.hid hit
      have HG := Lib.hid hg
      have hzr := hg.size
      have HTW := Lib.hid (HTR.out.below (below_of_grown hg hBg (by omega)) (Nat.le_refl _))
      clear hown hit hg
      by_cases h1 : i < ks.length
      rotate_left
      · obtain rfl : i = ks.length := by omega
        have hdf : decide (ks.length < ks.length) = false := by simp
        have HLV := Lib.hid (itLevel g LA d C P (some (q, ks.length)) s wr HIT.out)
        rw [show levelX (some (q, ks.length)) = q.length + 1 from rfl] at HLV
        have HUW := Lib.hid (itUp g LA d C P (some (q, ks.length)) s wr HIT.out hd HR.out)
        rw [HUP.out] at HUW
        have HOK : Hid (OwnRsF wr w.heap.size u10 (rowsN' d P (m + 1) q)) := by
          have h := HOW.out
          rw [HK.out, rowsK_all] at h
          exact h
        obtain ⟨L, hL⟩ : ∃ L, L = left - belowN d P (m + 1) q := ⟨_, rfl⟩
        rw [show left - belowK d P m q ks.length = L by rw [hL, HK.out, belowK_all]]
        have HL := Lib.hid hL
        clear hL
        have hdl : decide ((q.length : Int) < (q.length : Int) + 1) = true := by simp; omega
        clear HOW HIH HTW
        go_wp2_with fail
        refine HLV.out.mono ?_
        rintro e w2 ⟨rfl, rfl⟩
        go_wp2_with fail
        refine HUW.out.mono ?_
        rintro e w3 ⟨rfl, hit, hg3⟩
        have HI3 := Lib.hid hit
        have HG3 := Lib.hid hg3
        clear hit hg3
        go_wp2
        go_ret2
        exact ⟨_, by rw [← HL.out]; rfl, HOK.out.grown HG3.out hgw, HI3.out, grown_trans HG.out HG3.out⟩
      have hdt : decide (i < ks.length) = true := by simpa using h1
      obtain ⟨kv, hkv⟩ : ∃ kv, kv = ks[i] := ⟨_, rfl⟩
      have HKY := Lib.hid (itKey B g LA d C P (some (q, i)) s wr HTW.out (by omega) HIT.out hd hP HR.out)
      have hkl : i < (RL.kids d P q).length := by rw [← HK.out]; exact h1
      rw [walk_key hkl, show (RL.kids d P q)[i] = kv by rw [hkv]; simp only [HK.out]] at HKY
      have hkv2 : (RL.kids d P q)[i]? = some kv := by rw [List.getElem?_eq_getElem hkl, hkv]; simp only [HK.out]
      have hbk := belowK_succ (d := d) (P := P) (m := m) hkl
      have hbe := belowK_le (d := d) (P := P) (m := m) hkl
      have hre := rowsK_le (d := d) (P := P) (m := m) hkl
      have hrs := rowsK_succ (d := d) (P := P) (m := m) hkl
      rw [show (RL.kids d P q)[i] = kv by rw [hkv]; simp only [HK.out]] at hbk hre hrs
      have hb1 := HBL.out
      have hr1 := HRL.out
      obtain ⟨L, hL⟩ : ∃ L, L = left - belowK d P m q i := ⟨_, rfl⟩
      obtain ⟨kd, hkd⟩ : ∃ kd, kd = belowN d P m (q ++ [kv]) := ⟨_, rfl⟩
      have hLk : 1 + kd ≤ L := by omega
      have hL1 : L ≤ 1000 := by omega
      have HNX : Hid (left - belowK d P m q (i + 1) = L - 1 - kd) := by show _ = _; omega
      have HKD := Lib.hid hkd
      have HRS := Lib.hid hrs
      have HRE : Hid ((rowsK d P m q i).length + (rowsN' d P m (q ++ [kv])).length ≤ 1000) := by show _ ≤ _; omega
      have HAT : Hid (AtNode d P (q ++ [kv]) (some (q, i))) := .inr ⟨q, kv, i, rfl, rfl, hkv2⟩
      have HIX : Hid (nextX d P (some (q, i)) = some (q, i + 1)) := by
        show (if _ then _ else _) = _
        rw [if_pos hkl]
      rw [← hL]
      have hLd : decide ((0 : Int) < (L : Int)) = true := by simp; omega
      clear hbk hbe hre hrs hb1 hr1 hL hkd hkv hkv2 hkl
      go_wp2_with fail
      refine HKY.out.mono ?_
      rintro e w2 ⟨rfl, hb2⟩
      have hx2 : Ext w2 (w2.alloc (.cells #[.int .i64 kv.kind, .int .i64 kv.int, .string kv.str] 38)) := (Ext.refl w2).alloc _
      have hr2 : Row (w2.alloc (.cells #[.int .i64 kv.kind, .int .i64 kv.int, .string kv.str] 38)) w2.heap.size 38 (vcells kv) := Row.new w2 38 (vcells kv)
      have hb3 := Below.then hb2 hx2.below hb2.size
      have hz2 := hb2.size
      go_upto_region 9 with (fail)
      generalize w2.alloc (.cells #[.int .i64 kv.kind, .int .i64 kv.int, .string kv.str] 38) = W3 at *
      have t0 : W3.cell? ⟨w2.heap.size, 0, none⟩ = some (.int .i64 kv.kind) := hr2.cell 0
      have t1 : W3.cell? ⟨w2.heap.size, 1, none⟩ = some (.int .i64 kv.int) := hr2.cell 1
      have t2 : W3.cell? ⟨w2.heap.size, 2, none⟩ = some (.string kv.str) := hr2.cell 2
      have hkz := hr2.lt
      have hw1 : IntKind.i64.wrap ((L : Int) - 1) = ((L - 1 : Nat) : Int) := by rw [IntWalk.i64_in _ (by omega)]; omega
      have HB3 := Lib.hid hb3
      have HOW3 := Lib.hid (HOW.out.up hb3)
      have HIT3 := Lib.hid (HIT.out.up hb3)
      have HG3 := Lib.hid (grown_below HG.out hb3 hzr)
      have HS3 := Lib.hid (((HS.out.keepP (P := fun b => b ≠ g) HQG.out (fun p hp hne => grown_cell HG.out (p := p) hp (fun e => hne (Option.some.inj e)))).more hzr).upB hb3)
      have hz3 := hb3.size
      clear hx2 hr2 hb2 hb3 HOW HIT HG HKY
      have HKP : Hid (∀ W, Below W3.heap.size W3 W → W.cell? ⟨w2.heap.size, 0, none⟩ = some (.int .i64 kv.kind) ∧ W.cell? ⟨w2.heap.size, 1, none⟩ = some (.int .i64 kv.int) ∧ W.cell? ⟨w2.heap.size, 2, none⟩ = some (.string kv.str)) := fun W hb => ⟨(hb.cell (p := ⟨w2.heap.size, 0, none⟩) hkz).trans t0, (hb.cell (p := ⟨w2.heap.size, 1, none⟩) hkz).trans t1, (hb.cell (p := ⟨w2.heap.size, 2, none⟩) hkz).trans t2⟩
      refine wp_region_held_drew (S := (fun w' => w'.cell? ⟨w2.heap.size, 0, none⟩ = some (.int .i64 kv.kind) ∧ w'.cell? ⟨w2.heap.size, 1, none⟩ = some (.int .i64 kv.int) ∧ w'.cell? ⟨w2.heap.size, 2, none⟩ = some (.string kv.str))) (by kernel_rfl) ⟨t0, t1, t2⟩ (fun hHeld => ?_)
      refine takeOp (i := 0) (v := ?_) (some 39) rfl rfl (by kernel_rfl) (by kernel_rfl) (by kernel_rfl) (fun _ _ _ h => h) (Or.inl ⟨by rfl, ?_⟩) (by assumption) ?_
      rotate_left 1
      · (intro w0 hSw; (try dsimp only at hSw); go_simp; try (with_reducible rfl))
      try simp only [Act.put]
      try simp only [List.setIfInBounds_toArray]
      try simp only [List.set_cons_succ]
      try simp only [List.set_cons_zero]
      refine takeOp (i := 1) (v := ?_) (some 40) rfl rfl (by kernel_rfl) (by kernel_rfl) (by kernel_rfl) (fun _ _ _ h => h) (Or.inl ⟨by rfl, ?_⟩) (by assumption) ?_
      rotate_left 1
      · (intro w0 hSw; (try dsimp only at hSw); go_simp; try (with_reducible rfl))
      try simp only [Act.put]
      try simp only [List.setIfInBounds_toArray]
      try simp only [List.set_cons_succ]
      try simp only [List.set_cons_zero]
      refine takeOp (i := 3) (v := ?_) (some 42) rfl rfl (by kernel_rfl) (by kernel_rfl) (by kernel_rfl) (fun _ _ _ h => h) (Or.inl ⟨by rfl, ?_⟩) (by assumption) ?_
      rotate_left 1
      · (intro w0 hSw; (try dsimp only at hSw); go_simp; try (with_reducible rfl))
      try simp only [Act.put]
      try simp only [List.setIfInBounds_toArray]
      try simp only [List.set_cons_succ]
      try simp only [List.set_cons_zero]
      refine takeOp (i := 5) (v := ?_) (some 44) rfl rfl (by kernel_rfl) (by kernel_rfl) (by kernel_rfl) (fun _ _ _ h => h) (Or.inl ⟨by rfl, ?_⟩) (by assumption) ?_
      rotate_left 1
      · (intro w0 hSw; (try dsimp only at hSw); go_simp; try (with_reducible rfl))
      try simp only [Act.put]
      try simp only [List.setIfInBounds_toArray]
      try simp only [List.set_cons_succ]
      try simp only [List.set_cons_zero]
      refine takeOp (i := 8) (v := ?_) (some 47) rfl rfl (by kernel_rfl) (by kernel_rfl) (by kernel_rfl) (fun _ _ _ h => h) (Or.inl ⟨by rfl, ?_⟩) (by assumption) ?_
      rotate_left 1
      · (intro w0 hSw; (try dsimp only at hSw); go_simp; try (with_reducible rfl))
      try simp only [Act.put]
      try simp only [List.setIfInBounds_toArray]
      try simp only [List.set_cons_succ]
      try simp only [List.set_cons_zero]
      refine takeOp (i := 9) (v := ?_) (some 48) rfl rfl (by kernel_rfl) (by kernel_rfl) (by kernel_rfl) (fun _ _ _ h => h) (Or.inl ⟨by rfl, ?_⟩) (by assumption) ?_
      rotate_left 1
      · (intro w0 hSw; (try dsimp only at hSw); go_simp; try (with_reducible rfl))
      try simp only [Act.put]
      try simp only [List.setIfInBounds_toArray]
      try simp only [List.set_cons_succ]
      try simp only [List.set_cons_zero]
      refine wpAnyH_ready (rs := [2, 6]) (by kernel_rfl) (by simp) ?_
      refine AllReadyH.cons rfl (fun K hK => ?_) (AllReadyH.cons rfl (fun K hK => ?_) AllReadyH.nil)
      go_simp
      refine hK.out _ _ (HKP.out _ ((Ext.refl W3).alloc _).drew.below) (fun hHeld => ?_)
      clear hK K
      try simp only [Act.put]
      try simp only [List.setIfInBounds_toArray]
      try simp only [List.set_cons_succ]
      try simp only [List.set_cons_zero]
      refine wpAnyH_ready (rs := [4, 6]) (by kernel_rfl) (by simp) ?_
      refine AllReadyH.cons rfl (fun K hK => ?_) (AllReadyH.cons rfl (fun K hK => ?_) AllReadyH.nil)
      refine stepManyVals (w := (W3.alloc (.cells #[] 38)).drew) rfl (.tmp 41) (.tmp 42) rfl W3.heap.size W3.heap.size (by simp [Act.eval]) (Row.new W3 38 []) (Nat.le_refl _) QA QC q (by simp [Act.eval]) (HS3.out.alloc1 _) (by omega) ?_
      intro v1 W4 hown4 hg4 hat4
      have HB4 : Below W3.heap.size W3 W4 := Below.box (Below.undrew (below_of_grown hg4 (Nat.le_refl _) (by simp))) (Nat.le_refl _)
      clear hg4 hat4
      refine hK.out _ _ (HKP.out _ HB4) (fun hHeld => ?_)
      clear hK K
      try simp only [Act.put]
      try simp only [List.setIfInBounds_toArray]
      try simp only [List.set_cons_succ]
      try simp only [List.set_cons_zero]
      refine wpAnyH_ready (rs := [6]) (by kernel_rfl) (by simp) ?_
      refine AllReadyH.cons rfl (fun K hK => ?_) AllReadyH.nil
      go_simp
      refine hK.out _ _ (HKP.out _ (HB4.alloc HB4.size _)) (fun hHeld => ?_)
      clear hK K
      try simp only [Act.put]
      try simp only [List.setIfInBounds_toArray]
      try simp only [List.set_cons_succ]
      try simp only [List.set_cons_zero]
      have OWNV := own_keep hown4 ((Ext.refl W4).alloc (.cells #[.int .i64 kv.kind, .int .i64 kv.int, .string kv.str] 38)).below
      have ROWB := Row.new W4 38 (vcells kv)
      have HB4 := HB4.alloc HB4.size (.cells #[.int .i64 kv.kind, .int .i64 kv.int, .string kv.str] 38)
      clear hown4
      refine wpAnyH_ready (rs := [7]) (by kernel_rfl) (by simp) ?_
      refine AllReadyH.cons rfl (fun K hK => ?_) AllReadyH.nil
      refine stepVR (w := W4.alloc (.cells #[.int .i64 kv.kind, .int .i64 kv.int, .string kv.str] 38)) rfl (.tmp 43) (.tmp 45) rfl W3.heap.size v1 q (by simp [Act.eval]) (by exact OWNV) W4.heap.size kv (by simp [Act.eval]) (by exact ROWB) (by omega) (by exact HB4.size) ?_
      intro ng cap W5 hown5 hg5 hat5
      have HO5 := Lib.hid hown5
      have HB5 := Lib.hid (HB4.grown hg5 HB4.size (fun k hk => own_base OWNV hk))
      clear hown5 hg5 hat5 OWNV ROWB HB4
      refine hK.out _ _ (HKP.out _ HB5.out) (fun hHeld => ?_)
      clear hK K
      try simp only [Act.put]
      try simp only [List.setIfInBounds_toArray]
      try simp only [List.set_cons_succ]
      try simp only [List.set_cons_zero]
      rotate_left 1
      go_simp
      refine hK.out _ _ (HKP.out _ (((Ext.refl W3).alloc _).alloc _).drew.below) (fun hHeld => ?_)
      clear hK K
      try simp only [Act.put]
      try simp only [List.setIfInBounds_toArray]
      try simp only [List.set_cons_succ]
      try simp only [List.set_cons_zero]
      refine wpAnyH_ready (rs := [4]) (by kernel_rfl) (by simp) ?_
      refine AllReadyH.cons rfl (fun K hK => ?_) AllReadyH.nil
      refine stepManyVals (w := ((W3.alloc (.cells #[] 38)).alloc (.cells #[.int .i64 kv.kind, .int .i64 kv.int, .string kv.str] 38)).drew) rfl (.tmp 41) (.tmp 42) rfl W3.heap.size W3.heap.size (by simp [Act.eval]) ((Row.new W3 38 []).alloc _) (Nat.le_refl _) QA QC q (by simp [Act.eval]) ((HS3.out.alloc1 _).alloc1 _) (by omega) ?_
      intro v1 W4 hown4 hg4 hat4
      have HB4 : Below W3.heap.size W3 W4 := Below.box2 (Below.undrew (below_of_grown hg4 (Nat.le_refl _) (by simp; omega))) (Nat.le_refl _)
      have ROWB : Row W4 (W3.heap.size + 1) 38 (vcells kv) := by
        have h := Row.new (W3.alloc (.cells #[] 38)) 38 (vcells kv)
        rw [World.size_alloc] at h
        exact Row.grown (w := ((W3.alloc (.cells #[] 38)).alloc (.cells #[.int .i64 kv.kind, .int .i64 kv.int, .string kv.str] 38)).drew) h hg4 (fun e => by injection e; omega)
      have OWNV := hown4
      clear hg4 hat4 hown4
      refine hK.out _ _ (HKP.out _ HB4) (fun hHeld => ?_)
      clear hK K
      try simp only [Act.put]
      try simp only [List.setIfInBounds_toArray]
      try simp only [List.set_cons_succ]
      try simp only [List.set_cons_zero]
      refine wpAnyH_ready (rs := [7]) (by kernel_rfl) (by simp) ?_
      refine AllReadyH.cons rfl (fun K hK => ?_) AllReadyH.nil
      refine stepVR (w := W4) rfl (.tmp 43) (.tmp 45) rfl W3.heap.size v1 q (by simp [Act.eval]) (by exact OWNV) (W3.heap.size + 1) kv (by simp [Act.eval]) (by exact ROWB) (by omega) (by exact HB4.size) ?_
      intro ng cap W5 hown5 hg5 hat5
      have HO5 := Lib.hid hown5
      have HB5 := Lib.hid (HB4.grown hg5 HB4.size (fun k hk => own_base OWNV hk))
      clear hown5 hg5 hat5 OWNV ROWB HB4
      refine hK.out _ _ (HKP.out _ HB5.out) (fun hHeld => ?_)
      clear hK K
      try simp only [Act.put]
      try simp only [List.setIfInBounds_toArray]
      try simp only [List.set_cons_succ]
      try simp only [List.set_cons_zero]
      rotate_left 1
      go_simp
      refine hK.out _ _ (HKP.out _ ((Ext.refl W3).alloc _).drew.below) (fun hHeld => ?_)
      clear hK K
      try simp only [Act.put]
      try simp only [List.setIfInBounds_toArray]
      try simp only [List.set_cons_succ]
      try simp only [List.set_cons_zero]
      refine wpAnyH_ready (rs := [2]) (by kernel_rfl) (by simp) ?_
      refine AllReadyH.cons rfl (fun K hK => ?_) AllReadyH.nil
      go_simp
      refine hK.out _ _ (HKP.out _ (((Ext.refl W3).alloc _).alloc _).drew.below) (fun hHeld => ?_)
      clear hK K
      try simp only [Act.put]
      try simp only [List.setIfInBounds_toArray]
      try simp only [List.set_cons_succ]
      try simp only [List.set_cons_zero]
      refine wpAnyH_ready (rs := [4]) (by kernel_rfl) (by simp) ?_
      refine AllReadyH.cons rfl (fun K hK => ?_) AllReadyH.nil
      refine stepManyVals (w := ((W3.alloc (.cells #[.int .i64 kv.kind, .int .i64 kv.int, .string kv.str] 38)).alloc (.cells #[] 38)).drew) rfl (.tmp 41) (.tmp 42) rfl W3.heap.size (W3.heap.size + 1) (by simp [Act.eval]) (by have h := Row.new (W3.alloc (.cells #[.int .i64 kv.kind, .int .i64 kv.int, .string kv.str] 38)) 38 []; rw [World.size_alloc] at h; exact h) (by omega) QA QC q (by simp [Act.eval]) ((HS3.out.alloc1 _).alloc1 _) (by omega) ?_
      intro v1 W4 hown4 hg4 hat4
      have HB4 : Below W3.heap.size W3 W4 := Below.box2 (Below.undrew (below_of_grown hg4 (Nat.le_succ _) (by simp; omega))) (Nat.le_refl _)
      have ROWB : Row W4 W3.heap.size 38 (vcells kv) := Row.grown (w := ((W3.alloc (.cells #[.int .i64 kv.kind, .int .i64 kv.int, .string kv.str] 38)).alloc (.cells #[] 38)).drew) ((Row.new W3 38 (vcells kv)).alloc _) hg4 (fun e => by injection e; omega)
      have OWNV := hown4
      clear hg4 hat4 hown4
      refine hK.out _ _ (HKP.out _ HB4) (fun hHeld => ?_)
      clear hK K
      try simp only [Act.put]
      try simp only [List.setIfInBounds_toArray]
      try simp only [List.set_cons_succ]
      try simp only [List.set_cons_zero]
      refine wpAnyH_ready (rs := [7]) (by kernel_rfl) (by simp) ?_
      refine AllReadyH.cons rfl (fun K hK => ?_) AllReadyH.nil
      refine stepVR (w := W4) rfl (.tmp 43) (.tmp 45) rfl W3.heap.size v1 q (by simp [Act.eval]) (by exact OWNV) (W3.heap.size) kv (by simp [Act.eval]) (by exact ROWB) (by omega) (by exact HB4.size) ?_
      intro ng cap W5 hown5 hg5 hat5
      have HO5 := Lib.hid hown5
      have HB5 := Lib.hid (HB4.grown hg5 HB4.size (fun k hk => own_base OWNV hk))
      clear hown5 hg5 hat5 OWNV ROWB HB4
      refine hK.out _ _ (HKP.out _ HB5.out) (fun hHeld => ?_)
      clear hK K
      try simp only [Act.put]
      try simp only [List.setIfInBounds_toArray]
      try simp only [List.set_cons_succ]
      try simp only [List.set_cons_zero]
      all_goals
        obtain ⟨-, A5, C5, e5, hc5, hm5, hs5, hb5⟩ := SlR.of_own HO5.out
        injection e5 with e5 e6 e7
        subst e5 e7
        have hq1 : (q ++ [kv]).length = q.length + 1 := by simp
        have hz5 := HB5.out.size
        have hb35 := Below.then HB3.out HB5.out hz3
        have HC := Lib.hid (HIH.out (q ++ [kv]) (some (q, i)) (L - 1) (some ⟨ng, 0, none⟩) cap W5 (by omega) HAT.out (HIT3.out.up HB5.out) (HTW.out.below hb35 (by omega)) hs5 (fun _ ad e e2 => by have := hb5 ad e; omega) (by rw [← HKD.out]; omega) (by omega) (by have := HRE.out; omega))
        rw [hq1, ← HKD.out] at HC
        have HOW5 := Lib.hid (HOW3.out.up HB5.out)
        have HG5 := Lib.hid (grown_below HG3.out HB5.out (by omega))
        have k5 := HKP.out _ HB5.out
        clear e6 hc5 hm5 hs5 hb5 hb35 HO5 HB5 HOW3 HIT3 HG3 HKP HS3 HB3 t0 t1 t2
        refine wpAnyH_ready (rs := [10]) (by kernel_rfl) (by simp) ?_
        refine AllReadyH.cons rfl (fun K hK => ?_) AllReadyH.nil
        go_simp
        refine HC.out.mono ?_
        rintro e W6 ⟨v2, rfl, hown6, hit6, hg6⟩
        have hne6 : w2.heap.size ≠ g := by omega
        have KEEP6 : W6.cell? ⟨w2.heap.size, 0, none⟩ = some (.int .i64 kv.kind) ∧ W6.cell? ⟨w2.heap.size, 1, none⟩ = some (.int .i64 kv.int) ∧ W6.cell? ⟨w2.heap.size, 2, none⟩ = some (.string kv.str) :=
          ⟨(grown_cell hg6 (p := ⟨w2.heap.size, 0, none⟩) (by show w2.heap.size < _; omega) (fun e => hne6 (Option.some.inj e))).trans k5.1, (grown_cell hg6 (p := ⟨w2.heap.size, 1, none⟩) (by show w2.heap.size < _; omega) (fun e => hne6 (Option.some.inj e))).trans k5.2.1, (grown_cell hg6 (p := ⟨w2.heap.size, 2, none⟩) (by show w2.heap.size < _; omega) (fun e => hne6 (Option.some.inj e))).trans k5.2.2⟩
        obtain ⟨hs2, l1, l2⟩ := hown6
        obtain ⟨A2, C2, rfl, hcell, hnone⟩ := own_parts l1
        have HCL := Lib.hid hcell
        have HNN := Lib.hid hnone
        have HL2 := Lib.hid l2
        have hlt5 : Hid (∀ j, u10.ownBlock = some j → j < W5.heap.size) := by obtain ⟨_, j1, _⟩ := HOW5.out; exact own_lt j1
        obtain ⟨hs1, j1, j2⟩ := HOW5.out.grown hg6 hgw
        have HJ1 := Lib.hid j1
        have HJ2 := Lib.hid j2
        have HI6 := Lib.hid hit6
        have HG6 := Lib.hid (grown_trans HG5.out hg6)
        have hz6 := hg6.size
        clear hcell hnone l1 l2 j1 j2 hit6 hg6 HOW5 HG5 HC k5
        go_wp2_with fail
        refine hK.out _ _ KEEP6 (fun hHeld => ?_)
        clear hK K KEEP6
        try simp only [Act.put]
        try simp only [List.setIfInBounds_toArray]
        try simp only [List.set_cons_succ]
        try simp only [List.set_cons_zero]
        refine takeOp (i := 11) (v := ?_) (some 38) rfl rfl (by kernel_rfl) (by kernel_rfl) (by kernel_rfl) (fun _ _ _ h => h) (Or.inl ⟨by rfl, ?_⟩) (by assumption) ?_
        rotate_left 1
        · (intro w0 hSw; (try dsimp only at hSw); go_simp; try (with_reducible rfl))
        try simp only [Act.put]
        try simp only [List.setIfInBounds_toArray]
        try simp only [List.set_cons_succ]
        try simp only [List.set_cons_zero]
        refine takeOp (i := 12) (v := ?_) (some 50) rfl rfl (by kernel_rfl) (by kernel_rfl) (by kernel_rfl) (fun _ _ _ h => h) (Or.inl ⟨by rfl, ?_⟩) (by assumption) ?_
        rotate_left 1
        · (intro w0 hSw; (try dsimp only at hSw); go_simp; try (with_reducible rfl))
        try simp only [Act.put]
        try simp only [List.setIfInBounds_toArray]
        try simp only [List.set_cons_succ]
        try simp only [List.set_cons_zero]
        refine takeOp (i := 13) (v := ?_) (some 51) rfl rfl (by kernel_rfl) (by kernel_rfl) (by kernel_rfl) (fun _ _ _ h => h) (Or.inl ⟨by rfl, ?_⟩) (by assumption) ?_
        rotate_left 1
        · (intro w0 hSw; (try dsimp only at hSw); go_simp; try (with_reducible rfl))
        try simp only [Act.put]
        try simp only [List.setIfInBounds_toArray]
        try simp only [List.set_cons_succ]
        try simp only [List.set_cons_zero]
        refine takeOp (i := 14) (v := ?_) (some 14) rfl rfl (by kernel_rfl) (by kernel_rfl) (by kernel_rfl) (fun _ _ _ h => h) (Or.inl ⟨by rfl, ?_⟩) (by assumption) ?_
        rotate_left 1
        · (intro w0 hSw; (try dsimp only at hSw); go_simp; try (with_reducible rfl))
        try simp only [Act.put]
        try simp only [List.setIfInBounds_toArray]
        try simp only [List.set_cons_succ]
        try simp only [List.set_cons_zero]
        refine takeOp (i := 15) (v := ?_) (some 3) rfl rfl (by kernel_rfl) (by kernel_rfl) (by kernel_rfl) (fun _ _ _ h => h) (Or.inl ⟨by rfl, ?_⟩) (by assumption) ?_
        rotate_left 1
        · (intro w0 hSw; (try dsimp only at hSw); go_simp; try (with_reducible rfl))
        try simp only [Act.put]
        try simp only [List.setIfInBounds_toArray]
        try simp only [List.set_cons_succ]
        try simp only [List.set_cons_zero]
        refine wpAnyH_done (by kernel_rfl) ?_ _
        go_wp2_with (at_builtin; refine appH rfl (.tmp 52) (.tmp 53) rfl w.heap.size u10 (rowsK d P m q i).length hs1 rfl HJ1.out A2 (rowsN' d P m (q ++ [kv])).length C2 hs2 HL2.out.1 rfl HCL.out HNN.out HL2.out.cells (by have := HRE.out; omega) (by omega) ?_)
        intro v7 W7 hown7 hg7 hat7
        have HO7 : Hid (OwnRsF W7 w.heap.size v7 (rowsK d P m q (i + 1))) := by
          have h := OwnRsF.join HJ1.out HJ2.out HL2.out (by omega) hlt5.out hown7 hg7 hat7
          rw [← HRS.out] at h
          exact h
        have HI7 := Lib.hid (HI6.out.grown hg7 (fun e => by have := own_base HJ1.out e.symm; omega))
        have hb7 : Below w.heap.size W6 W7 := (Below.refl w.heap.size W6).grown hg7 (by omega) (fun k hk => own_base HJ1.out hk)
        have HG7 := Lib.hid (grown_below HG6.out hb7 (Nat.le_refl _))
        have HN := Lib.hid (itNext 0 g LA d C P (some (q, i)) s W7 HI7.out hP)
        rw [HIX.out, show onX d P (some (q, i + 1)) = decide (i + 1 < ks.length) by rw [HK.out]; rfl] at HN
        clear hown7 hg7 hat7 hb7 HI7 HI6 HG6 HJ1 HJ2 HL2 HCL HNN hlt5 hHeld
        go_wp2_with fail
        refine HN.out.mono ?_
        rintro e W8 ⟨rfl, hit8, hg8⟩
        have HO8 := Lib.hid (HO7.out.grown hg8 hgw)
        have HI8 := Lib.hid hit8
        have HG8 := Lib.hid (grown_trans HG7.out hg8)
        obtain ⟨kb, hkb⟩ : ∃ kb, kb = decide (i + 1 < ks.length) := ⟨_, rfl⟩
        have HKB := Lib.hid hkb
        rw [← hkb]
        clear hkb hit8 hg8 HN HO7 HG7
        go_wp2
        go_roundw
        case rel => exact ⟨i + 1, _, h1, by rw [HNX.out], rfl, by rw [← HKB.out], HO8.out, HI8.out, HG8.out⟩
        case measure => simp [intOf]; omega

end Go.Proofs.Ytlcammcifjihpaa
end

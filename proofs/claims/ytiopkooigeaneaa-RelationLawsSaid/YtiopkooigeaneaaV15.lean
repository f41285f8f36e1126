/- Walk: relation.Project. -/
import Derived.Test.YtiopkooigeaneaaV14
namespace Go.Proofs.Ytiopkooigeaneaa
open Go.RowKit Go.Sort

theorem MadeRs.hb {w : World} {g B : Nat} {E : TypeId} {X : List RL.R} (h : MadeRs w g E X X.length B) (hok : RsOk X) :
    ∃ d : Array (El w g), d.size = X.length ∧ X = d.toList.map El.row ∧ HB w w g 0 d := by
  obtain ⟨hs, h1, h2, h3, h4⟩ := h
  have pick : ∀ i (hi : i < X.length), ∃ e : El w g, hs[i]? = some e.val ∧ e.row = X[i] := fun i hi => by
    obtain ⟨A', C', g1, g2, g3, g4, g5⟩ := h4 i hi hi
    exact ⟨⟨.slice A' X[i].length C', X[i], A', C', rfl, g2, g3, g4, hok.at_ hi, fun hy ad e => (g5 hy ad e).1⟩, g1, rfl⟩
  obtain ⟨F, hF⟩ : ∃ F : Nat → El w g, ∀ i (hi : i < X.length), hs[i]? = some (F i).val ∧ (F i).row = X[i] :=
    ⟨fun i => if hi : i < X.length then (pick i hi).choose else default, fun i hi => by simp only [hi, dif_pos]; exact (pick i hi).choose_spec⟩
  refine ⟨((List.range X.length).map F).toArray, by simp, ?_, ⟨⟨rfl, rfl, rfl, Nat.le_refl _, fun _ _ _ => rfl⟩, fun j hj => ?_, h1.lt⟩⟩
  · apply List.ext_getElem (by simp)
    intro i h3 h4
    simp only [List.getElem_map, List.getElem_range]
    exact (hF i h3).2.symm
  · have hj' : j < X.length := by simpa using hj
    have e : ((List.range X.length).map F).toArray[j]! = F j := by
      rw [getElem!_pos ((List.range X.length).map F).toArray j hj]
      simp
    rw [e, Nat.zero_add]
    exact ⟨by rw [h1.cell]; exact (hF j hj').1, h1.frozen j⟩

theorem rlProject_arity (n : Int) (RA CA : Option Addr) (l RC c CC : Nat) (w : World) (h : 32 < c) (hc : c ≤ 1000000) :
    Calls Try.prog 28 #[.agg #[.int .i64 n, .slice RA l RC], .slice CA c CC] w fun e w' => e = .returned (.tuple #[.agg #[.int .i64 0, .slice none 0 0], .int .i64 6]) ∧ Ext w w' := by
  have h' : 32 < (c : Int) := by omega
  go_enter Try.func28, Try.ntmps28
  go_wp2
  exact bodyPost_ret (v := .tuple #[.agg #[.int .i64 0, .slice none 0 0], .int .i64 6]) (by simp [results, Try.results28, go_sem]) rfl ⟨rfl, ((Ext.refl w).alloc _).alloc _⟩

/-- All columns exist. -/
def colsOk (n : Int) (cs : List Int) : Bool := cs.all fun c => decide (0 ≤ c) && decide (c < n)

/-- What relation.Project leaves, of at most 32 columns. -/
def ProjPost (w : World) (n : Int) (X : List RL.R) (cs : List Int) (e : Ending) (w' : World) : Prop :=
  (colsOk n cs = false → e = .returned (.tuple #[.agg #[.int .i64 0, .slice none 0 0], .int .i64 3])) ∧ (colsOk n cs = true → ∃ v, e = .returned (.tuple #[v, .int .i64 0]) ∧ RelNew w.heap.size w' cs.length (RL.ofF (X.map (projF · cs))) v) ∧ Below w.heap.size w w'

theorem RsOk.proj {X : List RL.R} (h : RsOk X) {n : Int} {cs : List Int} (hcl : cs.length ≤ 32) (hlen : ∀ x ∈ X, (x.length : Int) = n) (hc : colsOk n cs = true) : RsOk (X.map (projF · cs)) := fun y hy => by
  obtain ⟨x, hx, rfl⟩ := List.mem_map.1 hy
  refine ⟨by simp [projF]; omega, fun v hv => ?_⟩
  obtain ⟨c, hcm, rfl⟩ := List.mem_map.1 hv
  have hok := List.all_eq_true.1 hc c hcm
  simp only [Bool.and_eq_true, decide_eq_true_eq] at hok
  have hl := hlen x hx
  have hlt : c.toNat < x.length := by omega
  have e : x.getD c.toNat zV = x[c.toNat] := by simp [List.getD, hlt]
  rw [e]
  exact (h x hx).2 _ (List.getElem_mem hlt)

set_option maxHeartbeats 2000000 in
set_option maxRecDepth 100000 in
theorem rlProject_any (n : Int) (RA CA : Option Addr) (RC CC : Nat) (X : List RL.R) (cs : List Int) (w : World) (hX : SlRs w.heap.size w RA X) (hcs : SlI .i64 w.heap.size w CA cs) (hXo : RsOk X) (hXl : X.length ≤ 60000) (hcl : cs.length ≤ 32) (hlen : ∀ x ∈ X, (x.length : Int) = n) :
    Calls Try.prog 28 #[.agg #[.int .i64 n, .slice RA X.length RC], .slice CA cs.length CC] w (ProjPost w n X cs) := by
  have HX := Lib.hid hX
  have HCS := Lib.hid hcs
  have HXO := Lib.hid hXo
  have HLEN := Lib.hid hlen
  have hmk := makeRows X.length (by omega)
  have HMK := Lib.hid hmk
  clear hX hcs hXo hlen hmk
  go_enter Try.func28, Try.ntmps28
  have h32 : decide (32 < (cs.length : Int)) = false := by simp; omega
  have q1 := (Row.new w 29 [.int .i64 n, .slice RA X.length RC]).alloc (.cells #[.int .i64 0, .slice none 0 0] 29)
  have q2 := Row.new (w.alloc (.cells #[.int .i64 n, .slice RA X.length RC] 29)) 29 [.int .i64 0, .slice none 0 0]
  simp only [World.size_alloc] at q2
  have HQ1 := Lib.hid q1
  have HQ2 := Lib.hid q2
  have HE0 := Lib.hid (((Ext.refl w).alloc (.cells #[.int .i64 n, .slice RA X.length RC] 29)).alloc (.cells #[.int .i64 0, .slice none 0 0] 29))
  clear q1 q2
  go_wp2
  generalize (w.alloc (.cells #[.int .i64 n, .slice RA X.length RC] 29)).alloc (.cells #[.int .i64 0, .slice none 0 0] 29) = W0 at *
  have hz0 := HQ2.out.lt
  go_loopw [15] (fun i wr => ∃ k m : Nat, k ≤ cs.length ∧ i = .int .i64 k ∧ colsOk n (cs.take k) = true ∧ wr = W0.drewN m) (fun i _ => cs.length - (intOf i).toNat)
  case atStart => exact ⟨0, 0, Nat.zero_le _, rfl, rfl, rfl⟩
  case round =>
    obtain ⟨k, m, hk, rfl, hco, rfl⟩ := hrel
    have HCO := Lib.hid hco
    clear hco
    by_cases h1 : k < cs.length
    · obtain ⟨b, o, rfl, hb, c1⟩ := slI_at HCS.out h1
      have d1 := (HE0.out.cell hb).trans c1
      have n0 : W0.cell? ⟨w.heap.size, 0, none⟩ = some (.int .i64 n) := HQ1.out.cell 0
      have HT := Lib.hid (List.take_succ_eq_append_getElem h1)
      have HM := Lib.hid (List.getElem_mem h1)
      generalize cs[k] = c at d1 HT HM
      by_cases g1 : c < 0
      · have HF : Hid (colsOk n cs = false) := by
          show _ = _
          unfold colsOk
          rw [List.all_eq_false]
          exact ⟨c, HM.out, by simp; omega⟩
        have r0 : (W0.drewN m).cell? ⟨w.heap.size + 1, 0, none⟩ = some (.int .i64 0) := HQ2.out.cell 0
        have r1 : (W0.drewN m).cell? ⟨w.heap.size + 1, 1, none⟩ = some (.slice none 0 0) := HQ2.out.cell 1
        have f0 : W0.frozen? ⟨w.heap.size + 1, 0, none⟩ = false := HQ2.out.frozen 0
        have f1 : W0.frozen? ⟨w.heap.size + 1, 1, none⟩ = false := HQ2.out.frozen 1
        have r0' : W0.cell? ⟨w.heap.size + 1, 0, none⟩ = some (.int .i64 0) := HQ2.out.cell 0
        have r1' : W0.cell? ⟨w.heap.size + 1, 1, none⟩ = some (.slice none 0 0) := HQ2.out.cell 1
        clear r0 r1 c1
        go_wp2
        go_quiet (fail)
        go_wp2
        refine bodyPost_ret (v := .tuple #[.agg #[.int .i64 0, .slice none 0 0], .int .i64 3]) (by simp [results, Try.results28, go_sem, r0', r1']) rfl ⟨fun _ => rfl, (fun h => by rw [HF.out] at h; cases h), ?_⟩
        exact ((Below.drewN' HE0.out.below _).setCell (p := ⟨w.heap.size + 1, 0, none⟩) (show w.heap.size ≤ w.heap.size + 1 by omega) _).setCell (p := ⟨w.heap.size + 1, 1, none⟩) (show w.heap.size ≤ w.heap.size + 1 by omega) _
      · by_cases g2 : n ≤ c
        · have HF : Hid (colsOk n cs = false) := by
            show _ = _
            unfold colsOk
            rw [List.all_eq_false]
            exact ⟨c, HM.out, by simp; omega⟩
          have f0 : W0.frozen? ⟨w.heap.size + 1, 0, none⟩ = false := HQ2.out.frozen 0
          have f1 : W0.frozen? ⟨w.heap.size + 1, 1, none⟩ = false := HQ2.out.frozen 1
          have r0' : W0.cell? ⟨w.heap.size + 1, 0, none⟩ = some (.int .i64 0) := HQ2.out.cell 0
          have r1' : W0.cell? ⟨w.heap.size + 1, 1, none⟩ = some (.slice none 0 0) := HQ2.out.cell 1
          have g1' : decide (c < 0) = false := by simpa using g1
          clear c1
          go_wp2
          go_quiet (fail)
          go_wp2
          refine bodyPost_ret (v := .tuple #[.agg #[.int .i64 0, .slice none 0 0], .int .i64 3]) (by simp [results, Try.results28, go_sem, r0', r1']) rfl ⟨fun _ => rfl, (fun h => by rw [HF.out] at h; cases h), ?_⟩
          exact ((Below.drewN' HE0.out.below _).setCell (p := ⟨w.heap.size + 1, 0, none⟩) (show w.heap.size ≤ w.heap.size + 1 by omega) _).setCell (p := ⟨w.heap.size + 1, 1, none⟩) (show w.heap.size ≤ w.heap.size + 1 by omega) _
        · have HCO2 : Hid (colsOk n (cs.take (k + 1)) = true) := by
            show _ = _
            rw [HT.out]
            unfold colsOk
            rw [List.all_append]
            have := HCO.out
            unfold colsOk at this
            rw [this]
            simp; omega
          have g1' : decide (c < 0) = false := by simpa using g1
          have g2' : decide (n ≤ c) = false := by simpa using g2
          clear c1
          go_wp2
          go_quiet (fail)
          go_wp2
          go_roundw
          case rel => exact ⟨k + 1, _, by omega, by go_num, HCO2.out, rfl⟩
          case measure => simp [intOf]; omega
    · have HT := Lib.hid (List.take_of_length_le (show cs.length ≤ k by omega))
      rw [HT.out] at HCO
      have hmk := HMK.out
      have n1 : W0.cell? ⟨w.heap.size, 1, none⟩ = some (.slice RA X.length RC) := HQ1.out.cell 1
      go_wp2
      clear hmk HMK
      have hz1 := HQ1.out.lt
      have HM0 := Lib.hid (MadeRs.start (W0.drewN m) 24 (X.map (projF · cs)))
      have hml : (X.map (projF · cs)).length = X.length := by simp
      rw [hml] at HM0
      have HML := Lib.hid hml
      clear hml n1
      have HQ1' := Lib.hid (((HQ1.out.drewN m).alloc (.cells (zerosA (.slice none 0 0) X.length) 24)))
      have HQ2' := Lib.hid (((HQ2.out.drewN m).alloc (.cells (zerosA (.slice none 0 0) X.length) 24)))
      have HB0 := Lib.hid ((Below.drewN' HE0.out.below m).alloc (show w.heap.size ≤ W0.heap.size by omega) (.cells (zerosA (.slice none 0 0) X.length) 24))
      have HYO := Lib.hid (HXO.out.proj hcl HLEN.out HCO.out)
      have hlo : w.heap.size + 1 < W0.heap.size := hz0
      have HM1 : Hid (MadeRs ((W0.drewN m).alloc (.cells (zerosA (.slice none 0 0) X.length) 24)) W0.heap.size 24 (X.map (projF · cs)) 0 W0.heap.size) := HM0.out
      clear HM0
      go_loopw [40] (fun i wr => ∃ k : Nat, k ≤ X.length ∧ i = .int .i64 k ∧ MadeRs wr W0.heap.size 24 (X.map (projF · cs)) k W0.heap.size ∧ Row wr w.heap.size 29 [.int .i64 n, .slice RA X.length RC] ∧ Row wr (w.heap.size + 1) 29 [.int .i64 0, .slice none 0 0] ∧ Below w.heap.size w wr) (fun i _ => X.length - (intOf i).toNat)
      case atStart => exact ⟨0, Nat.zero_le _, rfl, HM1.out, HQ1'.out, HQ2'.out, HB0.out⟩
      case round =>
        obtain ⟨j, hj, rfl, hM, hr1, hr2, hbel⟩ := hrel
        have HM := Lib.hid hM
        have HR1 := Lib.hid hr1
        have HR2 := Lib.hid hr2
        have HB := Lib.hid hbel
        have hml := hM.lt
        clear hM HM1 HQ1' HQ2' HB0
        by_cases h2 : j < X.length
        · obtain ⟨b, o, A1, C1, rfl, hb, c1, -, -, s1⟩ := slRs_at HX.out h2
          have d1 := (hbel.cell (p := ⟨b, o + j, none⟩) hb).trans c1
          have n1 : wr.cell? ⟨w.heap.size, 1, none⟩ = some (.slice (some ⟨b, o, none⟩) X.length RC) := hr1.cell 1
          have hxl := HLEN.out X[j] (List.getElem_mem h2)
          have HC := Lib.hid (rwProject_ok A1 CA C1 CC X[j] cs wr ((s1.below hbel (Nat.le_refl _)).more hbel.size) ((HCS.out.below hbel (Nat.le_refl _)).more hbel.size) (HXO.out.at_ h2).1 (by omega) (fun c hc => by
            have hok := List.all_eq_true.1 HCO.out c hc
            simp only [Bool.and_eq_true, decide_eq_true_eq] at hok
            omega))
          have hjy : j < (X.map (projF · cs)).length := by rw [HML.out]; exact h2
          have HY : Hid ((X.map (projF · cs))[j] = projF X[j] cs) := by show _ = _; simp
          clear c1 s1 hbel hr1 hr2 hxl
          generalize X[j] = x at d1 HC HY
          go_wp2_with fail
          refine HC.out.mono ?_
          rintro e w4 ⟨rfl, hrow4, hb4⟩
          have hsl4 : SlR w4.heap.size w4 (some ⟨wr.heap.size, 0, none⟩) (projF x cs) := hrow4.sl
          have hpl : (projF x cs).length = cs.length := projF_length x cs
          have HM4 := Lib.hid (HM.out.keep hb4)
          obtain ⟨u, hu⟩ := HM4.out.cell hjy
          have hfz := HM4.out.frozen j
          have hset := HM4.out.set hjy (A' := some ⟨wr.heap.size, 0, none⟩) (C' := cs.length) (by rw [HY.out, hpl]; exact Nat.le_refl _) (by omega) (by rw [HY.out]; exact hsl4) (fun _ ad e => by injection e with e; subst e; exact ⟨by simp only; omega, by simp only; omega, fun o => hrow4.frozen o⟩)
          rw [HY.out, hpl] at hset
          have HSET := Lib.hid hset
          have HR14 := Lib.hid ((HR1.out.below hb4 HR1.out.lt).far (p := ⟨W0.heap.size, j, none⟩) (show w.heap.size ≠ W0.heap.size by omega) (.slice (some ⟨wr.heap.size, 0, none⟩) cs.length cs.length))
          have HR24 := Lib.hid ((HR2.out.below hb4 HR2.out.lt).far (p := ⟨W0.heap.size, j, none⟩) (show w.heap.size + 1 ≠ W0.heap.size by omega) (.slice (some ⟨wr.heap.size, 0, none⟩) cs.length cs.length))
          have HB4 := Lib.hid ((Below.then HB.out hb4 HB.out.size).setCell (p := ⟨W0.heap.size, j, none⟩) (show w.heap.size ≤ W0.heap.size by omega) (.slice (some ⟨wr.heap.size, 0, none⟩) cs.length cs.length))
          have hz4 := hb4.size
          clear hset hrow4 hb4 hsl4 hpl HC d1 n1
          go_wp2
          go_roundw
          case rel => exact ⟨j + 1, by omega, by go_num, HSET.out, HR14.out, HR24.out, HB4.out⟩
          case measure => simp [intOf]; omega
        · obtain rfl : j = X.length := by omega
          by_cases hnil : X = []
          · subst hnil
            simp only [List.length_nil, List.map_nil] at *
            go_wp2_with fail
            refine (rlBuild_nil (cs.length : Int) (some ⟨W0.heap.size, 0, none⟩) 0 _).mono ?_
            rintro e w5 ⟨rfl, hx5⟩
            have r5 := HR2.out.below hx5.below HR2.out.lt
            have c0 : w5.cell? ⟨w.heap.size + 1, 0, none⟩ = some (.int .i64 0) := r5.cell 0
            have c1 : w5.cell? ⟨w.heap.size + 1, 1, none⟩ = some (.slice none 0 0) := r5.cell 1
            have f0 := r5.frozen 0
            have f1 := r5.frozen 1
            have hz5 := r5.lt
            have HB5 := Lib.hid (Below.then HB.out hx5.below HB.out.size)
            have z0 : (w5.setCell ⟨w.heap.size + 1, 0, none⟩ (.int .i64 cs.length)).cell? ⟨w.heap.size + 1, 0, none⟩ = some (.int .i64 cs.length) := World.cell?_setCell_same _ _ _ c0
            have z1 : ((w5.setCell ⟨w.heap.size + 1, 0, none⟩ (.int .i64 cs.length)).setCell ⟨w.heap.size + 1, 1, none⟩ (.slice (some ⟨W0.heap.size, 0, none⟩) 0 0)).cell? ⟨w.heap.size + 1, 1, none⟩ = some (.slice (some ⟨W0.heap.size, 0, none⟩) 0 0) := World.cell?_setCell_same _ _ _ ((World.cell?_setCell_other _ _ _ _ (by simp)).trans c1)
            have Z0 := Lib.hid z0
            have Z1 := Lib.hid z1
            clear r5 hx5 z0 z1 hr1 hr2
            go_wp2
            refine bodyPost_ret (v := .tuple #[.agg #[.int .i64 cs.length, .slice (some ⟨W0.heap.size, 0, none⟩) 0 0], .int .i64 0]) (by simp [results, Try.results28, go_sem, Z0.out, Z1.out]) rfl ⟨(fun h => by rw [HCO.out] at h; cases h), ?_, ?_⟩
            · intro _
              exact ⟨_, rfl, _, 0, rfl, by simp [RL.ofF], by omega, FreshRs.nil⟩
            · exact (HB5.out.setCell (p := ⟨w.heap.size + 1, 0, none⟩) (show w.heap.size ≤ w.heap.size + 1 by omega) _).setCell (p := ⟨w.heap.size + 1, 1, none⟩) (show w.heap.size ≤ w.heap.size + 1 by omega) _
          · have hpos : 1 ≤ X.length := by cases X with | nil => exact absurd rfl hnil | cons _ _ => simp
            have hM2 : MadeRs wr W0.heap.size 24 (X.map (projF · cs)) (X.map (projF · cs)).length W0.heap.size := by rw [HML.out]; exact HM.out
            obtain ⟨d, hds, hrows, hHB⟩ := hM2.hb HYO.out
            rw [HML.out] at hds
            have HBU := Lib.hid (rlBuild_any (cs.length : Int) X.length hHB (by omega) (by omega) (by omega) (by omega) _ hrows)
            rw [hds] at HBU
            have hofl := RL.ofF_length_le (X.map (projF · cs))
            rw [HML.out] at hofl
            clear hHB hrows hds hnil hM2 hr1 hr2
            obtain ⟨Y, hY⟩ : ∃ Y, Y = RL.ofF (X.map (projF · cs)) := ⟨_, rfl⟩
            rw [← hY] at HBU hofl
            have HYE := Lib.hid hY
            clear hY
            go_wp2_with fail
            refine HBU.out.mono ?_
            rintro e w5 ⟨rfl, hs5, hg5⟩
            have hne : w.heap.size + 1 ≠ W0.heap.size := by omega
            have r5 := HR2.out.grown hg5 (fun e => hne (by injection e))
            have c0 : w5.cell? ⟨w.heap.size + 1, 0, none⟩ = some (.int .i64 0) := r5.cell 0
            have c1 : w5.cell? ⟨w.heap.size + 1, 1, none⟩ = some (.slice none 0 0) := r5.cell 1
            have f0 := r5.frozen 0
            have f1 := r5.frozen 1
            have hz5 := r5.lt
            have h2z := HR2.out.lt
            have HB5 := Lib.hid (HB.out.grown hg5 (by omega) (fun k hk => by injection hk with hk; omega))
            have z0 : (w5.setCell ⟨w.heap.size + 1, 0, none⟩ (.int .i64 cs.length)).cell? ⟨w.heap.size + 1, 0, none⟩ = some (.int .i64 cs.length) := World.cell?_setCell_same _ _ _ c0
            have z1 : ((w5.setCell ⟨w.heap.size + 1, 0, none⟩ (.int .i64 cs.length)).setCell ⟨w.heap.size + 1, 1, none⟩ (.slice (some ⟨W0.heap.size, 0, none⟩) Y.length X.length)).cell? ⟨w.heap.size + 1, 1, none⟩ = some (.slice (some ⟨W0.heap.size, 0, none⟩) Y.length X.length) := World.cell?_setCell_same _ _ _ ((World.cell?_setCell_other _ _ _ _ (by simp)).trans c1)
            have Z0 := Lib.hid z0
            have Z1 := Lib.hid z1
            have HSL : Hid (FreshRs w.heap.size ((w5.setCell ⟨w.heap.size + 1, 0, none⟩ (.int .i64 cs.length)).setCell ⟨w.heap.size + 1, 1, none⟩ (.slice (some ⟨W0.heap.size, 0, none⟩) Y.length X.length)) (some ⟨W0.heap.size, 0, none⟩) Y) := fun w'' hk => by
              have h := hs5 w'' (fun p hpl hp => by
                have hpn : p.block ≠ w.heap.size + 1 := by rcases hp with hp | hp <;> omega
                rw [hk p (by rcases hp with hp | hp <;> omega) (by simpa using hpl)]
                exact (far_cell (p := ⟨w.heap.size + 1, 1, none⟩) (fun e => hpn e.symm) (far_cell (p := ⟨w.heap.size + 1, 0, none⟩) (fun e => hpn e.symm) rfl)))
              simpa using h
            clear r5 hs5 hg5 z0 z1
            go_wp2
            refine bodyPost_ret (v := .tuple #[.agg #[.int .i64 cs.length, .slice (some ⟨W0.heap.size, 0, none⟩) Y.length X.length], .int .i64 0]) (by simp [results, Try.results28, go_sem, Z0.out, Z1.out]) rfl ⟨(fun h => by rw [HCO.out] at h; cases h), ?_, ?_⟩
            · intro _
              rw [← HYE.out]
              exact ⟨_, rfl, _, X.length, rfl, by omega, by omega, HSL.out⟩
            · exact (HB5.out.setCell (p := ⟨w.heap.size + 1, 0, none⟩) (show w.heap.size ≤ w.heap.size + 1 by omega) _).setCell (p := ⟨w.heap.size + 1, 1, none⟩) (show w.heap.size ≤ w.heap.size + 1 by omega) _

end Go.Proofs.Ytiopkooigeaneaa

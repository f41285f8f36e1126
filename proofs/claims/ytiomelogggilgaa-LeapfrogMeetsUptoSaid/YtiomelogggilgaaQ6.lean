/- Parts of the proof, merged: W2, V15, U3, K5, K6, K7, U5, K8, K9, N2. -/
import Derived.Test.YtiomelogggilgaaRows
import Derived.Test.YtiomelogggilgaaQ1
import Derived.Test.YtiomelogggilgaaQ3
import Derived.Test.YtiomelogggilgaaQ5
import Derived.Deep.DeepCutAuto

section
namespace Go.Proofs.Ytiomelogggilgaa
open Go.RowKit

/-- The first place of a number in a list, or -1. -/
def idxF (xs : List Int) (x : Int) : Int := match xs.findIdx? (· == x) with | some i => i | none => -1
theorem idxF_at {xs : List Int} {x : Int} {k : Nat} (hk : k < xs.length) (h : xs[k] = x) (hall : ∀ i (_h1 : i < k) (h2 : i < xs.length), xs[i] ≠ x) : idxF xs x = k := by
  unfold idxF
  have : xs.findIdx? (· == x) = some k := by
    rw [List.findIdx?_eq_some_iff_getElem]
    exact ⟨hk, by simpa using h, fun j hj => by simpa using hall j hj (by omega)⟩
  rw [this]
theorem idxF_none {xs : List Int} {x : Int} (hall : ∀ i (h2 : i < xs.length), xs[i] ≠ x) : idxF xs x = -1 := by
  unfold idxF
  have : xs.findIdx? (· == x) = none := by
    rw [List.findIdx?_eq_none_iff]
    intro y hy
    obtain ⟨i, hi, rfl⟩ := List.getElem_of_mem hy
    simpa using hall i hi
  rw [this]

theorem take_eq_of {xs ys : List Int} {k : Nat} (hl : xs.length = ys.length) (h : ∀ i (_h1 : i < k) (h2 : i < xs.length) (h3 : i < ys.length), xs[i] = ys[i]) (hk : xs.length ≤ k) : xs = ys := by
  apply List.ext_getElem hl
  intro i h2 h3
  exact h i (by omega) h2 h3

set_option maxHeartbeats 400000 in
theorem idxInt_any (XA : Option Addr) (XC : Nat) (xs : List Int) (x : Int) (w : World) (hx : SlI .i64 w.heap.size w XA xs) (hxl : xs.length ≤ 1000000) :
    Calls Try.prog 85 #[.slice XA xs.length XC, .int .i64 x] w fun e w' => e = .returned (.int .i64 (idxF xs x)) ∧ w = w' := by
  go_enter Try.func85, Try.ntmps85
  go_wp2
  go_loop [8] (fun i => ∃ k : Nat, k ≤ xs.length ∧ i = .int .i64 k ∧ (∀ i (h1 : i < k) (h2 : i < xs.length), xs[i] ≠ x)) (fun i => xs.length - (intOf i).toNat)
  case atStart => exact ⟨0, Nat.zero_le _, rfl, fun i h => absurd h (by omega)⟩
  case round =>
    obtain ⟨k, hk, rfl, hall⟩ := hrel
    have HA := Lib.hid hall
    clear hall
    by_cases hlt : k < xs.length
    · obtain ⟨b, o, rfl, hbb, hc⟩ := slI_at hx hlt
      generalize hxk : xs[k] = xk at *
      have HX := Lib.hid hxk
      clear hxk hx
      by_cases heq : xk = x
      · have hne2 : (x == xk) = true := by simp [heq]
        have hd : idxF xs x = k := idxF_at hlt (HX.out.trans heq) HA.out
        have HD := Lib.hid hd
        clear heq hd
        go_wp2
        go_ret
        exact ⟨ret_int HD.out.symm, rfl⟩
      · have hne2 : (x == xk) = false := by simp; exact fun h => heq h.symm
        have HE := Lib.hid heq
        clear heq
        go_wp2
        go_round
        case rel =>
          refine ⟨k + 1, by omega, by go_num, ?_⟩
          intro i h1 h2
          by_cases hik : i < k
          · exact HA.out i hik h2
          · obtain rfl : i = k := by omega
            rw [HX.out]; exact HE.out
        case measure => simp [intOf]; omega
    · have hd : idxF xs x = -1 := idxF_none fun i h2 => HA.out i (by omega) h2
      have HD := Lib.hid hd
      clear hd hx
      go_wp2
      go_ret
      exact ⟨ret_int HD.out.symm, rfl⟩

end Go.Proofs.Ytiomelogggilgaa
end

section
/- Walk: relation.Project. -/
namespace Go.Proofs.Ytiomelogggilgaa
open Go.RowKit Go.Sort

theorem MadeRs.hb {w : World} {g B : Nat} {E : TypeId} {X : List RL.R} (h : MadeRs w g E X X.length B) (hok : RsOk X) :
    ∃ d : Array (El w g), d.size = X.length ∧ X = d.toList.map El.row ∧ HB w w g 0 d := by
  obtain ⟨hs, h1, h2, h3, h4⟩ := h
  have pick : ∀ i (hi : i < X.length), ∃ e : El w g, hs[i]? = some e.val ∧ e.row = X[i] := fun i hi => by
    obtain ⟨A', C', g1, g2, g3, g4, g5⟩ := h4 i hi hi
    exact ⟨⟨.slice A' X[i].length C', X[i], A', C', rfl, g2, g3, g4, hok.at_ hi, fun hy ad e => (g5 hy ad e).1⟩, g1, rfl⟩
  obtain ⟨F, hF⟩ : ∃ F : Nat → El w g, ∀ i (hi : i < X.length), hs[i]? = some (F i).val ∧ (F i).row = X[i] :=
    ⟨fun i => if hi : i < X.length then (pick i hi).choose else default, fun i hi => by simp only [hi, dif_pos]; exact (pick i hi).choose_spec⟩
  refine ⟨((List.range X.length).map F).toArray, by simp, ?_, ⟨⟨rfl, rfl, rfl, Nat.le_refl _, fun _ _ _ => rfl⟩, fun j hj => ?_, h1.lt⟩⟩
  · apply List.ext_getElem (by simp)
    intro i h3 h4
    simp only [List.getElem_map, List.getElem_range]
    exact (hF i h3).2.symm
  · have hj' : j < X.length := by simpa using hj
    have e : ((List.range X.length).map F).toArray[j]! = F j := by
      rw [getElem!_pos ((List.range X.length).map F).toArray j hj]
      simp
    rw [e, Nat.zero_add]
    exact ⟨by rw [h1.cell]; exact (hF j hj').1, h1.frozen j⟩

theorem rlProject_arity (n : Int) (RA CA : Option Addr) (l RC c CC : Nat) (w : World) (h : 32 < c) (hc : c ≤ 1000000) :
    Calls Try.prog 71 #[.agg #[.int .i64 n, .slice RA l RC], .slice CA c CC] w fun e w' => e = .returned (.tuple #[.agg #[.int .i64 0, .slice none 0 0], .int .i64 6]) ∧ Ext w w' := by
  have h' : 32 < (c : Int) := by omega
  go_enter Try.func71, Try.ntmps71
  go_wp2
  exact bodyPost_ret (v := .tuple #[.agg #[.int .i64 0, .slice none 0 0], .int .i64 6]) (by simp [results, Try.results71, go_sem]) rfl ⟨rfl, ((Ext.refl w).alloc _).alloc _⟩

/-- All columns exist. -/
def colsOk (n : Int) (cs : List Int) : Bool := cs.all fun c => decide (0 ≤ c) && decide (c < n)

/-- What relation.Project leaves, of at most 32 columns. -/
def ProjPost (w : World) (n : Int) (X : List RL.R) (cs : List Int) (e : Ending) (w' : World) : Prop :=
  (colsOk n cs = false → e = .returned (.tuple #[.agg #[.int .i64 0, .slice none 0 0], .int .i64 3])) ∧ (colsOk n cs = true → ∃ v, e = .returned (.tuple #[v, .int .i64 0]) ∧ RelNew w.heap.size w' cs.length (RL.ofF (X.map (projF · cs))) v) ∧ Below w.heap.size w w'

theorem RsOk.proj {X : List RL.R} (h : RsOk X) {n : Int} {cs : List Int} (hcl : cs.length ≤ 32) (hlen : ∀ x ∈ X, (x.length : Int) = n) (hc : colsOk n cs = true) : RsOk (X.map (projF · cs)) := fun y hy => by
  obtain ⟨x, hx, rfl⟩ := List.mem_map.1 hy
  refine ⟨by simp [projF]; omega, fun v hv => ?_⟩
  obtain ⟨c, hcm, rfl⟩ := List.mem_map.1 hv
  have hok := List.all_eq_true.1 hc c hcm
  simp only [Bool.and_eq_true, decide_eq_true_eq] at hok
  have hl := hlen x hx
  have hlt : c.toNat < x.length := by omega
  have e : x.getD c.toNat zV = x[c.toNat] := by simp [List.getD, hlt]
  rw [e]
  exact (h x hx).2 _ (List.getElem_mem hlt)

set_option maxHeartbeats 2000000 in
set_option maxRecDepth 100000 in
theorem rlProject_any (n : Int) (RA CA : Option Addr) (RC CC : Nat) (X : List RL.R) (cs : List Int) (w : World) (hX : SlRs w.heap.size w RA X) (hcs : SlI .i64 w.heap.size w CA cs) (hXo : RsOk X) (hXl : X.length ≤ 60000) (hcl : cs.length ≤ 32) (hlen : ∀ x ∈ X, (x.length : Int) = n) :
    Calls Try.prog 71 #[.agg #[.int .i64 n, .slice RA X.length RC], .slice CA cs.length CC] w (ProjPost w n X cs) := by
  have HX := Lib.hid hX
  have HCS := Lib.hid hcs
  have HXO := Lib.hid hXo
  have HLEN := Lib.hid hlen
  have hmk := makeRows X.length (by omega)
  have HMK := Lib.hid hmk
  clear hX hcs hXo hlen hmk
  go_enter Try.func71, Try.ntmps71
  have h32 : decide (32 < (cs.length : Int)) = false := by simp; omega
  have q1 := (Row.new w 48 [.int .i64 n, .slice RA X.length RC]).alloc (.cells #[.int .i64 0, .slice none 0 0] 48)
  have q2 := Row.new (w.alloc (.cells #[.int .i64 n, .slice RA X.length RC] 48)) 48 [.int .i64 0, .slice none 0 0]
  simp only [World.size_alloc] at q2
  have HQ1 := Lib.hid q1
  have HQ2 := Lib.hid q2
  have HE0 := Lib.hid (((Ext.refl w).alloc (.cells #[.int .i64 n, .slice RA X.length RC] 48)).alloc (.cells #[.int .i64 0, .slice none 0 0] 48))
  clear q1 q2
  go_wp2
  generalize (w.alloc (.cells #[.int .i64 n, .slice RA X.length RC] 48)).alloc (.cells #[.int .i64 0, .slice none 0 0] 48) = W0 at *
  have hz0 := HQ2.out.lt
  go_loopw [15] (fun i wr => ∃ k m : Nat, k ≤ cs.length ∧ i = .int .i64 k ∧ colsOk n (cs.take k) = true ∧ wr = W0.drewN m) (fun i _ => cs.length - (intOf i).toNat)
  case atStart => exact ⟨0, 0, Nat.zero_le _, rfl, rfl, rfl⟩
  case round =>
    obtain ⟨k, m, hk, rfl, hco, rfl⟩ := hrel
    have HCO := Lib.hid hco
    clear hco
    by_cases h1 : k < cs.length
    · obtain ⟨b, o, rfl, hb, c1⟩ := slI_at HCS.out h1
      have d1 := (HE0.out.cell hb).trans c1
      have n0 : W0.cell? ⟨w.heap.size, 0, none⟩ = some (.int .i64 n) := HQ1.out.cell 0
      have HT := Lib.hid (List.take_succ_eq_append_getElem h1)
      have HM := Lib.hid (List.getElem_mem h1)
      generalize cs[k] = c at d1 HT HM
      by_cases g1 : c < 0
      · have HF : Hid (colsOk n cs = false) := by
          show _ = _
          unfold colsOk
          rw [List.all_eq_false]
          exact ⟨c, HM.out, by simp; omega⟩
        have r0 : (W0.drewN m).cell? ⟨w.heap.size + 1, 0, none⟩ = some (.int .i64 0) := HQ2.out.cell 0
        have r1 : (W0.drewN m).cell? ⟨w.heap.size + 1, 1, none⟩ = some (.slice none 0 0) := HQ2.out.cell 1
        have f0 : W0.frozen? ⟨w.heap.size + 1, 0, none⟩ = false := HQ2.out.frozen 0
        have f1 : W0.frozen? ⟨w.heap.size + 1, 1, none⟩ = false := HQ2.out.frozen 1
        have r0' : W0.cell? ⟨w.heap.size + 1, 0, none⟩ = some (.int .i64 0) := HQ2.out.cell 0
        have r1' : W0.cell? ⟨w.heap.size + 1, 1, none⟩ = some (.slice none 0 0) := HQ2.out.cell 1
        clear r0 r1 c1
        go_wp2
        go_quiet (fail)
        go_wp2
        refine bodyPost_ret (v := .tuple #[.agg #[.int .i64 0, .slice none 0 0], .int .i64 3]) (by simp [results, Try.results71, go_sem, r0', r1']) rfl ⟨fun _ => rfl, (fun h => by rw [HF.out] at h; cases h), ?_⟩
        exact ((Below.drewN' HE0.out.below _).setCell (p := ⟨w.heap.size + 1, 0, none⟩) (show w.heap.size ≤ w.heap.size + 1 by omega) _).setCell (p := ⟨w.heap.size + 1, 1, none⟩) (show w.heap.size ≤ w.heap.size + 1 by omega) _
      · by_cases g2 : n ≤ c
        · have HF : Hid (colsOk n cs = false) := by
            show _ = _
            unfold colsOk
            rw [List.all_eq_false]
            exact ⟨c, HM.out, by simp; omega⟩
          have f0 : W0.frozen? ⟨w.heap.size + 1, 0, none⟩ = false := HQ2.out.frozen 0
          have f1 : W0.frozen? ⟨w.heap.size + 1, 1, none⟩ = false := HQ2.out.frozen 1
          have r0' : W0.cell? ⟨w.heap.size + 1, 0, none⟩ = some (.int .i64 0) := HQ2.out.cell 0
          have r1' : W0.cell? ⟨w.heap.size + 1, 1, none⟩ = some (.slice none 0 0) := HQ2.out.cell 1
          have g1' : decide (c < 0) = false := by simpa using g1
          clear c1
          go_wp2
          go_quiet (fail)
          go_wp2
          refine bodyPost_ret (v := .tuple #[.agg #[.int .i64 0, .slice none 0 0], .int .i64 3]) (by simp [results, Try.results71, go_sem, r0', r1']) rfl ⟨fun _ => rfl, (fun h => by rw [HF.out] at h; cases h), ?_⟩
          exact ((Below.drewN' HE0.out.below _).setCell (p := ⟨w.heap.size + 1, 0, none⟩) (show w.heap.size ≤ w.heap.size + 1 by omega) _).setCell (p := ⟨w.heap.size + 1, 1, none⟩) (show w.heap.size ≤ w.heap.size + 1 by omega) _
        · have HCO2 : Hid (colsOk n (cs.take (k + 1)) = true) := by
            show _ = _
            rw [HT.out]
            unfold colsOk
            rw [List.all_append]
            have := HCO.out
            unfold colsOk at this
            rw [this]
            simp; omega
          have g1' : decide (c < 0) = false := by simpa using g1
          have g2' : decide (n ≤ c) = false := by simpa using g2
          clear c1
          go_wp2
          go_quiet (fail)
          go_wp2
          go_roundw
          case rel => exact ⟨k + 1, _, by omega, by go_num, HCO2.out, rfl⟩
          case measure => simp [intOf]; omega
    · have HT := Lib.hid (List.take_of_length_le (show cs.length ≤ k by omega))
      rw [HT.out] at HCO
      have hmk := HMK.out
      have n1 : W0.cell? ⟨w.heap.size, 1, none⟩ = some (.slice RA X.length RC) := HQ1.out.cell 1
      go_wp2
      clear hmk HMK
      have hz1 := HQ1.out.lt
      have HM0 := Lib.hid (MadeRs.start (W0.drewN m) 34 (X.map (projF · cs)))
      have hml : (X.map (projF · cs)).length = X.length := by simp
      rw [hml] at HM0
      have HML := Lib.hid hml
      clear hml n1
      have HQ1' := Lib.hid (((HQ1.out.drewN m).alloc (.cells (zerosA (.slice none 0 0) X.length) 34)))
      have HQ2' := Lib.hid (((HQ2.out.drewN m).alloc (.cells (zerosA (.slice none 0 0) X.length) 34)))
      have HB0 := Lib.hid ((Below.drewN' HE0.out.below m).alloc (show w.heap.size ≤ W0.heap.size by omega) (.cells (zerosA (.slice none 0 0) X.length) 34))
      have HYO := Lib.hid (HXO.out.proj hcl HLEN.out HCO.out)
      have hlo : w.heap.size + 1 < W0.heap.size := hz0
      have HM1 : Hid (MadeRs ((W0.drewN m).alloc (.cells (zerosA (.slice none 0 0) X.length) 34)) W0.heap.size 34 (X.map (projF · cs)) 0 W0.heap.size) := HM0.out
      clear HM0
      go_loopw [40] (fun i wr => ∃ k : Nat, k ≤ X.length ∧ i = .int .i64 k ∧ MadeRs wr W0.heap.size 34 (X.map (projF · cs)) k W0.heap.size ∧ Row wr w.heap.size 48 [.int .i64 n, .slice RA X.length RC] ∧ Row wr (w.heap.size + 1) 48 [.int .i64 0, .slice none 0 0] ∧ Below w.heap.size w wr) (fun i _ => X.length - (intOf i).toNat)
      case atStart => exact ⟨0, Nat.zero_le _, rfl, HM1.out, HQ1'.out, HQ2'.out, HB0.out⟩
      case round =>
        obtain ⟨j, hj, rfl, hM, hr1, hr2, hbel⟩ := hrel
        have HM := Lib.hid hM
        have HR1 := Lib.hid hr1
        have HR2 := Lib.hid hr2
        have HB := Lib.hid hbel
        have hml := hM.lt
        clear hM HM1 HQ1' HQ2' HB0
        by_cases h2 : j < X.length
        · obtain ⟨b, o, A1, C1, rfl, hb, c1, -, -, s1⟩ := slRs_at HX.out h2
          have d1 := (hbel.cell (p := ⟨b, o + j, none⟩) hb).trans c1
          have n1 : wr.cell? ⟨w.heap.size, 1, none⟩ = some (.slice (some ⟨b, o, none⟩) X.length RC) := hr1.cell 1
          have hxl := HLEN.out X[j] (List.getElem_mem h2)
          have HC := Lib.hid (rwProject_ok A1 CA C1 CC X[j] cs wr ((s1.below hbel (Nat.le_refl _)).more hbel.size) ((HCS.out.below hbel (Nat.le_refl _)).more hbel.size) (HXO.out.at_ h2).1 (by omega) (fun c hc => by
            have hok := List.all_eq_true.1 HCO.out c hc
            simp only [Bool.and_eq_true, decide_eq_true_eq] at hok
            omega))
          have hjy : j < (X.map (projF · cs)).length := by rw [HML.out]; exact h2
          have HY : Hid ((X.map (projF · cs))[j] = projF X[j] cs) := by show _ = _; simp
          clear c1 s1 hbel hr1 hr2 hxl
          generalize X[j] = x at d1 HC HY
          go_wp2_with fail
          refine HC.out.mono ?_
          rintro e w4 ⟨rfl, hrow4, hb4⟩
          have hsl4 : SlR w4.heap.size w4 (some ⟨wr.heap.size, 0, none⟩) (projF x cs) := hrow4.sl
          have hpl : (projF x cs).length = cs.length := projF_length x cs
          have HM4 := Lib.hid (HM.out.keep hb4)
          obtain ⟨u, hu⟩ := HM4.out.cell hjy
          have hfz := HM4.out.frozen j
          have hset := HM4.out.set hjy (A' := some ⟨wr.heap.size, 0, none⟩) (C' := cs.length) (by rw [HY.out, hpl]; exact Nat.le_refl _) (by omega) (by rw [HY.out]; exact hsl4) (fun _ ad e => by injection e with e; subst e; exact ⟨by simp only; omega, by simp only; omega, fun o => hrow4.frozen o⟩)
          rw [HY.out, hpl] at hset
          have HSET := Lib.hid hset
          have HR14 := Lib.hid ((HR1.out.below hb4 HR1.out.lt).far (p := ⟨W0.heap.size, j, none⟩) (show w.heap.size ≠ W0.heap.size by omega) (.slice (some ⟨wr.heap.size, 0, none⟩) cs.length cs.length))
          have HR24 := Lib.hid ((HR2.out.below hb4 HR2.out.lt).far (p := ⟨W0.heap.size, j, none⟩) (show w.heap.size + 1 ≠ W0.heap.size by omega) (.slice (some ⟨wr.heap.size, 0, none⟩) cs.length cs.length))
          have HB4 := Lib.hid ((Below.then HB.out hb4 HB.out.size).setCell (p := ⟨W0.heap.size, j, none⟩) (show w.heap.size ≤ W0.heap.size by omega) (.slice (some ⟨wr.heap.size, 0, none⟩) cs.length cs.length))
          have hz4 := hb4.size
          clear hset hrow4 hb4 hsl4 hpl HC d1 n1
          go_wp2
          go_roundw
          case rel => exact ⟨j + 1, by omega, by go_num, HSET.out, HR14.out, HR24.out, HB4.out⟩
          case measure => simp [intOf]; omega
        · obtain rfl : j = X.length := by omega
          by_cases hnil : X = []
          · subst hnil
            simp only [List.length_nil, List.map_nil] at *
            go_wp2_with fail
            refine (rlBuild_nil (cs.length : Int) (some ⟨W0.heap.size, 0, none⟩) 0 _).mono ?_
            rintro e w5 ⟨rfl, hx5⟩
            have r5 := HR2.out.below hx5.below HR2.out.lt
            have c0 : w5.cell? ⟨w.heap.size + 1, 0, none⟩ = some (.int .i64 0) := r5.cell 0
            have c1 : w5.cell? ⟨w.heap.size + 1, 1, none⟩ = some (.slice none 0 0) := r5.cell 1
            have f0 := r5.frozen 0
            have f1 := r5.frozen 1
            have hz5 := r5.lt
            have HB5 := Lib.hid (Below.then HB.out hx5.below HB.out.size)
            have z0 : (w5.setCell ⟨w.heap.size + 1, 0, none⟩ (.int .i64 cs.length)).cell? ⟨w.heap.size + 1, 0, none⟩ = some (.int .i64 cs.length) := World.cell?_setCell_same _ _ _ c0
            have z1 : ((w5.setCell ⟨w.heap.size + 1, 0, none⟩ (.int .i64 cs.length)).setCell ⟨w.heap.size + 1, 1, none⟩ (.slice (some ⟨W0.heap.size, 0, none⟩) 0 0)).cell? ⟨w.heap.size + 1, 1, none⟩ = some (.slice (some ⟨W0.heap.size, 0, none⟩) 0 0) := World.cell?_setCell_same _ _ _ ((World.cell?_setCell_other _ _ _ _ (by simp)).trans c1)
            have Z0 := Lib.hid z0
            have Z1 := Lib.hid z1
            clear r5 hx5 z0 z1 hr1 hr2
            go_wp2
            refine bodyPost_ret (v := .tuple #[.agg #[.int .i64 cs.length, .slice (some ⟨W0.heap.size, 0, none⟩) 0 0], .int .i64 0]) (by simp [results, Try.results71, go_sem, Z0.out, Z1.out]) rfl ⟨(fun h => by rw [HCO.out] at h; cases h), ?_, ?_⟩
            · intro _
              exact ⟨_, rfl, _, 0, rfl, by simp [RL.ofF], by omega, FreshRs.nil⟩
            · exact (HB5.out.setCell (p := ⟨w.heap.size + 1, 0, none⟩) (show w.heap.size ≤ w.heap.size + 1 by omega) _).setCell (p := ⟨w.heap.size + 1, 1, none⟩) (show w.heap.size ≤ w.heap.size + 1 by omega) _
          · have hpos : 1 ≤ X.length := by cases X with | nil => exact absurd rfl hnil | cons _ _ => simp
            have hM2 : MadeRs wr W0.heap.size 34 (X.map (projF · cs)) (X.map (projF · cs)).length W0.heap.size := by rw [HML.out]; exact HM.out
            obtain ⟨d, hds, hrows, hHB⟩ := hM2.hb HYO.out
            rw [HML.out] at hds
            have HBU := Lib.hid (rlBuild_any (cs.length : Int) X.length hHB (by omega) (by omega) (by omega) (by omega) _ hrows)
            rw [hds] at HBU
            have hofl := RL.ofF_length_le (X.map (projF · cs))
            rw [HML.out] at hofl
            clear hHB hrows hds hnil hM2 hr1 hr2
            obtain ⟨Y, hY⟩ : ∃ Y, Y = RL.ofF (X.map (projF · cs)) := ⟨_, rfl⟩
            rw [← hY] at HBU hofl
            have HYE := Lib.hid hY
            clear hY
            go_wp2_with fail
            refine HBU.out.mono ?_
            rintro e w5 ⟨rfl, hs5, hg5⟩
            have hne : w.heap.size + 1 ≠ W0.heap.size := by omega
            have r5 := HR2.out.grown hg5 (fun e => hne (by injection e))
            have c0 : w5.cell? ⟨w.heap.size + 1, 0, none⟩ = some (.int .i64 0) := r5.cell 0
            have c1 : w5.cell? ⟨w.heap.size + 1, 1, none⟩ = some (.slice none 0 0) := r5.cell 1
            have f0 := r5.frozen 0
            have f1 := r5.frozen 1
            have hz5 := r5.lt
            have h2z := HR2.out.lt
            have HB5 := Lib.hid (HB.out.grown hg5 (by omega) (fun k hk => by injection hk with hk; omega))
            have z0 : (w5.setCell ⟨w.heap.size + 1, 0, none⟩ (.int .i64 cs.length)).cell? ⟨w.heap.size + 1, 0, none⟩ = some (.int .i64 cs.length) := World.cell?_setCell_same _ _ _ c0
            have z1 : ((w5.setCell ⟨w.heap.size + 1, 0, none⟩ (.int .i64 cs.length)).setCell ⟨w.heap.size + 1, 1, none⟩ (.slice (some ⟨W0.heap.size, 0, none⟩) Y.length X.length)).cell? ⟨w.heap.size + 1, 1, none⟩ = some (.slice (some ⟨W0.heap.size, 0, none⟩) Y.length X.length) := World.cell?_setCell_same _ _ _ ((World.cell?_setCell_other _ _ _ _ (by simp)).trans c1)
            have Z0 := Lib.hid z0
            have Z1 := Lib.hid z1
            have HSL : Hid (FreshRs w.heap.size ((w5.setCell ⟨w.heap.size + 1, 0, none⟩ (.int .i64 cs.length)).setCell ⟨w.heap.size + 1, 1, none⟩ (.slice (some ⟨W0.heap.size, 0, none⟩) Y.length X.length)) (some ⟨W0.heap.size, 0, none⟩) Y) := fun w'' hk => by
              have h := hs5 w'' (fun p hpl hp => by
                have hpn : p.block ≠ w.heap.size + 1 := by rcases hp with hp | hp <;> omega
                rw [hk p (by rcases hp with hp | hp <;> omega) (by simpa using hpl)]
                exact (far_cell (p := ⟨w.heap.size + 1, 1, none⟩) (fun e => hpn e.symm) (far_cell (p := ⟨w.heap.size + 1, 0, none⟩) (fun e => hpn e.symm) rfl)))
              simpa using h
            clear r5 hs5 hg5 z0 z1
            go_wp2
            refine bodyPost_ret (v := .tuple #[.agg #[.int .i64 cs.length, .slice (some ⟨W0.heap.size, 0, none⟩) Y.length X.length], .int .i64 0]) (by simp [results, Try.results71, go_sem, Z0.out, Z1.out]) rfl ⟨(fun h => by rw [HCO.out] at h; cases h), ?_, ?_⟩
            · intro _
              rw [← HYE.out]
              exact ⟨_, rfl, _, X.length, rfl, by omega, by omega, HSL.out⟩
            · exact (HB5.out.setCell (p := ⟨w.heap.size + 1, 0, none⟩) (show w.heap.size ≤ w.heap.size + 1 by omega) _).setCell (p := ⟨w.heap.size + 1, 1, none⟩) (show w.heap.size ≤ w.heap.size + 1 by omega) _

end Go.Proofs.Ytiomelogggilgaa
end

section
/- Words for trie.New: the error of a list of columns, an empty trie, slices.Contains. -/
namespace Go.Proofs.Ytiomelogggilgaa
open Go.RowKit Go.Sort

theorem slContains_any (XA : Option Addr) (XC : Nat) (xs : List Int) (x : Int) (w : World) (hx : SlI .i64 w.heap.size w XA xs) (hxl : xs.length ≤ 1000000) :
    Calls Try.prog 70 #[.slice XA xs.length XC, .int .i64 x] w fun e w' => e = .returned (.bool (decide (x ∈ xs))) ∧ w = w' := by
  have HI := Lib.hid (fun W (h : SlI .i64 W.heap.size W XA xs) => idxInt_any XA XC xs x W h hxl)
  have HX := Lib.hid hx
  have hq : (x ∈ xs ∧ 0 ≤ idxF xs x ∧ idxF xs x ≤ 1000000) ∨ (x ∉ xs ∧ idxF xs x = -1) := by
    unfold idxF
    cases hf : xs.findIdx? (· == x) with
    | none =>
      right
      rw [List.findIdx?_eq_none_iff] at hf
      exact ⟨fun hm => by have := hf x hm; simp at this, rfl⟩
    | some i =>
      left
      rw [List.findIdx?_eq_some_iff_findIdx_eq] at hf
      have hlt : xs.findIdx (· == x) < xs.length := by rw [hf.2]; exact hf.1
      have := List.findIdx_getElem (w := hlt)
      simp at this
      refine ⟨?_, by simp, by simp; omega⟩
      rw [← this]
      exact List.getElem_mem _
  clear hx
  rcases hq with ⟨h1, h2, h3⟩ | ⟨h1, h2⟩
  · have HD : Hid (decide (x ∈ xs) = true) := by show _ = _; simpa using h1
    rw [HD.out]
    generalize idxF xs x = q at *
    clear h1
    go_enter Try.func70, Try.ntmps70
    go_wp2_with fail
    refine (HI.out w HX.out).mono ?_
    rintro e w' ⟨rfl, hw⟩
    obtain rfl := hw.symm
    go_wp2
    go_ret
    exact ⟨rfl, rfl⟩
  · have HD : Hid (decide (x ∈ xs) = false) := by show _ = _; simpa using h1
    rw [HD.out]
    rw [h2] at HI
    clear h1 h2
    go_enter Try.func70, Try.ntmps70
    go_wp2_with fail
    refine (HI.out w HX.out).mono ?_
    rintro e w' ⟨rfl, hw⟩
    obtain rfl := hw.symm
    go_wp2
    go_ret
    exact ⟨rfl, rfl⟩

/-- The error at column number i, or 0. -/
def colErr (n : Int) (cs : List Int) (i : Nat) : Int := if cs.getD i 0 < 0 ∨ n ≤ cs.getD i 0 then 3 else if cs.getD i 0 ∈ cs.take i then 8 else 0
/-- The first error of the columns, or 0. -/
def newErr (n : Int) (cs : List Int) : Int := (((List.range cs.length).map (colErr n cs)).find? fun e => e != 0).getD 0
theorem newErr_at {n : Int} {cs : List Int} {k : Nat} (hk : k < cs.length) (h : ∀ j, j < k → colErr n cs j = 0) (hne : colErr n cs k ≠ 0) : newErr n cs = colErr n cs k := by
  unfold newErr
  have e : List.range cs.length = List.range k ++ k :: (List.range cs.length).drop (k + 1) := by
    conv => lhs; rw [← List.take_append_drop k (List.range cs.length)]
    congr 1
    · rw [List.take_range, Nat.min_eq_left (by omega)]
    · rw [List.drop_eq_getElem_cons (by simpa using hk)]
      simp
  rw [e, List.map_append, List.find?_append, List.map_cons]
  have h1 : ((List.range k).map (colErr n cs)).find? (fun e => e != 0) = none := by
    rw [List.find?_eq_none]
    intro x hx
    obtain ⟨j, hj, rfl⟩ := List.mem_map.1 hx
    rw [h j (List.mem_range.1 hj)]
    simp
  rw [h1, List.find?_cons_of_pos (by simpa using hne)]
  rfl
theorem newErr_zero {n : Int} {cs : List Int} (h : ∀ j, j < cs.length → colErr n cs j = 0) : newErr n cs = 0 := by
  unfold newErr
  have h1 : ((List.range cs.length).map (colErr n cs)).find? (fun e => e != 0) = none := by
    rw [List.find?_eq_none]
    intro x hx
    obtain ⟨j, hj, rfl⟩ := List.mem_map.1 hx
    rw [h j (List.mem_range.1 hj)]
    simp
  rw [h1]
  rfl
theorem cols_of_zero {n : Int} {cs : List Int} (h : ∀ j, j < cs.length → colErr n cs j = 0) : colsOk n cs = true := by
  unfold colsOk
  rw [List.all_eq_true]
  intro c hc
  obtain ⟨j, hj, rfl⟩ := List.getElem_of_mem hc
  have h1 := h j hj
  unfold colErr at h1
  rw [List.getD_eq_getElem?_getD, List.getElem?_eq_getElem hj] at h1
  simp only [Option.getD_some] at h1
  split at h1
  · omega
  · simp
    omega

theorem levelInfo : (Try.prog.info? 130).map (fun i => (i.zero, i.size, i.bytes)) = some (some (.agg #[.slice none 0 0, .slice none 0 0]), 2, 48) := by kernel_rfl
theorem nils_made (n : Nat) : madeCells (Value.agg #[.slice none 0 0, .slice none 0 0]).cells (n * 2) = zerosA (.slice none 0 0) (n * 2) := by
  have e : (Value.agg #[.slice none 0 0, .slice none 0 0]).cells = #[.slice none 0 0, .slice none 0 0] := by rfl
  rw [e]
  unfold madeCells zerosA
  apply Array.ext
  · simp
  · intro i h1 h2
    have : i % 2 = 0 ∨ i % 2 = 1 := by omega
    rcases this with h | h <;> simp [h]
theorem makeLevels (n : Nat) (hn : n ≤ 1000000) (w : World) : (Instr.makeSlice 107 (.int .i64 (n : Int)) (.int .i64 (n : Int))).run Try.prog w = .ok (.slice (some ⟨w.heap.size, 0, none⟩) n n) (w.alloc (.cells (zerosA (.slice none 0 0) (n * 2)) 130)) := by
  obtain ⟨i0, hi0, hz0, hz1, hz2⟩ := info_parts levelInfo
  have := run_make (P := Try.prog) w 107 130 i0 _ Try.underlying107 hi0 hz0 .i64 .i64 n n (by omega) (by omega) (by rw [hz2]; omega) (by omega)
  rw [this, hz1]
  simp only [Int.toNat_natCast]
  rw [nils_made]

/-- A trie whose levels are still empty. -/
theorem BldM.start {B : Nat} {w : World} {lb d : Nat} (h : Row w lb 130 (List.replicate (d * 2) (.slice none 0 0))) (hlB : lb < B) (hB : B ≤ w.heap.size) : BldM B (fun _ => True) w lb d (fun _ => []) (fun _ => []) := by
  refine ⟨_, h, by simp, hlB, hB, fun i u hu => ?_, fun i j u u' k hu hu' hne hk => ?_, fun _ _ _ _ _ => trivial⟩
  · have hi := (List.getElem?_eq_some_iff.1 hu).1
    rw [List.length_replicate] at hi
    rw [List.getElem?_replicate, if_pos hi] at hu
    injection hu with hu
    subst hu
    unfold spF
    split
    · exact own_nil _ _ _ _
    · exact own_nil _ _ _ _
  · have hi := (List.getElem?_eq_some_iff.1 hu).1
    rw [List.length_replicate] at hi
    rw [List.getElem?_replicate, if_pos hi] at hu
    injection hu with hu
    subst hu
    simp [Value.ownBlock] at hk

/-- What the levels hold when k rows have been added. -/
theorem take_snoc' {α : Type} (l : List α) (k : Nat) (h : k < l.length) : l.take (k + 1) = l.take k ++ [l[k]] := List.take_succ_eq_append_getElem h
def lastOf (P : List RL.R) (k : Nat) : RL.R := (P.take k).getLastD []
theorem take_last {P : List RL.R} {k : Nat} (hk : k < P.length) : lastOf P (k + 1) = P[k] := by unfold lastOf; rw [take_snoc' P k hk, List.getLastD_concat]
theorem lastOf_len {P : List RL.R} {d : Nat} (hd : ∀ r ∈ P, r.length = d) (k : Nat) : (lastOf P k).length ≤ d := by
  unfold lastOf
  rcases List.eq_nil_or_concat (P.take k) with h | ⟨Q, z, h⟩
  · rw [h]; simp
  · rw [h, List.concat_eq_append, List.getLastD_concat]
    have hz : z ∈ P.take k := by rw [h]; simp
    exact Nat.le_of_eq (hd z (List.mem_of_mem_take hz))
def vsB (d : Nat) (P : List RL.R) (k l : Nat) : RL.R := (RL.nodes d (P.take k) l).map RL.lastV
def fsB (d : Nat) (P : List RL.R) (k l : Nat) : List Nat := RL.firsts d (P.take k) l
theorem vsB_len (d : Nat) (P : List RL.R) (k l : Nat) : (vsB d P k l).length ≤ P.length := by
  unfold vsB
  have := RL.nodes_len d (P.take k) l
  rw [List.length_take] at this
  rw [List.length_map]
  omega
theorem fsB_len (d : Nat) (P : List RL.R) (k l : Nat) : (fsB d P k l).length ≤ P.length := by
  unfold fsB RL.firsts
  have := RL.nodes_len d (P.take k) l
  rw [List.length_take] at this
  rw [List.length_map]
  omega
theorem vsB_zero (d : Nat) (P : List RL.R) : vsB d P 0 = fun _ => [] := by funext l; unfold vsB; rw [List.take_zero, RL.nodes_nil]; rfl
theorem fsB_zero (d : Nat) (P : List RL.R) : fsB d P 0 = fun _ => [] := by funext l; unfold fsB; rw [List.take_zero, RL.firsts_nil]
theorem vsB_all (d : Nat) (P : List RL.R) : vsB d P P.length = vsF d P := by funext l; unfold vsB vsF; rw [List.take_length]
theorem fsB_all (d : Nat) (P : List RL.R) (l : Nat) : fsF d P l = fsB d P P.length l ++ [(RL.nodes d P (l + 1)).length] := by unfold fsB fsF; rw [List.take_length]
section
variable {d : Nat} {P : List RL.R} (hS : RL.SS P) (hd : ∀ r ∈ P, r.length = d)
include hS hd
theorem vsB_step {k : Nat} (hk : k < P.length) : addV (vsB d P k) P[k] (RL.sharedN (lastOf P k) P[k]) d = vsB d P (k + 1) := by
  funext l
  have e := take_snoc' P k hk
  have hS' : RL.SS (P.take k ++ [P[k]]) := by rw [← e]; exact RL.SS.take hS _
  have hd' : ∀ r ∈ P.take k ++ [P[k]], r.length = d := by rw [← e]; exact fun r hr => hd r (List.mem_of_mem_take hr)
  unfold addV vsB
  rw [e]
  by_cases hl : l < d
  · rw [RL.nodes_snoc hS' hd' hl]
    unfold lastOf
    by_cases h1 : l < RL.sharedN ((P.take k).getLastD []) P[k]
    · rw [if_pos h1, if_neg (by omega)]
    · rw [if_neg h1, if_pos (by omega), List.map_append, List.map_singleton]
      congr 2
      have hlen : P[k].length = d := hd _ (List.getElem_mem hk)
      have hl' : l < P[k].length := by omega
      rw [take_snoc' P[k] l hl', RL.lastV_snoc, List.getD_eq_getElem?_getD, List.getElem?_eq_getElem hl']
      rfl
  · rw [if_neg (by omega), RL.nodes_out (by omega), RL.nodes_out (by omega)]
theorem fsB_step {k : Nat} (hk : k < P.length) : ∀ l, l < d → addF d (vsB d P k) (fsB d P k) (RL.sharedN (lastOf P k) P[k]) d l = fsB d P (k + 1) l := by
  intro l hl
  have e := take_snoc' P k hk
  have hS' : RL.SS (P.take k ++ [P[k]]) := by rw [← e]; exact RL.SS.take hS _
  have hd' : ∀ r ∈ P.take k ++ [P[k]], r.length = d := by rw [← e]; exact fun r hr => hd r (List.mem_of_mem_take hr)
  unfold addF fsB
  rw [e, RL.firsts_snoc hS' hd' hl]
  unfold lastOf
  by_cases h1 : l < RL.sharedN ((P.take k).getLastD []) P[k]
  · rw [if_pos h1, if_neg (by omega)]
  · rw [if_neg h1, if_pos (by omega)]
    congr 2
    unfold sizeF vsB
    rw [List.length_map]
    split
    · rfl
    · rw [RL.nodes_out (by omega)]; rfl
end
/-- What the second slices hold when the ends of k levels are laid. -/
def fsH (d : Nat) (P : List RL.R) (k j : Nat) : List Nat := if j < k then fsF d P j else fsB d P P.length j
theorem fsH_step (d : Nat) (P : List RL.R) (k : Nat) : fsH d P (k + 1) = upd (fsH d P k) k (fsB d P P.length k ++ [(RL.nodes d P (k + 1)).length]) := by
  funext j
  unfold fsH upd
  by_cases e : j = k
  · subst e; rw [if_pos (by omega), if_pos rfl, fsB_all]
  · rw [if_neg e]
    dsimp only
    by_cases h : j < k
    · rw [if_pos h, if_pos (by omega)]
    · rw [if_neg h, if_neg (by omega)]
theorem fsH_at (d : Nat) (P : List RL.R) (k : Nat) : fsH d P k k = fsB d P P.length k := by unfold fsH; rw [if_neg (by omega)]
/-- Only the levels below the depth count. -/
theorem BldM.congr {B : Nat} {Q : Nat → Prop} {w : World} {lb d : Nat} {vs vs' : Nat → RL.R} {fs fs' : Nat → List Nat} (h : BldM B Q w lb d vs fs) (hv : ∀ l, l < d → vs l = vs' l) (hf : ∀ l, l < d → fs l = fs' l) : BldM B Q w lb d vs' fs' := by
  obtain ⟨hs, h1, h2, h3, h3', h4, h5, h6⟩ := h
  refine ⟨hs, h1, h2, h3, h3', fun i u hu => ?_, h5, h6⟩
  have hi := (List.getElem?_eq_some_iff.1 hu).1
  have h := h4 i u hu
  have e : spF vs fs i = spF vs' fs' i := by
    unfold spF
    rw [hv (i / 2) (by omega), hf (i / 2) (by omega)]
  rw [← e]
  exact h

end Go.Proofs.Ytiomelogggilgaa
end

section
/- Walk: the reference's Project of chapter 34. -/
namespace Go.Proofs.Ytiomelogggilgaa
open Go.RowKit Go.Sort

/-- A store into a row of the call's own. -/
theorem own_set {w : World} {base : Nat} {e : TypeId} {g n cap : Nat} {xs : List Value} (h : w.ownsRow base e 1 (.slice (some ⟨g, 0, none⟩) n cap) n xs) {i : Nat} (_hi : i < n) (u : Value) :
    (w.setCell ⟨g, i, none⟩ u).ownsRow base e 1 (.slice (some ⟨g, 0, none⟩) n cap) n (xs.set i u) := by
  obtain ⟨h0, h1⟩ := h
  refine ⟨by simpa using h0, ?_⟩
  rcases h1 with ⟨h1, _⟩ | ⟨g', cap', cur, h1, h2, h3, h4, h5, h6, h7⟩
  · injection h1 with h1; cases h1
  · injection h1 with h1 h1b h1c
    injection h1 with h1
    injection h1 with h1 _ _
    subst h1 h1c
    refine .inr ⟨g, cap, cur.setIfInBounds i u, rfl, h2, ?_, h4, h5, by simpa using h6, ?_⟩
    · simp [World.setCell, Array.getElem?_modify, h3]
    · rw [← h7, Array.toList_setIfInBounds, List.take_set]
theorem own_cell {w : World} {base : Nat} {e : TypeId} {g n cap : Nat} {xs : List Value} (h : w.ownsRow base e 1 (.slice (some ⟨g, 0, none⟩) n cap) n xs) {i : Nat} {u : Value} (hu : xs[i]? = some u) : w.cell? ⟨g, i, none⟩ = some u := by
  obtain ⟨A, C, e1, _, _, hs⟩ := Sl.of_own h
  injection e1 with e1 _ _
  subst e1
  obtain ⟨b, o, e2, _, hc⟩ := hs (by intro h0; rw [h0] at hu; simp at hu)
  injection e2 with e2
  injection e2 with e2 e3 _
  subst e2 e3
  have := hc i u hu
  rwa [Nat.zero_add] at this

theorem grownBelow {w w' : World} {row : Option Nat} {B : Nat} (h : w.grownBy w' row) (hv : ∀ j, row = some j → B ≤ j) (hB : B ≤ w.heap.size := by simp; omega) : Below B w w' := ⟨h.os, h.tape, h.output, h.size, fun b hb => h.block b (by omega) (fun e => by have := hv b e.symm; omega)⟩
/-- One step of the shift. -/
theorem shift_step {hs : List Value} {k : Nat} (hk : k + 1 ≤ hs.length) (u : Value) : (hs.take (k + 1) ++ u :: hs.drop (k + 1)).set (k + 1) (hs[k]'(by omega)) = hs.take k ++ (hs[k]'(by omega)) :: hs.drop k := by
  rw [List.set_append_right _ _ (by simp; omega)]
  have e : k + 1 - (hs.take (k + 1)).length = 0 := by simp; omega
  rw [e, List.set_cons_zero, List.take_succ_eq_append_getElem (by omega), List.append_assoc]
  congr 1
  rw [List.drop_eq_getElem_cons (i := k) (by omega)]
  rfl
theorem shift_last {hs : List Value} {k : Nat} (hk : k ≤ hs.length) (u r : Value) : (hs.take k ++ u :: hs.drop k).set k r = hs.take k ++ r :: hs.drop k := by
  rw [List.set_append_right _ _ (by simp; omega)]
  have e : k - (hs.take k).length = 0 := by simp; omega
  rw [e, List.set_cons_zero]
theorem shift_get {hs : List Value} {k : Nat} (hk : k + 1 ≤ hs.length) (u : Value) : (hs.take (k + 1) ++ u :: hs.drop (k + 1))[k]? = some (hs[k]'(by omega)) := by
  rw [List.getElem?_append_left (by simp; omega), List.getElem?_take_of_lt (by omega), List.getElem?_eq_getElem (by omega)]

theorem shift_at {hs : List Value} {k : Nat} (hk : k + 1 ≤ hs.length) (u : Value) : (hs.take (k + 1) ++ u :: hs.drop (k + 1))[k + 1]? = some u := by
  rw [List.getElem?_append_right (by simp; omega)]
  have e : k + 1 - (hs.take (k + 1)).length = 0 := by simp; omega
  rw [e, List.getElem?_cons_zero]
theorem shift_at' {hs : List Value} {k : Nat} (hk : k ≤ hs.length) (u : Value) : (hs.take k ++ u :: hs.drop k)[k]? = some u := by
  rw [List.getElem?_append_right (by simp; omega)]
  have e : k - (hs.take k).length = 0 := by simp; omega
  rw [e, List.getElem?_cons_zero]
theorem own_frz {w : World} {base : Nat} {e : TypeId} {g n cap : Nat} {xs : List Value} (h : w.ownsRow base e 1 (.slice (some ⟨g, 0, none⟩) n cap) n xs) (i : Nat) : w.frozen? ⟨g, i, none⟩ = false := by
  rcases h.2 with ⟨h1, _⟩ | ⟨g', cap', cur, h1, h2, h3, _⟩
  · injection h1 with h1; cases h1
  · injection h1 with h1
    injection h1 with h1
    injection h1 with h1 _ _
    subst h1
    simp [World.frozen?, h3]
theorem own_some {w : World} {base : Nat} {e : TypeId} {v : Value} {n : Nat} {xs : List Value} (h : w.ownsRow base e 1 v (n + 1) xs) : ∃ g cap, v = .slice (some ⟨g, 0, none⟩) (n + 1) cap ∧ base ≤ g ∧ g < w.heap.size := by
  rcases h.2 with ⟨_, h0⟩ | ⟨g, cap, cur, g1, g2, g3, g4⟩
  · omega
  · exact ⟨g, cap, g1, g2, own_lt h g (by rw [g1]; rfl)⟩
theorem hdrs_app {w w6 : World} {v : Value} {L : List RL.R} {hs : List Value} {g l C : Nat} (q2 : ∀ i (h : i < L.length), ∃ A' C', hs[i]? = some (.slice A' L[i].length C') ∧ L[i].length ≤ C' ∧ C' ≤ 9223372036854775807 ∧ SlR w.heap.size w A' L[i] ∧ (L[i] ≠ [] → ∀ ad, A' = some ad → v.ownBlock ≠ some ad.block)) (hl : hs.length = L.length) (hg : w.grownBy w6 v.ownBlock) (hat : (Value.slice (some ⟨g, 0, none⟩) l C).ownBlock = v.ownBlock ∨ (Value.slice (some ⟨g, 0, none⟩) l C).ownBlock = some w.heap.size) : Hdrs (fun b => b ≠ g) w6.heap.size w6 hs L := by
  refine ⟨hl, fun i u y hu hy => ?_⟩
  have hi := (List.getElem?_eq_some_iff.1 hy).1
  obtain ⟨A', C', k1, k2, k3, k4, k5⟩ := q2 i hi
  have hyy : L[i] = y := (List.getElem?_eq_some_iff.1 hy).2
  rw [hyy] at k1 k2 k4 k5
  rw [k1] at hu
  injection hu with hu
  refine ⟨A', C', hu.symm, k2, k3, k4.grown hg k5, fun hne ad e e2 => ?_⟩
  rcases hat with h | h
  · exact k5 hne ad e (by rw [← h]; exact congrArg some e2.symm)
  · simp only [Value.ownBlock, Option.some.injEq] at h
    have := k4.ltB hne ad e
    omega
/-- Headers that read as rows, none of which lies in the block of the headers. -/
theorem own_hdrs {w : World} {B : Nat} {E : TypeId} {g n cap : Nat} {hs : List Value} {Y : List RL.R} (h : w.ownsRow B E 1 (.slice (some ⟨g, 0, none⟩) n cap) n hs) (hd : Hdrs (fun b => b ≠ g) w.heap.size w hs Y) (hn : n = Y.length) : OwnRs w B E (.slice (some ⟨g, 0, none⟩) n cap) Y := by
  subst hn
  refine ⟨hs, h, fun i hi => ?_⟩
  obtain ⟨A', C', h1, h2, h3, h4, h5⟩ := hd.at_ hi
  exact ⟨A', C', h1, h2, h3, h4, fun hy ad e e2 => h5 hy ad e (by injection e2 with e2; exact e2.symm)⟩
theorem hdrs_of_own {w : World} {B : Nat} {E : TypeId} {v : Value} {X : List RL.R} (h : OwnRs w B E v X) (hX : X ≠ []) : ∃ g cap hs, v = .slice (some ⟨g, 0, none⟩) X.length cap ∧ w.ownsRow B E 1 (.slice (some ⟨g, 0, none⟩) X.length cap) X.length hs ∧ Hdrs (fun b => b ≠ g) w.heap.size w hs X ∧ B ≤ g ∧ g < w.heap.size := by
  obtain ⟨hs, h1, h2⟩ := h
  have hl : hs.length = X.length := by have := h1.1; omega
  rcases h1.2 with ⟨g1, g0⟩ | ⟨g, cap, cur, g1, g2, g3, g4⟩
  · exact absurd (List.eq_nil_of_length_eq_zero g0) hX
  · have hlt : g < w.heap.size := own_lt h1 g (by rw [g1]; rfl)
    refine ⟨g, cap, hs, g1, by rw [← g1]; exact h1, ⟨hl, fun i u y hu hy => ?_⟩, g2, hlt⟩
    have hi := (List.getElem?_eq_some_iff.1 hy).1
    obtain ⟨A', C', k1, k2, k3, k4, k5⟩ := h2 i hi
    have hyy : X[i] = y := (List.getElem?_eq_some_iff.1 hy).2
    rw [hyy] at k1 k2 k4 k5
    rw [k1] at hu
    injection hu with hu
    exact ⟨A', C', hu.symm, k2, k3, k4, fun hne ad e e2 => k5 hne ad e (by rw [g1]; exact congrArg some e2.symm)⟩
/-- append of one value, laid in a block of its own, to a row of the call's own, at a step of a region that draws its order. -/
theorem stepVR {w : World} {ops : Array Oper} {o : Oper} {a : Act} {K : Act → World → Prop} {Q : Exit → Act → World → Prop} {E : Prop} (hgd : o.guard = none) (s x : Operand)
    (ho : o.op = .call { callee := .builtin .append, args := #[s, x], argTypes := #[34, 34] })
    (base : Nat) (v : Value) (l : RL.R) (hs : a.eval s = v) (hown : w.ownsRow base 41 3 v l.length (rcells l))
    (gt : Nat) (z : RL.V) (hx : a.eval x = .slice (some ⟨gt, 0, none⟩) 1 1) (hg : Row w gt 41 (vcells z))
    (hn : l.length ≤ 1000000) (hbase : base ≤ w.heap.size)
    (h : ∀ g cap w', w'.ownsRow base 41 3 (.slice (some ⟨g, 0, none⟩) (l.length + 1) cap) (l.length + 1) (rcells (l ++ [z])) → w.grownBy w' v.ownBlock → (v.ownBlock = some g ∨ g = w.heap.size) → K (a.put o.dst (.slice (some ⟨g, 0, none⟩) (l.length + 1) cap)) w') :
    if Region.wanted o (yielded ops a.tmps) = true then Oper.wp Try.prog o a w K Q else E := by
  obtain ⟨i0, hi0, hz0, hz1, hz2⟩ := info_parts valInfo
  refine step_append_lies w hgd s x 34 ho base 41 i0 _ 3 32 Try.underlying34 hi0 hz0 hz1 hz2 rfl (by decide) v l.length (rcells l) hs hown ⟨gt, 0, none⟩ 1 1 (vcells z) hx rfl ?_ ?_ (by decide) (by simp only [maxLen]; omega) (by omega) hbase w.heap.size rfl ?_
  · intro j u hu
    have := hg.cell j
    rw [hu] at this
    rw [Addr.add_lit, Nat.zero_add]
    exact this
  · intro u hu; simp [vcells] at hu; rcases hu with rfl | rfl | rfl <;> rfl
  · intro g cap w' k1 k2 k3 _
    refine h g cap w' ?_ k2 k3
    rw [rcells_append]
    have : rcells [z] = vcells z := by simp [rcells]
    rw [this]
    exact k1

end Go.Proofs.Ytiomelogggilgaa
end

section
/- Plain and walk: the reference's Children of chapter 34. -/
namespace Go.Proofs.Ytiomelogggilgaa
open Go.RowKit Go.Sort

theorem snoc_ind {α : Type} {motive : List α → Prop} (nil : motive []) (append_singleton : ∀ Q y, motive Q → motive (Q ++ [y])) (Q : List α) : motive Q := by
  have h : ∀ L : List α, motive L.reverse := fun L => by
    induction L with
    | nil => exact nil
    | cons a L ih => rw [List.reverse_cons]; exact append_singleton _ _ ih
  have := h Q.reverse
  rwa [List.reverse_reverse] at this
/-- One row more for the reference's Children. -/
def childStep (p : RL.R) (out : RL.R) (y : RL.R) : RL.R :=
  if y.length ≤ p.length ∨ y.take p.length ≠ p then out else if out = [] ∨ out.getLastD default ≠ y.getD p.length default then out ++ [y.getD p.length default] else out
def childF (p : RL.R) (Q : List RL.R) : RL.R := Q.foldl (childStep p) []
theorem childF_snoc (p : RL.R) (Q : List RL.R) (y : RL.R) : childF p (Q ++ [y]) = childStep p (childF p Q) y := by unfold childF; rw [List.foldl_append]; rfl

theorem childF_len (p : RL.R) : ∀ Q : List RL.R, (childF p Q).length ≤ Q.length := by
  intro Q
  induction Q using snoc_ind with
  | nil => simp [childF]
  | append_singleton Q y ih =>
    rw [childF_snoc]
    unfold childStep
    rw [List.length_append, List.length_singleton]
    split
    · omega
    · split
      · rw [List.length_append, List.length_singleton]; omega
      · omega

theorem childF_spec {d : Nat} (p : RL.R) (hk : p.length < d) : ∀ (Q : List RL.R), RL.SS Q → (∀ r ∈ Q, r.length = d) → (childF p Q).Pairwise (fun a b => RL.cmpV a b < 0) ∧ ∀ v, v ∈ childF p Q ↔ ∃ y ∈ Q, y.take (p.length + 1) = p ++ [v] := by
  intro Q
  induction Q using snoc_ind with
  | nil => intro _ _; simp [childF]
  | append_singleton Q y ih =>
    intro hS hd
    have hS1 : RL.SS Q := by unfold RL.SS at *; exact (List.pairwise_append.1 hS).1
    have hlt : ∀ z ∈ Q, RL.cmpR z y < 0 := fun z hz => by unfold RL.SS at hS; exact (List.pairwise_append.1 hS).2.2 z hz y (by simp)
    obtain ⟨ih1, ih2⟩ := ih hS1 (fun r hr => hd r (by simp [hr]))
    have hyl : y.length = d := hd y (by simp)
    rw [childF_snoc]
    unfold childStep
    by_cases h1 : y.length ≤ p.length ∨ y.take p.length ≠ p
    · rw [if_pos h1]
      refine ⟨ih1, fun v => ?_⟩
      rw [ih2]
      constructor
      · rintro ⟨z, hz, e⟩; exact ⟨z, by simp [hz], e⟩
      · rintro ⟨z, hz, e⟩
        rw [List.mem_append, List.mem_singleton] at hz
        rcases hz with hz | rfl
        · exact ⟨z, hz, e⟩
        · exfalso
          rcases h1 with h1 | h1
          · omega
          · apply h1
            have := congrArg (List.take p.length) e
            rw [List.take_take, Nat.min_eq_left (by omega), List.take_left] at this
            exact this
    · rw [if_neg h1]
      have h2 : y.take p.length = p := Classical.byContradiction fun h => h1 (.inr h)
      have hpy : p.length < y.length := by omega
      have hv : y.getD p.length default = y[p.length] := by rw [List.getD_eq_getElem?_getD, List.getElem?_eq_getElem hpy]; rfl
      have hyt : y.take (p.length + 1) = p ++ [y[p.length]] := by rw [List.take_succ_eq_append_getElem hpy, h2]
      rw [hv]
      have hle : ∀ u ∈ childF p Q, RL.cmpV u y[p.length] ≤ 0 := fun u hu => by
        obtain ⟨z, hz, e⟩ := (ih2 u).1 hu
        have h3 := RL.take_mono (p.length + 1) z y (by have := hlt z hz; omega)
        rw [e, hyt, RL.cmpR_append_left, RL.cmpR_one] at h3
        exact h3
      have hmem : ∀ v, (∃ z ∈ Q ++ [y], z.take (p.length + 1) = p ++ [v]) ↔ v ∈ childF p Q ∨ v = y[p.length] := fun v => by
        rw [ih2]
        constructor
        · rintro ⟨z, hz, e⟩
          rw [List.mem_append, List.mem_singleton] at hz
          rcases hz with hz | rfl
          · exact .inl ⟨z, hz, e⟩
          · right
            rw [hyt] at e
            have := List.append_cancel_left e
            simpa using this.symm
        · rintro (⟨z, hz, e⟩ | rfl)
          · exact ⟨z, by simp [hz], e⟩
          · exact ⟨y, by simp, hyt⟩
      split
      · rename_i h3
        refine ⟨?_, fun v => by rw [hmem, List.mem_append, List.mem_singleton]⟩
        rw [List.pairwise_append]
        refine ⟨ih1, by simp, fun u hu v hv2 => ?_⟩
        rw [List.mem_singleton] at hv2
        subst hv2
        rcases List.eq_nil_or_concat (childF p Q) with h4 | ⟨R, l, h4⟩
        · rw [h4] at hu; cases hu
        · rw [List.concat_eq_append] at h4
          have h5 : l ≠ y[p.length] := by
            rcases h3 with h3 | h3
            · rw [h4] at h3; simp at h3
            · rw [h4, List.getLastD_concat] at h3; exact h3
          have hl : RL.cmpV l y[p.length] < 0 := by
            have := hle l (by rw [h4]; simp)
            rcases Int.lt_or_eq_of_le this with h6 | h6
            · exact h6
            · exact absurd ((RL.tot_cmpV.z _ _).1 h6) h5
          rw [h4, List.mem_append, List.mem_singleton] at hu
          rcases hu with hu | rfl
          · rw [h4, List.pairwise_append] at ih1
            exact RL.tot_cmpV.tr _ _ _ (ih1.2.2 u hu l (by simp)) hl
          · exact hl
      · rename_i h3
        refine ⟨ih1, fun v => ?_⟩
        rw [hmem]
        have h4 : y[p.length] ∈ childF p Q := by
          have h5 : childF p Q ≠ [] := fun h => h3 (.inl h)
          have h6 : (childF p Q).getLastD default = y[p.length] := Classical.byContradiction fun h => h3 (.inr h)
          rw [← h6]
          rcases List.eq_nil_or_concat (childF p Q) with h7 | ⟨R, l, h7⟩
          · exact absurd h7 h5
          · rw [h7, List.concat_eq_append, List.getLastD_concat]; simp
        constructor
        · exact .inl
        · rintro (h | rfl)
          · exact h
          · exact h4
theorem childF_out {d : Nat} (p : RL.R) (hk : d ≤ p.length) : ∀ (Q : List RL.R), (∀ r ∈ Q, r.length = d) → childF p Q = [] := by
  intro Q
  induction Q using snoc_ind with
  | nil => intro _; rfl
  | append_singleton Q y ih =>
    intro hd
    rw [childF_snoc, ih (fun r hr => hd r (by simp [hr]))]
    unfold childStep
    rw [if_pos (.inl (by rw [hd y (by simp)]; exact hk))]
/-- The reference's Children are the values below the prefix. -/
theorem childF_eq {d : Nat} {P : List RL.R} (hS : RL.SS P) (hd : ∀ r ∈ P, r.length = d) (p : RL.R) : childF p P = RL.kids d P p := by
  by_cases hk : p.length < d
  · obtain ⟨h1, h2⟩ := childF_spec p hk P hS hd
    exact RL.asc_ext h1 (RL.kids_asc hd p) (fun v => by rw [h2, RL.mem_kids hd hk])
  · rw [childF_out p (by omega) P hd, RL.kids_out (by omega)]

/-- append of one value to a row of the call's own. -/
theorem app1VS {w : World} {ops : Array Oper} {rest : List Oper} {o : Oper} {a : Act} {Q : Exit → Act → World → Prop} (hgd : o.guard = none) (s x : Operand)
    (ho : o.op = .call { callee := .builtin .append, args := #[s, x], argTypes := #[33, 33] })
    (base : Nat) (v : Value) (l : RL.R) (hs : a.eval s = v) (hown : w.ownsRow base 41 3 v l.length (rcells l))
    (gt : Nat) (z : RL.V) (hx : a.eval x = .slice (some ⟨gt, 0, none⟩) 1 1) (h0 : w.cell? ⟨gt, 0, none⟩ = some (.int .i64 z.kind)) (h1 : w.cell? ⟨gt, 1, none⟩ = some (.int .i64 z.int)) (h2 : w.cell? ⟨gt, 2, none⟩ = some (.string z.str))
    (hn : l.length ≤ 100000000) (hbase : base ≤ w.heap.size)
    (h : ∀ v' w', w'.ownsRow base 41 3 v' (l ++ [z]).length (rcells (l ++ [z])) → w.grownBy w' v.ownBlock → wpList Try.prog ops Q rest (a.put o.dst v') w') : wpList Try.prog ops Q (o :: rest) a w := by
  obtain ⟨i0, hi0, hz0, hz1, hz2⟩ := info_parts valInfo
  refine wpList_append_own w hgd s x 33 ho base 41 i0 _ 3 32 Try.underlying33 hi0 hz0 hz1 hz2 rfl (by decide) v l.length (rcells l) hs hown ⟨gt, 0, none⟩ 1 1 (vcells z) hx rfl ?_ ?_ (by simp only [maxLen]; omega) (by omega) hbase ?_
  · intro j u hu
    match j with
    | 0 => simp [vcells] at hu; subst hu; exact h0
    | 1 => simp [vcells] at hu; subst hu; exact h1
    | 2 => simp [vcells] at hu; subst hu; exact h2
    | j + 3 => simp [vcells] at hu
  · intro u hu; simp [vcells] at hu; rcases hu with rfl | rfl | rfl <;> rfl
  · intro v' w' h1 h2 _
    refine h v' w' ?_ h2
    rw [rcells_append, List.length_append]
    have : rcells [z] = vcells z := by simp [rcells]
    rw [this]
    exact h1

end Go.Proofs.Ytiomelogggilgaa
end

section
/- Walk: the reference's Children of chapter 34. -/
namespace Go.Proofs.Ytiomelogggilgaa
open Go.RowKit Go.Sort

theorem childStep_skip {p out y : RL.R} (h : y.length ≤ p.length ∨ y.take p.length ≠ p) : childStep p out y = out := by unfold childStep; rw [if_pos h]
theorem childStep_new {p out y : RL.R} (h : ¬ (y.length ≤ p.length ∨ y.take p.length ≠ p)) (h2 : out = [] ∨ out.getLastD default ≠ y.getD p.length default) : childStep p out y = out ++ [y.getD p.length default] := by unfold childStep; rw [if_neg h, if_pos h2]
theorem childStep_old {p out y : RL.R} (h : ¬ (y.length ≤ p.length ∨ y.take p.length ≠ p)) (h2 : ¬ (out = [] ∨ out.getLastD default ≠ y.getD p.length default)) : childStep p out y = out := by unfold childStep; rw [if_neg h, if_neg h2]

end Go.Proofs.Ytiomelogggilgaa
end

section
/- Walk: trie.New. -/
namespace Go.Proofs.Ytiomelogggilgaa
open Go.RowKit Go.Sort

/-- What trie.New leaves. -/
def NewPost (w : World) (n : Int) (X : List RL.R) (cs : List Int) (e : Ending) (w' : World) : Prop :=
  (newErr n cs ≠ 0 → e = .returned (.tuple #[.agg #[.slice none 0 0], .int .i64 (newErr n cs)])) ∧ (newErr n cs = 0 → ∃ LA C, e = .returned (.tuple #[.agg #[.slice LA cs.length C], .int .i64 0]) ∧ TrK w.heap.size w' LA cs.length (vsF cs.length (RL.ofF (X.map (projF · cs)))) (fsF cs.length (RL.ofF (X.map (projF · cs))))) ∧ Below w.heap.size w w'
theorem NewPost.bad {w : World} {n : Int} {X : List RL.R} {cs : List Int} {e : Ending} {w' : World} {q : Int} (hq : newErr n cs = q) (hne : q ≠ 0) (he : e = .returned (.tuple #[.agg #[.slice none 0 0], .int .i64 q])) (hb : Below w.heap.size w w') : NewPost w n X cs e w' :=
  ⟨fun _ => by rw [hq]; exact he, fun h0 => absurd (hq.symm.trans h0) hne, hb⟩

set_option maxHeartbeats 8000000 in
set_option maxRecDepth 100000 in
theorem trNew_any (n : Int) (RA CA : Option Addr) (RC CC : Nat) (X : List RL.R) (cs : List Int) (w : World) (hX : SlRs w.heap.size w RA X) (hcs : SlI .i64 w.heap.size w CA cs) (hXo : RsOk X) (hXl : X.length ≤ 60000) (hcl : cs.length ≤ 32) (hcc : cs.length ≤ CC) (_hcm : CC ≤ 9223372036854775807) (hlen : ∀ x ∈ X, (x.length : Int) = n) :
    Calls Try.prog 51 #[.agg #[.int .i64 n, .slice RA X.length RC], .slice CA cs.length CC] w (NewPost w n X cs) := by
  have HX := Lib.hid hX
  have HCS := Lib.hid hcs
  have HXO := Lib.hid hXo
  have HLEN := Lib.hid hlen
  have hmk := makeLevels cs.length (by omega)
  have HMK := Lib.hid hmk
  have HAR := Lib.hid (fun W => rlArity_any n RA X.length RC W)
  clear hX hcs hXo hlen hmk
  go_enter Try.func51, Try.ntmps51
  go_wp2
  have HB0 := Lib.hid (((Ext.refl w).alloc (.cells #[.int .i64 n, .slice RA X.length RC] 48)).alloc (.cells #[.slice none 0 0] 109))
  have HR0 := Lib.hid ((Row.new w 48 [.int .i64 n, .slice RA X.length RC]).alloc (.cells #[.slice none 0 0] 109))
  have HT0 := Lib.hid (Row.new (w.alloc (.cells #[.int .i64 n, .slice RA X.length RC] 48)) 109 [.slice none 0 0])
  generalize hW0 : (w.alloc (.cells #[.int .i64 n, .slice RA X.length RC] 48)).alloc (.cells #[.slice none 0 0] 109) = W0 at *
  have hz0 : W0.heap.size = w.heap.size + 2 := by rw [← hW0]; simp
  simp only [World.size_alloc] at HT0
  clear hW0
  have HZ0 := Lib.hid hz0
  have hz1 : w.heap.size < W0.heap.size := by omega
  have hz2 : w.heap.size + 1 < W0.heap.size := by omega
  clear hz0
  have HCT : Hid (∀ (k : Nat) (c : Int) (W : World), k ≤ cs.length → Ext w W → Calls Try.prog 70 #[.slice CA k CC, .int .i64 c] W fun e w' => e = .returned (.bool (decide (c ∈ cs.take k))) ∧ W = w') := fun k c W hk hx => by
    have h := slContains_any CA CC (cs.take k) c W (((show SlI .i64 w.heap.size w CA (cs.take k) from fun hn => by
      obtain ⟨b, o, e, hb, hc⟩ := HCS.out (by intro h0; apply hn; rw [List.map_eq_nil_iff] at h0; rw [h0]; simp)
      refine ⟨b, o, e, hb, fun i u hu => hc i u ?_⟩
      rw [List.map_take, List.getElem?_take] at hu
      split at hu
      · exact hu
      · cases hu).ext (Nat.le_refl _) hx).more hx.size) (by simp; omega)
    rw [List.length_take, Nat.min_eq_left hk] at h
    exact h
  go_loopw [17] (fun m wr => ∃ k : Nat, k ≤ cs.length ∧ m = .int .i64 k ∧ Ext W0 wr ∧ (∀ j, j < k → colErr n cs j = 0)) (fun m _ => cs.length - (intOf m).toNat)
  case atStart => exact ⟨0, Nat.zero_le _, rfl, Ext.refl _, fun j hj => absurd hj (by omega)⟩
  case round =>
    obtain ⟨k, hka, rfl, hext, hall⟩ := hrel
    have HE := Lib.hid hext
    have HALL := Lib.hid hall
    have hzz := hext.size
    have hr1 := (HT0.out.up hext.below)
    have hr2 := (HR0.out.up hext.below)
    have p0 : wr.cell? ⟨w.heap.size, 0, none⟩ = some (.int .i64 n) := hr2.cell 0
    have p1 : wr.cell? ⟨w.heap.size, 1, none⟩ = some (.slice RA X.length RC) := hr2.cell 1
    have HR1 := Lib.hid hr1
    have f0 := hr1.frozen 0
    have p4 : wr.cell? ⟨w.heap.size + 1, 0, none⟩ = some (.slice none 0 0) := hr1.cell 0
    have HXX := Lib.hid (HB0.out.trans hext)
    clear hall hext hr1 hr2
    by_cases h1 : k < cs.length
    · obtain ⟨b, o, hA, hb, q1⟩ := slI_at HCS.out h1
      subst hA
      have q1 := (HXX.out.cell hb).trans q1
      have hbw : b < wr.heap.size := by have := HXX.out.size; omega
      have HC : Hid (colErr n cs k = if cs[k] < 0 ∨ n ≤ cs[k] then 3 else if cs[k] ∈ cs.take k then 8 else 0) := by
        show _ = _
        unfold colErr
        rw [List.getD_eq_getElem?_getD, List.getElem?_eq_getElem h1]
        rfl
      generalize cs[k] = c at *
      have hw1 : IntKind.i64.wrap ((k : Int) + 1) = (k : Int) + 1 := IntWalk.i64_in _ (by omega)
      by_cases g1 : c < 0
      · have HE1 := Lib.hid (newErr_at h1 HALL.out (by rw [HC.out, if_pos (.inl g1)]; omega))
        rw [HC.out, if_pos (.inl g1)] at HE1
        have z0 := (HR1.out.set 0 (.slice none 0 0)).cell 0
        simp only [List.set_cons_zero, List.getElem?_cons_zero] at z0
        have g1' : decide (c < 0) = true := by simpa using g1
        clear HC
        go_wp2
        exact bodyPost_ret (v := .tuple #[.agg #[.slice none 0 0], .int .i64 3]) (by simp [results, Try.results51, go_sem, z0]) rfl (NewPost.bad HE1.out (by omega) rfl (HXX.out.below.setCell (by simp) _))
      · by_cases g2 : n ≤ c
        · have HE1 := Lib.hid (newErr_at h1 HALL.out (by rw [HC.out, if_pos (.inr g2)]; omega))
          rw [HC.out, if_pos (.inr g2)] at HE1
          have g1' : decide (c < 0) = false := by simpa using g1
          have g2' : decide (n ≤ c) = true := by simpa using g2
          clear HC
          go_wp2_with fail
          refine (HAR.out _).mono ?_
          rintro e w1 ⟨rfl, hx⟩
          have hr3 := HR1.out.up hx.below
          have p4' : w1.cell? ⟨w.heap.size + 1, 0, none⟩ = some (.slice none 0 0) := hr3.cell 0
          have f0' := hr3.frozen 0
          have z0 := (hr3.set 0 (.slice none 0 0)).cell 0
          simp only [List.set_cons_zero, List.getElem?_cons_zero] at z0
          have HX1 := Lib.hid (HXX.out.trans hx)
          clear hr3 hx
          go_wp2
          exact bodyPost_ret (v := .tuple #[.agg #[.slice none 0 0], .int .i64 3]) (by simp [results, Try.results51, go_sem, z0]) rfl (NewPost.bad HE1.out (by omega) rfl (HX1.out.below.setCell (by simp) _))
        · have g1' : decide (c < 0) = false := by simpa using g1
          have g2' : decide (n ≤ c) = false := by simpa using g2
          have hkc : k ≤ CC := by omega
          have HC2 := Lib.hid (HC.out.trans (if_neg (by omega)))
          clear HC
          go_wp2_with fail
          refine (HAR.out _).mono ?_
          rintro e w1 ⟨rfl, hx⟩
          have hr3 := HR1.out.up hx.below
          have p4' : w1.cell? ⟨w.heap.size + 1, 0, none⟩ = some (.slice none 0 0) := hr3.cell 0
          have f0' := hr3.frozen 0
          have HR3 := Lib.hid hr3
          have HX1 := Lib.hid (HXX.out.trans hx)
          have HE3 := Lib.hid (HE.out.trans hx)
          clear hr3 hx p4 f0 p0 p1 q1
          go_wp2_with fail
          refine (HCT.out k c w1 (by omega) HX1.out).mono ?_
          rintro e w2 ⟨rfl, hw⟩
          obtain rfl := hw.symm
          clear hw
          by_cases g3 : c ∈ cs.take k
          · have HE1 := Lib.hid (newErr_at h1 HALL.out (by rw [HC2.out, if_pos g3]; omega))
            rw [HC2.out, if_pos g3] at HE1
            have g3' : decide (c ∈ cs.take k) = true := by simpa using g3
            have z0 := (HR3.out.set 0 (.slice none 0 0)).cell 0
            simp only [List.set_cons_zero, List.getElem?_cons_zero] at z0
            clear HC2
            generalize decide (c ∈ cs.take k) = q3 at *
            go_wp2
            exact bodyPost_ret (v := .tuple #[.agg #[.slice none 0 0], .int .i64 8]) (by simp [results, Try.results51, go_sem, z0]) rfl (NewPost.bad HE1.out (by omega) rfl (HX1.out.below.setCell (by simp) _))
          · have HC3 := Lib.hid (HC2.out.trans (if_neg g3))
            have g3' : decide (c ∈ cs.take k) = false := by simpa using g3
            generalize decide (c ∈ cs.take k) = q3 at *
            clear HC2
            go_wp2
            go_roundw
            case rel => exact ⟨k + 1, by omega, by go_num, HE3.out, fun j hj => by
              rcases Nat.lt_or_ge j k with h | h
              · exact HALL.out j h
              · obtain rfl : j = k := by omega
                exact HC3.out⟩
            case measure => simp [intOf]; omega
    · obtain rfl : k = cs.length := by omega
      go_wp2_with fail
      have hk0 := cols_of_zero HALL.out
      have HQ0 := Lib.hid (newErr_zero HALL.out)
      refine (rlProject_any n RA CA RC CC X cs wr ((HX.out.ext (Nat.le_refl _) HXX.out).more HXX.out.size) ((HCS.out.ext (Nat.le_refl _) HXX.out).more HXX.out.size) HXO.out hXl hcl HLEN.out).mono ?_
      rintro e w1 ⟨-, h2, hb⟩
      obtain ⟨v, rfl, PA, PC, rfl, hp1, hp2, hfr⟩ := h2 hk0
      have HSS := Lib.hid (RL.SS.of (X.map (projF · cs)))
      have HPO : Hid (RsOk (RL.ofF (X.map (projF · cs)))) := (HXO.out.proj hcl HLEN.out hk0).of_mem (fun y hy => (RL.mem_ofF _ _).1 hy)
      have HPD : Hid (∀ r ∈ RL.ofF (X.map (projF · cs)), r.length = cs.length) := fun r hr => by
        obtain ⟨x, _, rfl⟩ := List.mem_map.1 ((RL.mem_ofF _ _).1 hr)
        exact projF_length x cs
      have hPl : (RL.ofF (X.map (projF · cs))).length ≤ 60000 := by have := RL.ofF_length_le (X.map (projF · cs)); rw [List.length_map] at this; omega
      have HNP : Hid (∀ e w' LA C, e = .returned (.tuple #[.agg #[.slice LA cs.length C], .int .i64 0]) → TrK w.heap.size w' LA cs.length (vsF cs.length (RL.ofF (X.map (projF · cs)))) (fsF cs.length (RL.ofF (X.map (projF · cs)))) → Below w.heap.size w w' → NewPost w n X cs e w') := fun e w' LA C h1 h2 h3 =>
        ⟨fun h => absurd HQ0.out h, fun _ => ⟨LA, C, h1, h2⟩, h3⟩
      generalize hP : RL.ofF (X.map (projF · cs)) = P at *
      have HSP := Lib.hid hfr.sl
      have HB1 := Lib.hid (Below.then HXX.out.below hb HXX.out.size)
      have HTB := Lib.hid (HR1.out.up hb)
      clear hP h2 hb hfr HQ0 hk0 HALL p0 p1 p4 f0 HX HXO HLEN HAR HCT HCS
      have hmk := HMK.out
      go_wp2_with fail
      obtain ⟨wo, hwo⟩ : ∃ wo, wo = wr := ⟨_, rfl⟩
      subst hwo
      obtain ⟨W4, hW4⟩ : ∃ W4, W4 = (((w1.alloc (.cells #[.int .i64 cs.length, .slice PA P.length PC] 48)).alloc (.cells (zerosA (.slice none 0 0) (cs.length * 2)) 130)).alloc (.cells #[.slice (some ⟨w1.heap.size + 1, 0, none⟩) cs.length cs.length] 109)) := ⟨_, rfl⟩
      have hx4 : Ext w1 W4 := by rw [hW4]; exact (((Ext.refl w1).alloc _).alloc _).alloc _
      have hz4 : W4.heap.size = w1.heap.size + 3 := by rw [hW4]; simp
      have hl4 : Row W4 (w1.heap.size + 1) 130 (List.replicate (cs.length * 2) (.slice none 0 0)) := by
        rw [hW4]
        have h := (Row.zeros (w1.alloc (.cells #[.int .i64 cs.length, .slice PA P.length PC] 48)) 130 (.slice none 0 0) (cs.length * 2)).alloc (.cells #[.slice (some ⟨w1.heap.size + 1, 0, none⟩) cs.length cs.length] 109)
        simp only [World.size_alloc] at h
        exact h
      have ht4 : Row W4 (w1.heap.size + 1 + 1) 109 [.slice (some ⟨w1.heap.size + 1, 0, none⟩) cs.length cs.length] := by
        rw [hW4]
        have h := Row.new ((w1.alloc (.cells #[.int .i64 cs.length, .slice PA P.length PC] 48)).alloc (.cells (zerosA (.slice none 0 0) (cs.length * 2)) 130)) 109 [.slice (some ⟨w1.heap.size + 1, 0, none⟩) cs.length cs.length]
        simp only [World.size_alloc] at h
        exact h
      have HSP4 := Lib.hid (HSP.out.up hx4)
      have HTB4 := Lib.hid (HTB.out.up hx4.below)
      have hbb := HB1.out.size
      have hbt := HTB.out.lt
      have HB4 := Lib.hid (Below.then HB1.out hx4.below hbb)
      rw [← hW4]
      clear hW4 hx4 HSP HTB HB1 hmk HMK
      refine (rlRows_any (cs.length : Nat) PA PC P W4 HSP4.out HPO.out (by omega)).mono ?_
      rintro e w5 ⟨g, rfl, hmade, hb5⟩
      have hmd : ∀ k (hk : k < P.length), ∃ A' C', w5.cell? ⟨g, k, none⟩ = some (.slice A' P[k].length C') ∧ HR (fun b => b ≠ w1.heap.size + 1) w5.heap.size w5 (.slice A' P[k].length C') P[k] := fun k hk => by
        obtain ⟨hs, m1, m2, m3, m4⟩ := hmade
        obtain ⟨A', C', a1, a2, a3, a4, a5⟩ := m4 k hk hk
        refine ⟨A', C', by rw [m1.cell]; exact a1, A', C', rfl, a2, a3, a4, fun hy ad e => ?_⟩
        have := (a5 hy ad e).2.1
        show ad.block ≠ _
        omega
      have hgl : g < w5.heap.size := hmade.lt
      have hgB : W4.heap.size ≤ g := by obtain ⟨hs, m1, m2, m3, m4⟩ := hmade; exact m3
      have hl5 := hl4.up hb5
      have ht5 := ht4.up hb5
      have HBL0 : Hid (BldM w5.heap.size (fun _ => True) w5 (w1.heap.size + 1) cs.length (vsB cs.length P 0) (fsB cs.length P 0)) := by
        show OwnAll _ _ _ _ _ _ _
        rw [vsB_zero, fsB_zero]
        exact BldM.start hl5 hl5.lt (Nat.le_refl _)
      have HT5 := Lib.hid ht5
      have HTB5 := Lib.hid (HTB4.out.up hb5)
      have HB5 := Lib.hid (Below.then HB4.out hb5 (by omega))
      have HMD := Lib.hid hmd
      have hz5 := hb5.size
      clear hmade hb5 hl4 ht4 hl5 ht5 hmd HB4 HTB4 HSP4
      generalize hlbv : w1.heap.size + 1 = lb at *
      have htg : lb + 1 < w5.heap.size := by omega
      have hgne : lb < g := by omega
      have hz4' : lb < w5.heap.size := by omega
      have hwb : w.heap.size + 1 < lb := by omega
      clear hlbv hz4
      go_wp2
      go_loopw [11, 55] (fun a m wr => ∃ k : Nat, k ≤ P.length ∧ m = .int .i64 k ∧ HR (fun b => b ≠ lb) w5.heap.size w5 a (lastOf P k) ∧ BldM w5.heap.size (fun _ => True) wr lb cs.length (vsB cs.length P k) (fsB cs.length P k) ∧ KeepX w5.heap.size lb w5 wr) (fun _ m _ => P.length - (intOf m).toNat)
      case atStart =>
        refine ⟨0, Nat.zero_le _, rfl, ⟨none, 0, rfl, Nat.zero_le _, by omega, SlR.nil, fun h => absurd rfl h⟩, HBL0.out, KeepX.refl _ _ _⟩
      case round =>
        obtain ⟨k, hka, rfl, hlast, hbld, hkeep⟩ := hrel
        have hzz := hkeep.2.2.2.1
        have HLAST := Lib.hid hlast
        have HBLD := Lib.hid hbld
        have HKEEP := Lib.hid hkeep
        have t0 : wr.cell? ⟨lb + 1, 0, none⟩ = some (.slice (some ⟨lb, 0, none⟩) cs.length cs.length) := (hkeep.cell (p := ⟨lb + 1, 0, none⟩) htg (by show lb + 1 ≠ lb; omega)).trans (HT5.out.cell 0)
        obtain ⟨LA, LC, rfl, hl1, hl2, hl3, hl4⟩ := hlast
        clear hbld hkeep HBL0
        by_cases h1 : k < P.length
        · obtain ⟨A', C', d1, hhr⟩ := HMD.out k h1
          have d1 := (HKEEP.out.cell (p := ⟨g, k, none⟩) hgl (by show g ≠ lb; omega)).trans d1
          have HHR := Lib.hid hhr
          obtain ⟨A2, C2, e2, b1, b2, b3, b4⟩ := hhr
          injection e2 with e2 _ e3
          subst e2 e3
          have hw1 : IntKind.i64.wrap ((k : Int) + 1) = (k : Int) + 1 := IntWalk.i64_in _ (by omega)
          have HPK : Hid (P[k].length = cs.length) := HPD.out _ (List.getElem_mem h1)
          have hpk1 : P[k].length ≤ cs.length := Nat.le_of_eq HPK.out
          have hpk2 : cs.length ≤ P[k].length := Nat.le_of_eq HPK.out.symm
          have hll := lastOf_len HPD.out k
          go_wp2_with fail
          have HSH : Hid (∀ W, Ext wr W → Calls Try.prog 73 #[.slice LA (lastOf P k).length LC, .slice A' P[k].length C'] W fun e w' => e = .returned (.int .i64 (RL.sharedN (lastOf P k) P[k])) ∧ Ext W w') := fun W hW => by
            have hk1 : ∀ p : Addr, p.block < w5.heap.size → p.block ≠ lb → W.cell? p = w5.cell? p := fun p hp hn => (hW.below.cell (by omega)).trans (HKEEP.out.cell hp hn)
            refine trShared_any LA A' LC C' (lastOf P k) P[k] W ((SlR.keepP (P := fun b => b ≠ lb) hl3 hl4 hk1).more (by have := hW.size; omega)) ((SlR.keepP (P := fun b => b ≠ lb) b3 b4 hk1).more (by have := hW.size; omega)) (by omega) (by omega)
          refine wp_region_held_drew (S := (fun w' => w'.cell? ⟨lb + 1, 0, none⟩ = some (.slice (some ⟨lb, 0, none⟩) cs.length cs.length))) (by kernel_rfl) t0 (fun hHeld => ?_)
          refine takeOp (i := 0) (v := ?_) (some 59) rfl rfl (by kernel_rfl) (by kernel_rfl) (by kernel_rfl) (fun _ _ _ h => h) (Or.inl ⟨by rfl, ?_⟩) (by assumption) ?_
          rotate_left 1
          · (intro w0 hSw; (try dsimp only at hSw); go_simp; try (with_reducible rfl))
          try simp only [Act.put]
          try simp only [List.setIfInBounds_toArray]
          try simp only [List.set_cons_succ]
          try simp only [List.set_cons_zero]
          refine takeOp (i := 1) (v := ?_) (some 60) rfl rfl (by kernel_rfl) (by kernel_rfl) (by kernel_rfl) (fun _ _ _ h => h) (Or.inl ⟨by rfl, ?_⟩) (by assumption) ?_
          rotate_left 1
          · (intro w0 hSw; (try dsimp only at hSw); go_simp; try (with_reducible rfl))
          try simp only [Act.put]
          try simp only [List.setIfInBounds_toArray]
          try simp only [List.set_cons_succ]
          try simp only [List.set_cons_zero]
          refine takeOp (i := 2) (v := ?_) (some 61) rfl rfl (by kernel_rfl) (by kernel_rfl) (by kernel_rfl) (fun _ _ _ h => h) (Or.inl ⟨by rfl, ?_⟩) (by assumption) ?_
          rotate_left 1
          · (intro w0 hSw; (try dsimp only at hSw); go_simp; try (with_reducible rfl))
          try simp only [Act.put]
          try simp only [List.setIfInBounds_toArray]
          try simp only [List.set_cons_succ]
          try simp only [List.set_cons_zero]
          refine takeOp (i := 3) (v := ?_) (some 62) rfl rfl (by kernel_rfl) (by kernel_rfl) (by kernel_rfl) (fun _ _ _ h => h) (Or.inl ⟨by rfl, ?_⟩) (by assumption) ?_
          rotate_left 1
          · (intro w0 hSw; (try dsimp only at hSw); go_simp; try (with_reducible rfl))
          try simp only [Act.put]
          try simp only [List.setIfInBounds_toArray]
          try simp only [List.set_cons_succ]
          try simp only [List.set_cons_zero]
          refine wpAnyH_ready (rs := [4]) (by kernel_rfl) (by simp) ?_
          refine AllReadyH.cons rfl (fun K hK => ?_) AllReadyH.nil
          go_simp
          refine (HSH.out _ (Ext.refl wr).drew).mono ?_
          rintro e w6 ⟨rfl, hx0⟩
          have hx : Ext wr w6 := (Ext.refl wr).drew.trans hx0
          have KEEP : w6.cell? ⟨lb + 1, 0, none⟩ = some (.slice (some ⟨lb, 0, none⟩) cs.length cs.length) := (hx.cell (by omega)).trans t0
          have HX6 := Lib.hid hx
          clear hx hx0
          go_wp2_with fail
          refine hK.out _ _ KEEP (fun hHeld => ?_)
          clear hK K
          try simp only [Act.put]
          try simp only [List.setIfInBounds_toArray]
          try simp only [List.set_cons_succ]
          try simp only [List.set_cons_zero]
          refine wpAnyH_ready (rs := [5]) (by kernel_rfl) (by simp) ?_
          refine AllReadyH.cons rfl (fun K hK => ?_) AllReadyH.nil
          go_simp
          have hsle := RL.sharedN_le (lastOf P k) P[k]
          refine (trAdd_any w5.heap.size lb cs.length cs.length (vsB cs.length P k) (fsB cs.length P k) A' C' (RL.sharedN (lastOf P k) P[k]) P[k] w6 (OwnAll.up HBLD.out HX6.out.below) (HHR.out.keep (fun p hp hn => (HX6.out.below.cell (by omega)).trans (HKEEP.out.cell hp hn))) HPK.out (by omega) hcl (fun l => by have := vsB_len cs.length P k l; omega) (fun l => by have := fsB_len cs.length P k l; omega)).mono ?_
          rintro e w7 ⟨rfl, hbld7, hkeep7⟩
          have KEEP2 : w7.cell? ⟨lb + 1, 0, none⟩ = some (.slice (some ⟨lb, 0, none⟩) cs.length cs.length) := (hkeep7.cell (p := ⟨lb + 1, 0, none⟩) htg (by show lb + 1 ≠ lb; omega)).trans KEEP
          have HBLD7 := Lib.hid hbld7
          have HKEEP7 := Lib.hid hkeep7
          clear hbld7 hkeep7
          go_wp2_with fail
          refine hK.out _ _ KEEP2 (fun hHeld => ?_)
          clear hK K
          try simp only [Act.put]
          try simp only [List.setIfInBounds_toArray]
          try simp only [List.set_cons_succ]
          try simp only [List.set_cons_zero]
          refine wpAnyH_done (by kernel_rfl) ?_ _
          go_wp2
          go_roundw
          case rel =>
            refine ⟨k + 1, by omega, by go_num, ?_, ?_, HKEEP.out.trans ((KeepX.below HX6.out.below hzz).trans HKEEP7.out)⟩
            · rw [take_last h1]; exact HHR.out
            · have h := HBLD7.out
              rw [vsB_step HSS.out HPD.out h1] at h
              exact h.congr (fun _ _ => rfl) (fsB_step HSS.out HPD.out h1)
          case measure => simp [intOf]; omega
        · obtain rfl : k = P.length := by omega
          have HBLD1 : Hid (BldM w5.heap.size (fun _ => True) wr lb cs.length (vsF cs.length P) (fsH cs.length P 0)) := by
            have h := HBLD.out
            rw [vsB_all] at h
            exact h
          clear HBLD HLAST HMD hl1 hl2 hl3 hl4
          obtain ⟨wq, hwq⟩ : ∃ wq, wq = wr := ⟨_, rfl⟩
          subst hwq
          go_wp2
          have HNODES : Hid (∀ l, (RL.nodes cs.length P l).length ≤ P.length) := RL.nodes_len cs.length P
          have HFB : Hid (∀ l, (fsB cs.length P P.length l).length ≤ P.length) := fsB_len cs.length P P.length
          clear t0
          go_loopw [70] (fun m wr => ∃ k : Nat, k ≤ cs.length ∧ m = .int .i64 k ∧ BldM w5.heap.size (fun _ => True) wr lb cs.length (vsF cs.length P) (fsH cs.length P k) ∧ KeepX w5.heap.size lb w5 wr) (fun m _ => cs.length - (intOf m).toNat)
          case atStart => exact ⟨0, Nat.zero_le _, rfl, HBLD1.out, HKEEP.out⟩
          case round =>
            obtain ⟨k, hka2, rfl, hbld, hkeep⟩ := hrel
            have hzz2 := hkeep.2.2.2.1
            have HBLD := Lib.hid hbld
            have HK2 := Lib.hid hkeep
            have t0 : wr.cell? ⟨lb + 1, 0, none⟩ = some (.slice (some ⟨lb, 0, none⟩) cs.length cs.length) := (hkeep.cell (p := ⟨lb + 1, 0, none⟩) htg (by show lb + 1 ≠ lb; omega)).trans (HT5.out.cell 0)
            have p4 : wr.cell? ⟨w.heap.size + 1, 0, none⟩ = some (.slice none 0 0) := (hkeep.cell (p := ⟨w.heap.size + 1, 0, none⟩) (by show w.heap.size + 1 < _; omega) (by show w.heap.size + 1 ≠ lb; omega)).trans (HTB5.out.cell 0)
            clear hbld hkeep HBLD1 HKEEP
            by_cases h1 : k < cs.length
            rotate_left
            · have hkc : k = cs.length := by omega
              have HTR : Hid (∀ W, W = wr.setCell ⟨w.heap.size + 1, 0, none⟩ (.slice (some ⟨lb, 0, none⟩) cs.length cs.length) → TrK w.heap.size W (some ⟨lb, 0, none⟩) cs.length (vsF cs.length P) (fsF cs.length P)) := fun W hW => by
                have h : BldM w5.heap.size (fun _ => True) wr lb cs.length (vsF cs.length P) (fsF cs.length P) := HBLD.out.congr (fun _ _ => rfl) (fun l hl => by unfold fsH; rw [if_pos (by omega)])
                have hs : W.heap.size = wr.heap.size := by rw [hW]; simp
                obtain ⟨hs0, r1, r2, r3, r3', r4, r5, r6⟩ := h
                have h2 : BldM w5.heap.size (fun _ => True) W lb cs.length (vsF cs.length P) (fsF cs.length P) := by
                  rw [hW]
                  refine ⟨hs0, r1.far (by show lb ≠ w.heap.size + 1; omega) _, r2, r3, by simpa using r3', fun i u hu => own_far (r4 i u hu) (fun e => by have := own_base (r4 i u hu) e; simp only at this; omega) _, r5, r6⟩
                exact BldM.trK h2 (by omega) (by have := HB5.out.size; omega)
              have hrr : Row wr (w.heap.size + 1) 109 [.slice none 0 0] := (HK2.out.2.2.2.2 (w.heap.size + 1) (by omega) (by omega)).trans HTB5.out
              have f0 := hrr.frozen 0
              have z0 := (hrr.set 0 (.slice (some ⟨lb, 0, none⟩) cs.length cs.length)).cell 0
              simp only [List.set_cons_zero, List.getElem?_cons_zero] at z0
              have HBW : Hid (Below w.heap.size w wr) := Below.then HB5.out (⟨HK2.out.1, HK2.out.2.1, HK2.out.2.2.1, HK2.out.2.2.2.1, fun b hb => HK2.out.2.2.2.2 b (by omega) (by omega)⟩ : Below w.heap.size w5 wr) (Nat.le_refl _)
              have hge : ¬ k < cs.length := h1
              clear hrr
              go_wp2
              exact bodyPost_ret (v := .tuple #[.agg #[.slice (some ⟨lb, 0, none⟩) cs.length cs.length], .int .i64 0]) (by simp [results, Try.results51, go_sem, z0]) rfl (HNP.out _ _ _ _ rfl (HTR.out _ rfl) (HBW.out.setCell (by simp) _))
            obtain ⟨f, cf, of, qf, ff⟩ := OwnAll.at_ HBLD.out (show k * 2 + 1 < cs.length * 2 by omega)
            rw [spF_f, fsH_at] at of
            have HSZ : Hid (∀ W, Ext wr W → Calls Try.prog 74 #[.agg #[.slice (some ⟨lb, 0, none⟩) cs.length cs.length], .int .i64 ((k : Int) + 1)] W fun e w' => e = .returned (.int .i64 (RL.nodes cs.length P (k + 1)).length) ∧ Ext W w') := fun W hW => by
              have h := trSize_any wr.heap.size (some ⟨lb, 0, none⟩) cs.length cs.length (vsF cs.length P) (fsH cs.length P k) (k + 1) W ((BldM.tr HBLD.out).below hW.below (Nat.le_refl _)) hW.size (by omega) (by omega)
              have e1 : sizeF cs.length (vsF cs.length P) (k + 1) = (RL.nodes cs.length P (k + 1)).length := by
                unfold sizeF
                rw [vsF_len]
                split
                · rfl
                · rw [RL.nodes_out (by omega)]; rfl
              rw [e1] at h
              exact h
            have hlw3 : lb < wr.heap.size := by omega
            have htw3 : lb + 1 < wr.heap.size := by omega
            have HOF := Lib.hid of
            have HQF : Hid (∀ j, f.ownBlock = some j → w5.heap.size ≤ j) := fun j hj => own_base of hj
            have hfk := HFB.out k
            have hw1 : IntKind.i64.wrap ((k : Int) + 1) = (k : Int) + 1 := IntWalk.i64_in _ (by omega)
            obtain ⟨q, hq⟩ : ∃ q, q = (RL.nodes cs.length P (k + 1)).length := ⟨_, rfl⟩
            have HN : Hid ((RL.nodes cs.length P (k + 1)).length = q) := hq.symm
            rw [← hq] at HSZ
            clear of qf hq p4
            go_wp2
            refine regionZ (S := (fun w' => w'.cell? ⟨lb + 1, 0, none⟩ = some (.slice (some ⟨lb, 0, none⟩) cs.length cs.length) ∧ w'.cell? ⟨lb, k * 2 + 1, none⟩ = some f)) 17 (by kernel_rfl) ⟨t0, cf⟩ (fun hHeld => ?_)
            refine takeZ (i := 0) (v := ?_) (some 73) rfl rfl (by kernel_rfl) (by decide) (by kernel_rfl) (by kernel_rfl) (by kernel_rfl) (by kernel_rfl) (fun _ _ _ h => h) (Or.inl ⟨by rfl, ?_⟩) (by assumption) ?_
            rotate_left 1
            · (intro w0 hSw; (try dsimp only at hSw); go_simp; try (with_reducible rfl))
            try simp only [Act.put]
            try simp only [List.setIfInBounds_toArray]
            try simp only [List.set_cons_succ]
            try simp only [List.set_cons_zero]
            refine takeZ (i := 1) (v := ?_) (some 74) rfl rfl (by kernel_rfl) (by decide) (by kernel_rfl) (by kernel_rfl) (by kernel_rfl) (by kernel_rfl) (fun _ _ _ h => h) (Or.inl ⟨by rfl, ?_⟩) (by assumption) ?_
            rotate_left 1
            · (intro w0 hSw; (try dsimp only at hSw); go_simp; try (with_reducible rfl))
            try simp only [Act.put]
            try simp only [List.setIfInBounds_toArray]
            try simp only [List.set_cons_succ]
            try simp only [List.set_cons_zero]
            refine takeZ (i := 2) (v := ?_) (some 75) rfl rfl (by kernel_rfl) (by decide) (by kernel_rfl) (by kernel_rfl) (by kernel_rfl) (by kernel_rfl) (fun _ _ _ h => h) (Or.inl ⟨by rfl, ?_⟩) (by assumption) ?_
            rotate_left 1
            · (intro w0 hSw; (try dsimp only at hSw); go_simp; try (with_reducible rfl))
            try simp only [Act.put]
            try simp only [List.setIfInBounds_toArray]
            try simp only [List.set_cons_succ]
            try simp only [List.set_cons_zero]
            refine takeZ (i := 3) (v := ?_) (some 76) rfl rfl (by kernel_rfl) (by decide) (by kernel_rfl) (by kernel_rfl) (by kernel_rfl) (by kernel_rfl) (fun _ _ _ h => h) (Or.inl ⟨by rfl, ?_⟩) (by assumption) ?_
            rotate_left 1
            · (intro w0 hSw; (try dsimp only at hSw); go_simp; try (with_reducible rfl))
            try simp only [Act.put]
            try simp only [List.setIfInBounds_toArray]
            try simp only [List.set_cons_succ]
            try simp only [List.set_cons_zero]
            refine takeZ (i := 4) (v := ?_) (some 77) rfl rfl (by kernel_rfl) (by decide) (by kernel_rfl) (by kernel_rfl) (by kernel_rfl) (by kernel_rfl) (fun _ _ _ h => h) (Or.inl ⟨by rfl, ?_⟩) (by assumption) ?_
            rotate_left 1
            · (intro w0 hSw; (try dsimp only at hSw); go_simp; try (with_reducible rfl))
            try simp only [Act.put]
            try simp only [List.setIfInBounds_toArray]
            try simp only [List.set_cons_succ]
            try simp only [List.set_cons_zero]
            refine takeZ (i := 5) (v := ?_) (some 78) rfl rfl (by kernel_rfl) (by decide) (by kernel_rfl) (by kernel_rfl) (by kernel_rfl) (by kernel_rfl) (fun _ _ _ h => h) (Or.inl ⟨by rfl, ?_⟩) (by assumption) ?_
            rotate_left 1
            · (intro w0 hSw; (try dsimp only at hSw); go_simp; try (with_reducible rfl))
            try simp only [Act.put]
            try simp only [List.setIfInBounds_toArray]
            try simp only [List.set_cons_succ]
            try simp only [List.set_cons_zero]
            refine takeZ (i := 6) (v := ?_) (some 79) rfl rfl (by kernel_rfl) (by decide) (by kernel_rfl) (by kernel_rfl) (by kernel_rfl) (by kernel_rfl) (fun _ _ _ h => h) (Or.inl ⟨by rfl, ?_⟩) (by assumption) ?_
            rotate_left 1
            · (intro w0 hSw; (try dsimp only at hSw); go_simp; try (with_reducible rfl))
            try simp only [Act.put]
            try simp only [List.setIfInBounds_toArray]
            try simp only [List.set_cons_succ]
            try simp only [List.set_cons_zero]
            refine takeZ (i := 7) (v := ?_) (some 80) rfl rfl (by kernel_rfl) (by decide) (by kernel_rfl) (by kernel_rfl) (by kernel_rfl) (by kernel_rfl) (fun _ _ _ h => h) (Or.inl ⟨by rfl, ?_⟩) (by assumption) ?_
            rotate_left 1
            · (intro w0 hSw; (try dsimp only at hSw); go_simp; try (with_reducible rfl))
            try simp only [Act.put]
            try simp only [List.setIfInBounds_toArray]
            try simp only [List.set_cons_succ]
            try simp only [List.set_cons_zero]
            refine takeZ (i := 8) (v := ?_) (some 81) rfl rfl (by kernel_rfl) (by decide) (by kernel_rfl) (by kernel_rfl) (by kernel_rfl) (by kernel_rfl) (fun _ _ _ h => h) (Or.inl ⟨by rfl, ?_⟩) (by assumption) ?_
            rotate_left 1
            · (intro w0 hSw; (try dsimp only at hSw); go_simp; try (with_reducible rfl))
            try simp only [Act.put]
            try simp only [List.setIfInBounds_toArray]
            try simp only [List.set_cons_succ]
            try simp only [List.set_cons_zero]
            refine takeZ (i := 9) (v := ?_) (some 82) rfl rfl (by kernel_rfl) (by decide) (by kernel_rfl) (by kernel_rfl) (by kernel_rfl) (by kernel_rfl) (fun _ _ _ h => h) (Or.inl ⟨by rfl, ?_⟩) (by assumption) ?_
            rotate_left 1
            · (intro w0 hSw; (try dsimp only at hSw); go_simp; try (with_reducible rfl))
            try simp only [Act.put]
            try simp only [List.setIfInBounds_toArray]
            try simp only [List.set_cons_succ]
            try simp only [List.set_cons_zero]
            refine takeZ (i := 10) (v := ?_) (some 83) rfl rfl (by kernel_rfl) (by decide) (by kernel_rfl) (by kernel_rfl) (by kernel_rfl) (by kernel_rfl) (fun _ _ _ h => h) (Or.inl ⟨by rfl, ?_⟩) (by assumption) ?_
            rotate_left 1
            · (intro w0 hSw; (try dsimp only at hSw); go_simp; try (with_reducible rfl))
            try simp only [Act.put]
            try simp only [List.setIfInBounds_toArray]
            try simp only [List.set_cons_succ]
            try simp only [List.set_cons_zero]
            refine takeZ (i := 11) (v := ?_) (some 84) rfl rfl (by kernel_rfl) (by decide) (by kernel_rfl) (by kernel_rfl) (by kernel_rfl) (by kernel_rfl) (fun _ _ _ h => h) (Or.inl ⟨by rfl, ?_⟩) (by assumption) ?_
            rotate_left 1
            · (intro w0 hSw; (try dsimp only at hSw); go_simp; try (with_reducible rfl))
            try simp only [Act.put]
            try simp only [List.setIfInBounds_toArray]
            try simp only [List.set_cons_succ]
            try simp only [List.set_cons_zero]
            refine oneZ (i := 12) (by kernel_rfl) rfl (by decide) (fun K hK => ?_)
            go_simp
            refine (HSZ.out _ (Ext.refl wr).drew).mono ?_
            rintro e w4 ⟨rfl, hx0⟩
            have hx : Ext wr w4 := (Ext.refl wr).drew.trans hx0
            have KEEP : w4.cell? ⟨lb + 1, 0, none⟩ = some (.slice (some ⟨lb, 0, none⟩) cs.length cs.length) ∧ w4.cell? ⟨lb, k * 2 + 1, none⟩ = some f := ⟨(hx.cell htw3).trans t0, (hx.cell hlw3).trans cf⟩
            have HX4 := Lib.hid hx
            clear hx hx0
            go_wp2_with fail
            refine hK.out _ _ KEEP (fun hHeld => ?_)
            clear hK K
            try simp only [Act.put]
            try simp only [List.setIfInBounds_toArray]
            try simp only [List.set_cons_succ]
            try simp only [List.set_cons_zero]
            refine oneZ (i := 13) (by kernel_rfl) rfl (by decide) (fun K hK => ?_)
            go_simp
            have hxa : Ext wr (w4.alloc (.cells #[.int .i64 (q : Int)] 3)) := HX4.out.alloc _
            have KEEP1 := (⟨(hxa.cell htw3).trans t0, (hxa.cell hlw3).trans cf⟩ : _ ∧ _)
            have KEEP2K := Lib.hid KEEP1.2
            clear hxa
            refine hK.out _ _ KEEP1 (fun hHeld => ?_)
            clear hK K
            try simp only [Act.put]
            try simp only [List.setIfInBounds_toArray]
            try simp only [List.set_cons_succ]
            try simp only [List.set_cons_zero]
            refine oneZ (i := 14) (by kernel_rfl) rfl (by decide) (fun K hK => ?_)
            refine stepI (w := w4.alloc (.cells #[.int .i64 (q : Int)] 3)) rfl (.tmp 81) (.tmp 86) rfl w5.heap.size f (fsB cs.length P P.length k) (by simp [Act.eval]) (own_keep HOF.out (HX4.out.alloc _).below) w4.heap.size q (by simp [Act.eval]) (Row.new w4 3 [.int .i64 (q : Int)]) (by omega) (by have := HX4.out.size; simp; omega) ?_
            intro ng cap w2 hown2 hg2 hat2
            have hza := (HX4.out.alloc (.cells #[.int .i64 (q : Int)] 3)).size
            have KEEP2 : w2.cell? ⟨lb + 1, 0, none⟩ = some (.slice (some ⟨lb, 0, none⟩) cs.length cs.length) ∧ w2.cell? ⟨lb, k * 2 + 1, none⟩ = some f :=
              ⟨(grown_cell hg2 (p := ⟨lb + 1, 0, none⟩) (Nat.lt_of_lt_of_le htw3 hza) (fun e => by have := HQF.out _ e.symm; simp only at this; omega)).trans KEEP1.1, (grown_cell hg2 (p := ⟨lb, k * 2 + 1, none⟩) (Nat.lt_of_lt_of_le hlw3 hza) (fun e => by have := HQF.out _ e.symm; simp only at this; omega)).trans KEEP1.2⟩
            have hf2 : w2.frozen? ⟨lb, k * 2 + 1, none⟩ = false := by
              have h := OwnAll.up HBLD.out (HX4.out.alloc (.cells #[.int .i64 (q : Int)] 3)).below
              obtain ⟨hs, q1, -, -, -, -, -, -⟩ := h
              exact (q1.grown hg2 (fun e => by have := HQF.out _ e.symm; omega)).frozen _
            have HOWN2 := Lib.hid hown2
            have HG2 := Lib.hid hg2
            have HAT2 := Lib.hid hat2
            clear hown2 hg2 hat2 hza
            refine hK.out _ _ KEEP2 (fun hHeld => ?_)
            clear hK K
            try simp only [Act.put]
            try simp only [List.setIfInBounds_toArray]
            try simp only [List.set_cons_succ]
            try simp only [List.set_cons_zero]
            refine takeZ (i := 15) (v := ?_) (some 88) rfl rfl (by kernel_rfl) (by decide) (by kernel_rfl) (by kernel_rfl) (by kernel_rfl) (by kernel_rfl) (fun _ _ _ h => h) (Or.inl ⟨by rfl, ?_⟩) (by assumption) ?_
            rotate_left 1
            · (intro w0 hSw; (try dsimp only at hSw); go_simp; try (with_reducible rfl))
            try simp only [Act.put]
            try simp only [List.setIfInBounds_toArray]
            try simp only [List.set_cons_succ]
            try simp only [List.set_cons_zero]
            refine takeZ (i := 16) (v := ?_) (some 89) rfl rfl (by kernel_rfl) (by decide) (by kernel_rfl) (by kernel_rfl) (by kernel_rfl) (by kernel_rfl) (fun _ _ _ h => h) (Or.inl ⟨by rfl, ?_⟩) (by assumption) ?_
            rotate_left 1
            · (intro w0 hSw; (try dsimp only at hSw); go_simp; try (with_reducible rfl))
            try simp only [Act.put]
            try simp only [List.setIfInBounds_toArray]
            try simp only [List.set_cons_succ]
            try simp only [List.set_cons_zero]
            refine lastZ (by kernel_rfl) rfl (by kernel_rfl) (fun K hK => ?_)
            go_simp
            go_wp2_with fail
            refine hK.out _ _ ?_
            clear hK K
            try simp only [Act.put]
            try simp only [List.setIfInBounds_toArray]
            try simp only [List.set_cons_succ]
            try simp only [List.set_cons_zero]
            go_wp2
            go_roundw
            case rel =>
              have hx5 : Ext wr (w4.alloc (.cells #[.int .i64 (q : Int)] 3)) := HX4.out.alloc _
              refine ⟨k + 1, by omega, by go_num, ?_, ?_⟩
              · rw [fsH_step]
                refine OwnAll.put (OwnAll.up HBLD.out hx5.below) KEEP2K.out (spF_updf _ _ _ _) ?_ HG2.out (fun j hj => ?_) (fun _ _ => trivial)
                · rw [spF_f, upd_self, List.length_append, HN.out]
                  exact HOWN2.out
                · injection hj with hj
                  subst hj
                  rcases HAT2.out with h | h
                  · exact .inl h
                  · exact .inr (by rw [h]; exact Nat.le_refl _)
              · exact ((HK2.out.trans (KeepX.below hx5.below (by omega))).trans (KeepX.grown HG2.out (Nat.le_trans (by omega) hx5.size) (fun j hj => HQF.out j hj))).trans (KeepX.set w2 _ _)
            case measure => simp [intOf]; omega

end Go.Proofs.Ytiomelogggilgaa
end

section
/- Walk: made of chapter 34's laws. -/
namespace Go.Proofs.Ytiomelogggilgaa
open Go.RowKit Go.Sort

theorem valN_valid (n : Nat) : RL.validV (valN n) = true := by
  unfold valN RL.validV
  split
  · have : (ByteArray.mk #[UInt8.ofNat n]).size = 1 := rfl
    simp [this]
  · have : (ByteArray.mk #[]).size = 0 := rfl
    simp [this]
theorem valN_str (n : Nat) : (valN n).str.size ≤ 1 := by
  unfold valN
  split
  · exact Nat.le_refl _
  · exact Nat.zero_le _
theorem rowN_wrong (n : Nat) (t : List Nat) : wrongF n (rowN n t) = 0 := by
  unfold wrongF
  rw [rowN_len, if_neg (by simp), if_pos]
  unfold rowN
  rw [List.all_eq_true]
  intro v hv
  obtain ⟨k, _, rfl⟩ := List.mem_map.1 hv
  exact valN_valid _
theorem rowsN_err (n : Nat) (X : List (List Nat)) : errF n (X.map (rowN n)) = 0 := errF_zero.2 fun x hx => by
  obtain ⟨t, _, rfl⟩ := List.mem_map.1 hx
  exact rowN_wrong n t
theorem rowsN_ok {n : Nat} (hn : n ≤ 1000000) (X : List (List Nat)) : RsOk (X.map (rowN n)) := fun x hx => by
  obtain ⟨t, _, rfl⟩ := List.mem_map.1 hx
  refine ⟨by rw [rowN_len]; exact hn, fun v hv => ?_⟩
  unfold rowN at hv
  obtain ⟨k, _, rfl⟩ := List.mem_map.1 hv
  have := valN_str (t.getD k 0)
  omega
theorem rowsN_len (n : Nat) (X : List (List Nat)) : ∀ x ∈ X.map (rowN n), x.length = n := fun x hx => by
  obtain ⟨t, _, rfl⟩ := List.mem_map.1 hx
  exact rowN_len n t
theorem ofF_ofF_map (X : List RL.R) (f : RL.R → RL.R) : RL.ofF ((RL.ofF X).map f) = RL.ofF (X.map f) := RL.ofF_eq (RL.SS.of _) fun r => by
  rw [RL.mem_ofF]
  simp only [List.mem_map, RL.mem_ofF]

theorem sl_apart {B : Nat} {w : World} {A : Option Addr} {xs : List Value} {z : Nat} {T : TypeId} {x : Value} (h : Sl B w A xs) (hz : Row w z T [x]) (hx : ∀ u, xs[0]? = some u → u ≠ x) : xs ≠ [] → ∀ ad, A = some ad → ad.block ≠ z := fun hn ad e e2 => by
  obtain ⟨b, o, e', _, hc⟩ := h hn
  rw [e] at e'
  injection e' with e'
  rw [e'] at e2
  simp only at e2
  subst e2
  obtain ⟨u, xs', rfl⟩ := List.exists_cons_of_ne_nil hn
  have h0 := hc 0 u rfl
  rw [hz.cell] at h0
  rcases Nat.eq_zero_or_pos (o + 0) with h1 | h1
  · rw [h1] at h0
    injection h0 with h0
    exact hx u rfl h0.symm
  · rw [List.getElem?_eq_none (by simp; omega)] at h0
    cases h0
theorem Sl.store {B : Nat} {w : World} {A : Option Addr} {xs : List Value} {z : Nat} {T : TypeId} {x : Value} (h : Sl B w A xs) (hz : Row w z T [x]) (hx : ∀ u, xs[0]? = some u → u ≠ x) (u : Value) : Sl B (w.setCell ⟨z, 0, none⟩ u) A xs := fun hn => by
  have hne := sl_apart h hz hx hn
  obtain ⟨b, o, e, hb, hc⟩ := h hn
  refine ⟨b, o, e, hb, fun i u' hu => far_cell (p := ⟨z, 0, none⟩) (q := ⟨b, o + i, none⟩) (fun e2 => hne _ e e2.symm) (hc i u' hu)⟩
theorem rcells_head {y : RL.R} {A : Option Addr} {l C : Nat} : ∀ u, (rcells y)[0]? = some u → u ≠ .slice A l C := fun u hu => by
  cases y with
  | nil => simp [rcells] at hu
  | cons v y => simp [rcells_cons, vcells] at hu; subst hu; intro e; cases e
theorem TrM.store {B : Nat} {w : World} {LA : Option Addr} {d : Nat} {vs : Nat → RL.R} {fs : Nat → List Nat} (h : TrM B w LA d vs fs) {z : Nat} {T : TypeId} {A : Option Addr} {l C : Nat} (hz : Row w z T [.slice A l C]) (u : Value) : TrM B (w.setCell ⟨z, 0, none⟩ u) LA d vs fs := fun k hk => by
  obtain ⟨b, o, VA, VC, FA, FC, h1, h2, h3, h4, h5, h6, h7, h8⟩ := h k hk
  have hbz : z ≠ b := fun e => by
    subst e
    rw [hz.cell] at h3 h4
    have := (List.getElem?_eq_some_iff.1 h3).1
    have := (List.getElem?_eq_some_iff.1 h4).1
    simp at * <;> omega
  exact ⟨b, o, VA, VC, FA, FC, h1, h2, far_cell (p := ⟨z, 0, none⟩) (q := ⟨b, o + k * 2, none⟩) hbz h3, far_cell (p := ⟨z, 0, none⟩) (q := ⟨b, o + k * 2 + 1, none⟩) hbz h4, h5, h6, Sl.store h7 hz rcells_head u, Sl.store h8 hz (fun v hv => by
    cases hf : fs k with
    | nil => rw [hf] at hv; simp at hv
    | cons a l => rw [hf] at hv; simp at hv; subst hv; intro e; cases e) u⟩
theorem OwnRs.store {w : World} {B : Nat} {E : TypeId} {v : Value} {X : List RL.R} (h : OwnRs w B E v X) {z : Nat} {T : TypeId} {A : Option Addr} {l C : Nat} (hz : Row w z T [.slice A l C]) (hzB : z < B) (u : Value) : OwnRs (w.setCell ⟨z, 0, none⟩ u) B E v X := by
  obtain ⟨hs, h1, h2⟩ := h
  refine ⟨hs, own_far h1 (fun e => by have := own_base h1 e; simp only at this; omega) u, fun i hi => ?_⟩
  obtain ⟨A', C', g1, g2, g3, g4, g5⟩ := h2 i hi
  refine ⟨A', C', g1, g2, g3, ?_, g5⟩
  have := Sl.store g4 hz rcells_head u
  unfold SlR
  simpa using this

/-- The rows of the projection. -/
def projRows (ar : Nat) (X : List (List Nat)) (cs : List Int) : List RL.R := RL.ofF ((X.map (rowN (ar % 4))).map (projF · cs))
/-- What made leaves. -/
def MadePost (w : World) (ar : Nat) (X : List (List Nat)) (cs : List Int) (e : Ending) (w' : World) : Prop :=
  (newErr (ar % 4 : Nat) cs ≠ 0 → e = .returned (.tuple #[.agg #[.slice none 0 0], .slice none 0 0, .bool false])) ∧
  (newErr (ar % 4 : Nat) cs = 0 → ∃ LA C VA VC, e = .returned (.tuple #[.agg #[.slice LA cs.length C], .slice VA (projRows ar X cs).length VC, .bool true]) ∧ (projRows ar X cs).length ≤ VC ∧ VC ≤ 9223372036854775807 ∧ TrM w'.heap.size w' LA cs.length (vsF cs.length (projRows ar X cs)) (fsF cs.length (projRows ar X cs)) ∧ SlRs w'.heap.size w' VA (projRows ar X cs)) ∧ Below w.heap.size w w'
theorem MadePost.bad {w : World} {ar : Nat} {X : List (List Nat)} {cs : List Int} {e : Ending} {w' : World} (hne : newErr (ar % 4 : Nat) cs ≠ 0) (he : e = .returned (.tuple #[.agg #[.slice none 0 0], .slice none 0 0, .bool false])) (hb : Below w.heap.size w w') : MadePost w ar X cs e w' :=
  ⟨fun _ => he, fun h0 => absurd h0 hne, hb⟩

end Go.Proofs.Ytiomelogggilgaa
end

section
/- Walk: awake of chapter 34's laws. -/
namespace Go.Proofs.Ytiomelogggilgaa
open Go.RowKit Go.Sort

def awX : List (List Nat) := [[1, 2, 0], [1, 4, 0], [3, 2, 0]]
def awP : List RL.R := [[valN 1, valN 2], [valN 1, valN 4], [valN 3, valN 2]]
theorem awP_eq : projRows 2 awX [0, 1] = awP := by kernel_rfl
theorem aw_err : newErr (2 % 4 : Nat) [0, 1] = 0 := by decide
theorem aw_k0 : RL.kids 2 awP [] = [valN 1, valN 3] := by kernel_rfl
theorem aw_k1 : RL.kids 2 awP [valN 1] = [valN 2, valN 4] := by kernel_rfl
theorem aw_s1 : seekX 2 awP (valN 3) (some ([valN 1], 0)) = some ([valN 1], 1) := by kernel_rfl
theorem aw_u1 : upX 2 awP (some ([valN 1], 2)) = some ([], 0) := by kernel_rfl
theorem aw_s2 : seekX 2 awP (valN 2) (some ([], 0)) = some ([], 1) := by kernel_rfl
theorem aw_o1 : openX 2 awP none = some ([], 0) := by kernel_rfl
theorem aw_o2 : openX 2 awP (some ([], 0)) = some ([valN 1], 0) := by kernel_rfl
theorem aw_n1 : nextX 2 awP (some ([valN 1], 1)) = some ([valN 1], 2) := by kernel_rfl
theorem aw_b1 : openB 2 awP none = true := by kernel_rfl
theorem aw_b2 : openB 2 awP (some ([], 0)) = true := by kernel_rfl
theorem aw_on1 : onX 2 awP (some ([valN 1], 1)) = true := by kernel_rfl
theorem aw_on2 : onX 2 awP (some ([valN 1], 2)) = false := by kernel_rfl
theorem aw_on3 : onX 2 awP (some ([], 1)) = true := by kernel_rfl
theorem aw_key : keyV 2 awP (some ([valN 1], 1)) = valN 4 := by kernel_rfl

end Go.Proofs.Ytiomelogggilgaa
end

section
/- Plain: Seek as repeated steps. -/
namespace Go.Proofs.Ytiomelogggilgaa
open Go.RowKit Go.Sort

/-- j steps on among the siblings. -/
def adv : Pl → Nat → Pl
  | none, _ => none
  | some (q, i), j => some (q, i + j)
/-- How many siblings Seek skips. -/
def dist (d : Nat) (P : List RL.R) (v : RL.V) : Pl → Nat
  | none => 0
  | some (q, i) => if i < (RL.kids d P q).length then max i ((RL.kids d P q).countP fun u => decide (RL.cmpV u v < 0)) - i else 0
theorem adv_zero (x : Pl) : adv x 0 = x := by cases x <;> rfl
theorem seek_adv (d : Nat) (P : List RL.R) (v : RL.V) (x : Pl) : seekX d P v x = adv x (dist d P v x) := by
  cases x with
  | none => rfl
  | some p =>
    obtain ⟨q, i⟩ := p
    unfold seekX adv dist
    dsimp only
    split
    · rw [show i + (max i ((RL.kids d P q).countP fun u => decide (RL.cmpV u v < 0)) - i) = max i ((RL.kids d P q).countP fun u => decide (RL.cmpV u v < 0)) by omega]
    · rfl
theorem dist_le {d : Nat} {P : List RL.R} (v : RL.V) (x : Pl) : dist d P v x ≤ P.length := by
  cases x with
  | none => exact Nat.zero_le _
  | some p =>
    obtain ⟨q, i⟩ := p
    unfold dist
    dsimp only
    have h1 := RL.kids_fit (d := d) (P := P) q
    have h2 := RL.nodes_len d P q.length
    have h3 : ((RL.kids d P q).countP fun u => decide (RL.cmpV u v < 0)) ≤ (RL.kids d P q).length := List.countP_le_length
    split <;> omega
theorem countP_prefix {K : RL.R} {v : RL.V} (h : K.Pairwise fun a b => RL.cmpV a b < 0) {j : Nat} (hj : j < K.length) : RL.cmpV K[j] v < 0 ↔ j < K.countP fun u => decide (RL.cmpV u v < 0) := by
  constructor
  · intro hlt
    rcases Nat.lt_or_ge j (K.countP fun u => decide (RL.cmpV u v < 0)) with h1 | h1
    · exact h1
    · exfalso
      -- the first j + 1 all are less
      have h2 : (K.take (j + 1)).countP (fun u => decide (RL.cmpV u v < 0)) = (K.take (j + 1)).length := List.countP_eq_length.2 fun u hu => by
        obtain ⟨i, hi, rfl⟩ := List.getElem_of_mem hu
        simp at hi
        rw [List.getElem_take]
        simp only [decide_eq_true_eq]
        rcases Nat.lt_or_ge i j with h3 | h3
        · exact RL.tot_cmpV.tr _ _ _ (List.pairwise_iff_getElem.1 h i j (by omega) hj h3) hlt
        · obtain rfl : i = j := by omega
          exact hlt
      have h4 := List.Sublist.countP_le (p := fun u => decide (RL.cmpV u v < 0)) (List.take_sublist (j + 1) K)
      rw [h2, List.length_take] at h4
      omega
  · intro hlt
    rcases Int.lt_or_le (RL.cmpV K[j] v) 0 with h1 | h1
    · exact h1
    · exfalso
      have h2 := countP_ge (v := v) h (q := j) (by omega) (fun _ => by omega)
      omega
section
variable {d : Nat} {P : List RL.R} (hd : ∀ r ∈ P, r.length = d) (v : RL.V)
include hd
/-- Before the end of the steps the key is less; at their end it is not. -/
theorem adv_before {x : Pl} {j : Nat} (hj : j < dist d P v x) : onX d P (adv x j) = true ∧ RL.cmpV (keyV d P (adv x j)) v < 0 ∧ nextX d P (adv x j) = adv x (j + 1) := by
  cases x with
  | none => exact absurd hj (Nat.not_lt_zero _)
  | some p =>
    obtain ⟨q, i⟩ := p
    unfold dist at hj
    dsimp only at hj
    split at hj
    · rename_i hi
      have hc : ((RL.kids d P q).countP fun u => decide (RL.cmpV u v < 0)) ≤ (RL.kids d P q).length := List.countP_le_length
      have hlt : i + j < (RL.kids d P q).length := by omega
      have e1 : keyV d P (adv (some (q, i)) j) = (RL.kids d P q)[i + j] := by
        show (RL.kids d P q).getD (i + j) _ = _
        rw [List.getD_eq_getElem?_getD, List.getElem?_eq_getElem hlt]
        rfl
      refine ⟨by show decide _ = true; simpa using hlt, ?_, ?_⟩
      · rw [e1]
        exact (countP_prefix (RL.kids_asc hd q) hlt).2 (by omega)
      · show (if i + j < _ then _ else _) = _
        rw [if_pos hlt]
        rfl
    · omega
theorem adv_end {x : Pl} (h : onX d P (adv x (dist d P v x)) = true) : ¬ RL.cmpV (keyV d P (adv x (dist d P v x))) v < 0 := by
  cases x with
  | none => cases h
  | some p =>
    obtain ⟨q, i⟩ := p
    have h1 : i + dist d P v (some (q, i)) < (RL.kids d P q).length := by
      have : decide (i + dist d P v (some (q, i)) < (RL.kids d P q).length) = true := h
      simpa using this
    have e1 : keyV d P (adv (some (q, i)) (dist d P v (some (q, i)))) = (RL.kids d P q)[i + dist d P v (some (q, i))] := by
      show (RL.kids d P q).getD _ _ = _
      rw [List.getD_eq_getElem?_getD, List.getElem?_eq_getElem h1]
      rfl
    rw [e1]
    intro hlt
    have h2 := (countP_prefix (RL.kids_asc hd q) h1).1 hlt
    unfold dist at h1 h2
    dsimp only at h1 h2
    split at h2
    · omega
    · rename_i hi
      rw [if_neg hi] at h1
      omega
end

end Go.Proofs.Ytiomelogggilgaa
end

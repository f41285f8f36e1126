/- Parts of the proof, merged: V14, V15, V18, E6, G39a, TPlain, E7, RRange, U4, K4, U1, E8, N5, Y0, G0, JPlain, W1, W3. -/
import Derived.Test.YthgaflmldbgbnaaGreatDoorQ2
import Derived.Deep.RegionLaw
import Derived.Deep.AppendLies
import Derived.Test.YthgaflmldbgbnaaGreatDoorQ1
import Derived.Deep.RegionHeld3
import Derived.StillTailTactics
import Derived.Outline
import Derived.IntWalk
import Derived.WalkLawsBesides
import Derived.Test.YthgaflmldbgbnaaGreatDoorRows
import Derived.Deep.DeepCutAuto
import Derived.Lib.SliceRun

set_option maxRecDepth 100000
namespace Go.Proofs.YthgaflmldbgbnaaGreatDoor
section
open Go.RowKit Go.Sort

def zV : RL.V := ⟨0, 0, ⟨#[]⟩⟩
def zerosV (n : Nat) : Array Value := (rcells (List.replicate n zV)).toArray
theorem rcells_set (L : RL.R) (k : Nat) (v : RL.V) (h : k < L.length) : rcells (L.set k v) = (((rcells L).set (k * 3) (.int .i64 v.kind)).set (k * 3 + 1) (.int .i64 v.int)).set (k * 3 + 2) (.string v.str) := by
  induction L generalizing k with
  | nil => simp at h
  | cons u L ih =>
    cases k with
    | zero => simp [rcells_cons, vcells]
    | succ k =>
      rw [List.set_cons_succ, rcells_cons, rcells_cons, ih k (by simpa using h)]
      rw [show (k + 1) * 3 = k * 3 + 1 + 1 + 1 by omega]
      simp [vcells]
theorem makeVals (n : Nat) (hn : n ≤ 1000000) (w : World) : (Instr.makeSlice 69 (.int .i64 (n : Int)) (.int .i64 (n : Int))).run Tryz.prog w = .ok (.slice (some ⟨w.heap.size, 0, none⟩) n n) (w.alloc (.cells (zerosV n) 71)) := by
  obtain ⟨i0, hi0, hz0, hz1, hz2⟩ := info_parts valInfo
  have := run_make (P := Tryz.prog) w 69 71 i0 _ Tryz.underlying69 hi0 hz0 .i64 .i64 n n (by omega) (by omega) (by rw [hz2]; omega) (by omega)
  rw [this, hz1]
  simp only [Int.toNat_natCast]
  have e : madeCells (Value.agg #[.int .i64 0, .int .i64 0, .string ⟨#[]⟩]).cells (n * 3) = zerosV n := by
    unfold madeCells zerosV
    apply Array.ext
    · simp [rcells_length]
    · intro i h1 h2
      have hi : i / 3 < n := by simp [rcells_length] at h2; omega
      obtain ⟨g1, g2, g3⟩ := rcells_get (List.replicate n zV) (i / 3) zV (by rw [List.getElem?_replicate, if_pos hi])
      have hm := Nat.div_add_mod i 3
      simp only [List.getElem_toArray]
      have h3 : i % 3 = 0 ∨ i % 3 = 1 ∨ i % 3 = 2 := by omega
      rcases h3 with h3 | h3 | h3
      · rw [show i / 3 * 3 = i by omega] at g1
        rw [List.getElem?_eq_some_iff] at g1
        obtain ⟨_, g1⟩ := g1
        rw [g1]
        simp [h3, Value.cells, zV]
      · rw [show i / 3 * 3 + 1 = i by omega] at g2
        rw [List.getElem?_eq_some_iff] at g2
        obtain ⟨_, g2⟩ := g2
        rw [g2]
        simp [h3, Value.cells, zV]
      · rw [show i / 3 * 3 + 2 = i by omega] at g3
        rw [List.getElem?_eq_some_iff] at g3
        obtain ⟨_, g3⟩ := g3
        rw [g3]
        simp [h3, Value.cells, zV]
  rw [e]

def projF (x : RL.R) (cs : List Int) : RL.R := cs.map fun c => x.getD c.toNat zV
theorem projF_length (x : RL.R) (cs : List Int) : (projF x cs).length = cs.length := by simp [projF]

theorem getD_at {x : RL.R} {c : Nat} (h : c < x.length) : x.getD (c : Int).toNat zV = x[c] := by simp [List.getD, h]

def halfP (x : RL.R) (cs : List Int) (k : Nat) : RL.R := (projF x cs).take k ++ List.replicate (cs.length - k) zV
theorem halfP_length (x : RL.R) (cs : List Int) (k : Nat) (h : k ≤ cs.length) : (halfP x cs k).length = cs.length := by simp [halfP, projF_length]; omega
theorem halfP_set (x : RL.R) (cs : List Int) (k : Nat) (h : k < cs.length) : (halfP x cs k).set k (projF x cs)[k]! = halfP x cs (k + 1) := by
  have hk : k < (projF x cs).length := by rw [projF_length]; exact h
  unfold halfP
  rw [List.set_append_right _ _ (by simp; omega), List.take_succ_eq_append_getElem hk, List.append_assoc]
  congr 1
  have e : k - ((projF x cs).take k).length = 0 := by simp; omega
  rw [e, show cs.length - k = (cs.length - (k + 1)) + 1 by omega, List.replicate_succ]
  simp [hk]

set_option maxHeartbeats 2000000 in
theorem rwProject_ok (XA CA : Option Addr) (XC CC : Nat) (x : RL.R) (cs : List Int) (w : World) (hx : SlR w.heap.size w XA x) (hc : SlI .i64 w.heap.size w CA cs) (_hxl : x.length ≤ 1000000) (hcl : cs.length ≤ 1000000) (hv : ∀ c ∈ cs, 0 ≤ c ∧ c < x.length) :
    Calls Tryz.prog 75 #[.slice XA x.length XC, .slice CA cs.length CC] w fun e w' => e = .returned (.tuple #[.slice (some ⟨w.heap.size, 0, none⟩) cs.length cs.length, .int .i64 0]) ∧ Row w' w.heap.size 71 (rcells (projF x cs)) ∧ Below w.heap.size w w' := by
  have HX := Lib.hid hx
  have HC := Lib.hid hc
  have HV := Lib.hid hv
  have hmk := makeVals cs.length hcl
  clear hx hc hv
  go_enter Tryz.func75, Tryz.ntmps75
  go_wp2
  go_loop [11] (fun i => ∃ k : Nat, k ≤ cs.length ∧ i = .int .i64 k) (fun i => cs.length - (intOf i).toNat)
  case atStart => exact ⟨0, Nat.zero_le _, rfl⟩
  case round =>
    obtain ⟨k, hk, rfl⟩ := hrel
    by_cases h1 : k < cs.length
    · obtain ⟨b, o, rfl, hb, c1⟩ := slI_at HC.out h1
      obtain ⟨v1, v2⟩ := HV.out cs[k] (List.getElem_mem h1)
      generalize cs[k] = c at c1 v1 v2
      have n1 : ¬ c < 0 := by omega
      go_wp2
      go_round
      case rel => exact ⟨k + 1, by omega, by go_num⟩
      case measure => simp [intOf]; omega
    · go_wp2
      clear hmk
      have HR0 : Hid (Row (w.alloc (.cells (zerosV cs.length) 71)) w.heap.size 71 (rcells (halfP x cs 0))) := by
        show Row _ _ _ _
        have h := heap_alloc_new w (.cells (zerosV cs.length) 71)
        unfold Row halfP
        rw [h]
        simp [zerosV]
      go_loopw [34] (fun i wr => ∃ k : Nat, k ≤ cs.length ∧ i = .int .i64 k ∧ Row wr w.heap.size 71 (rcells (halfP x cs k)) ∧ Below w.heap.size w wr) (fun i _ => cs.length - (intOf i).toNat)
      case atStart => exact ⟨0, Nat.zero_le _, rfl, HR0.out, (Below.refl _ _).alloc (Nat.le_refl _) _⟩
      case round =>
        obtain ⟨j, hj, rfl, hrow, hbel⟩ := hrel
        have HR := Lib.hid hrow
        have HB := Lib.hid hbel
        by_cases h2 : j < cs.length
        · obtain ⟨b, o, rfl, hb, c1⟩ := slI_at HC.out h2
          obtain ⟨v1, v2⟩ := HV.out cs[j] (List.getElem_mem h2)
          have hp : (projF x cs)[j]! = x.getD cs[j].toNat zV := by
            rw [getElem!_pos _ _ (by rw [projF_length]; exact h2)]; simp [projF]
          have d1 := (hbel.cell (p := ⟨b, o + j, none⟩) hb).trans c1
          have HS := Lib.hid (halfP_set x cs j h2)
          have hlen := halfP_length x cs j (by omega)
          generalize cs[j] = c at c1 v1 v2 hp d1
          obtain ⟨q, rfl⟩ := Int.eq_ofNat_of_zero_le v1
          have hq : q < x.length := by omega
          rw [getD_at hq] at hp
          obtain ⟨b2, o2, rfl, hb2, e1, e2, e3⟩ := slR_at HX.out hq
          have g1 := (hbel.cell (p := ⟨b2, o2 + q * 3, none⟩) hb2).trans e1
          have g2 := (hbel.cell (p := ⟨b2, o2 + q * 3 + 1, none⟩) hb2).trans e2
          have g3 := (hbel.cell (p := ⟨b2, o2 + q * 3 + 2, none⟩) hb2).trans e3
          have hset := rcells_set (halfP x cs j) j x[q] (by omega)
          rw [hp] at HS
          rw [HS.out] at hset
          clear hp HS
          generalize hxq : x[q] = u at g1 g2 g3 hset
          have HSET := Lib.hid hset
          have hl3 : (rcells (halfP x cs j)).length = cs.length * 3 := by rw [rcells_length, hlen]
          obtain ⟨t0, r0⟩ : ∃ t, wr.cell? ⟨w.heap.size, j * 3, none⟩ = some t := ⟨_, hrow.cell_ (by omega)⟩
          obtain ⟨t1, r1⟩ : ∃ t, wr.cell? ⟨w.heap.size, j * 3 + 1, none⟩ = some t := ⟨_, hrow.cell_ (by omega)⟩
          obtain ⟨t2, r2⟩ : ∃ t, wr.cell? ⟨w.heap.size, j * 3 + 2, none⟩ = some t := ⟨_, hrow.cell_ (by omega)⟩
          have z0 := hrow.frozen (j * 3)
          have z1 := hrow.frozen (j * 3 + 1)
          have z2 := hrow.frozen (j * 3 + 2)
          have hzz := hbel.size
          have hzr := hrow.lt
          have HNEW := Lib.hid (((hrow.set (j * 3) (.int .i64 u.kind)).set (j * 3 + 1) (.int .i64 u.int)).set (j * 3 + 2) (.string u.str))
          have HBN := Lib.hid (((hbel.setCell (p := ⟨w.heap.size, j * 3, none⟩) (Nat.le_refl _) (.int .i64 u.kind)).setCell (p := ⟨w.heap.size, j * 3 + 1, none⟩) (Nat.le_refl _) (.int .i64 u.int)).setCell (p := ⟨w.heap.size, j * 3 + 2, none⟩) (Nat.le_refl _) (.string u.str))
          rw [← HSET.out] at HNEW
          clear hset hxq hrow hbel hlen hl3 c1 e1 e2 e3 HR HB HR0 HSET
          go_wp2
          go_roundw
          case rel => exact ⟨j + 1, by omega, by go_num, HNEW.out, HBN.out⟩
          case measure => simp [intOf]; omega
        · have HE : Hid (halfP x cs j = projF x cs) := by
            show _ = _
            unfold halfP
            rw [List.take_of_length_le (by rw [projF_length]; omega), show cs.length - j = 0 by omega]; simp
          rw [HE.out] at HR
          go_wp2
          go_ret2
          exact ⟨rfl, HR.out, hbel⟩
end
section
open Go.RowKit Go.Sort

theorem MadeRs.hb {w : World} {g B : Nat} {E : TypeId} {X : List RL.R} (h : MadeRs w g E X X.length B) (hok : RsOk X) :
    ∃ d : Array (El w g), d.size = X.length ∧ X = d.toList.map El.row ∧ HB w w g 0 d := by
  obtain ⟨hs, h1, h2, h3, h4⟩ := h
  have pick : ∀ i (hi : i < X.length), ∃ e : El w g, hs[i]? = some e.val ∧ e.row = X[i] := fun i hi => by
    obtain ⟨A', C', g1, g2, g3, g4, g5⟩ := h4 i hi hi
    exact ⟨⟨.slice A' X[i].length C', X[i], A', C', rfl, g2, g3, g4, hok.at_ hi, fun hy ad e => (g5 hy ad e).1⟩, g1, rfl⟩
  obtain ⟨F, hF⟩ : ∃ F : Nat → El w g, ∀ i (hi : i < X.length), hs[i]? = some (F i).val ∧ (F i).row = X[i] :=
    ⟨fun i => if hi : i < X.length then (pick i hi).choose else default, fun i hi => by simp only [hi, dif_pos]; exact (pick i hi).choose_spec⟩
  refine ⟨((List.range X.length).map F).toArray, by simp, ?_, ⟨⟨rfl, rfl, rfl, Nat.le_refl _, fun _ _ _ => rfl⟩, fun j hj => ?_, h1.lt⟩⟩
  · apply List.ext_getElem (by simp)
    intro i h3 h4
    simp only [List.getElem_map, List.getElem_range]
    exact (hF i h3).2.symm
  · have hj' : j < X.length := by simpa using hj
    have e : ((List.range X.length).map F).toArray[j]! = F j := by
      rw [getElem!_pos ((List.range X.length).map F).toArray j hj]
      simp
    rw [e, Nat.zero_add]
    exact ⟨by rw [h1.cell]; exact (hF j hj').1, h1.frozen j⟩

def colsOk (n : Int) (cs : List Int) : Bool := cs.all fun c => decide (0 ≤ c) && decide (c < n)

def ProjPost (w : World) (n : Int) (X : List RL.R) (cs : List Int) (e : Ending) (w' : World) : Prop :=
  (colsOk n cs = false → e = .returned (.tuple #[.agg #[.int .i64 0, .slice none 0 0], .int .i64 3])) ∧ (colsOk n cs = true → ∃ v, e = .returned (.tuple #[v, .int .i64 0]) ∧ RelNew w.heap.size w' cs.length (RL.ofF (X.map (projF · cs))) v) ∧ Below w.heap.size w w'

theorem RsOk.proj {X : List RL.R} (h : RsOk X) {n : Int} {cs : List Int} (hcl : cs.length ≤ 32) (hlen : ∀ x ∈ X, (x.length : Int) = n) (hc : colsOk n cs = true) : RsOk (X.map (projF · cs)) := fun y hy => by
  obtain ⟨x, hx, rfl⟩ := List.mem_map.1 hy
  refine ⟨by simp [projF]; omega, fun v hv => ?_⟩
  obtain ⟨c, hcm, rfl⟩ := List.mem_map.1 hv
  have hok := List.all_eq_true.1 hc c hcm
  simp only [Bool.and_eq_true, decide_eq_true_eq] at hok
  have hl := hlen x hx
  have hlt : c.toNat < x.length := by omega
  have e : x.getD c.toNat zV = x[c.toNat] := by simp [List.getD, hlt]
  rw [e]
  exact (h x hx).2 _ (List.getElem_mem hlt)

set_option maxHeartbeats 2000000 in
theorem rlProject_any (n : Int) (RA CA : Option Addr) (RC CC : Nat) (X : List RL.R) (cs : List Int) (w : World) (hX : SlRs w.heap.size w RA X) (hcs : SlI .i64 w.heap.size w CA cs) (hXo : RsOk X) (hXl : X.length ≤ 60000) (hcl : cs.length ≤ 32) (hlen : ∀ x ∈ X, (x.length : Int) = n) :
    Calls Tryz.prog 68 #[.agg #[.int .i64 n, .slice RA X.length RC], .slice CA cs.length CC] w (ProjPost w n X cs) := by
  have HX := Lib.hid hX
  have HCS := Lib.hid hcs
  have HXO := Lib.hid hXo
  have HLEN := Lib.hid hlen
  have hmk := makeRows X.length (by omega)
  have HMK := Lib.hid hmk
  clear hX hcs hXo hlen hmk
  go_enter Tryz.func68, Tryz.ntmps68
  have h32 : decide (32 < (cs.length : Int)) = false := by simp; omega
  have q1 := (Row.new w 34 [.int .i64 n, .slice RA X.length RC]).alloc (.cells #[.int .i64 0, .slice none 0 0] 34)
  have q2 := Row.new (w.alloc (.cells #[.int .i64 n, .slice RA X.length RC] 34)) 34 [.int .i64 0, .slice none 0 0]
  simp only [World.size_alloc] at q2
  have HQ1 := Lib.hid q1
  have HQ2 := Lib.hid q2
  have HE0 := Lib.hid (((Ext.refl w).alloc (.cells #[.int .i64 n, .slice RA X.length RC] 34)).alloc (.cells #[.int .i64 0, .slice none 0 0] 34))
  clear q1 q2
  go_wp2
  generalize (w.alloc (.cells #[.int .i64 n, .slice RA X.length RC] 34)).alloc (.cells #[.int .i64 0, .slice none 0 0] 34) = W0 at *
  have hz0 := HQ2.out.lt
  go_loopw [15] (fun i wr => ∃ k m : Nat, k ≤ cs.length ∧ i = .int .i64 k ∧ colsOk n (cs.take k) = true ∧ wr = W0.drewN m) (fun i _ => cs.length - (intOf i).toNat)
  case atStart => exact ⟨0, 0, Nat.zero_le _, rfl, rfl, rfl⟩
  case round =>
    obtain ⟨k, m, hk, rfl, hco, rfl⟩ := hrel
    have HCO := Lib.hid hco
    clear hco
    by_cases h1 : k < cs.length
    · obtain ⟨b, o, rfl, hb, c1⟩ := slI_at HCS.out h1
      have d1 := (HE0.out.cell hb).trans c1
      have n0 : W0.cell? ⟨w.heap.size, 0, none⟩ = some (.int .i64 n) := HQ1.out.cell 0
      have HT := Lib.hid (List.take_succ_eq_append_getElem h1)
      have HM := Lib.hid (List.getElem_mem h1)
      generalize cs[k] = c at d1 HT HM
      by_cases g1 : c < 0
      · have HF : Hid (colsOk n cs = false) := by
          show _ = _
          unfold colsOk
          rw [List.all_eq_false]
          exact ⟨c, HM.out, by simp; omega⟩
        have r0 : (W0.drewN m).cell? ⟨w.heap.size + 1, 0, none⟩ = some (.int .i64 0) := HQ2.out.cell 0
        have r1 : (W0.drewN m).cell? ⟨w.heap.size + 1, 1, none⟩ = some (.slice none 0 0) := HQ2.out.cell 1
        have f0 : W0.frozen? ⟨w.heap.size + 1, 0, none⟩ = false := HQ2.out.frozen 0
        have f1 : W0.frozen? ⟨w.heap.size + 1, 1, none⟩ = false := HQ2.out.frozen 1
        have r0' : W0.cell? ⟨w.heap.size + 1, 0, none⟩ = some (.int .i64 0) := HQ2.out.cell 0
        have r1' : W0.cell? ⟨w.heap.size + 1, 1, none⟩ = some (.slice none 0 0) := HQ2.out.cell 1
        clear r0 r1 c1
        go_wp2
        go_quiet (fail)
        go_wp2
        refine bodyPost_ret (v := .tuple #[.agg #[.int .i64 0, .slice none 0 0], .int .i64 3]) (by simp [results, Tryz.results68, go_sem, r0', r1']) rfl ⟨fun _ => rfl, (fun h => by rw [HF.out] at h; cases h), ?_⟩
        exact ((Below.drewN' HE0.out.below _).setCell (p := ⟨w.heap.size + 1, 0, none⟩) (show w.heap.size ≤ w.heap.size + 1 by omega) _).setCell (p := ⟨w.heap.size + 1, 1, none⟩) (show w.heap.size ≤ w.heap.size + 1 by omega) _
      · by_cases g2 : n ≤ c
        · have HF : Hid (colsOk n cs = false) := by
            show _ = _
            unfold colsOk
            rw [List.all_eq_false]
            exact ⟨c, HM.out, by simp; omega⟩
          have f0 : W0.frozen? ⟨w.heap.size + 1, 0, none⟩ = false := HQ2.out.frozen 0
          have f1 : W0.frozen? ⟨w.heap.size + 1, 1, none⟩ = false := HQ2.out.frozen 1
          have r0' : W0.cell? ⟨w.heap.size + 1, 0, none⟩ = some (.int .i64 0) := HQ2.out.cell 0
          have r1' : W0.cell? ⟨w.heap.size + 1, 1, none⟩ = some (.slice none 0 0) := HQ2.out.cell 1
          have g1' : decide (c < 0) = false := by simpa using g1
          clear c1
          go_wp2
          go_quiet (fail)
          go_wp2
          refine bodyPost_ret (v := .tuple #[.agg #[.int .i64 0, .slice none 0 0], .int .i64 3]) (by simp [results, Tryz.results68, go_sem, r0', r1']) rfl ⟨fun _ => rfl, (fun h => by rw [HF.out] at h; cases h), ?_⟩
          exact ((Below.drewN' HE0.out.below _).setCell (p := ⟨w.heap.size + 1, 0, none⟩) (show w.heap.size ≤ w.heap.size + 1 by omega) _).setCell (p := ⟨w.heap.size + 1, 1, none⟩) (show w.heap.size ≤ w.heap.size + 1 by omega) _
        · have HCO2 : Hid (colsOk n (cs.take (k + 1)) = true) := by
            show _ = _
            rw [HT.out]
            unfold colsOk
            rw [List.all_append]
            have := HCO.out
            unfold colsOk at this
            rw [this]
            simp; omega
          have g1' : decide (c < 0) = false := by simpa using g1
          have g2' : decide (n ≤ c) = false := by simpa using g2
          clear c1
          go_wp2
          go_quiet (fail)
          go_wp2
          go_roundw
          case rel => exact ⟨k + 1, _, by omega, by go_num, HCO2.out, rfl⟩
          case measure => simp [intOf]; omega
    · have HT := Lib.hid (List.take_of_length_le (show cs.length ≤ k by omega))
      rw [HT.out] at HCO
      have hmk := HMK.out
      have n1 : W0.cell? ⟨w.heap.size, 1, none⟩ = some (.slice RA X.length RC) := HQ1.out.cell 1
      go_wp2
      clear hmk HMK
      have hz1 := HQ1.out.lt
      have HM0 := Lib.hid (MadeRs.start (W0.drewN m) 69 (X.map (projF · cs)))
      have hml : (X.map (projF · cs)).length = X.length := by simp
      rw [hml] at HM0
      have HML := Lib.hid hml
      clear hml n1
      have HQ1' := Lib.hid (((HQ1.out.drewN m).alloc (.cells (zerosA (.slice none 0 0) X.length) 69)))
      have HQ2' := Lib.hid (((HQ2.out.drewN m).alloc (.cells (zerosA (.slice none 0 0) X.length) 69)))
      have HB0 := Lib.hid ((Below.drewN' HE0.out.below m).alloc (show w.heap.size ≤ W0.heap.size by omega) (.cells (zerosA (.slice none 0 0) X.length) 69))
      have HYO := Lib.hid (HXO.out.proj hcl HLEN.out HCO.out)
      have hlo : w.heap.size + 1 < W0.heap.size := hz0
      have HM1 : Hid (MadeRs ((W0.drewN m).alloc (.cells (zerosA (.slice none 0 0) X.length) 69)) W0.heap.size 69 (X.map (projF · cs)) 0 W0.heap.size) := HM0.out
      clear HM0
      go_loopw [40] (fun i wr => ∃ k : Nat, k ≤ X.length ∧ i = .int .i64 k ∧ MadeRs wr W0.heap.size 69 (X.map (projF · cs)) k W0.heap.size ∧ Row wr w.heap.size 34 [.int .i64 n, .slice RA X.length RC] ∧ Row wr (w.heap.size + 1) 34 [.int .i64 0, .slice none 0 0] ∧ Below w.heap.size w wr) (fun i _ => X.length - (intOf i).toNat)
      case atStart => exact ⟨0, Nat.zero_le _, rfl, HM1.out, HQ1'.out, HQ2'.out, HB0.out⟩
      case round =>
        obtain ⟨j, hj, rfl, hM, hr1, hr2, hbel⟩ := hrel
        have HM := Lib.hid hM
        have HR1 := Lib.hid hr1
        have HR2 := Lib.hid hr2
        have HB := Lib.hid hbel
        have hml := hM.lt
        clear hM HM1 HQ1' HQ2' HB0
        by_cases h2 : j < X.length
        · obtain ⟨b, o, A1, C1, rfl, hb, c1, -, -, s1⟩ := slRs_at HX.out h2
          have d1 := (hbel.cell (p := ⟨b, o + j, none⟩) hb).trans c1
          have n1 : wr.cell? ⟨w.heap.size, 1, none⟩ = some (.slice (some ⟨b, o, none⟩) X.length RC) := hr1.cell 1
          have hxl := HLEN.out X[j] (List.getElem_mem h2)
          have HC := Lib.hid (rwProject_ok A1 CA C1 CC X[j] cs wr ((s1.below hbel (Nat.le_refl _)).more hbel.size) ((HCS.out.below hbel (Nat.le_refl _)).more hbel.size) (HXO.out.at_ h2).1 (by omega) (fun c hc => by
            have hok := List.all_eq_true.1 HCO.out c hc
            simp only [Bool.and_eq_true, decide_eq_true_eq] at hok
            omega))
          have hjy : j < (X.map (projF · cs)).length := by rw [HML.out]; exact h2
          have HY : Hid ((X.map (projF · cs))[j] = projF X[j] cs) := by show _ = _; simp
          clear c1 s1 hbel hr1 hr2 hxl
          generalize X[j] = x at d1 HC HY
          go_wp2_with fail
          refine HC.out.mono ?_
          rintro e w4 ⟨rfl, hrow4, hb4⟩
          have hsl4 : SlR w4.heap.size w4 (some ⟨wr.heap.size, 0, none⟩) (projF x cs) := hrow4.sl
          have hpl : (projF x cs).length = cs.length := projF_length x cs
          have HM4 := Lib.hid (HM.out.keep hb4)
          obtain ⟨u, hu⟩ := HM4.out.cell hjy
          have hfz := HM4.out.frozen j
          have hset := HM4.out.set hjy (A' := some ⟨wr.heap.size, 0, none⟩) (C' := cs.length) (by rw [HY.out, hpl]; exact Nat.le_refl _) (by omega) (by rw [HY.out]; exact hsl4) (fun _ ad e => by injection e with e; subst e; exact ⟨by simp only; omega, by simp only; omega, fun o => hrow4.frozen o⟩)
          rw [HY.out, hpl] at hset
          have HSET := Lib.hid hset
          have HR14 := Lib.hid ((HR1.out.below hb4 HR1.out.lt).far (p := ⟨W0.heap.size, j, none⟩) (show w.heap.size ≠ W0.heap.size by omega) (.slice (some ⟨wr.heap.size, 0, none⟩) cs.length cs.length))
          have HR24 := Lib.hid ((HR2.out.below hb4 HR2.out.lt).far (p := ⟨W0.heap.size, j, none⟩) (show w.heap.size + 1 ≠ W0.heap.size by omega) (.slice (some ⟨wr.heap.size, 0, none⟩) cs.length cs.length))
          have HB4 := Lib.hid ((Below.then HB.out hb4 HB.out.size).setCell (p := ⟨W0.heap.size, j, none⟩) (show w.heap.size ≤ W0.heap.size by omega) (.slice (some ⟨wr.heap.size, 0, none⟩) cs.length cs.length))
          have hz4 := hb4.size
          clear hset hrow4 hb4 hsl4 hpl HC d1 n1
          go_wp2
          go_roundw
          case rel => exact ⟨j + 1, by omega, by go_num, HSET.out, HR14.out, HR24.out, HB4.out⟩
          case measure => simp [intOf]; omega
        · obtain rfl : j = X.length := by omega
          by_cases hnil : X = []
          · subst hnil
            simp only [List.length_nil, List.map_nil] at *
            go_wp2_with fail
            refine (rlBuild_nil (cs.length : Int) (some ⟨W0.heap.size, 0, none⟩) 0 _).mono ?_
            rintro e w5 ⟨rfl, hx5⟩
            have r5 := HR2.out.below hx5.below HR2.out.lt
            have c0 : w5.cell? ⟨w.heap.size + 1, 0, none⟩ = some (.int .i64 0) := r5.cell 0
            have c1 : w5.cell? ⟨w.heap.size + 1, 1, none⟩ = some (.slice none 0 0) := r5.cell 1
            have f0 := r5.frozen 0
            have f1 := r5.frozen 1
            have hz5 := r5.lt
            have HB5 := Lib.hid (Below.then HB.out hx5.below HB.out.size)
            have z0 : (w5.setCell ⟨w.heap.size + 1, 0, none⟩ (.int .i64 cs.length)).cell? ⟨w.heap.size + 1, 0, none⟩ = some (.int .i64 cs.length) := World.cell?_setCell_same _ _ _ c0
            have z1 : ((w5.setCell ⟨w.heap.size + 1, 0, none⟩ (.int .i64 cs.length)).setCell ⟨w.heap.size + 1, 1, none⟩ (.slice (some ⟨W0.heap.size, 0, none⟩) 0 0)).cell? ⟨w.heap.size + 1, 1, none⟩ = some (.slice (some ⟨W0.heap.size, 0, none⟩) 0 0) := World.cell?_setCell_same _ _ _ ((World.cell?_setCell_other _ _ _ _ (by simp)).trans c1)
            have Z0 := Lib.hid z0
            have Z1 := Lib.hid z1
            clear r5 hx5 z0 z1 hr1 hr2
            go_wp2
            refine bodyPost_ret (v := .tuple #[.agg #[.int .i64 cs.length, .slice (some ⟨W0.heap.size, 0, none⟩) 0 0], .int .i64 0]) (by simp [results, Tryz.results68, go_sem, Z0.out, Z1.out]) rfl ⟨(fun h => by rw [HCO.out] at h; cases h), ?_, ?_⟩
            · intro _
              exact ⟨_, rfl, _, 0, rfl, by simp [RL.ofF], by omega, FreshRs.nil⟩
            · exact (HB5.out.setCell (p := ⟨w.heap.size + 1, 0, none⟩) (show w.heap.size ≤ w.heap.size + 1 by omega) _).setCell (p := ⟨w.heap.size + 1, 1, none⟩) (show w.heap.size ≤ w.heap.size + 1 by omega) _
          · have hpos : 1 ≤ X.length := by cases X with | nil => exact absurd rfl hnil | cons _ _ => simp
            have hM2 : MadeRs wr W0.heap.size 69 (X.map (projF · cs)) (X.map (projF · cs)).length W0.heap.size := by rw [HML.out]; exact HM.out
            obtain ⟨d, hds, hrows, hHB⟩ := hM2.hb HYO.out
            rw [HML.out] at hds
            have HBU := Lib.hid (rlBuild_any (cs.length : Int) X.length hHB (by omega) (by omega) (by omega) (by omega) _ hrows)
            rw [hds] at HBU
            have hofl := RL.ofF_length_le (X.map (projF · cs))
            rw [HML.out] at hofl
            clear hHB hrows hds hnil hM2 hr1 hr2
            obtain ⟨Y, hY⟩ : ∃ Y, Y = RL.ofF (X.map (projF · cs)) := ⟨_, rfl⟩
            rw [← hY] at HBU hofl
            have HYE := Lib.hid hY
            clear hY
            go_wp2_with fail
            refine HBU.out.mono ?_
            rintro e w5 ⟨rfl, hs5, hg5⟩
            have hne : w.heap.size + 1 ≠ W0.heap.size := by omega
            have r5 := HR2.out.grown hg5 (fun e => hne (by injection e))
            have c0 : w5.cell? ⟨w.heap.size + 1, 0, none⟩ = some (.int .i64 0) := r5.cell 0
            have c1 : w5.cell? ⟨w.heap.size + 1, 1, none⟩ = some (.slice none 0 0) := r5.cell 1
            have f0 := r5.frozen 0
            have f1 := r5.frozen 1
            have hz5 := r5.lt
            have h2z := HR2.out.lt
            have HB5 := Lib.hid (HB.out.grown hg5 (by omega) (fun k hk => by injection hk with hk; omega))
            have z0 : (w5.setCell ⟨w.heap.size + 1, 0, none⟩ (.int .i64 cs.length)).cell? ⟨w.heap.size + 1, 0, none⟩ = some (.int .i64 cs.length) := World.cell?_setCell_same _ _ _ c0
            have z1 : ((w5.setCell ⟨w.heap.size + 1, 0, none⟩ (.int .i64 cs.length)).setCell ⟨w.heap.size + 1, 1, none⟩ (.slice (some ⟨W0.heap.size, 0, none⟩) Y.length X.length)).cell? ⟨w.heap.size + 1, 1, none⟩ = some (.slice (some ⟨W0.heap.size, 0, none⟩) Y.length X.length) := World.cell?_setCell_same _ _ _ ((World.cell?_setCell_other _ _ _ _ (by simp)).trans c1)
            have Z0 := Lib.hid z0
            have Z1 := Lib.hid z1
            have HSL : Hid (FreshRs w.heap.size ((w5.setCell ⟨w.heap.size + 1, 0, none⟩ (.int .i64 cs.length)).setCell ⟨w.heap.size + 1, 1, none⟩ (.slice (some ⟨W0.heap.size, 0, none⟩) Y.length X.length)) (some ⟨W0.heap.size, 0, none⟩) Y) := fun w'' hk => by
              have h := hs5 w'' (fun p hpl hp => by
                have hpn : p.block ≠ w.heap.size + 1 := by rcases hp with hp | hp <;> omega
                rw [hk p (by rcases hp with hp | hp <;> omega) (by simpa using hpl)]
                exact (far_cell (p := ⟨w.heap.size + 1, 1, none⟩) (fun e => hpn e.symm) (far_cell (p := ⟨w.heap.size + 1, 0, none⟩) (fun e => hpn e.symm) rfl)))
              simpa using h
            clear r5 hs5 hg5 z0 z1
            go_wp2
            refine bodyPost_ret (v := .tuple #[.agg #[.int .i64 cs.length, .slice (some ⟨W0.heap.size, 0, none⟩) Y.length X.length], .int .i64 0]) (by simp [results, Tryz.results68, go_sem, Z0.out, Z1.out]) rfl ⟨(fun h => by rw [HCO.out] at h; cases h), ?_, ?_⟩
            · intro _
              rw [← HYE.out]
              exact ⟨_, rfl, _, X.length, rfl, by omega, by omega, HSL.out⟩
            · exact (HB5.out.setCell (p := ⟨w.heap.size + 1, 0, none⟩) (show w.heap.size ≤ w.heap.size + 1 by omega) _).setCell (p := ⟨w.heap.size + 1, 1, none⟩) (show w.heap.size ≤ w.heap.size + 1 by omega) _
end
section
open Go.RowKit Go.Sort

theorem step1W {w : World} {ops : Array Oper} {o : Oper} {a : Act} {K : Act → World → Prop} {Q : Exit → Act → World → Prop} {E : Prop} (hgd : o.guard = none) (s x : Operand)
    (ho : o.op = .call { callee := .builtin .append, args := #[s, x], argTypes := #[103, 103] })
    (base : Nat) (v : Value) (l : RL.R) (hs : a.eval s = v) (hown : w.ownsRow base 114 3 v l.length (rcells l))
    (gt : Nat) (z : RL.V) (hx : a.eval x = .slice (some ⟨gt, 0, none⟩) 1 1) (h0 : w.cell? ⟨gt, 0, none⟩ = some (.int .i64 z.kind)) (h1 : w.cell? ⟨gt, 1, none⟩ = some (.int .i64 z.int)) (h2 : w.cell? ⟨gt, 2, none⟩ = some (.string z.str))
    (hn : l.length ≤ 100000000) (hbase : base ≤ w.heap.size)
    (h : ∀ v' w', w'.ownsRow base 114 3 v' (l ++ [z]).length (rcells (l ++ [z])) → w.grownBy w' v.ownBlock → K (a.put o.dst v') w') :
    if Region.wanted o (yielded ops a.tmps) = true then Oper.wp Tryz.prog o a w K Q else E := by
  obtain ⟨i0, hi0, hz0, hz1, hz2⟩ := info_parts r1Info
  refine step_append_lies w hgd s x 103 ho base 114 i0 _ 3 32 Tryz.underlying103 hi0 hz0 hz1 hz2 rfl (by decide) v l.length (rcells l) hs hown ⟨gt, 0, none⟩ 1 1 (vcells z) hx rfl ?_ ?_ (by decide) (by simp only [maxLen]; omega) (by omega) hbase w.heap.size rfl ?_
  · intro j u hu
    match j with
    | 0 => simp [vcells] at hu; subst hu; exact h0
    | 1 => simp [vcells] at hu; subst hu; exact h1
    | 2 => simp [vcells] at hu; subst hu; exact h2
    | j + 3 => simp [vcells] at hu
  · intro u hu; simp [vcells] at hu; rcases hu with rfl | rfl | rfl <;> rfl
  · intro g cap w' k1 k2 _ _
    refine h _ w' ?_ k2
    rw [rcells_append, List.length_append]
    simpa [rcells] using k1

theorem own_drew {w : World} {base : Nat} {e : TypeId} {size : Nat} {v : Value} {n : Nat} {xs : List Value} (h : w.ownsRow base e size v n xs) : w.drew.ownsRow base e size v n xs := h

theorem projF_snoc (x : RL.R) (cs : List Int) (k : Nat) (h : k < cs.length) : projF x (cs.take (k + 1)) = projF x (cs.take k) ++ [x.getD cs[k].toNat zV] := by
  unfold projF
  rw [List.take_succ_eq_append_getElem h, List.map_append]
  rfl

theorem projF_ok {x : RL.R} {cs : List Int} (hx : ROk x) (hv : ∀ c ∈ cs, 0 ≤ c ∧ c < (x.length : Int)) (hl : cs.length ≤ 1000) : ROk (projF x cs) := by
  refine ⟨by rw [projF_length]; omega, fun v hv2 => ?_⟩
  obtain ⟨c, hc, rfl⟩ := List.mem_map.1 hv2
  obtain ⟨h0, h1⟩ := hv c hc
  have hlt : c.toNat < x.length := by omega
  have e : x.getD c.toNat zV = x[c.toNat] := by simp [List.getD, hlt]
  rw [e]
  exact hx.2 _ (List.getElem_mem hlt)

set_option maxHeartbeats 1000000 in
theorem r7Project_any (XA CA : Option Addr) (XC CC : Nat) (X : List RL.R) (cs : List Int) (w : World) (hX : SlRs w.heap.size w XA X) (hc : SlI .i64 w.heap.size w CA cs) (hXl : X.length ≤ 100000) (hcl : cs.length ≤ 1000) (hXo : RsOk X) (hv : ∀ x ∈ X, ∀ c ∈ cs, 0 ≤ c ∧ c < (x.length : Int)) :
    Calls Tryz.prog 40 #[.slice XA X.length XC, .slice CA cs.length CC] w fun e w' => ∃ v, e = .returned v ∧ RowsIs w' (RL.ofF (X.map (projF · cs))) v ∧ Below w.heap.size w w' := by
  have HX := Lib.hid hX
  have HC := Lib.hid hc
  have HXO := Lib.hid hXo
  have HV := Lib.hid hv
  clear hX hXo hc hv
  go_enter Tryz.func40, Tryz.ntmps40
  go_wp2
  go_loopw [5, 6] (fun v i wr => ∃ k : Nat, k ≤ X.length ∧ i = .int .i64 k ∧ RowsIs wr (RL.ofF ((X.take k).map (projF · cs))) v ∧ Below w.heap.size w wr) (fun _ i _ => X.length - (intOf i).toNat)
  case atStart => exact ⟨0, Nat.zero_le _, rfl, ⟨none, 0, rfl, by simp [RL.ofF], by omega, SlRs.nil⟩, Below.refl _ _⟩
  case round =>
    obtain ⟨k, hka, rfl, hrows, hbel⟩ := hrel
    have HR := Lib.hid hrows
    have HB := Lib.hid hbel
    have hzz := hbel.size
    clear hrows
    by_cases h1 : k < X.length
    · obtain ⟨b, o, A1, C1, rfl, hb, c1, hcap, hcm, s1⟩ := slRs_at HX.out h1
      have d1 := (hbel.cell (p := ⟨b, o + k, none⟩) hb).trans c1
      have HS1 := Lib.hid ((s1.below hbel (Nat.le_refl _)))
      have HVk := Lib.hid (HV.out X[k] (List.getElem_mem h1))
      have HN2 : Hid (RL.ofF ((X.take (k + 1)).map (projF · cs)) = RL.insF (RL.ofF ((X.take k).map (projF · cs))) (projF X[k] cs)) := by
        show _ = _
        have h := ofF_snoc (X.map (projF · cs)) k (by simpa using h1)
        rw [← List.map_take, ← List.map_take, List.getElem_map] at h
        exact h
      have HPO := Lib.hid (projF_ok (HXO.out.at_ h1) HVk.out hcl)
      have HYO : Hid (RsOk (RL.ofF ((X.take k).map (projF · cs)))) := fun y hy => by
        obtain ⟨z, hz, rfl⟩ := List.mem_map.1 ((RL.mem_ofF _ _).1 hy)
        have hz' := List.mem_of_mem_take hz
        exact projF_ok (HXO.out z hz') (HV.out z hz') hcl
      have hYl : (RL.ofF ((X.take k).map (projF · cs))).length ≤ 100000 := by
        have h := RL.ofF_length_le ((X.take k).map (projF · cs))
        rw [List.length_map, List.length_take] at h
        omega
      clear c1 s1 hbel hcap hcm
      generalize X[k] = x at d1 HS1 HVk HN2 HPO
      generalize RL.ofF ((X.take k).map (projF · cs)) = Y1 at HR HYO HN2 hYl
      obtain ⟨wo, hwo⟩ : ∃ wo, wo = wr := ⟨_, rfl⟩
      subst hwo
      go_wp2
      go_loopw [7, 8] (fun v i wr2 => ∃ j : Nat, j ≤ cs.length ∧ i = .int .i64 j ∧ wr2.ownsRow wo.heap.size 114 3 v (projF x (cs.take j)).length (rcells (projF x (cs.take j))) ∧ Below wo.heap.size wo wr2) (fun _ i _ => cs.length - (intOf i).toNat)
      case atStart => exact ⟨0, Nat.zero_le _, rfl, own_nil _ _ _ _, Below.refl _ _⟩
      case round =>
        obtain ⟨j, hja, rfl, hown, hbel2⟩ := hrel
        have HO := Lib.hid hown
        have HB2 := Lib.hid hbel2
        have hz2 := hbel2.size
        clear hown
        by_cases h2 : j < cs.length
        · obtain ⟨b2, o2, rfl, hb2, q1⟩ := slI_at HC.out h2
          obtain ⟨v1, v2⟩ := HVk.out cs[j] (List.getElem_mem h2)
          have HN := Lib.hid (projF_snoc x cs j h2)
          have e1 := ((hbel2.cell (p := ⟨b2, o2 + j, none⟩) (show b2 < wo.heap.size by omega)).trans ((HB.out.cell (p := ⟨b2, o2 + j, none⟩) hb2).trans q1))
          have e2 := (hbel2.cell (p := ⟨b, o + k, none⟩) (show b < wo.heap.size by omega)).trans d1
          generalize cs[j] = c at v1 v2 HN e1 q1
          obtain ⟨q, rfl⟩ := Int.eq_ofNat_of_zero_le v1
          have hq : q < x.length := by omega
          rw [getD_at hq] at HN
          obtain ⟨b3, o3, rfl, hb3, f1, f2, f3⟩ := slR_at HS1.out hq
          have g1 := (hbel2.cell (p := ⟨b3, o3 + q * 3, none⟩) (show b3 < wo.heap.size by omega)).trans f1
          have g2 := (hbel2.cell (p := ⟨b3, o3 + q * 3 + 1, none⟩) (show b3 < wo.heap.size by omega)).trans f2
          have g3 := (hbel2.cell (p := ⟨b3, o3 + q * 3 + 2, none⟩) (show b3 < wo.heap.size by omega)).trans f3
          clear f1 f2 f3 q1 hbel2 d1
          generalize x[q] = u at g1 g2 g3 HN
          go_wp2
          go_region_law (refine step1W rfl (.tmp 21) (.tmp 32) rfl wo.heap.size u7 (projF x (cs.take j)) (by simp [Act.eval]) (own_drew (HO.out.alloc _)) wr.heap.size u (by simp [Act.eval]) (by go_simp) (by go_simp) (by go_simp) (by simp [projF_length]; omega) (by simp; omega) ?_
                         intro v' w1 hown1 hg1
                         have HO1 := Lib.hid hown1
                         have HB1 := Lib.hid (Below.then (HB2.out.alloc hz2 _).drew (app_grown (B := wo.heap.size) hg1 (fun g hg => own_base HO.out hg) (by simp; omega)) (Nat.le_refl _))
                         clear hown1 hg1)
          all_goals
            first | done | skip
            try go_wp2
            first
              | exact ⟨⟨j + 1, by omega, by go_num, by rw [HN.out]; exact HO1.out, HB1.out⟩, by simp [intOf]; omega⟩
              | (go_roundw
                 case rel => exact ⟨j + 1, by omega, by go_num, by rw [HN.out]; exact HO1.out, HB1.out⟩
                 case measure => simp [intOf]; omega)
        · have HT := Lib.hid (List.take_of_length_le (show cs.length ≤ j by omega))
          rw [HT.out] at HO
          obtain ⟨-, A5, C5, rfl, hc5, hm5, hs5, -⟩ := SlR.of_own HO.out
          obtain ⟨VA, VC, rfl, hv1, hv2, hv3⟩ := HR.out
          have HC5 := Lib.hid (r7Insert_any VA A5 VC C5 Y1 (projF x cs) wr (hv3.upB hbel2) hs5 hYl HYO.out HPO.out hv1 hv2 hc5 hm5)
          clear hs5 hv3 HO
          generalize projF x cs = pc at hc5 HC5 HN2 HPO ⊢
          go_wp2_with fail
          refine HC5.out.mono ?_
          rintro e w6 ⟨v6, rfl, hr6, hb6⟩
          have HR6 := Lib.hid hr6
          have HB6 := Lib.hid (Below.then HB.out (Below.then hbel2 hb6 hz2) hzz)
          clear hr6 hb6 HC5
          go_wp2
          go_roundw
          case rel => exact ⟨k + 1, by omega, by go_num, by rw [HN2.out]; exact HR6.out, HB6.out⟩
          case measure => simp [intOf]; omega
    · have HT := Lib.hid (List.take_of_length_le (show X.length ≤ k by omega))
      rw [HT.out] at HR
      go_wp2
      go_ret
      exact ⟨_, rfl, HR.out, hbel⟩
end
section
open Go.RowKit Go.Sort

theorem Row.up {W W' : World} {g : Nat} {e : TypeId} {xs : List Value} (h : Row W g e xs) (hb : Below W.heap.size W W') : Row W' g e xs := h.below hb h.lt
theorem map_snoc {α β : Type} (f : α → β) (l : List α) (k : Nat) (h : k < l.length) : (l.take (k + 1)).map f = (l.take k).map f ++ [f l[k]] := by
  rw [List.take_succ_eq_append_getElem h, List.map_append]; rfl
theorem SlRsP.upB {P : Nat → Prop} {w w' : World} {A : Option Addr} {X : List RL.R} (h : SlRsP P w.heap.size w A X) (hb : Below w.heap.size w w') : SlRsP P w'.heap.size w' A X := (h.keep (fun _p hp _ => hb.cell hp)).more hb.size
end
section
open Go.RowKit Go.Sort

set_option maxHeartbeats 1000000 in
theorem r7Project_P (XA CA : Option Addr) (XC CC : Nat) (X : List RL.R) (cs : List Int) (w : World) (hX : SlRs w.heap.size w XA X) (hc : SlI .i64 w.heap.size w CA cs) (hXl : X.length ≤ 100000) (hcl : cs.length ≤ 1000) (hXo : RsOk X) (hv : ∀ x ∈ X, ∀ c ∈ cs, 0 ≤ c ∧ c < (x.length : Int)) :
    Calls Tryz.prog 40 #[.slice XA X.length XC, .slice CA cs.length CC] w fun e w' => ∃ v, e = .returned v ∧ RowsP (fun b => w.heap.size ≤ b) w' (RL.ofF (X.map (projF · cs))) v ∧ Below w.heap.size w w' := by
  have HX := Lib.hid hX
  have HC := Lib.hid hc
  have HXO := Lib.hid hXo
  have HV := Lib.hid hv
  clear hX hXo hc hv
  go_enter Tryz.func40, Tryz.ntmps40
  go_wp2
  go_loopw [5, 6] (fun v i wr => ∃ k : Nat, k ≤ X.length ∧ i = .int .i64 k ∧ RowsP (fun b => w.heap.size ≤ b) wr (RL.ofF ((X.take k).map (projF · cs))) v ∧ Below w.heap.size w wr) (fun _ i _ => X.length - (intOf i).toNat)
  case atStart => exact ⟨0, Nat.zero_le _, rfl, ⟨none, 0, rfl, by simp [RL.ofF], by omega, SlRsP.nil⟩, Below.refl _ _⟩
  case round =>
    obtain ⟨k, hka, rfl, hrows, hbel⟩ := hrel
    have HR := Lib.hid hrows
    have HB := Lib.hid hbel
    have hzz := hbel.size
    clear hrows
    by_cases h1 : k < X.length
    · obtain ⟨b, o, A1, C1, rfl, hb, c1, hcap, hcm, s1⟩ := slRs_at HX.out h1
      have d1 := (hbel.cell (p := ⟨b, o + k, none⟩) hb).trans c1
      have HS1 := Lib.hid ((s1.below hbel (Nat.le_refl _)))
      have HVk := Lib.hid (HV.out X[k] (List.getElem_mem h1))
      have HN2 : Hid (RL.ofF ((X.take (k + 1)).map (projF · cs)) = RL.insF (RL.ofF ((X.take k).map (projF · cs))) (projF X[k] cs)) := by
        show _ = _
        have h := ofF_snoc (X.map (projF · cs)) k (by simpa using h1)
        rw [← List.map_take, ← List.map_take, List.getElem_map] at h
        exact h
      have HPO := Lib.hid (projF_ok (HXO.out.at_ h1) HVk.out hcl)
      have HYO : Hid (RsOk (RL.ofF ((X.take k).map (projF · cs)))) := fun y hy => by
        obtain ⟨z, hz, rfl⟩ := List.mem_map.1 ((RL.mem_ofF _ _).1 hy)
        have hz' := List.mem_of_mem_take hz
        exact projF_ok (HXO.out z hz') (HV.out z hz') hcl
      have hYl : (RL.ofF ((X.take k).map (projF · cs))).length ≤ 100000 := by
        have h := RL.ofF_length_le ((X.take k).map (projF · cs))
        rw [List.length_map, List.length_take] at h
        omega
      clear c1 s1 hbel hcap hcm
      generalize X[k] = x at d1 HS1 HVk HN2 HPO
      generalize RL.ofF ((X.take k).map (projF · cs)) = Y1 at HR HYO HN2 hYl
      obtain ⟨wo, hwo⟩ : ∃ wo, wo = wr := ⟨_, rfl⟩
      subst hwo
      go_wp2
      go_loopw [7, 8] (fun v i wr2 => ∃ j : Nat, j ≤ cs.length ∧ i = .int .i64 j ∧ wr2.ownsRow wo.heap.size 114 3 v (projF x (cs.take j)).length (rcells (projF x (cs.take j))) ∧ Below wo.heap.size wo wr2) (fun _ i _ => cs.length - (intOf i).toNat)
      case atStart => exact ⟨0, Nat.zero_le _, rfl, own_nil _ _ _ _, Below.refl _ _⟩
      case round =>
        obtain ⟨j, hja, rfl, hown, hbel2⟩ := hrel
        have HO := Lib.hid hown
        have HB2 := Lib.hid hbel2
        have hz2 := hbel2.size
        clear hown
        by_cases h2 : j < cs.length
        · obtain ⟨b2, o2, rfl, hb2, q1⟩ := slI_at HC.out h2
          obtain ⟨v1, v2⟩ := HVk.out cs[j] (List.getElem_mem h2)
          have HN := Lib.hid (projF_snoc x cs j h2)
          have e1 := ((hbel2.cell (p := ⟨b2, o2 + j, none⟩) (show b2 < wo.heap.size by omega)).trans ((HB.out.cell (p := ⟨b2, o2 + j, none⟩) hb2).trans q1))
          have e2 := (hbel2.cell (p := ⟨b, o + k, none⟩) (show b < wo.heap.size by omega)).trans d1
          generalize cs[j] = c at v1 v2 HN e1 q1
          obtain ⟨q, rfl⟩ := Int.eq_ofNat_of_zero_le v1
          have hq : q < x.length := by omega
          rw [getD_at hq] at HN
          obtain ⟨b3, o3, rfl, hb3, f1, f2, f3⟩ := slR_at HS1.out hq
          have g1 := (hbel2.cell (p := ⟨b3, o3 + q * 3, none⟩) (show b3 < wo.heap.size by omega)).trans f1
          have g2 := (hbel2.cell (p := ⟨b3, o3 + q * 3 + 1, none⟩) (show b3 < wo.heap.size by omega)).trans f2
          have g3 := (hbel2.cell (p := ⟨b3, o3 + q * 3 + 2, none⟩) (show b3 < wo.heap.size by omega)).trans f3
          clear f1 f2 f3 q1 hbel2 d1
          generalize x[q] = u at g1 g2 g3 HN
          go_wp2
          go_region_law (refine step1W rfl (.tmp 21) (.tmp 32) rfl wo.heap.size u7 (projF x (cs.take j)) (by simp [Act.eval]) (own_drew (HO.out.alloc _)) wr.heap.size u (by simp [Act.eval]) (by go_simp) (by go_simp) (by go_simp) (by simp [projF_length]; omega) (by simp; omega) ?_
                         intro v' w1 hown1 hg1
                         have HO1 := Lib.hid hown1
                         have HB1 := Lib.hid (Below.then (HB2.out.alloc hz2 _).drew (app_grown (B := wo.heap.size) hg1 (fun g hg => own_base HO.out hg) (by simp; omega)) (Nat.le_refl _))
                         clear hown1 hg1)
          all_goals
            first | done | skip
            try go_wp2
            first
              | exact ⟨⟨j + 1, by omega, by go_num, by rw [HN.out]; exact HO1.out, HB1.out⟩, by simp [intOf]; omega⟩
              | (go_roundw
                 case rel => exact ⟨j + 1, by omega, by go_num, by rw [HN.out]; exact HO1.out, HB1.out⟩
                 case measure => simp [intOf]; omega)
        · have HT := Lib.hid (List.take_of_length_le (show cs.length ≤ j by omega))
          rw [HT.out] at HO
          obtain ⟨-, A5, C5, rfl, hc5, hm5, hs5, hfr5⟩ := SlR.of_own HO.out
          obtain ⟨VA, VC, rfl, hv1, hv2, hv3⟩ := HR.out
          have HC5 := Lib.hid (r7Insert_P (fun b => w.heap.size ≤ b) VA A5 VC C5 Y1 (projF x cs) wr (hv3.upB hbel2) (fun b hb => by show _ ≤ _; omega) ⟨A5, C5, rfl, hc5, hm5, hs5, fun _ ad e => by have := hfr5 ad e; show _ ≤ _; omega⟩ hYl HYO.out HPO.out hv1 hv2)
          clear hs5 hfr5 hv3 HO
          generalize projF x cs = pc at hc5 HC5 HN2 HPO ⊢
          go_wp2_with fail
          refine HC5.out.mono ?_
          rintro e w6 ⟨v6, rfl, hr6, hb6⟩
          have HR6 := Lib.hid hr6
          have HB6 := Lib.hid (Below.then HB.out (Below.then hbel2 hb6 hz2) hzz)
          clear hr6 hb6 HC5
          go_wp2
          go_roundw
          case rel => exact ⟨k + 1, by omega, by go_num, by rw [HN2.out]; exact HR6.out, HB6.out⟩
          case measure => simp [intOf]; omega
    · have HT := Lib.hid (List.take_of_length_le (show X.length ≤ k by omega))
      rw [HT.out] at HR
      go_wp2
      go_ret
      exact ⟨_, rfl, HR.out, hbel⟩
end
end Go.Proofs.YthgaflmldbgbnaaGreatDoor
section
namespace Go.Proofs.YthgaflmldbgbnaaGreatDoor.RL

theorem cmpR_cons (a b : V) (x y : R) : cmpR (a :: x) (b :: y) = if cmpV a b = 0 then cmpR x y else cmpV a b := rfl
theorem lt_ext : ∀ (a b s t : R), a.length = b.length → cmpR a b < 0 → cmpR (a ++ s) (b ++ t) < 0
  | [], [], _, _, _, h => by simp [cmpR, cmpL] at h
  | [], _ :: _, _, _, hl, _ => by simp at hl
  | _ :: _, [], _, _, hl, _ => by simp at hl
  | a :: x, b :: y, s, t, hl, h => by
    rw [List.cons_append, List.cons_append, cmpR_cons]
    rw [cmpR_cons] at h
    split at h
    · rename_i e; rw [if_pos e]; exact lt_ext x y s t (by simpa using hl) h
    · rename_i e; rw [if_neg e]; exact h

def nodes (d : Nat) (P : List R) (l : Nat) : List R := if l < d then ofF (P.map (List.take (l + 1))) else []
theorem nodes_ss (d : Nat) (P : List R) (l : Nat) : SS (nodes d P l) := by
  unfold nodes
  split
  · exact SS.of _
  · exact ss_nil
theorem mem_nodes {d : Nat} {P : List R} {l : Nat} (hl : l < d) (q : R) : q ∈ nodes d P l ↔ ∃ y ∈ P, y.take (l + 1) = q := by
  unfold nodes
  rw [if_pos hl, mem_ofF, List.mem_map]
theorem nodes_out {d : Nat} {P : List R} {l : Nat} (hl : d ≤ l) : nodes d P l = [] := by unfold nodes; rw [if_neg (by omega)]
theorem mem_nodes_len {d : Nat} {P : List R} (hd : ∀ r ∈ P, r.length = d) {l : Nat} {q : R} (h : q ∈ nodes d P l) : q.length = l + 1 := by
  by_cases hl : l < d
  · obtain ⟨y, hy, rfl⟩ := (mem_nodes hl q).1 h
    have := hd y hy
    simp; omega
  · rw [nodes_out (by omega)] at h; cases h

section
variable {d : Nat} {P : List R} {x : R} (hS : SS (P ++ [x])) (hd : ∀ r ∈ P ++ [x], r.length = d)
include hS hd
end

section
variable {d : Nat} {P : List R} {x : R} (hS : SS (P ++ [x])) (hd : ∀ r ∈ P ++ [x], r.length = d)
include hS hd
end
section
variable {d : Nat} {P : List R} (hd : ∀ r ∈ P, r.length = d)
include hd
end

end Go.Proofs.YthgaflmldbgbnaaGreatDoor.RL
end
namespace Go.Proofs.YthgaflmldbgbnaaGreatDoor
section
open Go.RowKit Go.Sort

theorem takeOp {P : Program} {md : Region.Mode} {ops : Array Oper} {Q : Exit → Act → World → Prop} {S : World → Prop} {i : Nat} {oi : Oper} {v : Value} {fuel : Nat} {listed : Array Bool} {a : Act} {w : World} (d : Option Tmp) (hi : ops[i]? = some oi) (hd : oi.dst = d)
    (hs : Region.noSelect ops = true) (hf : Region.free md ops listed i = true) (hr : (Region.ready md ops listed).contains i = true)
    (hQ : ∀ c a w, Q (.panic c) (a.put d v) w → Q (.panic c) a w) (hy : YieldsIf P ops S oi v a) (hS : S w)
    (h : wpAnyH P md ops Q S fuel (listed.setIfInBounds i true) (a.put d v) w) : wpAnyH P md ops Q S (fuel + 1) listed a w := by
  subst hd
  exact wpAnyH_take hi hs hf hr hQ hy hS h
end
end Go.Proofs.YthgaflmldbgbnaaGreatDoor
section
namespace Go.Proofs.YthgaflmldbgbnaaGreatDoor.RL

theorem cmpR_append_left : ∀ (q x y : R), cmpR (q ++ x) (q ++ y) = cmpR x y
  | [], _, _ => rfl
  | a :: q, x, y => by rw [List.cons_append, List.cons_append, cmpR_cons, if_pos (tot_cmpV.self a)]; exact cmpR_append_left q x y
theorem cmpR_one (a b : V) : cmpR [a] [b] = cmpV a b := by
  rw [cmpR_cons]
  split
  · rename_i h; rw [h]; simp [cmpR, cmpL]
  · rfl

def lastV (y : R) : V := y.getLastD default
theorem lastV_snoc (q : R) (v : V) : lastV (q ++ [v]) = v := by unfold lastV; rw [List.getLastD_concat]
def lo (d : Nat) (P : List R) (q : R) : Nat := rank (nodes d P q.length) q
def kids (d : Nat) (P : List R) (q : R) : R := ((nodes d P q.length).filter (fun y => beginsB y q)).map lastV
section
variable {d : Nat} {P : List R}
theorem kids_out {q : R} (h : d ≤ q.length) : kids d P q = [] := by unfold kids; rw [nodes_out h]; rfl
theorem node_snoc (hd : ∀ r ∈ P, r.length = d) {q y : R} (hy : y ∈ nodes d P q.length) (hb : beginsB y q = true) : y = q ++ [lastV y] := by
  obtain ⟨s, rfl⟩ := (beginsB_iff _ _).1 hb
  have hl := mem_nodes_len hd hy
  rw [List.length_append] at hl
  obtain ⟨v, rfl⟩ := List.length_eq_one_iff.1 (show s.length = 1 by omega)
  rw [lastV_snoc]
theorem mem_kids (hd : ∀ r ∈ P, r.length = d) {q : R} (hq : q.length < d) (v : V) : v ∈ kids d P q ↔ ∃ y ∈ P, y.take (q.length + 1) = q ++ [v] := by
  unfold kids
  rw [List.mem_map]
  constructor
  · rintro ⟨y, hy, rfl⟩
    rw [List.mem_filter] at hy
    obtain ⟨z, hz, e⟩ := (mem_nodes hq y).1 hy.1
    exact ⟨z, hz, by rw [e]; exact node_snoc hd hy.1 hy.2⟩
  · rintro ⟨y, hy, e⟩
    refine ⟨q ++ [v], List.mem_filter.2 ⟨(mem_nodes hq _).2 ⟨y, hy, e⟩, (beginsB_iff _ _).2 ⟨_, rfl⟩⟩, lastV_snoc q v⟩
theorem kids_asc (hd : ∀ r ∈ P, r.length = d) (q : R) : (kids d P q).Pairwise fun a b => cmpV a b < 0 := by
  unfold kids
  rw [List.pairwise_map]
  refine List.Pairwise.imp_of_mem (fun {a b} ha hb hab => ?_) ((nodes_ss d P q.length).filter _)
  rw [List.mem_filter] at ha hb
  rw [node_snoc hd ha.1 ha.2, node_snoc hd hb.1 hb.2, cmpR_append_left, cmpR_one] at hab
  exact hab
end

end Go.Proofs.YthgaflmldbgbnaaGreatDoor.RL
end
namespace Go.Proofs.YthgaflmldbgbnaaGreatDoor
section
open Go.RowKit Go.Sort

abbrev Pl := Option (RL.R × Nat)
def upB : Pl → Bool
  | none => false
  | some _ => true
section
variable {w w' : World} {g : Nat} {LA : Option Addr} {d C : Nat} {P : List RL.R} {x : Pl} {s : Nat}
end
end
section
open Go.RowKit Go.Sort

def SlA (m B : Nat) (w : World) (A : Option Addr) (X : List (List Nat)) : Prop :=
  X ≠ [] → ∃ b o, A = some ⟨b, o, none⟩ ∧ b < B ∧ ∀ i (h : i < X.length) k, k < m → w.cell? ⟨b, o + i * m + k, none⟩ = some (.int .u8 (X[i].getD k 0 : Nat))
theorem SlA.keep {m B : Nat} {w w' : World} {A : Option Addr} {X : List (List Nat)} (h : SlA m B w A X) (hk : ∀ p : Addr, p.block < B → w'.cell? p = w.cell? p) : SlA m B w' A X := fun hn => by
  obtain ⟨b, o, e, hb, hc⟩ := h hn
  exact ⟨b, o, e, hb, fun i hi k hkm => (hk _ hb).trans (hc i hi k hkm)⟩
theorem SlA.below {m B C : Nat} {w w' : World} {A : Option Addr} {X : List (List Nat)} (h : SlA m B w A X) (hb : Below C w w') (hC : B ≤ C) : SlA m B w' A X := h.keep fun _ hp => hb.cell (by omega)
theorem SlA.more {m B B' : Nat} {w : World} {A : Option Addr} {X : List (List Nat)} (h : SlA m B w A X) (hB : B ≤ B') : SlA m B' w A X := fun hn => by
  obtain ⟨b, o, e, hb, hc⟩ := h hn
  exact ⟨b, o, e, by omega, hc⟩
theorem SlA.upB {m : Nat} {w w' : World} {A : Option Addr} {X : List (List Nat)} (h : SlA m w.heap.size w A X) (hb : Below w.heap.size w w') : SlA m w'.heap.size w' A X := (h.below hb (Nat.le_refl _)).more hb.size
def Bytes (X : List (List Nat)) : Prop := ∀ t ∈ X, ∀ k, t.getD k 0 < 256

theorem own_empty (w : World) (base : Nat) (e : TypeId) (size : Nat) (hb : base ≤ w.heap.size) : (w.alloc (.cells #[] e)).ownsRow base e size (.slice (some ⟨w.heap.size, 0, none⟩) 0 0) 0 [] :=
  ⟨by simp, .inr ⟨w.heap.size, 0, #[], rfl, hb, Row.new w e [], Nat.le_refl _, by simp [maxLen], by simp, by simp⟩⟩
end
section
open Go.RowKit Go.Sort

theorem intInfo : (Tryz.prog.info? 3).map (fun i => (i.zero, i.size, i.bytes)) = some (some (.int .i64 0), 1, 8) := by kernel_rfl

theorem stepI {w : World} {ops : Array Oper} {o : Oper} {a : Act} {K : Act → World → Prop} {Q : Exit → Act → World → Prop} {E : Prop} (hgd : o.guard = none) (s x : Operand)
    (ho : o.op = .call { callee := .builtin .append, args := #[s, x], argTypes := #[27, 27] })
    (base : Nat) (v : Value) (l : List Nat) (hs : a.eval s = v) (hown : w.ownsRow base 3 1 v l.length (l.map fun z : Nat => Value.int .i64 (z : Int)))
    (gt : Nat) (z : Nat) (hx : a.eval x = .slice (some ⟨gt, 0, none⟩) 1 1) (hg : Row w gt 3 [.int .i64 (z : Int)])
    (hn : l.length ≤ 1000000) (hbase : base ≤ w.heap.size)
    (h : ∀ g cap w', w'.ownsRow base 3 1 (.slice (some ⟨g, 0, none⟩) (l.length + 1) cap) (l.length + 1) ((l ++ [z]).map fun z : Nat => Value.int .i64 (z : Int)) → w.grownBy w' v.ownBlock → (v.ownBlock = some g ∨ g = w.heap.size) → K (a.put o.dst (.slice (some ⟨g, 0, none⟩) (l.length + 1) cap)) w') :
    if Region.wanted o (yielded ops a.tmps) = true then Oper.wp Tryz.prog o a w K Q else E := by
  obtain ⟨i0, hi0, hz0, hz1, hz2⟩ := info_parts intInfo
  refine step_append_lies w hgd s x 27 ho base 3 i0 _ 1 8 Tryz.underlying27 hi0 hz0 hz1 hz2 rfl (by decide) v l.length _ hs hown ⟨gt, 0, none⟩ 1 1 [.int .i64 (z : Int)] hx rfl ?_ ?_ (by decide) (by simp only [maxLen]; omega) (by omega) hbase w.heap.size rfl ?_
  · intro j u hu
    have := hg.cell j
    rw [hu] at this
    rw [Addr.add_lit, Nat.zero_add]
    exact this
  · intro u hu; simp at hu; subst hu; rfl
  · intro g cap w' k1 k2 k3 _
    refine h g cap w' ?_ k2 k3
    rw [List.map_append]
    exact k1

section
variable {B : Nat} {Q : Nat → Prop} {w w' : World} {lb n : Nat} {T : TypeId} {sp : Nat → TypeId × Nat × Nat × List Value}
end
end
section
open Go.RowKit Go.Sort

section
variable {P : Program} {ops : Array Oper} {Q : Exit → Act → World → Prop} {md : Region.Mode} {S : World → Prop} {z : Nat}

def wpAnyZ (P : Program) (md : Region.Mode) (ops : Array Oper) (Q : Exit → Act → World → Prop) (S : World → Prop) (z : Nat) : Nat → Array Bool → Act → World → Prop
  | 0, listed, a, w => Region.ready md ops listed = [] ∧ Q .normal a w
  | fuel + 1, listed, a, w =>
    (Region.ready md ops listed = [] → Q .normal a w) ∧
    ∀ i ∈ Region.ready md ops listed, wpOp P ops Q i (fun a' w' => (i ≠ z → S w') ∧ wpAnyZ P md ops Q S z fuel (listed.setIfInBounds i true) a' w') a w

theorem wpAny_of_Z : ∀ (fuel : Nat) (listed : Array Bool) (a : Act) (w : World), wpAnyZ P md ops Q S z fuel listed a w → wpAny P md ops Q fuel listed a w
  | 0, _, _, _, h => h
  | fuel + 1, _, _, _, h => ⟨h.1, fun i hi => wpOp_mono (fun a' w' h' => wpAny_of_Z fuel _ a' w' h'.2) (h.2 i hi)⟩

def preds (md : Region.Mode) (ops : Array Oper) (k : Nat) : List Nat :=
  match ops[k]? with
  | some o => (o.after.toList.filter (Region.binds md)).map (·.on)
  | none => []
def reach (md : Region.Mode) (ops : Array Oper) (z : Nat) : Nat → List Nat
  | 0 => preds md ops z
  | n + 1 => reach md ops z n ++ (reach md ops z n).flatMap (preds md ops)
def lastB (md : Region.Mode) (ops : Array Oper) (z : Nat) : Bool := (List.range ops.size).all fun i => i == z || (reach md ops z 1).contains i
def Cl (md : Region.Mode) (ops : Array Oper) (listed : Array Bool) : Prop := ∀ k, listed.getD k false = true → ∀ j ∈ preds md ops k, listed.getD j false = true
def clB (md : Region.Mode) (ops : Array Oper) (listed : Array Bool) : Bool := (List.range listed.size).all fun k => !(listed.getD k false) || (preds md ops k).all fun j => listed.getD j false
theorem Cl.of {listed : Array Bool} (h : clB md ops listed = true) : Cl md ops listed := fun k hk j hj => by
  unfold clB at h
  simp only [List.all_eq_true, List.mem_range] at h
  have hsz : k < listed.size := by
    rcases Nat.lt_or_ge k listed.size with h' | h'
    · exact h'
    · simp [Array.getElem?_eq_none h'] at hk
  have h1 := h k hsz
  rw [hk] at h1
  simp only [Bool.not_true, Bool.false_or, List.all_eq_true] at h1
  exact h1 j hj
theorem ready_preds {listed : Array Bool} {j : Nat} (hr : j ∈ Region.ready md ops listed) : ∀ i ∈ preds md ops j, listed.getD i false = true := fun i hi => by
  obtain ⟨_, o, ho, hall⟩ := mem_ready.1 hr
  unfold preds at hi
  rw [ho] at hi
  simp only [List.mem_map, List.mem_filter, Array.mem_toList_iff] at hi
  obtain ⟨e, ⟨he, hb⟩, rfl⟩ := hi
  exact hall e he hb
theorem Cl.step {listed : Array Bool} {j : Nat} (h : Cl md ops listed) (hr : j ∈ Region.ready md ops listed) : Cl md ops (listed.setIfInBounds j true) := fun k hk i hi => by
  by_cases e : j = k
  · subst e; exact getD_set_true (ready_preds hr i hi)
  · rw [getD_set_ne false e] at hk
    exact getD_set_true (h k hk i hi)
theorem reach_listed {listed : Array Bool} (hc : Cl md ops listed) (hr : z ∈ Region.ready md ops listed) : ∀ n, ∀ i ∈ reach md ops z n, listed.getD i false = true
  | 0, i, hi => ready_preds hr i hi
  | n + 1, i, hi => by
    unfold reach at hi
    rw [List.mem_append, List.mem_flatMap] at hi
    rcases hi with hi | ⟨k, hk, hi⟩
    · exact reach_listed hc hr n i hi
    · exact hc k (reach_listed hc hr n k hk) i hi
theorem last_alone (hz : lastB md ops z = true) {listed : Array Bool} (hc : Cl md ops listed) {i : Nat} (hr : z ∈ Region.ready md ops listed) (hi : i ∈ Region.ready md ops listed) : i = z := by
  obtain ⟨hun, oi, hoi, _⟩ := mem_ready.1 hi
  unfold lastB at hz
  simp only [List.all_eq_true, List.mem_range] at hz
  have hsz : i < ops.size := by
    rcases Nat.lt_or_ge i ops.size with h | h
    · exact h
    · rw [Array.getElem?_eq_none h] at hoi; cases hoi
  have h1 := hz i hsz
  rw [Bool.or_eq_true] at h1
  rcases h1 with h1 | h1
  · simpa using h1
  · have h3 := reach_listed hc hr 1 i (by simpa using h1)
    rcases Nat.lt_or_ge i listed.size with h | h
    · simp [h] at hun h3
      rw [hun] at h3
      cases h3
    · simp [Array.getElem?_eq_none h] at h3

theorem wpAnyZ_first (hz : lastB md ops z = true) {i : Nat} {oi : Oper} {v : Value} (hiz : i ≠ z) (hi : ops[i]? = some oi) (hsel : ∀ (j : Nat) (o : Oper) cs b, ops[j]? = some o → o.op ≠ .select cs b)
    (hQ : ∀ c a w, Q (.panic c) (a.put oi.dst v) w → Q (.panic c) a w) :
    ∀ (fuel : Nat) (listed : Array Bool) (a : Act) (w : World), Cl md ops listed →
      (∀ j oj, ops[j]? = some oj → j ≠ i → listed.getD j true = false → (∀ e ∈ oj.after, Region.binds md e = true → e.on ≠ i) → oi.apart ops oj = true) →
      i ∈ Region.ready md ops listed → YieldsIf P ops S oi v a → S w →
      wpAnyZ P md ops Q S z fuel (listed.setIfInBounds i true) (a.put oi.dst v) w → wpAnyZ P md ops Q S z (fuel + 1) listed a w
  | 0, listed, a, w, _, _, hr, hy, hS, H => by
    refine ⟨fun h => (by rw [h] at hr; cases hr), fun j hj => ?_⟩
    by_cases hji : j = i
    · subst hji; exact hy.wpOp hi hS ⟨fun _ => hS, H⟩
    · have := ready_mono hj hji
      rw [H.1] at this
      cases this
  | fuel + 1, listed, a, w, hc, hfree, hr, hy, hS, H => by
    refine ⟨fun h => (by rw [h] at hr; cases hr), fun j hj => ?_⟩
    by_cases hji : j = i
    · subst hji; exact hy.wpOp hi hS ⟨fun _ => hS, H⟩
    · have hjz : j ≠ z := fun e => by subst e; exact hiz (last_alone hz hc hj hr)
      have h1 := H.2 j (ready_mono hj hji)
      obtain ⟨hjun, oj, hoj, hall⟩ := mem_ready.1 hj
      have hnot : ∀ e ∈ oj.after, Region.binds md e = true → e.on ≠ i := fun e he hb heq => by
        have h2 := hall e he hb
        have h0 := (mem_ready.1 hr).1
        rw [heq] at h2
        rcases Nat.lt_or_ge i listed.size with h' | h'
        · simp [h'] at h0 h2; rw [h0] at h2; cases h2
        · simp [Array.getElem?_eq_none h'] at h2
      have h2 := wpOp_putIf hoj (hfree j oj hoj hji hjun hnot) (fun cs b => hsel i oi cs b hi) (fun cs b => hsel j oj cs b hoj) hQ hy h1
      refine wpOp_mono (fun a' w' h3 => ⟨h3.2.1, wpAnyZ_first hz hiz hi hsel hQ fuel (listed.setIfInBounds j true) a' w' (hc.step hj) (fun k ok hk hki hun hno => ?_) (ready_mono hr (Ne.symm hji)) h3.1 (h3.2.1 hjz) ?_⟩) h2
      · refine hfree k ok hk hki ?_ hno
        by_cases hjk : j = k
        · subst hjk; exact hjun
        · rw [getD_set_ne true hjk] at hun; exact hun
      · rw [Array.setIfInBounds_comm _ _ hji]
        exact h3.2.2

theorem takeZ {i : Nat} {oi : Oper} {v : Value} {fuel : Nat} {listed : Array Bool} {a : Act} {w : World} (d : Option Tmp) (hi : ops[i]? = some oi) (hd : oi.dst = d)
    (hz : lastB md ops z = true) (hiz : i ≠ z) (hcl : clB md ops listed = true) (hs : Region.noSelect ops = true) (hf : Region.free md ops listed i = true) (hr : (Region.ready md ops listed).contains i = true)
    (hQ : ∀ c a w, Q (.panic c) (a.put d v) w → Q (.panic c) a w) (hy : YieldsIf P ops S oi v a) (hS : S w)
    (h : wpAnyZ P md ops Q S z fuel (listed.setIfInBounds i true) (a.put d v) w) : wpAnyZ P md ops Q S z (fuel + 1) listed a w := by
  subst hd
  exact wpAnyZ_first hz hiz hi (Region.noSelect_spec hs) hQ fuel listed a w (Cl.of hcl) (Region.free_spec hi hf) (by simpa using hr) hy hS h
theorem oneZ {i : Nat} {o : Oper} {fuel : Nat} {listed : Array Bool} {a : Act} {w : World} (hr : Region.ready md ops listed = [i]) (ho : ops[i]? = some o) (hiz : i ≠ z)
    (h : ∀ K' : Act → World → Prop, Shut (∀ a w, S w → (S w → wpAnyZ P md ops Q S z fuel (listed.setIfInBounds i true) a w) → K' a w) → if Region.wanted o (yielded ops a.tmps) = true then Oper.wp P o a w K' Q else K' (a.put o.dst undef) w) :
    wpAnyZ P md ops Q S z (fuel + 1) listed a w := by
  refine ⟨(fun h0 => by rw [hr] at h0; cases h0), fun j hj => ?_⟩
  rw [hr] at hj
  obtain rfl : j = i := by simpa using hj
  exact wpOp_step ho (fun K' hK => h K' (fun a w hS hW => hK a w ⟨fun _ => hS, hW hS⟩))
theorem lastZ {o : Oper} {fuel : Nat} {listed : Array Bool} {a : Act} {w : World} (hr : Region.ready md ops listed = [z]) (ho : ops[z]? = some o) (hd : Region.ready md ops (listed.setIfInBounds z true) = [])
    (h : ∀ K' : Act → World → Prop, Shut (∀ a w, Q .normal a w → K' a w) → if Region.wanted o (yielded ops a.tmps) = true then Oper.wp P o a w K' Q else K' (a.put o.dst undef) w) :
    wpAnyZ P md ops Q S z (fuel + 1) listed a w := by
  refine ⟨(fun h0 => by rw [hr] at h0; cases h0), fun j hj => ?_⟩
  rw [hr] at hj
  obtain rfl : j = z := by simpa using hj
  refine wpOp_step ho (fun K' hK => h K' (fun a w hQ => hK a w ⟨fun h => absurd rfl h, ?_⟩))
  cases fuel with
  | zero => exact ⟨hd, hQ⟩
  | succ fuel => exact ⟨fun _ => hQ, by rw [hd]; simp⟩
theorem regionZ {id : Nat} {a : Act} {w : World} (z : Nat) (hm : P.follows .mixedOrders = true) (hS : S w.drew)
    (h : S w.drew → wpAnyZ P .any ops Q S z ops.size (Array.replicate ops.size false) a w.drew) : (Code.region id ops true).wp P Q a w :=
  wp_region_any hm (wpAny_of_Z _ _ _ _ (h hS))
end
end
section
open Go.RowKit Go.Sort

def meetF (K1 K2 : RL.R) : RL.R := K1.filter fun v => decide (v ∈ K2)
structure Meet (K1 K2 : RL.R) (p q : Nat) (got : RL.R) : Prop where
  le1 : p ≤ K1.length
  le2 : q ≤ K2.length
  low : ∀ u ∈ K2.take q, ∀ x ∈ K1.drop p, RL.cmpV u x < 0
  eq : got ++ meetF (K1.drop p) K2 = meetF K1 K2
def cntF (K : RL.R) (v : RL.V) : Nat := K.countP fun u => decide (RL.cmpV u v < 0)
section
variable {K1 K2 : RL.R} {p q : Nat} {got : RL.R} (h1 : K1.Pairwise fun a b => RL.cmpV a b < 0) (h2 : K2.Pairwise fun a b => RL.cmpV a b < 0) (m : Meet K1 K2 p q got) (hp : p < K1.length)
include h1 h2 m hp
end
end
section
open Go.RowKit Go.Sort

structure At where
  vs : List Nat
  P : List RL.R
abbrev At.d (a : At) : Nat := a.vs.length
structure At.Ok (n : Nat) (a : At) : Prop where
  asc : a.vs.Pairwise (· < ·)
  lt : ∀ v ∈ a.vs, v < n
  len : ∀ r ∈ a.P, r.length = a.vs.length
  ss : RL.SS a.P

def dv (x : RL.R) (v : Nat) : RL.V := x.getD v default
def pj (a : At) (x : RL.R) : RL.R := (a.vs.filter fun v => decide (v < x.length)).map (dv x)
def satA (a : At) (x : RL.R) : Prop := a.vs.map (dv x) ∈ a.P
def preA (a : At) (x : RL.R) : Prop := ∃ y ∈ a.P, y.take (pj a x).length = pj a x
def kidsA (a : At) (x : RL.R) : RL.R := RL.kids a.d a.P (pj a x)

theorem filter_lt_succ {vs : List Nat} (h : vs.Pairwise (· < ·)) (n : Nat) : vs.filter (fun v => decide (v < n + 1)) = vs.filter (fun v => decide (v < n)) ++ (if n ∈ vs then [n] else []) := by
  induction vs with
  | nil => rfl
  | cons a t ih =>
    obtain ⟨h1, h2⟩ := List.pairwise_cons.1 h
    have ih := ih h2
    rcases Nat.lt_trichotomy a n with hl | rfl | hg
    · rw [List.filter_cons_of_pos (by simp; omega), List.filter_cons_of_pos (by simpa using hl), ih]
      have : (n ∈ a :: t) ↔ n ∈ t := by simp; omega
      simp only [this]
      rfl
    · rw [List.filter_cons_of_pos (by simp), List.filter_cons_of_neg (by simp)]
      have e1 : t.filter (fun v => decide (v < a + 1)) = [] := List.filter_eq_nil_iff.2 fun v hv => by have := h1 v hv; simp; omega
      have e2 : t.filter (fun v => decide (v < a)) = [] := List.filter_eq_nil_iff.2 fun v hv => by have := h1 v hv; simp; omega
      rw [e1, e2]
      simp
    · rw [List.filter_cons_of_neg (by simp; omega), List.filter_cons_of_neg (by simp; omega), ih]
      have hn : n ∉ t := fun hm => by have := h1 n hm; omega
      rw [if_neg hn, if_neg (by simp; exact ⟨by omega, hn⟩)]
theorem filter_lt_length {vs : List Nat} (h : vs.Pairwise (· < ·)) {n : Nat} (hn : n ∈ vs) : (vs.filter fun v => decide (v < n)).length < vs.length := by
  have h1 := List.length_filter_le (fun v => decide (v < n + 1)) vs
  rw [filter_lt_succ h, if_pos hn, List.length_append, List.length_singleton] at h1
  omega
theorem filter_lt_prefix {vs : List Nat} (h : vs.Pairwise (· < ·)) (n : Nat) : vs.filter (fun v => decide (v < n)) <+: vs := by
  induction vs with
  | nil => simp
  | cons a t ih =>
    obtain ⟨h1, h2⟩ := List.pairwise_cons.1 h
    by_cases hl : a < n
    · rw [List.filter_cons_of_pos (by simpa using hl)]
      exact List.prefix_cons_iff.2 (.inr ⟨_, rfl, ih h2⟩)
    · rw [List.filter_cons_of_neg (by simpa using hl)]
      have : t.filter (fun v => decide (v < n)) = [] := List.filter_eq_nil_iff.2 fun v hv => by have := h1 v hv; simp; omega
      rw [this]
      exact List.nil_prefix
theorem dv_snoc (x : RL.R) (c : RL.V) {v : Nat} (h : v < x.length) : dv (x ++ [c]) v = dv x v := by
  unfold dv
  simp [List.getD_eq_getElem?_getD, List.getElem?_append_left h]
theorem dv_last (x : RL.R) (c : RL.V) : dv (x ++ [c]) x.length = c := by
  unfold dv
  simp [List.getD_eq_getElem?_getD]
theorem pj_nil (a : At) : pj a [] = [] := by unfold pj; simp
theorem pj_snoc {a : At} (h : a.vs.Pairwise (· < ·)) (x : RL.R) (c : RL.V) : pj a (x ++ [c]) = if x.length ∈ a.vs then pj a x ++ [c] else pj a x := by
  unfold pj
  rw [List.length_append, List.length_singleton, filter_lt_succ h, List.map_append]
  have e : (a.vs.filter fun v => decide (v < x.length)).map (dv (x ++ [c])) = (a.vs.filter fun v => decide (v < x.length)).map (dv x) :=
    List.map_congr_left fun v hv => dv_snoc x c (by simpa using (List.mem_filter.1 hv).2)
  rw [e]
  split
  · rw [List.map_singleton, dv_last]
  · simp
theorem pj_le (a : At) (x : RL.R) : (pj a x).length ≤ a.d := by unfold pj; rw [List.length_map]; exact List.length_filter_le _ _
theorem pj_lt {a : At} (h : a.vs.Pairwise (· < ·)) {x : RL.R} (hx : x.length ∈ a.vs) : (pj a x).length < a.d := by unfold pj; rw [List.length_map]; exact filter_lt_length h hx
theorem pj_full {n : Nat} {a : At} (h : a.Ok n) {x : RL.R} (hx : x.length = n) : pj a x = a.vs.map (dv x) := by
  unfold pj
  rw [List.filter_eq_self.2 fun v hv => by have := h.lt v hv; simp; omega]
theorem preA_full {n : Nat} {a : At} (h : a.Ok n) {x : RL.R} (hx : x.length = n) : preA a x ↔ satA a x := by
  unfold preA satA
  rw [pj_full h hx]
  constructor
  · rintro ⟨y, hy, e⟩
    rw [List.length_map, ← h.len y hy, List.take_length] at e
    exact e ▸ hy
  · intro hm
    exact ⟨_, hm, List.take_length⟩
theorem preA_nil {a : At} (h : a.P ≠ []) : preA a [] := by
  obtain ⟨y, hy⟩ := List.exists_mem_of_ne_nil _ h
  exact ⟨y, hy, by rw [pj_nil]; rfl⟩
theorem preA_snoc {n : Nat} {a : At} (h : a.Ok n) {x : RL.R} {c : RL.V} (hx : x.length ∈ a.vs) : preA a (x ++ [c]) ↔ c ∈ kidsA a x := by
  unfold preA kidsA
  rw [pj_snoc h.asc, if_pos hx, RL.mem_kids h.len (pj_lt h.asc hx), List.length_append, List.length_singleton]
theorem preA_same {n : Nat} {a : At} (h : a.Ok n) {x : RL.R} {c : RL.V} (hx : x.length ∉ a.vs) : preA a (x ++ [c]) ↔ preA a x := by
  unfold preA
  rw [pj_snoc h.asc, if_neg hx]

def atsV (l : List At) (v : Nat) : List At := l.filter fun a => decide (v ∈ a.vs)
def candF (l : List At) (x : RL.R) : RL.R :=
  match atsV l x.length with
  | [] => []
  | a :: t => (kidsA a x).filter fun c => t.all fun b => decide (c ∈ kidsA b x)
def joinN (l : List At) : Nat → RL.R → List RL.R
  | 0, x => [x]
  | m + 1, x => (candF l x).flatMap fun c => joinN l m (x ++ [c])

theorem mem_candF {l : List At} {x : RL.R} (h : atsV l x.length ≠ []) (c : RL.V) : c ∈ candF l x ↔ ∀ a ∈ l, x.length ∈ a.vs → c ∈ kidsA a x := by
  have e : ∀ a, a ∈ atsV l x.length ↔ a ∈ l ∧ x.length ∈ a.vs := fun a => by unfold atsV; simp
  unfold candF
  cases hq : atsV l x.length with
  | nil => exact absurd hq h
  | cons a t =>
    rw [hq] at e
    simp only [List.mem_filter, List.all_eq_true, decide_eq_true_eq]
    constructor
    · rintro ⟨h1, h2⟩ b hb hv
      rcases List.mem_cons.1 ((e b).2 ⟨hb, hv⟩) with rfl | hm
      · exact h1
      · exact h2 b hm
    · intro hall
      exact ⟨hall a ((e a).1 (by simp)).1 ((e a).1 (by simp)).2, fun b hb => hall b ((e b).1 (by simp [hb])).1 ((e b).1 (by simp [hb])).2⟩
theorem candF_asc {n : Nat} {l : List At} (hl : ∀ a ∈ l, a.Ok n) (x : RL.R) : (candF l x).Pairwise fun a b => RL.cmpV a b < 0 := by
  unfold candF
  cases hq : atsV l x.length with
  | nil => exact List.Pairwise.nil
  | cons a t =>
    have ha : a ∈ l := by have : a ∈ atsV l x.length := by rw [hq]; simp
                          unfold atsV at this; exact (List.mem_filter.1 this).1
    exact List.Pairwise.sublist List.filter_sublist (RL.kids_asc (hl a ha).len _)

section
variable {n : Nat} {l : List At} (hl : ∀ a ∈ l, a.Ok n) (hu : ∀ v, v < n → ∃ a ∈ l, v ∈ a.vs)
include hl hu
omit hl in
theorem atsV_ne {v : Nat} (hv : v < n) : atsV l v ≠ [] := by
  obtain ⟨a, ha, h⟩ := hu v hv
  intro e
  have : a ∈ atsV l v := by unfold atsV; simp [ha, h]
  rw [e] at this
  simp at this
theorem cand_pre {x : RL.R} (hx : x.length < n) (hp : ∀ a ∈ l, preA a x) (c : RL.V) : c ∈ candF l x ↔ ∀ a ∈ l, preA a (x ++ [c]) := by
  rw [mem_candF (atsV_ne hu hx)]
  constructor
  · intro h a ha
    by_cases hv : x.length ∈ a.vs
    · exact (preA_snoc (hl a ha) hv).2 (h a ha hv)
    · exact (preA_same (hl a ha) hv).2 (hp a ha)
  · intro h a ha hv
    exact (preA_snoc (hl a ha) hv).1 (h a ha)
theorem mem_joinN : ∀ (m : Nat) (x : RL.R), x.length + m = n → (∀ a ∈ l, preA a x) → ∀ y, y ∈ joinN l m x ↔ y.length = n ∧ y.take x.length = x ∧ ∀ a ∈ l, satA a y
  | 0, x, hx, hp, y => by
    rw [joinN, List.mem_singleton]
    constructor
    · rintro rfl
      exact ⟨by omega, List.take_length, fun a ha => (preA_full (hl a ha) (by omega)).1 (hp a ha)⟩
    · rintro ⟨h1, h2, -⟩
      rw [show x.length = y.length by omega, List.take_length] at h2
      exact h2
  | m + 1, x, hx, hp, y => by
    rw [joinN, List.mem_flatMap]
    constructor
    · rintro ⟨c, hc, hy⟩
      have hp' := (cand_pre hl hu (by omega) hp c).1 hc
      obtain ⟨h1, h2, h3⟩ := (mem_joinN m (x ++ [c]) (by simp; omega) hp' y).1 hy
      refine ⟨h1, ?_, h3⟩
      have h4 := congrArg (List.take x.length) h2
      rw [List.take_take, List.length_append, List.length_singleton, Nat.min_eq_left (by omega), List.take_left] at h4
      exact h4
    · rintro ⟨h1, h2, h3⟩
      have hi : x.length < y.length := by omega
      have e : y.take (x.length + 1) = x ++ [y[x.length]] := by rw [List.take_succ_eq_append_getElem hi, h2]
      have hp' : ∀ a ∈ l, preA a (x ++ [y[x.length]]) := fun a ha => by
        refine ⟨a.vs.map (dv y), h3 a ha, ?_⟩
        unfold pj
        rw [← e, List.length_map]
        have e3 : (y.take (x.length + 1)).length = x.length + 1 := by simp; omega
        rw [e3]
        have hpre : a.vs.filter (fun v => decide (v < x.length + 1)) = a.vs.take (a.vs.filter fun v => decide (v < x.length + 1)).length := by
          refine (List.prefix_iff_eq_take.1 ?_)
          exact filter_lt_prefix (hl a ha).asc _
        have e2 : (a.vs.filter fun v => decide (v < x.length + 1)).map (dv (y.take (x.length + 1))) = (a.vs.filter fun v => decide (v < x.length + 1)).map (dv y) := by
          refine List.map_congr_left fun v hv => ?_
          have hv' : v < x.length + 1 := by simpa using (List.mem_filter.1 hv).2
          unfold dv
          rw [List.getD_eq_getElem?_getD, List.getElem?_take_of_lt hv', List.getD_eq_getElem?_getD]
        rw [e2, ← List.map_take, ← hpre]
      exact ⟨_, (cand_pre hl hu (by omega) hp _).2 hp', (mem_joinN m _ (by simp; omega) hp' y).2 ⟨h1, by simpa using e, h3⟩⟩
theorem joinN_ss : ∀ (m : Nat) (x : RL.R), x.length + m = n → (∀ a ∈ l, preA a x) → RL.SS (joinN l m x)
  | 0, x, _, _ => by rw [joinN]; exact List.pairwise_singleton _ _
  | m + 1, x, hx, hp => by
    rw [joinN]
    have hss : ∀ c ∈ candF l x, RL.SS (joinN l m (x ++ [c])) := fun c hc => joinN_ss m (x ++ [c]) (by simp; omega) ((cand_pre hl hu (by omega) hp c).1 hc)
    refine List.pairwise_flatMap.2 ⟨hss, (candF_asc hl x).imp_of_mem fun {c e} hc he hlt y hy z hz => ?_⟩
    obtain ⟨y1, y2, -⟩ := (mem_joinN hl hu m (x ++ [c]) (by simp; omega) ((cand_pre hl hu (by omega) hp c).1 hc) y).1 hy
    obtain ⟨z1, z2, -⟩ := (mem_joinN hl hu m (x ++ [e]) (by simp; omega) ((cand_pre hl hu (by omega) hp e).1 he) z).1 hz
    rw [← List.take_append_drop (x ++ [c]).length y, ← List.take_append_drop (x ++ [e]).length z, y2, z2]
    refine RL.lt_ext _ _ _ _ (by simp) ?_
    rw [RL.cmpR_append_left, RL.cmpR_one]
    exact hlt
end

def joinF (n : Nat) (l : List At) : List RL.R := if l.any (fun a => decide (a.P = [])) then [] else joinN l n []
theorem mem_joinF {n : Nat} {l : List At} (hl : ∀ a ∈ l, a.Ok n) (hu : ∀ v, v < n → ∃ a ∈ l, v ∈ a.vs) (y : RL.R) : y ∈ joinF n l ↔ y.length = n ∧ ∀ a ∈ l, satA a y := by
  unfold joinF
  split
  · rename_i h
    obtain ⟨a, ha, h⟩ := List.any_eq_true.1 h
    have h : a.P = [] := by simpa using h
    constructor
    · intro hm; simp at hm
    · rintro ⟨-, h2⟩
      have := h2 a ha
      unfold satA at this
      rw [h] at this
      simp at this
  · rename_i h
    have hne : ∀ a ∈ l, a.P ≠ [] := fun a ha e => h (List.any_eq_true.2 ⟨a, ha, by simpa using e⟩)
    rw [mem_joinN hl hu n [] (by simp) (fun a ha => preA_nil (hne a ha))]
    simp
theorem joinF_ss {n : Nat} {l : List At} (hl : ∀ a ∈ l, a.Ok n) (hu : ∀ v, v < n → ∃ a ∈ l, v ∈ a.vs) : RL.SS (joinF n l) := by
  unfold joinF
  split
  · exact RL.ss_nil
  · rename_i h
    exact joinN_ss hl hu n [] (by simp) (fun a ha => preA_nil fun e => h (List.any_eq_true.2 ⟨a, ha, by simpa using e⟩))
end
section
open Go.RowKit Go.Sort

def getF (U : List Nat) (x : RL.R) (v : Nat) : RL.V := dv x (U.idxOf v)
def rowF (U : List Nat) (f : Nat → RL.V) : RL.R := U.map f
def agrF (us vs : List Nat) (x y : RL.R) : Prop := ∀ v ∈ us, v ∈ vs → getF us x v = getF vs y v
def mergeF (U us vs : List Nat) (x y : RL.R) : RL.R := rowF U fun v => if v ∈ us then getF us x v else getF vs y v

theorem getF_at {U : List Nat} (hn : U.Nodup) {x : RL.R} {i : Nat} (hi : i < U.length) (hx : i < x.length) : getF U x U[i] = x[i] := by
  unfold getF dv
  rw [hn.idxOf_getElem i hi, List.getD_eq_getElem?_getD, List.getElem?_eq_getElem hx]
  rfl
theorem getF_row {U : List Nat} (hn : U.Nodup) (f : Nat → RL.V) {v : Nat} (hv : v ∈ U) : getF U (rowF U f) v = f v := by
  obtain ⟨i, hi, rfl⟩ := List.mem_iff_getElem.1 hv
  have hx : i < (rowF U f).length := by unfold rowF; rw [List.length_map]; exact hi
  rw [getF_at hn hi hx]
  simp [rowF]
theorem row_getF {U : List Nat} (hn : U.Nodup) {x : RL.R} (hx : x.length = U.length) : rowF U (getF U x) = x := by
  unfold rowF
  refine List.ext_getElem (by rw [List.length_map, hx]) fun i h1 h2 => ?_
  rw [List.getElem_map]
  exact getF_at hn (by rw [List.length_map] at h1; exact h1) h2
theorem row_len (U : List Nat) (f : Nat → RL.V) : (rowF U f).length = U.length := List.length_map _
theorem row_eq {U : List Nat} {f g : Nat → RL.V} : rowF U f = rowF U g ↔ ∀ v ∈ U, f v = g v := by
  unfold rowF
  exact List.map_inj_left
theorem merge_left {U us vs : List Nat} (hU : U.Nodup) (hus : us.Nodup) (hsub : ∀ v ∈ us, v ∈ U) {x y : RL.R} (hx : x.length = us.length) : rowF us (getF U (mergeF U us vs x y)) = x := by
  have e : rowF us (getF U (mergeF U us vs x y)) = rowF us (getF us x) := row_eq.2 fun v hv => by
    unfold mergeF
    rw [getF_row hU _ (hsub v hv), if_pos hv]
  rw [e, row_getF hus hx]
theorem merge_right {U us vs : List Nat} (hU : U.Nodup) (hvs : vs.Nodup) (hsub : ∀ v ∈ vs, v ∈ U) {x y : RL.R} (hy : y.length = vs.length) (ha : agrF us vs x y) : rowF vs (getF U (mergeF U us vs x y)) = y := by
  have e : rowF vs (getF U (mergeF U us vs x y)) = rowF vs (getF vs y) := row_eq.2 fun v hv => by
    unfold mergeF
    rw [getF_row hU _ (hsub v hv)]
    split
    · next h => exact ha v h hv
    · rfl
  rw [e, row_getF hvs hy]
theorem merge_of {U us vs : List Nat} (hU : U.Nodup) (hus : us.Nodup) (hvs : vs.Nodup) (hsub : ∀ v ∈ U, v ∈ us ∨ v ∈ vs) {x y z : RL.R} (hz : z.length = U.length) (ex : rowF us (getF U z) = x) (ey : rowF vs (getF U z) = y) : agrF us vs x y ∧ z = mergeF U us vs x y := by
  have h1 : ∀ v ∈ us, getF us x v = getF U z v := fun v hv => by rw [← ex, getF_row hus _ hv]
  have h2 : ∀ v ∈ vs, getF vs y v = getF U z v := fun v hv => by rw [← ey, getF_row hvs _ hv]
  refine ⟨fun v hu hv => (h1 v hu).trans (h2 v hv).symm, ?_⟩
  rw [← row_getF hU hz]
  unfold mergeF
  refine row_eq.2 fun v hv => ?_
  split
  · next h => exact (h1 v h).symm
  · next h => exact (h2 v ((hsub v hv).resolve_left h)).symm
def denseA (U : List Nat) (a : At) : At := ⟨a.vs.map U.idxOf, a.P⟩
theorem sat_dense (U : List Nat) (a : At) (z : RL.R) : satA (denseA U a) z ↔ rowF a.vs (getF U z) ∈ a.P := by
  unfold satA denseA rowF getF
  rw [List.map_map]
  rfl
noncomputable def semiF (a b : At) : List RL.R := by
  classical
  exact a.P.filter fun x => decide (∃ y ∈ b.P, agrF a.vs b.vs x y)
theorem mem_semiF {a b : At} {x : RL.R} : x ∈ semiF a b ↔ x ∈ a.P ∧ ∃ y ∈ b.P, agrF a.vs b.vs x y := by
  unfold semiF
  simp
theorem semi_proj {U : List Nat} {a b : At} (hU : U.Nodup) (ha : a.vs.Nodup) (hb : b.vs.Nodup) (hmem : ∀ v, v ∈ U ↔ v ∈ a.vs ∨ v ∈ b.vs) (hla : ∀ x ∈ a.P, x.length = a.vs.length) (hlb : ∀ y ∈ b.P, y.length = b.vs.length) (x : RL.R) :
    x ∈ semiF a b ↔ ∃ z : RL.R, z.length = U.length ∧ rowF a.vs (getF U z) ∈ a.P ∧ rowF b.vs (getF U z) ∈ b.P ∧ rowF a.vs (getF U z) = x := by
  rw [mem_semiF]
  constructor
  · rintro ⟨hx, y, hy, hag⟩
    have e1 := merge_left (vs := b.vs) (y := y) hU ha (fun v hv => (hmem v).2 (.inl hv)) (hla x hx)
    have e2 := merge_right hU hb (fun v hv => (hmem v).2 (.inr hv)) (hlb y hy) hag
    exact ⟨mergeF U a.vs b.vs x y, row_len _ _, by rw [e1]; exact hx, by rw [e2]; exact hy, e1⟩
  · rintro ⟨z, hz, h1, h2, rfl⟩
    exact ⟨h1, _, h2, (merge_of hU ha hb (fun v hv => (hmem v).1 hv) hz rfl rfl).1⟩
theorem join_two {U : List Nat} {a b : At} (hU : U.Nodup) (ha : a.vs.Nodup) (hb : b.vs.Nodup) (hmem : ∀ v, v ∈ U ↔ v ∈ a.vs ∨ v ∈ b.vs) (hla : ∀ x ∈ a.P, x.length = a.vs.length) (hlb : ∀ y ∈ b.P, y.length = b.vs.length) (z : RL.R) :
    (z.length = U.length ∧ rowF a.vs (getF U z) ∈ a.P ∧ rowF b.vs (getF U z) ∈ b.P) ↔ ∃ x ∈ a.P, ∃ y ∈ b.P, agrF a.vs b.vs x y ∧ z = mergeF U a.vs b.vs x y := by
  constructor
  · rintro ⟨hz, h1, h2⟩
    obtain ⟨h3, h4⟩ := merge_of hU ha hb (fun v hv => (hmem v).1 hv) hz rfl rfl
    exact ⟨_, h1, _, h2, h3, h4⟩
  · rintro ⟨x, hx, y, hy, hag, rfl⟩
    have e1 := merge_left (vs := b.vs) (y := y) hU ha (fun v hv => (hmem v).2 (.inl hv)) (hla x hx)
    have e2 := merge_right hU hb (fun v hv => (hmem v).2 (.inr hv)) (hlb y hy) hag
    exact ⟨row_len _ _, by rw [e1]; exact hx, by rw [e2]; exact hy⟩
def colsF (us ks : List Nat) : List Nat := (List.range us.length).filter fun i => decide (us.getD i 0 ∈ ks)
theorem cols_row {us : List Nat} (hn : us.Nodup) (ks : List Nat) {x : RL.R} (hx : x.length = us.length) : (colsF us ks).map (dv x) = rowF (us.filter fun v => decide (v ∈ ks)) (getF us x) := by
  have e : us.filter (fun v => decide (v ∈ ks)) = (colsF us ks).map fun i => us.getD i 0 := by
    have h1 : us = (List.range us.length).map fun i => us.getD i 0 := List.ext_getElem (by simp) fun i h1 h2 => by simp [h1]
    have h2 : us.filter (fun v => decide (v ∈ ks)) = ((List.range us.length).map fun i => us.getD i 0).filter fun v => decide (v ∈ ks) := by rw [← h1]
    rw [h2, List.filter_map]
    rfl
  unfold rowF
  rw [e, List.map_map]
  refine List.map_congr_left fun i hi => ?_
  have hi : i < us.length := List.mem_range.1 (List.mem_filter.1 hi).1
  have e2 : us.getD i 0 = us[i] := by simp [hi]
  show dv x i = getF us x (us.getD i 0)
  rw [e2, getF_at hn hi (by omega)]
  unfold dv
  rw [List.getD_eq_getElem?_getD, List.getElem?_eq_getElem (show i < x.length by omega)]
  rfl
theorem cols_agr {us vs : List Nat} (hu : us.Pairwise (· < ·)) (hv : vs.Pairwise (· < ·)) {x y : RL.R} (hx : x.length = us.length) (hy : y.length = vs.length) : (colsF us vs).map (dv x) = (colsF vs us).map (dv y) ↔ agrF us vs x y := by
  have hun : us.Nodup := hu.imp fun h e => by omega
  have hvn : vs.Nodup := hv.imp fun h e => by omega
  have e : us.filter (fun v => decide (v ∈ vs)) = vs.filter (fun v => decide (v ∈ us)) := by
    have hp : (us.filter fun v => decide (v ∈ vs)).Perm (vs.filter fun v => decide (v ∈ us)) := (List.perm_ext_iff_of_nodup (hun.filter _) (hvn.filter _)).2 fun v => by simp [and_comm]
    exact hp.eq_of_pairwise (le := fun a b => a < b) (fun a b _ _ h1 h2 => absurd (Nat.lt_trans h1 h2) (Nat.lt_irrefl _)) (hu.filter _) (hv.filter _)
  rw [cols_row hun vs hx, cols_row hvn us hy, ← e, row_eq]
  constructor
  · exact fun h v h1 h2 => h v (by simp [h1, h2])
  · exact fun h v h1 => h v (List.mem_filter.1 h1).1 (by simpa using (List.mem_filter.1 h1).2)
end
end Go.Proofs.YthgaflmldbgbnaaGreatDoor
section
namespace Go.Proofs.YthgaflmldbgbnaaGreatDoor.JT

def dif (a b : Nat) : Nat := a &&& (4294967295 - b)

theorem testBit_dif (a b i : Nat) (ha : a < 4294967296) (hb : b < 4294967296) : (dif a b).testBit i = (a.testBit i && !b.testBit i) := by
  unfold dif
  rw [Nat.testBit_and, show 4294967295 - b = 2 ^ 32 - (b + 1) by omega, Nat.testBit_two_pow_sub_succ (by omega)]
  by_cases h : i < 32
  · simp [h]
  · have h2 : a.testBit i = false := Nat.testBit_lt_two_pow (Nat.lt_of_lt_of_le ha (by
      have : 2 ^ 32 ≤ 2 ^ i := Nat.pow_le_pow_right (by omega) (by omega)
      omega))
    simp [h2]

theorem dif_below (a n : Nat) (ha : a < 4294967296) (hn : n ≤ 32) : dif a (2 ^ n - 1) = 0 ↔ a < 2 ^ n := by
  have hb : 2 ^ n ≤ 2 ^ 32 := Nat.pow_le_pow_right (by omega) hn
  constructor
  · intro h
    apply Nat.lt_pow_two_of_testBit
    intro i hi
    have h3 := testBit_dif a (2 ^ n - 1) i ha (by omega)
    rw [h, Nat.testBit_two_pow_sub_one] at h3
    simp at h3
    cases h4 : a.testBit i
    · rfl
    · rw [h4] at h3; simp at h3; omega
  · intro h
    apply Nat.eq_of_testBit_eq
    intro i
    rw [testBit_dif a _ i ha (by omega), Nat.testBit_two_pow_sub_one]
    by_cases hi : i < n
    · simp [hi]
    · have h2 : a.testBit i = false := Nat.testBit_lt_two_pow (Nat.lt_of_lt_of_le h (Nat.pow_le_pow_right (by omega) (by omega)))
      simp [h2]

theorem dif_lt (a b : Nat) (ha : a < 4294967296) : dif a b < 4294967296 := by
  unfold dif
  exact Nat.lt_of_le_of_lt Nat.and_le_left ha

def hgCheckF (N : Int) (es : List Nat) : Int :=
  if N < 0 ∨ 32 < N then 3 else if 64 < es.length then 12 else if es.all (fun e => decide (e < 2 ^ N.toNat)) then 0 else 1

theorem hgCheckF_ok {n : Nat} {es : List Nat} (hn : n ≤ 32) (hl : es.length ≤ 64) (h : ∀ e ∈ es, e < 2 ^ n) : hgCheckF n es = 0 := by
  unfold hgCheckF
  rw [if_neg (by omega), if_neg (by omega), if_pos (by simpa using h)]
theorem hgCheckF_bad {n : Nat} {es : List Nat} (hn : n ≤ 32) (hl : es.length ≤ 64) {e : Nat} (he : e ∈ es) (h : ¬ e < 2 ^ n) : hgCheckF n es = 1 := by
  unfold hgCheckF
  rw [if_neg (by omega), if_neg (by omega), if_neg]
  intro h2
  simp at h2
  exact h (h2 e he)
theorem hgCheckF_zero {N : Int} {es : List Nat} (h : hgCheckF N es = 0) : ∃ n : Nat, N = n ∧ n ≤ 32 ∧ es.length ≤ 64 ∧ ∀ e ∈ es, e < 2 ^ n := by
  unfold hgCheckF at h
  by_cases h1 : N < 0 ∨ 32 < N
  · rw [if_pos h1] at h; omega
  rw [if_neg h1] at h
  by_cases h2 : 64 < es.length
  · rw [if_pos h2] at h; omega
  rw [if_neg h2] at h
  obtain ⟨n, rfl⟩ := Int.eq_ofNat_of_zero_le (show 0 ≤ N by omega)
  refine ⟨n, rfl, by omega, by omega, ?_⟩
  by_cases h3 : (es.all fun e => decide (e < 2 ^ (n : Int).toNat)) = true
  · simpa using h3
  · rw [if_neg h3] at h; omega

def sepF (es : List Nat) (ps : List Int) (node : Int) : Nat :=
  if 0 ≤ node ∧ node < ps.length ∧ node < es.length then
    (if 0 ≤ ps[node.toNat]?.getD 0 ∧ ps[node.toNat]?.getD 0 < es.length then es[node.toNat]?.getD 0 &&& es[(ps[node.toNat]?.getD 0).toNat]?.getD 0 else 0)
  else 0

def up (ps : List Int) : Nat → Int → Int
  | 0, v => v
  | k + 1, v => if v < 0 then v else up ps k (ps[v.toNat]?.getD 0)

def validB (ps : List Int) : Bool := ps.all fun p => decide (-1 ≤ p) && decide (p < ps.length)
def rootsF (ps : List Int) : Nat := ps.countP fun p => decide (p < 0)
def rootedB (ps : List Int) : Bool := validB ps && (rootsF ps == 1) && (List.range ps.length).all fun i => decide (up ps ps.length (i : Int) < 0)

def has (e v : Nat) : Bool := e / 2 ^ v % 2 == 1
def nodesF (es : List Nat) (v : Nat) : Nat := (List.range es.length).countP fun i => has (es[i]?.getD 0) v
def linkB (es : List Nat) (ps : List Int) (v i : Nat) : Bool :=
  has (es[i]?.getD 0) v && decide (0 ≤ ps[i]?.getD 0) && has (es[(ps[i]?.getD 0).toNat]?.getD 0) v
def linksF (es : List Nat) (ps : List Int) (v : Nat) : Nat := (List.range es.length).countP fun i => linkB es ps v i
def joinB (N : Nat) (es : List Nat) (ps : List Int) : Bool :=
  (List.range N).all fun v => nodesF es v == 0 || ((nodesF es v : Int) - linksF es ps v == 1)

def chkF (N : Int) (es : List Nat) (ps : List Int) : Int :=
  if hgCheckF N es ≠ 0 then hgCheckF N es else if ps.length ≠ es.length then 28 else if rootedB ps = false then 15 else if joinB N.toNat es ps = false then 24 else 0

end Go.Proofs.YthgaflmldbgbnaaGreatDoor.JT
end
namespace Go.Proofs.YthgaflmldbgbnaaGreatDoor
section
open Go.RowKit

set_option maxHeartbeats 400000 in
theorem below_any (n : Nat) (w : World) (h1 : n ≤ 32) :
    Calls Tryz.prog 78 #[.int .i64 n] w fun e w' => e = .returned (.int .u32 ((2 ^ n - 1 : Nat) : Int)) ∧ w = w' := by
  have hp : IntKind.u64.wrap (IntKind.u64.wrap (2 ^ n) - 1) % 4294967296 = ((2 ^ n - 1 : Nat) : Int) := by
    have h2 : ∀ k : Nat, k ≤ 32 → IntKind.u64.wrap (IntKind.u64.wrap ((2 ^ k : Nat) : Int) - 1) % 4294967296 = ((2 ^ k - 1 : Nat) : Int) := by decide
    have := h2 n h1
    simpa using this
  have HP := Lib.hid hp
  clear hp
  go_enter Tryz.func78, Tryz.ntmps78
  go_wp2
  go_ret
  refine ⟨?_, rfl⟩
  rw [← HP.out]
  simp

theorem U32s.at_ {es : List Nat} (h : U32s es) {i : Nat} (hi : i < es.length) : es[i] ≤ 4294967295 := h _ (List.getElem_mem hi)

set_option maxHeartbeats 400000 in
theorem hgCheck_any (N : Int) (EA : Option Addr) (EC : Nat) (es : List Nat) (w : World)
    (he : SlN .u32 w.heap.size w EA es) (hu : U32s es) (hel : es.length ≤ 1000000) :
    Calls Tryz.prog 58 #[.agg #[.int .i64 N, .slice EA es.length EC]] w fun e w' => e = .returned (.int .i64 (JT.hgCheckF N es)) ∧ Below w.heap.size w w' := by
  by_cases h1 : N < 0
  · have hf : JT.hgCheckF N es = 3 := by simp [JT.hgCheckF, h1]
    rw [hf]; clear hf he hu
    go_enter Tryz.func58, Tryz.ntmps58
    go_wp2
    go_ret
    exact ⟨rfl, (Below.refl _ _).alloc (Nat.le_refl _) _⟩
  by_cases h2 : 32 < N
  · have hf : JT.hgCheckF N es = 3 := by simp [JT.hgCheckF, h2]
    rw [hf]; clear hf he hu
    go_enter Tryz.func58, Tryz.ntmps58
    go_wp2
    go_ret
    exact ⟨rfl, (Below.refl _ _).alloc (Nat.le_refl _) _⟩
  by_cases h3 : 64 < es.length
  · have hf : JT.hgCheckF N es = 12 := by simp [JT.hgCheckF, h1, h2, h3]
    rw [hf]; clear hf he hu
    generalize es.length = m at *
    go_enter Tryz.func58, Tryz.ntmps58
    go_wp2
    go_ret
    exact ⟨rfl, (Below.refl _ _).alloc (Nat.le_refl _) _⟩
  obtain ⟨n, rfl⟩ := Int.eq_ofNat_of_zero_le (show 0 ≤ N by omega)
  have hn : n ≤ 32 := by omega
  go_enter Tryz.func58, Tryz.ntmps58
  go_wp2
  go_loopw [20] (fun i wr => ∃ k : Nat, k ≤ es.length ∧ i = .int .i64 k ∧ (∀ e ∈ es.take k, e < 2 ^ n) ∧ Below w.heap.size w wr ∧ wr.cell? ⟨w.heap.size, 0, none⟩ = some (.int .i64 n)) (fun i _ => es.length - (intOf i).toNat)
  case atStart => exact ⟨0, Nat.zero_le _, rfl, by simp, (Below.refl _ _).alloc (Nat.le_refl _) _, by go_simp⟩
  case round =>
    obtain ⟨k, hk, rfl, hall, hb, hN⟩ := hrel
    have HA := Lib.hid hall
    clear hall
    by_cases hlt : k < es.length
    · obtain ⟨b, o, rfl, hbb, hc⟩ := slN_at (he.below hb (Nat.le_refl _)) hlt
      have hu1 := hu.at_ hlt
      generalize hek : es[k] = ek at *
      have HK := Lib.hid hek
      clear hek he hu
      have hba : bits .andNot .u32 (ek : Int) ((2 ^ n - 1 : Nat) : Int) = (JT.dif ek (2 ^ n - 1) : Nat) := u32_andNot_nat ek (2 ^ n - 1) (by omega) (by have : 2 ^ n ≤ 2 ^ 32 := Nat.pow_le_pow_right (by omega) hn; omega)
      have hd := JT.dif_below ek n (by omega) hn
      generalize JT.dif ek (2 ^ n - 1) = d at *
      have HD := Lib.hid hd
      clear hd
      go_wp2_with (go_at_call 78; refine (below_any _ _ hn).mono ?_; rintro e w' ⟨rfl, rfl⟩)
      · have hne : ((d : Int) != 0) = true := by assumption
        go_ret
        refine ⟨?_, hb⟩
        have h6 : ¬ es[k] < 2 ^ n := by
          rw [HK.out, ← HD.out]
          simp at hne
          omega
        exact ret_int (JT.hgCheckF_bad hn (by omega) (List.getElem_mem hlt) h6).symm
      · have hne : ((d : Int) != 0) = false := by assumption
        go_roundw
        case rel =>
          refine ⟨k + 1, by omega, by go_num, ?_, hb, hN⟩
          intro e he2
          rw [List.take_succ_eq_append_getElem hlt, List.mem_append] at he2
          rcases he2 with he2 | he2
          · exact HA.out e he2
          · simp at he2
            simp at hne
            rw [he2, HK.out, ← HD.out]
            omega
        case measure => simp [intOf]; omega
    · go_wp2
      go_ret
      refine ⟨?_, hb⟩
      have : k = es.length := by omega
      subst this
      have h5 := HA.out
      rw [List.take_length] at h5
      exact ret_int (JT.hgCheckF_ok hn (by omega) h5).symm

theorem sepF_zero1 {es : List Nat} {ps : List Int} {node : Int} (h : ¬ (0 ≤ node ∧ node < ps.length ∧ node < es.length)) : JT.sepF es ps node = 0 := by
  unfold JT.sepF
  rw [if_neg h]

set_option maxHeartbeats 400000 in
theorem sep_any (N : Int) (EA PA : Option Addr) (EC PC : Nat) (es : List Nat) (ps : List Int) (node : Int) (w : World)
   (he : SlN .u32 w.heap.size w EA es) (hu : U32s es) (hp : SlI .i64 w.heap.size w PA ps) (_hel : es.length ≤ 1000000) (_hpl : ps.length ≤ 1000000) :
    Calls Tryz.prog 84 #[.agg #[.int .i64 N, .slice EA es.length EC], .agg #[.slice PA ps.length PC], .int .i64 node] w fun e w' => e = .returned (.int .u32 (JT.sepF es ps node : Nat)) ∧ Below w.heap.size w w' := by
  have hbel : ∀ o1 o2 : Obj, Below w.heap.size w ((w.alloc o1).alloc o2) := fun o1 o2 => ((Below.refl _ _).alloc (Nat.le_refl _) _).alloc (by simp) _
  by_cases h0 : node < 0
  · rw [sepF_zero1 (by omega)]
    clear he hp hu
    generalize es.length = m at *
    generalize ps.length = n at *
    go_enter Tryz.func84, Tryz.ntmps84
    go_wp2
    go_ret
    exact ⟨rfl, hbel _ _⟩
  obtain ⟨i, rfl⟩ := Int.eq_ofNat_of_zero_le (show 0 ≤ node by omega)
  by_cases h1 : i < ps.length
  rotate_left
  · rw [sepF_zero1 (by omega)]
    clear he hp hu
    generalize es.length = m at *
    generalize ps.length = n at *
    go_enter Tryz.func84, Tryz.ntmps84
    go_wp2
    go_ret
    exact ⟨rfl, hbel _ _⟩
  by_cases h2 : i < es.length
  rotate_left
  · rw [sepF_zero1 (by omega)]
    clear he hp hu
    generalize es.length = m at *
    generalize ps.length = n at *
    go_enter Tryz.func84, Tryz.ntmps84
    go_wp2
    go_ret
    exact ⟨rfl, hbel _ _⟩
  have hsp : JT.sepF es ps (i : Int) = if 0 ≤ ps[i] ∧ ps[i] < es.length then es[i] &&& es[ps[i].toNat]?.getD 0 else 0 := by
    unfold JT.sepF
    rw [if_pos (by omega)]
    simp [h1, h2]
  rw [hsp]; clear hsp
  obtain ⟨b2, o2, rfl, hb2, hcp⟩ := slI_at hp h1
  obtain ⟨b, o, rfl, hb, hci⟩ := slN_at he h2
  have hui := hu.at_ h2
  generalize ps[i] = p at *
  by_cases h3 : p < 0
  · rw [if_neg (by omega)]
    clear he hp hu hci hui
    generalize es.length = m at *
    generalize ps.length = n at *
    go_enter Tryz.func84, Tryz.ntmps84
    go_wp2
    go_ret
    exact ⟨rfl, hbel _ _⟩
  obtain ⟨j, rfl⟩ := Int.eq_ofNat_of_zero_le (show 0 ≤ p by omega)
  by_cases h4 : j < es.length
  rotate_left
  · rw [if_neg (by omega)]
    clear he hp hu hci hui
    generalize es.length = m at *
    generalize ps.length = n at *
    go_enter Tryz.func84, Tryz.ntmps84
    go_wp2
    go_ret
    exact ⟨rfl, hbel _ _⟩
  rw [if_pos (by omega)]
  obtain ⟨b', o', e', hb', hcj⟩ := slN_at he h4
  simp at e'
  obtain ⟨rfl, rfl⟩ := e'
  have huj := hu.at_ h4
  have hj : es[(j : Int).toNat]?.getD 0 = es[j] := by simp [h4]
  rw [hj]; clear hj
  generalize es[i] = ei at *
  generalize es[j] = ej at *
  clear he hp hu hb'
  generalize es.length = m at *
  generalize ps.length = n at *
  have HB := Lib.hid (u32_and_nat ei ej (by omega) (by omega))
  go_enter Tryz.func84, Tryz.ntmps84
  go_wp2
  go_quiet (fail)
  go_wp2
  go_ret
  exact ⟨ret_int HB.out, Below.drewN' (hbel _ _) _⟩
end
section
open Go.RowKit

theorem add_pos (b o i : Nat) : (Addr.add ⟨b, o, none⟩ i) = ⟨b, o + i, none⟩ := by
  unfold Addr.add
  split
  · next h => subst h; rfl
  · rfl

theorem Sl.cells {B : Nat} {w : World} {ad : Addr} {xs : List Value} (h : Sl B w (some ad) xs) : ∀ j u, xs[j]? = some u → w.cell? (ad.add j) = some u := by
  intro j u hu
  obtain ⟨b, o, e, _, hc⟩ := h (by rintro rfl; simp at hu)
  injection e with e
  subst e
  rw [add_pos]
  exact hc j u hu

theorem intInfo27 : (Tryz.prog.info? 3).map (fun i => (i.zero, i.size, i.bytes)) = some (some (.int .i64 0), 1, 8) := by kernel_rfl
theorem u32Info : (Tryz.prog.info? 57).map (fun i => (i.zero, i.size, i.bytes)) = some (some (.int .u32 0), 1, 4) := by kernel_rfl

theorem app1Int27 {w : World} {ops : Array Oper} {rest : List Oper} {o : Oper} {a : Act} {Q : Exit → Act → World → Prop} (hgd : o.guard = none) (s x : Operand)
    (ho : o.op = .call { callee := .builtin .append, args := #[s, x], argTypes := #[27, 27] })
    (base : Nat) (v : Value) (n : Nat) (xs : List Value) (hs : a.eval s = v) (hown : w.ownsRow base 3 1 v n xs)
    (g : Nat) (z : Int) (hx : a.eval x = .slice (some ⟨g, 0, none⟩) 1 1) (hg : w.cell? ⟨g, 0, none⟩ = some (.int .i64 z))
    (hn : n ≤ 100000000) (hbase : base ≤ w.heap.size)
    (h : ∀ v' w', w'.ownsRow base 3 1 v' (n + 1) (xs ++ [.int .i64 z]) → w.grownBy w' v.ownBlock → wpList Tryz.prog ops Q rest (a.put o.dst v') w') : wpList Tryz.prog ops Q (o :: rest) a w := by
  obtain ⟨i0, hi0, hz0, hz1, hz2⟩ := info_parts intInfo27
  refine wpList_append_own w hgd s x 27 ho base 3 i0 _ 1 8 Tryz.underlying27 hi0 hz0 hz1 hz2 rfl (by decide) v n xs hs hown ⟨g, 0, none⟩ 1 1 [.int .i64 z] hx rfl ?_ (by simp [Value.oneCell']) (by simp only [maxLen]; omega) (by omega) hbase fun v' w' h1 h2 _ => h v' w' h1 h2
  intro j u hu
  cases j with
  | zero => simp at hu; subst hu; exact hg
  | succ j => simp at hu

set_option maxHeartbeats 400000 in
theorem cloneInt_any (A : Option Addr) (c : Nat) (zs : List Int) (w : World) (hx : SlI .i64 w.heap.size w A zs) (hl : zs.length ≤ 1000000) :
    Calls Tryz.prog 62 #[.slice A zs.length c] w fun e w' => ∃ v, e = .returned v ∧ w'.ownsRow w.heap.size 3 1 v zs.length (zs.map (Value.int .i64)) ∧ Below w.heap.size w w' := by
  have hnil := fun w => Lib.run_eql_slice_nil (P := Tryz.prog) w 27 3 A zs.length c 0 0 Tryz.underlying27
  rcases A with _ | ad
  · have hz : zs = [] := by
      cases zs with
      | nil => rfl
      | cons z zs => obtain ⟨b, o, e, _⟩ := hx (by simp); cases e
    subst hz
    simp only [List.length_nil] at *
    clear hx
    go_enter Tryz.func62, Tryz.ntmps62
    go_wp2
    go_ret
    exact ⟨_, rfl, ⟨rfl, .inl ⟨rfl, rfl⟩⟩, Below.refl _ _⟩
  · obtain ⟨i0, hi0, hz0, hz1, hz2⟩ := info_parts intInfo27
    have hcs := (hx.alloc (Nat.le_refl _) (.cells #[] 3)).cells
    have hown : (w.alloc (.cells #[] 3)).ownsRow w.heap.size 3 1 (.slice (some ⟨w.heap.size, 0, none⟩) 0 0) 0 [] := ⟨rfl, .inr ⟨w.heap.size, 0, #[], rfl, Nat.le_refl _, heap_alloc_new w _, Nat.le_refl _, by simp [maxLen], rfl, rfl⟩⟩
    have HC := Lib.hid hcs
    have HO := Lib.hid hown
    clear hcs hown hx
    go_enter Tryz.func62, Tryz.ntmps62
    go_wp2_with (at_builtin; refine wpList_append_own _ rfl (.tmp 5) (.tmp 6) 27 rfl w.heap.size 3 i0 _ 1 8 Tryz.underlying27 hi0 hz0 hz1 hz2 rfl (by decide) (.slice (some ⟨w.heap.size, 0, none⟩) 0 0) 0 [] rfl HO.out ad zs.length c (zs.map (Value.int .i64)) rfl (by simp) HC.out (by simp [Value.oneCell']) (by simp only [maxLen]; omega) (by omega) (by simp) ?_; intro v' w' hown' hg' hn'; have HO' := Lib.hid hown'; have HG := Lib.hid hg'; clear hown' hg' hn')
    go_ret
    have h1 := HO'.out
    simp only [Nat.zero_add, List.nil_append] at h1
    refine ⟨_, rfl, h1, ?_⟩
    refine ((Below.refl _ _).alloc (Nat.le_refl _) _).grown HG.out (by simp) ?_
    intro k hk
    simp [Value.ownBlock] at hk
    omega
end
end Go.Proofs.YthgaflmldbgbnaaGreatDoor

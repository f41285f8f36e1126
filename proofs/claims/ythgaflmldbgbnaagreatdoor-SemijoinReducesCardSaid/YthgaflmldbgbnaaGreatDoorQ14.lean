/- Parts of the proof, merged: W12, W13, W14, JRer2, JSep, G40, L5, G41, G43, F11. -/
import Derived.Test.YthgaflmldbgbnaaGreatDoorQ3
import Derived.Test.YthgaflmldbgbnaaGreatDoorQ13
import Derived.Deep.CutRange
import Derived.Deep.DeepCutAuto
import Derived.Test.YthgaflmldbgbnaaGreatDoorQ7
import Derived.Test.YthgaflmldbgbnaaGreatDoorQ9
import Derived.Test.YthgaflmldbgbnaaGreatDoorRows
import Derived.Test.YthgaflmldbgbnaaGreatDoorQ1
import Derived.Deep.RegionHeld3
import Derived.ProofKit
import Derived.OpenShut
import Derived.ShutString
import Derived.ChangeOld
import Derived.ChangeSame
import Derived.Lib.SmallJoins
import Derived.Deep.Slices
import Derived.Deep.Fields

set_option maxRecDepth 100000
namespace Go.Proofs.YthgaflmldbgbnaaGreatDoor
section
open Go.RowKit

def stepCells (S : List JT.Stp) : List Value := S.flatMap fun s => [.int .i64 (s.1 : Int), .int .i64 s.2.1, .int .i64 s.2.2]
theorem stepCells_length (S : List JT.Stp) : (stepCells S).length = S.length * 3 := by
  induction S with
  | nil => rfl
  | cons a S ih => simp only [stepCells, List.flatMap_cons, List.length_append, List.length_cons] at ih ⊢; simp [ih]; omega
theorem stepCells_snoc (S : List JT.Stp) (e : Nat) (i v : Int) : stepCells (S ++ [(e, i, v)]) = stepCells S ++ [.int .i64 (e : Int), .int .i64 i, .int .i64 v] := by
  simp [stepCells]

theorem stepInfo : (Tryz.prog.info? 121).map (fun i => (i.zero, i.size, i.bytes)) = some (some (stepV27 0 0 0), 3, 24) := by kernel_rfl

theorem app1Step {w : World} {ops : Array Oper} {rest : List Oper} {o : Oper} {a : Act} {Q : Exit → Act → World → Prop} (hgd : o.guard = none) (s x : Operand)
    (ho : o.op = .call { callee := .builtin .append, args := #[s, x], argTypes := #[117, 117] })
    (base : Nat) (v : Value) (n : Nat) (xs : List Value) (hs : a.eval s = v) (hown : w.ownsRow base 121 3 v n xs)
    (g : Nat) (z1 z2 z3 : Int) (hx : a.eval x = .slice (some ⟨g, 0, none⟩) 1 1) (hg1 : w.cell? ⟨g, 0, none⟩ = some (.int .i64 z1)) (hg2 : w.cell? ⟨g, 1, none⟩ = some (.int .i64 z2)) (hg3 : w.cell? ⟨g, 2, none⟩ = some (.int .i64 z3))
    (hn : n ≤ 100000000) (hbase : base ≤ w.heap.size)
    (h : ∀ v' w', w'.ownsRow base 121 3 v' (n + 1) (xs ++ [.int .i64 z1, .int .i64 z2, .int .i64 z3]) → w.grownBy w' v.ownBlock → wpList Tryz.prog ops Q rest (a.put o.dst v') w') : wpList Tryz.prog ops Q (o :: rest) a w := by
  obtain ⟨i0, hi0, hz0, hz1, hz2⟩ := info_parts stepInfo
  refine wpList_append_own w hgd s x 117 ho base 121 i0 _ 3 24 Tryz.underlying117 hi0 hz0 hz1 hz2 rfl (by decide) v n xs hs hown ⟨g, 0, none⟩ 1 1 [.int .i64 z1, .int .i64 z2, .int .i64 z3] hx rfl ?_ (by simp [Value.oneCell']) (by simp only [maxLen]; omega) (by omega) hbase fun v' w' h1 h2 _ => h v' w' h1 h2
  intro j u hu
  rw [add_pos]
  match j, hu with
  | 0, hu => simp at hu; subst hu; exact hg1
  | 1, hu => simp at hu; subst hu; exact hg2
  | 2, hu => simp at hu; subst hu; exact hg3
  | j + 3, hu => simp at hu

abbrev u32V (R : List Nat) : List Value := R.map fun z : Nat => Value.int .u32 (z : Int)

theorem cloneN_any (A : Option Addr) (c : Nat) (zs : List Nat) (w : World) (hx : SlN .u32 w.heap.size w A zs) (hl : zs.length ≤ 1000000) (hpos : 0 < zs.length) :
    Calls Tryz.prog 81 #[.slice A zs.length c] w fun e w' => ∃ g cap, e = .returned (.slice (some ⟨g, 0, none⟩) zs.length cap) ∧ w.heap.size ≤ g ∧ g < w'.heap.size ∧ w'.ownsRow w.heap.size 57 1 (.slice (some ⟨g, 0, none⟩) zs.length cap) zs.length (u32V zs) ∧ Below w.heap.size w w' := by
  have h := cloneU32_any A c (zs.map fun z : Nat => (z : Int)) w (by rw [SlI, List.map_map]; exact hx) (by simpa using hl)
  rw [List.length_map] at h
  refine h.mono fun e w' ⟨v, h1, h2, h3⟩ => ?_
  rw [List.map_map] at h2
  obtain ⟨g, cap, rfl, h4, h5, _, h6⟩ := own_form h2 hpos
  exact ⟨g, cap, h1, h4, h5, h6, h3⟩

theorem wrap2v (v : Nat) (hv : v < 32) : IntKind.u32.wrap (2 ^ v) = ((2 ^ v : Nat) : Int) := by
  have h : ∀ v : Nat, v < 32 → IntKind.u32.wrap ((2 ^ v : Nat) : Int) = ((2 ^ v : Nat) : Int) := by decide
  simpa using h v hv

set_option maxHeartbeats 4000000 in
theorem reduce_walk (n : Nat) (EA : Option Addr) (EC : Nat) (es : List Nat) (w : World)
   (hE : SlN .u32 w.heap.size w EA es) (hu : JT.U32 es) (hk : JT.hgCheckF n es = 0) (hm : 0 < es.length) :
    Calls Tryz.prog 60 #[.agg #[.int .i64 n, .slice EA es.length EC]] w fun r w' => ∃ v g cap, r = .returned (.tuple #[v, .slice (some ⟨g, 0, none⟩) es.length cap]) ∧ w'.ownsRow w.heap.size 121 3 v (JT.reduceF n es).steps.length (stepCells (JT.reduceF n es).steps) ∧ w'.ownsRow w.heap.size 57 1 (.slice (some ⟨g, 0, none⟩) es.length cap) es.length ((JT.reduceF n es).rest.map fun z : Nat => Value.int .u32 (z : Int)) ∧ Below w.heap.size w w' := by
  obtain ⟨n', hn', hn32, hm64, -⟩ := JT.hgCheckF_zero hk
  have hn : n ≤ 32 := by omega
  have HU := Lib.hid hu
  have HK := Lib.hid hk
  have hel : es.length ≤ 1000000 := by omega
  have HE : Hid (∀ o1, SlN .u32 (w.alloc o1).heap.size (w.alloc o1) EA es) := fun o1 => (hE.alloc (Nat.le_refl _) o1).more (by simp)
  have hmk := makeBools es.length hel
  clear hE hu hk hn' hn32
  go_enter Tryz.func60, Tryz.ntmps60
  go_wp2_with fail
  refine (hgCheck_any n EA EC es _ (HE.out _) HU.out hel).mono ?_
  rw [HK.out]
  rintro e w1 ⟨rfl, hb1⟩
  have hc1 : w1.cell? ⟨w.heap.size, 0, none⟩ = some (.int .i64 n) := (hb1.cell (p := ⟨w.heap.size, 0, none⟩) (by simp)).trans (by go_simp)
  have hc2 : w1.cell? ⟨w.heap.size, 1, none⟩ = some (.slice EA es.length EC) := (hb1.cell (p := ⟨w.heap.size, 1, none⟩) (by simp)).trans (by go_simp)
  have hbw := Below.box hb1 (by simp)
  have hsz1 : w.heap.size + 1 ≤ w1.heap.size := by have := hb1.size; simpa using this
  have HE1 := Lib.hid (((HE.out _).below hb1 (Nat.le_refl _)).more (show _ ≤ w1.heap.size by simp; omega))
  clear hb1 HE
  go_wp2_with fail
  refine (cloneN_any EA EC es _ HE1.out hel hm).mono ?_
  rintro e w2 ⟨g, cap, rfl, hg1, hg2, hown, hb2⟩
  have hd1 := (hb2.cell (p := ⟨w.heap.size, 0, none⟩) (by show w.heap.size < _; omega)).trans hc1
  have hbw2 := Below.then hbw hb2 hbw.size
  have HO := Lib.hid (own_weaken hown (show w.heap.size + 1 ≤ _ by omega))
  clear hbw hb2 hc1 hc2 hown HE1
  go_wp2
  go_loopg [6] (JT.weight (JT.startF es)) (fun gk sv wr => ∃ s : JT.Red, JT.Reach n es s ∧ JT.RedOk es.length s ∧ JT.weight s = gk ∧ s.steps.length + gk ≤ 100000 ∧ wr.ownsRow (w.heap.size + 1) 57 1 (.slice (some ⟨g, 0, none⟩) es.length cap) es.length (u32V s.rest) ∧ Row wr w2.heap.size 4 (s.rem.map Value.bool) ∧ wr.ownsRow (w2.heap.size + 1) 121 3 sv s.steps.length (stepCells s.steps) ∧ Below w.heap.size w wr ∧ wr.cell? ⟨w.heap.size, 0, none⟩ = some (.int .i64 n))
  case atStart =>
    refine ⟨JT.startF es, JT.Reach.start n es, JT.RedOk.start HU.out, rfl, ?_, HO.out.alloc _, ?_, own_nil _ _ _ _, hbw2.alloc (by have := hbw2.size; omega) _, old_cell _ _ (by show w.heap.size < _; omega) hd1⟩
    · have := JT.weight_start es
      have h0 : (JT.startF es).steps.length = 0 := rfl
      omega
    · have := Row.zeros w2 4 (.bool false) es.length
      simpa [JT.startF] using this
  case round =>
    clear hd1 hbw2 HO
    obtain ⟨s, hre, hok, hwt, hsl, hown, hrow, hst, hb, hc1⟩ := hrel
    have hA := absorb_any (some ⟨g, 0, none⟩) (some ⟨w2.heap.size, 0, none⟩) cap es.length s.rest s.rem wr (own_sl hown) hok.u32 hrow.sl (by rw [hok.lrem, hok.lrest]) (by rw [hok.lrest]; omega)
    rw [hok.lrest, hok.lrem] at hA
    have HAB := Lib.hid hA
    have HRE := Lib.hid hre
    have HOK := Lib.hid hok
    have HO := Lib.hid hown
    have HR := Lib.hid hrow
    have HS := Lib.hid hst
    have HWT := Lib.hid hwt
    have hszr : w2.heap.size < wr.heap.size := hrow.lt
    clear hA hre hok hown hrow hst hwt
    go_wp2_with fail
    refine HAB.out.mono ?_
    rintro e w3 ⟨hcase, hb3⟩
    have HB3 := Lib.hid hb3
    have hszr3 : wr.heap.size ≤ w3.heap.size := hb3.size
    have HO3 := Lib.hid (own_keep HO.out hb3)
    have HR3 := Lib.hid (HR.out.below hb3 HR.out.lt)
    have HS3 := Lib.hid (own_keep HS.out hb3)
    have hc13 := (hb3.cell (p := ⟨w.heap.size, 0, none⟩) (by show w.heap.size < _; omega)).trans hc1
    have hbw3 : Below w.heap.size w w3 := Below.then hb hb3 hb.size
    clear hb3 HAB HO HR HS hc1 hb
    rcases hcase with ⟨x, i, hx, rfl⟩ | ⟨hno, rfl⟩
    · have HX := Lib.hid hx
      have hxl : x < es.length := by have := hx.1; rw [HOK.out.lrest] at this; exact this
      have hil : i < es.length := by have := hx.2.1; rw [HOK.out.lrest] at this; exact this
      have hxr := own_cell27 HO3.out (j := x) (by simp; rw [HOK.out.lrest]; exact hxl)
      have hxf := HO3.out.frozenAt x
      rw [List.getElem_map] at hxr
      have hbx := HR3.out.cell_ (i := x) (by simp; rw [HOK.out.lrem]; exact hxl)
      have hbf := HR3.out.frozen x
      rw [List.getElem_map] at hbx
      generalize (s.rest[x]'(by rw [HOK.out.lrest]; exact hxl)) = rx at hxr
      generalize (s.rem[x]'(by rw [HOK.out.lrem]; exact hxl)) = bx at hbx
      clear hx
      have hne1 : g < w3.heap.size := by omega
      have hne2 : w2.heap.size < w3.heap.size := by omega
      have hne3 : ¬ w2.heap.size = g := by omega
      have hne4 : ¬ g = w2.heap.size := by omega
      have hub : ∀ k, u6.ownBlock = some k → w2.heap.size + 1 ≤ k := fun k hk => own_base HS3.out hk
      have HUB := Lib.hid hub
      have HS4 : Hid (((w3.setCell ⟨g, x, none⟩ (.int .u32 0)).setCell ⟨w2.heap.size, x, none⟩ (.bool true)).ownsRow (w2.heap.size + 1) 121 3 u6 s.steps.length (stepCells s.steps)) :=
        own_far (own_far HS3.out (fun h => by have := hub _ h; simp only at this; omega) _) (fun h => by have := hub _ h; simp only at this; omega) _
      have HO4 := Lib.hid (own_far (HO3.out.stored x (.int .u32 0)).1 (p := ⟨w2.heap.size, x, none⟩) (by simp [Value.ownBlock]; omega) (.bool true))
      have HR4 := Lib.hid ((HR3.out.far (p := ⟨g, x, none⟩) hne3 (.int .u32 0)).set x (.bool true))
      have hb4 : Below w.heap.size w ((w3.setCell ⟨g, x, none⟩ (.int .u32 0)).setCell ⟨w2.heap.size, x, none⟩ (.bool true)) := (hbw3.setCell (p := ⟨g, x, none⟩) (by show w.heap.size ≤ g; omega) _).setCell (p := ⟨w2.heap.size, x, none⟩) (by show w.heap.size ≤ w2.heap.size; omega) _
      have hc14 : ((w3.setCell ⟨g, x, none⟩ (.int .u32 0)).setCell ⟨w2.heap.size, x, none⟩ (.bool true)).cell? ⟨w.heap.size, 0, none⟩ = some (.int .i64 n) := far_cell (by show w2.heap.size ≠ w.heap.size; omega) (far_cell (by show g ≠ w.heap.size; omega) hc13)
      have HB4 := Lib.hid hb4
      have HC4 := Lib.hid hc14
      clear hub hb4 hc14 hc13
      go_upto_region 14 with (fail)
      generalize hw4 : (w3.setCell ⟨g, x, none⟩ (.int .u32 0)).setCell ⟨w2.heap.size, x, none⟩ (.bool true) = w4 at *
      have hs4 : w4.heap.size = w3.heap.size := by rw [← hw4]; simp
      clear hw4 hxr hxf hbx hbf
      have hne5 : w3.heap.size = w4.heap.size := hs4.symm
      clear hs4
      go_wp2_with (at_builtin; refine app1Step rfl (.tmp 53) (.tmp 55) rfl (w2.heap.size + 1) u6 s.steps.length (stepCells s.steps) rfl (by exact (HS4.out.alloc _).alloc _) (w4.heap.size + 1) (x : Int) (i : Int) (-1) rfl (by go_simp) (by go_simp) (by go_simp) (by omega) (by simp; omega) ?_
                   intro v' w5 hown' hg'
                   have hkp : Below (w2.heap.size + 1) w4 w5 := app_kept2 HUB.out (by omega) hg'
                   have HKP := Lib.hid hkp
                   have HS5 := Lib.hid hown'
                   clear hkp hown' hg')
      have HST : Hid (JT.StepIs n s ⟨s.rest.set x 0, s.rem.set x true, s.steps ++ [(x, (i : Int), -1)]⟩) := JT.StepIs.absorb x i HX.out
      obtain ⟨hok', hwt'⟩ := HST.out.ok HOK.out hn
      rw [HWT.out] at hwt'
      go_roundg (JT.weight ⟨s.rest.set x 0, s.rem.set x true, s.steps ++ [(x, (i : Int), -1)]⟩)
      case measure => exact hwt'
      case rel =>
        refine ⟨⟨s.rest.set x 0, s.rem.set x true, s.steps ++ [(x, (i : Int), -1)]⟩, HRE.out.step hn HOK.out HST.out, hok', rfl, ?_, ?_, ?_, ?_, ?_, ?_⟩
        · simp; omega
        · have h1 := own_below HO4.out HKP.out (by simp [Value.ownBlock]; omega)
          simp only [u32V, List.map_set] at h1 ⊢
          exact h1
        · have h1 := HR4.out.below HKP.out (by omega)
          simp only [List.map_set]
          exact h1
        · have h1 := HS5.out
          simp only [stepCells_snoc, List.length_append, List.length_singleton]
          exact h1
        · exact Below.then HB4.out HKP.out (by omega)
        · exact (HKP.out.cell (p := ⟨w.heap.size, 0, none⟩) (by show w.heap.size < _; omega)).trans HC4.out
    · have HNO := Lib.hid hno
      clear hno
      have hne1 : g < w3.heap.size := by omega
      have hne2 : w2.heap.size < w3.heap.size := by omega
      have hne6 : w.heap.size < w3.heap.size := by omega
      have hI := fun o => isolate_any n (some ⟨g, 0, none⟩) cap s.rest (w3.alloc o) ((own_sl (HO3.out.alloc o))) HOK.out.u32 (by rw [HOK.out.lrest]; omega) hn
      rw [HOK.out.lrest] at hI
      have HI := Lib.hid hI
      clear hI
      go_wp2_with fail
      refine (HI.out _).mono ?_
      rintro e w4 ⟨hcase, hb4⟩
      rw [HOK.out.lrest] at hcase
      have hsz4 : w3.heap.size + 1 ≤ w4.heap.size := by have := hb4.size; simpa using this
      have HO5 := Lib.hid (own_keep (HO3.out.alloc _) hb4)
      have HR5 := Lib.hid ((HR3.out.alloc _).below hb4 (by simp; omega))
      have HS5 := Lib.hid (own_keep (HS3.out.alloc _) hb4)
      have hst0 : w4.cell? ⟨w3.heap.size, 0, none⟩ = some (.int .i64 0) := (hb4.cell (p := ⟨w3.heap.size, 0, none⟩) (by simp)).trans (by go_simp)
      have hst1 : w4.cell? ⟨w3.heap.size, 1, none⟩ = some (.int .i64 0) := (hb4.cell (p := ⟨w3.heap.size, 1, none⟩) (by simp)).trans (by go_simp)
      have hst2 : w4.cell? ⟨w3.heap.size, 2, none⟩ = some (.int .i64 0) := (hb4.cell (p := ⟨w3.heap.size, 2, none⟩) (by simp)).trans (by go_simp)
      have hsf0 : w4.frozen? ⟨w3.heap.size, 0, none⟩ = false := (hb4.frozen (p := ⟨w3.heap.size, 0, none⟩) (by simp)).trans (by go_simp)
      have hsf1 : w4.frozen? ⟨w3.heap.size, 1, none⟩ = false := (hb4.frozen (p := ⟨w3.heap.size, 1, none⟩) (by simp)).trans (by go_simp)
      have hsf2 : w4.frozen? ⟨w3.heap.size, 2, none⟩ = false := (hb4.frozen (p := ⟨w3.heap.size, 2, none⟩) (by simp)).trans (by go_simp)
      have hc14 := (hb4.cell (p := ⟨w.heap.size, 0, none⟩) (by simp; omega)).trans (old_cell _ _ hne6 hc13)
      have hbw4 : Below w.heap.size w w4 := Below.then (hbw3.alloc hbw3.size _) hb4 (by simp; omega)
      clear hb4 hc13 hbw3 HI
      rcases hcase with ⟨e, v, hv, h1, hu, he, rfl⟩ | ⟨hnone, rfl⟩
      · have HV1 := Lib.hid h1
        have HVU := Lib.hid hu
        have HVE := Lib.hid he
        have hle := JT.vlast_has (R := s.rest) (v := v) es.length (by omega)
        rw [← he] at hle
        obtain ⟨hel2, heh⟩ := hle
        have hxr := own_cell27 HO5.out (j := e) (by simp; rw [HOK.out.lrest]; exact hel2)
        have hxf := HO5.out.frozenAt e
        rw [List.getElem_map] at hxr
        have hgd : s.rest[e]?.getD 0 = (s.rest[e]'(by rw [HOK.out.lrest]; exact hel2)) := by simp [HOK.out.lrest, hel2]
        have hub32 := HOK.out.u32.get e
        rw [hgd] at hub32
        have hw2v := wrap2v v (by omega)
        have HGD := Lib.hid hgd
        generalize (s.rest[e]'(by rw [HOK.out.lrest]; exact hel2)) = re at *
        have HBA : Hid (bits .andNot .u32 (re : Int) (2 ^ v) = ((JT.dif re (2 ^ v) : Nat) : Int)) := by
          have h7 := u32_andNot_nat re (2 ^ v) (by omega) (by have : 2 ^ v < 2 ^ 32 := Nat.pow_lt_pow_right (by omega) (by omega); omega)
          show bits .andNot .u32 (re : Int) (2 ^ v) = _
          rw [show ((2 : Int) ^ v) = ((2 ^ v : Nat) : Int) by simp]
          exact h7
        clear h1 hu he heh hgd
        have hne7 : g ≠ w3.heap.size := by omega
        have hne8 : w3.heap.size ≠ g := by omega
        have hub : ∀ k, u6.ownBlock = some k → w2.heap.size + 1 ≤ k ∧ k < w3.heap.size := fun k hk => ⟨own_base HS5.out hk, own_lt HS3.out k hk⟩
        have HUB := Lib.hid hub
        clear hub
        have HST : Hid (JT.StepIs n s ⟨s.rest.set e (JT.dif re (2 ^ v)), s.rem, s.steps ++ [(e, -1, (v : Int))]⟩) := by
          have h8 := JT.StepIs.isolate (s := s) e v HNO.out hv (by rw [HOK.out.lrest]; exact HV1.out) (by rw [HOK.out.lrest]; exact HVU.out) (by rw [HOK.out.lrest]; exact HVE.out)
          rw [HGD.out] at h8
          exact h8
        have HF0 : Hid (((((w4.setCell ⟨w3.heap.size, 0, none⟩ (.int .i64 e)).setCell ⟨w3.heap.size, 1, none⟩ (.int .i64 (-1))).setCell ⟨w3.heap.size, 2, none⟩ (.int .i64 v)).setCell ⟨g, e, none⟩ (.int .u32 ((JT.dif re (2 ^ v) : Nat) : Int))).cell? ⟨w3.heap.size, 0, none⟩ = some (.int .i64 e)) := far_cell hne7 (by go_simp)
        have HF1 : Hid (((((w4.setCell ⟨w3.heap.size, 0, none⟩ (.int .i64 e)).setCell ⟨w3.heap.size, 1, none⟩ (.int .i64 (-1))).setCell ⟨w3.heap.size, 2, none⟩ (.int .i64 v)).setCell ⟨g, e, none⟩ (.int .u32 ((JT.dif re (2 ^ v) : Nat) : Int))).cell? ⟨w3.heap.size, 1, none⟩ = some (.int .i64 (-1))) := far_cell hne7 (by go_simp)
        have HF2 : Hid (((((w4.setCell ⟨w3.heap.size, 0, none⟩ (.int .i64 e)).setCell ⟨w3.heap.size, 1, none⟩ (.int .i64 (-1))).setCell ⟨w3.heap.size, 2, none⟩ (.int .i64 v)).setCell ⟨g, e, none⟩ (.int .u32 ((JT.dif re (2 ^ v) : Nat) : Int))).cell? ⟨w3.heap.size, 2, none⟩ = some (.int .i64 v)) := far_cell hne7 (by go_simp)
        have HO6 : Hid (((((w4.setCell ⟨w3.heap.size, 0, none⟩ (.int .i64 e)).setCell ⟨w3.heap.size, 1, none⟩ (.int .i64 (-1))).setCell ⟨w3.heap.size, 2, none⟩ (.int .i64 v)).setCell ⟨g, e, none⟩ (.int .u32 ((JT.dif re (2 ^ v) : Nat) : Int))).ownsRow (w.heap.size + 1) 57 1 (.slice (some ⟨g, 0, none⟩) es.length cap) es.length (u32V (s.rest.set e (JT.dif re (2 ^ v))))) := by
          have h9 := own_far (own_far (own_far HO5.out (p := ⟨w3.heap.size, 0, none⟩) (by simpa [Value.ownBlock] using hne7) (.int .i64 e)) (p := ⟨w3.heap.size, 1, none⟩) (by simpa [Value.ownBlock] using hne7) (.int .i64 (-1))) (p := ⟨w3.heap.size, 2, none⟩) (by simpa [Value.ownBlock] using hne7) (.int .i64 v)
          have h10 := (h9.stored e (.int .u32 ((JT.dif re (2 ^ v) : Nat) : Int))).1
          simp only [u32V, List.map_set] at h10 ⊢
          exact h10
        have HR6 : Hid (Row ((((w4.setCell ⟨w3.heap.size, 0, none⟩ (.int .i64 e)).setCell ⟨w3.heap.size, 1, none⟩ (.int .i64 (-1))).setCell ⟨w3.heap.size, 2, none⟩ (.int .i64 v)).setCell ⟨g, e, none⟩ (.int .u32 ((JT.dif re (2 ^ v) : Nat) : Int))) w2.heap.size 4 (s.rem.map Value.bool)) := (((HR5.out.far (p := ⟨w3.heap.size, 0, none⟩) (by show w2.heap.size ≠ w3.heap.size; omega) _).far (p := ⟨w3.heap.size, 1, none⟩) (by show w2.heap.size ≠ w3.heap.size; omega) _).far (p := ⟨w3.heap.size, 2, none⟩) (by show w2.heap.size ≠ w3.heap.size; omega) _).far (p := ⟨g, e, none⟩) (by show w2.heap.size ≠ g; omega) _
        have HS6 : Hid (((((w4.setCell ⟨w3.heap.size, 0, none⟩ (.int .i64 e)).setCell ⟨w3.heap.size, 1, none⟩ (.int .i64 (-1))).setCell ⟨w3.heap.size, 2, none⟩ (.int .i64 v)).setCell ⟨g, e, none⟩ (.int .u32 ((JT.dif re (2 ^ v) : Nat) : Int))).ownsRow (w2.heap.size + 1) 121 3 u6 s.steps.length (stepCells s.steps)) :=
          own_far (own_far (own_far (own_far HS5.out (fun h => by have := HUB.out _ h; simp only at this; omega) _) (fun h => by have := HUB.out _ h; simp only at this; omega) _) (fun h => by have := HUB.out _ h; simp only at this; omega) _) (fun h => by have := HUB.out _ h; simp only at this; omega) _
        have HB6 : Hid (Below w.heap.size w (((((w4.setCell ⟨w3.heap.size, 0, none⟩ (.int .i64 e)).setCell ⟨w3.heap.size, 1, none⟩ (.int .i64 (-1))).setCell ⟨w3.heap.size, 2, none⟩ (.int .i64 v)).setCell ⟨g, e, none⟩ (.int .u32 ((JT.dif re (2 ^ v) : Nat) : Int))))) := (((hbw4.setCell (p := ⟨w3.heap.size, 0, none⟩) (by show w.heap.size ≤ w3.heap.size; omega) _).setCell (p := ⟨w3.heap.size, 1, none⟩) (by show w.heap.size ≤ w3.heap.size; omega) _).setCell (p := ⟨w3.heap.size, 2, none⟩) (by show w.heap.size ≤ w3.heap.size; omega) _).setCell (p := ⟨g, e, none⟩) (by show w.heap.size ≤ g; omega) _
        have HC6 : Hid (((((w4.setCell ⟨w3.heap.size, 0, none⟩ (.int .i64 e)).setCell ⟨w3.heap.size, 1, none⟩ (.int .i64 (-1))).setCell ⟨w3.heap.size, 2, none⟩ (.int .i64 v)).setCell ⟨g, e, none⟩ (.int .u32 ((JT.dif re (2 ^ v) : Nat) : Int))).cell? ⟨w.heap.size, 0, none⟩ = some (.int .i64 n)) := far_cell (by show g ≠ w.heap.size; omega) (far_cell (by show w3.heap.size ≠ w.heap.size; omega) (far_cell (by show w3.heap.size ≠ w.heap.size; omega) (far_cell (by show w3.heap.size ≠ w.heap.size; omega) hc14)))
        have HZ6 : Hid (w4.heap.size = (((((w4.setCell ⟨w3.heap.size, 0, none⟩ (.int .i64 e)).setCell ⟨w3.heap.size, 1, none⟩ (.int .i64 (-1))).setCell ⟨w3.heap.size, 2, none⟩ (.int .i64 v)).setCell ⟨g, e, none⟩ (.int .u32 ((JT.dif re (2 ^ v) : Nat) : Int)))).heap.size) := by show _ = _; simp
        obtain ⟨hok', hwt'⟩ := HST.out.ok HOK.out hn
        rw [HWT.out] at hwt'
        have HOK' := Lib.hid hok'
        clear hok'
        go_upto_region 12 with (fail)
        go_region
        all_goals
          rw [HBA.out]
          generalize ((((w4.setCell ⟨w3.heap.size, 0, none⟩ (.int .i64 e)).setCell ⟨w3.heap.size, 1, none⟩ (.int .i64 (-1))).setCell ⟨w3.heap.size, 2, none⟩ (.int .i64 v)).setCell ⟨g, e, none⟩ (.int .u32 ((JT.dif re (2 ^ v) : Nat) : Int))) = w5 at *
          clear hst0 hst1 hst2 hsf0 hsf1 hsf2 hxr hxf HO5 HR5 HS5 hc14 hbw4
          replace HS6 := Lib.hid HS6.out.drew
          replace HO6 := Lib.hid HO6.out.drew
          replace HR6 := Lib.hid HR6.out.drew
          replace HB6 := Lib.hid HB6.out.drew
          replace HC6 : Hid (w5.drew.cell? ⟨w.heap.size, 0, none⟩ = some (.int .i64 n)) := HC6.out
          have hf0 : w5.drew.cell? ⟨w3.heap.size, 0, none⟩ = some (.int .i64 e) := HF0.out
          have hf1 : w5.drew.cell? ⟨w3.heap.size, 1, none⟩ = some (.int .i64 (-1)) := HF1.out
          have hf2 : w5.drew.cell? ⟨w3.heap.size, 2, none⟩ = some (.int .i64 v) := HF2.out
          have hz5 : w3.heap.size < w5.drew.heap.size := by have := HZ6.out; show _ < w5.heap.size; omega
          clear HF0 HF1 HF2 HZ6
          generalize w5.drew = w5 at *
          go_wp2_with (at_builtin; refine app1Step rfl (.tmp 53) (.tmp 55) rfl (w2.heap.size + 1) u6 s.steps.length (stepCells s.steps) rfl (by exact (HS6.out.alloc _)) w5.heap.size (e : Int) (-1) (v : Int) rfl (by go_simp) (by go_simp) (by go_simp) (by omega) (by simp; omega) ?_
                       intro v' w6 hown' hg'
                       have hkp : Below (w2.heap.size + 1) w5 w6 := app_kept (fun k hk => (HUB.out k hk).1) (by omega) hg'
                       have HKP := Lib.hid hkp
                       have HS7 := Lib.hid hown'
                       clear hkp hown' hg')
          go_roundg (JT.weight ⟨s.rest.set e (JT.dif re (2 ^ v)), s.rem, s.steps ++ [(e, -1, (v : Int))]⟩)
          case measure => exact hwt'
          case rel =>
            refine ⟨⟨s.rest.set e (JT.dif re (2 ^ v)), s.rem, s.steps ++ [(e, -1, (v : Int))]⟩, HRE.out.step hn HOK.out HST.out, HOK'.out, rfl, ?_, ?_, ?_, ?_, ?_, ?_⟩
            · simp; omega
            · exact own_below HO6.out HKP.out (by simp [Value.ownBlock]; omega)
            · exact HR6.out.below HKP.out (by omega)
            · have h1 := HS7.out
              simp only [stepCells_snoc, List.length_append, List.length_singleton]
              exact h1
            · exact Below.then HB6.out HKP.out (by omega)
            · exact (HKP.out.cell (p := ⟨w.heap.size, 0, none⟩) (by show w.heap.size < _; omega)).trans HC6.out
      · have hfin : s = JT.reduceF n es := HRE.out.done (JT.stepF_none HNO.out (by rw [HOK.out.lrest]; exact hnone))
        have HFIN := Lib.hid hfin
        clear hfin hnone
        go_wp2
        go_ret2
        have hub : ∀ k, u6.ownBlock = some k → w2.heap.size + 1 ≤ k ∧ k < w3.heap.size := fun k hk => ⟨own_base HS5.out hk, own_lt HS3.out k hk⟩
        refine ⟨u6, g, cap, rfl, ?_, ?_, ?_⟩
        · rw [← HFIN.out]
          exact own_weaken (own_far (own_far (own_far HS5.out (fun h => by have := hub _ h; simp only at this; omega) _) (fun h => by have := hub _ h; simp only at this; omega) _) (fun h => by have := hub _ h; simp only at this; omega) _) (by omega)
        · rw [← HFIN.out]
          exact own_weaken (own_far (own_far (own_far HO5.out (p := ⟨w3.heap.size, 0, none⟩) (by simp [Value.ownBlock]; omega) _) (p := ⟨w3.heap.size, 1, none⟩) (by simp [Value.ownBlock]; omega) _) (p := ⟨w3.heap.size, 2, none⟩) (by simp [Value.ownBlock]; omega) _) (by omega)
        · exact ((hbw4.setCell (p := ⟨w3.heap.size, 0, none⟩) (by show w.heap.size ≤ w3.heap.size; omega) _).setCell (p := ⟨w3.heap.size, 1, none⟩) (by show w.heap.size ≤ w3.heap.size; omega) _).setCell (p := ⟨w3.heap.size, 2, none⟩) (by show w.heap.size ≤ w3.heap.size; omega) _
end
section
open Go.RowKit

theorem nz_any (x : Nat) (w : World) : Calls Tryz.prog 80 #[.int .u32 x] w fun e w' => e = .returned (.bool ((x : Int) != 0)) ∧ w = w' := by
  go_enter Tryz.func80, Tryz.ntmps80
  go_wp2
  go_ret
  exact ⟨rfl, rfl⟩

set_option maxHeartbeats 1000000 in
theorem nzIdx_any (A : Option Addr) (c : Nat) (xs : List Nat) (w : World) (hx : SlN .u32 w.heap.size w A xs) (hxl : xs.length ≤ 1000000) :
    Calls Tryz.prog 93 #[.slice A xs.length c, .func (.func 80) #[] #[]] w fun e w' => (∃ i : Int, e = .returned (.int .i64 i) ∧ decide (0 ≤ i) = !(xs.all fun z => z == 0)) ∧ w = w' := by
  go_enter Tryz.func93, Tryz.ntmps93
  go_wp2
  go_loop [8] (fun i => ∃ k : Nat, k ≤ xs.length ∧ i = .int .i64 k ∧ (∀ i (h1 : i < k) (h2 : i < xs.length), xs[i] = 0)) (fun i => xs.length - (intOf i).toNat)
  case atStart => exact ⟨0, Nat.zero_le _, rfl, fun i h => absurd h (by omega)⟩
  case round =>
    obtain ⟨k, hk, rfl, hall⟩ := hrel
    have HA := Lib.hid hall
    clear hall
    by_cases hlt : k < xs.length
    · obtain ⟨b, o, rfl, hbb, hc⟩ := slN_at hx hlt
      have HX : Hid (∀ q, q = xs[k] → q ≠ 0 → (xs.all fun z => z == 0) = false) := fun q hq hne => by
        rw [Bool.eq_false_iff]
        intro h
        rw [List.all_eq_true] at h
        exact hne (hq.trans (by simpa using h _ (List.getElem_mem hlt)))
      generalize hxk : xs[k] = xk at *
      have HX2 := Lib.hid hxk
      clear hxk hx
      by_cases heq : xk = 0
      · have HE := Lib.hid heq
        have hs : ((xk : Int) != 0) = false := by simp [heq]
        clear heq
        go_wp2_with (go_at_call 80; refine (nz_any xk _).mono ?_; rintro e w' ⟨rfl, rfl⟩)
        go_round
        case rel =>
          refine ⟨k + 1, by omega, by go_num, ?_⟩
          intro i h1 h2
          by_cases hik : i < k
          · exact HA.out i hik h2
          · obtain rfl : i = k := by omega
            rw [HX2.out]; exact HE.out
        case measure => simp [intOf]; omega
      · have HN := Lib.hid (HX.out xk rfl heq)
        have hs : ((xk : Int) != 0) = true := by simp; omega
        clear heq
        go_wp2_with (go_at_call 80; refine (nz_any xk _).mono ?_; rintro e w' ⟨rfl, rfl⟩)
        go_ret
        exact ⟨⟨k, rfl, by rw [HN.out]; simp⟩, rfl⟩
    · have HN : Hid ((xs.all fun z => z == 0) = true) := by
        show _ = _
        rw [List.all_eq_true]
        intro x hx2
        rw [beq_iff_eq]
        obtain ⟨i, hi, rfl⟩ := List.getElem_of_mem hx2
        exact HA.out i (by omega) hi
      clear hx
      go_wp2
      go_ret
      exact ⟨⟨-1, rfl, by rw [HN.out]; decide⟩, rfl⟩

set_option maxHeartbeats 1000000 in
theorem nzHas_any (A : Option Addr) (c : Nat) (xs : List Nat) (w : World) (hx : SlN .u32 w.heap.size w A xs) (hxl : xs.length ≤ 1000000) :
    Calls Tryz.prog 79 #[.slice A xs.length c, .func (.func 80) #[] #[]] w fun e w' => e = .returned (.bool (!(xs.all fun z => z == 0))) ∧ w = w' := by
  have HI := Lib.hid (nzIdx_any A c xs w hx hxl)
  clear hx
  go_enter Tryz.func79, Tryz.ntmps79
  go_wp2_with fail
  refine HI.out.mono ?_
  rintro e w' ⟨⟨i, rfl, hi⟩, rfl⟩
  have HII := Lib.hid hi
  clear hi HI
  go_wp2
  go_ret
  exact ⟨ret_bool HII.out, rfl⟩

set_option maxHeartbeats 1000000 in
theorem acyclic_any (n : Nat) (EA : Option Addr) (EC : Nat) (es : List Nat) (w : World)
   (hE : SlN .u32 w.heap.size w EA es) (hu : JT.U32 es) (hk : JT.hgCheckF n es = 0) (hm : 0 < es.length) :
    Calls Tryz.prog 59 #[.agg #[.int .i64 n, .slice EA es.length EC]] w fun r w' => r = .returned (.bool ((JT.reduceF n es).rest.all fun z => z == 0)) ∧ Below w.heap.size w w' := by
  obtain ⟨n', hn0, hn32, hm64, -⟩ := JT.hgCheckF_zero hk
  have hel : es.length ≤ 1000000 := by omega
  have HU := Lib.hid hu
  have HK := Lib.hid hk
  have HE : Hid (∀ o1, SlN .u32 (w.alloc o1).heap.size (w.alloc o1) EA es) := fun o1 => (hE.alloc (Nat.le_refl _) o1).more (by simp)
  have hn' : n ≤ 32 := by omega
  clear hE hu hk hn32 hn0
  go_enter Tryz.func59, Tryz.ntmps59
  go_wp2_with fail
  refine (hgCheck_any n EA EC es _ (HE.out _) HU.out hel).mono ?_
  rw [HK.out]
  rintro e w1 ⟨rfl, hb1⟩
  have hc1 : w1.cell? ⟨w.heap.size, 0, none⟩ = some (.int .i64 n) := (hb1.cell (p := ⟨w.heap.size, 0, none⟩) (by simp)).trans (by go_simp)
  have hc2 : w1.cell? ⟨w.heap.size, 1, none⟩ = some (.slice EA es.length EC) := (hb1.cell (p := ⟨w.heap.size, 1, none⟩) (by simp)).trans (by go_simp)
  have hbw := Below.box hb1 (by simp)
  have hsz1 : w.heap.size + 1 ≤ w1.heap.size := by have := hb1.size; simpa using this
  have HE1 := Lib.hid (((HE.out _).below hb1 (Nat.le_refl _)).more (show _ ≤ w1.heap.size by simp; omega))
  clear hb1 HE
  go_wp2_with fail
  refine (reduce_walk n EA EC es _ HE1.out HU.out HK.out hm).mono ?_
  rintro e w2 ⟨v, g, cap, rfl, hst, hown, hb2⟩
  have HO := Lib.hid hown
  have hbw2 := Below.then hbw hb2 hbw.size
  clear hst hown hb2 hbw
  have hlen : (JT.reduceF n es).rest.length = es.length := (JT.reduceF_ok HU.out hn').lrest
  have HC := nzHas_any (some ⟨g, 0, none⟩) cap (JT.reduceF n es).rest w2 (own_sl HO.out) (by rw [hlen]; omega)
  rw [hlen] at HC
  replace HC := Lib.hid HC
  clear hlen HO
  go_wp2_with fail
  refine HC.out.mono ?_
  rintro e w3 ⟨rfl, rfl⟩
  clear HC
  go_wp2
  go_ret
  exact ⟨ret_bool (by simp), hbw2⟩
end
section
open Go.RowKit

theorem stepCells_at (S : List JT.Stp) {k : Nat} (hk : k < S.length) : (stepCells S)[k * 3]? = some (.int .i64 (S[k].1 : Int)) ∧ (stepCells S)[k * 3 + 1]? = some (.int .i64 S[k].2.1) ∧ (stepCells S)[k * 3 + 2]? = some (.int .i64 S[k].2.2) := by
  induction S generalizing k with
  | nil => simp at hk
  | cons a S ih =>
    have e : stepCells (a :: S) = [.int .i64 (a.1 : Int), .int .i64 a.2.1, .int .i64 a.2.2] ++ stepCells S := rfl
    cases k with
    | zero => rw [e]; exact ⟨rfl, rfl, rfl⟩
    | succ k =>
      have := ih (k := k) (by simpa using hk)
      rw [e]
      refine ⟨?_, ?_, ?_⟩
      · rw [List.getElem?_append_right (by simp; omega)]; simpa [show (k + 1) * 3 - 3 = k * 3 by omega] using this.1
      · rw [List.getElem?_append_right (by simp; omega)]; simpa [show (k + 1) * 3 + 1 - 3 = k * 3 + 1 by omega] using this.2.1
      · rw [List.getElem?_append_right (by simp; omega)]; simpa [show (k + 1) * 3 + 2 - 3 = k * 3 + 2 by omega] using this.2.2

set_option maxHeartbeats 1000000 in
theorem build_err (N : Int) (EA : Option Addr) (EC : Nat) (es : List Nat) (w : World)
   (hE : SlN .u32 w.heap.size w EA es) (hu : JT.U32 es) (hel : es.length ≤ 1000000) (hk : JT.hgCheckF N es ≠ 0) :
    Calls Tryz.prog 35 #[.agg #[.int .i64 N, .slice EA es.length EC]] w fun r w' => r = .returned (.tuple #[.agg #[.slice none 0 0], .int .i64 (JT.hgCheckF N es)]) ∧ Below w.heap.size w w' := by
  have HE : Hid (∀ o1 o2, SlN .u32 ((w.alloc o1).alloc o2).heap.size ((w.alloc o1).alloc o2) EA es) := fun o1 o2 => ((hE.alloc (Nat.le_refl _) o1).alloc (by simp) o2).more (by simp; omega)
  have HU := Lib.hid hu
  have hs : (JT.hgCheckF N es != 0) = true := by simpa using hk
  clear hE hu hk
  go_enter Tryz.func35, Tryz.ntmps35
  go_wp2_with fail
  refine (hgCheck_any N EA EC es _ (HE.out _ _) HU.out hel).mono ?_
  rintro e w1 ⟨rfl, hb1⟩
  have hc2 : w1.cell? ⟨w.heap.size + 1, 0, none⟩ = some (.slice none 0 0) := (hb1.cell (p := ⟨w.heap.size + 1, 0, none⟩) (by simp)).trans (by go_simp)
  have hf2 : w1.frozen? ⟨w.heap.size + 1, 0, none⟩ = false := (hb1.frozen (p := ⟨w.heap.size + 1, 0, none⟩) (by simp)).trans (by go_simp)
  have hbw := Below.box2 hb1 (by simp; omega)
  clear hb1 HE
  generalize hq : JT.hgCheckF N es = q at *
  have HQ := Lib.hid hq
  clear hq
  go_wp2
  exact bodyPost_ret (v := .tuple #[.agg #[.slice none 0 0], .int .i64 q]) (by simp [results, Tryz.results35, go_sem, World.cell?_setCell_same _ _ _ hc2]) rfl ⟨by rw [HQ.out], hbw.setCell (by simp) _⟩

set_option maxHeartbeats 1000000 in
theorem build_empty (N : Int) (EA : Option Addr) (EC : Nat) (w : World) (hk : JT.hgCheckF N [] = 0) :
    Calls Tryz.prog 35 #[.agg #[.int .i64 N, .slice EA 0 EC]] w fun r w' => r = .returned (.tuple #[.agg #[.slice none 0 0], .int .i64 10]) ∧ Below w.heap.size w w' := by
  have HK := Lib.hid hk
  clear hk
  go_enter Tryz.func35, Tryz.ntmps35
  go_wp2_with fail
  refine (hgCheck_any N EA EC [] _ Sl.nil (by simp [U32s]) (by simp)).mono ?_
  rw [HK.out]
  rintro e w1 ⟨rfl, hb1⟩
  have hc1 : w1.cell? ⟨w.heap.size, 1, none⟩ = some (.slice EA 0 EC) := (hb1.cell (p := ⟨w.heap.size, 1, none⟩) (by simp; omega)).trans (by go_simp)
  have hc2 : w1.cell? ⟨w.heap.size + 1, 0, none⟩ = some (.slice none 0 0) := (hb1.cell (p := ⟨w.heap.size + 1, 0, none⟩) (by simp)).trans (by go_simp)
  have hf2 : w1.frozen? ⟨w.heap.size + 1, 0, none⟩ = false := (hb1.frozen (p := ⟨w.heap.size + 1, 0, none⟩) (by simp)).trans (by go_simp)
  have hbw := Below.box2 hb1 (by simp; omega)
  clear hb1
  go_wp2
  exact bodyPost_ret (v := .tuple #[.agg #[.slice none 0 0], .int .i64 10]) (by simp [results, Tryz.results35, go_sem, World.cell?_setCell_same _ _ _ hc2]) rfl ⟨rfl, hbw.setCell (by simp) _⟩

set_option maxHeartbeats 1000000 in
theorem build_cyc (n : Nat) (EA : Option Addr) (EC : Nat) (es : List Nat) (w : World)
   (hE : SlN .u32 w.heap.size w EA es) (hu : JT.U32 es) (hk : JT.hgCheckF n es = 0) (hm : 0 < es.length) (hz : ((JT.reduceF n es).rest.all fun z => z == 0) = false) :
    Calls Tryz.prog 35 #[.agg #[.int .i64 n, .slice EA es.length EC]] w fun r w' => r = .returned (.tuple #[.agg #[.slice none 0 0], .int .i64 24]) ∧ Below w.heap.size w w' := by
  obtain ⟨n', hn0, hn32, hm64, -⟩ := JT.hgCheckF_zero hk
  have hel : es.length ≤ 1000000 := by omega
  have HE : Hid (∀ o1 o2, SlN .u32 ((w.alloc o1).alloc o2).heap.size ((w.alloc o1).alloc o2) EA es) := fun o1 o2 => ((hE.alloc (Nat.le_refl _) o1).alloc (by simp) o2).more (by simp; omega)
  have HU := Lib.hid hu
  have HK := Lib.hid hk
  have HZ := Lib.hid hz
  have hs0 : ((es.length : Int) == 0) = false := beq_eq_false_iff_ne.2 (by omega)
  clear hE hu hk hz hn0
  go_enter Tryz.func35, Tryz.ntmps35
  go_wp2_with fail
  refine (hgCheck_any n EA EC es _ (HE.out _ _) HU.out hel).mono ?_
  rw [HK.out]
  rintro e w1 ⟨rfl, hb1⟩
  have hc0 : w1.cell? ⟨w.heap.size, 0, none⟩ = some (.int .i64 n) := (hb1.cell (p := ⟨w.heap.size, 0, none⟩) (by simp; omega)).trans (by go_simp)
  have hc1 : w1.cell? ⟨w.heap.size, 1, none⟩ = some (.slice EA es.length EC) := (hb1.cell (p := ⟨w.heap.size, 1, none⟩) (by simp; omega)).trans (by go_simp)
  have hc2 : w1.cell? ⟨w.heap.size + 1, 0, none⟩ = some (.slice none 0 0) := (hb1.cell (p := ⟨w.heap.size + 1, 0, none⟩) (by simp)).trans (by go_simp)
  have hf2 : w1.frozen? ⟨w.heap.size + 1, 0, none⟩ = false := (hb1.frozen (p := ⟨w.heap.size + 1, 0, none⟩) (by simp)).trans (by go_simp)
  have hbw := Below.box2 hb1 (by simp; omega)
  have hsz1 : w.heap.size + 2 ≤ w1.heap.size := by have := hb1.size; simp at this; omega
  have HE1 := Lib.hid (((HE.out _ _).below hb1 (Nat.le_refl _)).more (show _ ≤ w1.heap.size by simp; omega))
  clear hb1 HE
  go_wp2_with fail
  refine (acyclic_any n EA EC es _ HE1.out HU.out HK.out hm).mono ?_
  rw [HZ.out]
  rintro e w2 ⟨rfl, hb2⟩
  have hd2 := (hb2.cell (p := ⟨w.heap.size + 1, 0, none⟩) (by show w.heap.size + 1 < _; omega)).trans hc2
  have hdf2 := (hb2.frozen (p := ⟨w.heap.size + 1, 0, none⟩) (by show w.heap.size + 1 < _; omega)).trans hf2
  have hbw2 := Below.then hbw hb2 hbw.size
  clear hb2 hbw hc0 hc1 hc2 hf2
  go_wp2
  exact bodyPost_ret (v := .tuple #[.agg #[.slice none 0 0], .int .i64 24]) (by simp [results, Tryz.results35, go_sem, World.cell?_setCell_same _ _ _ hd2]) rfl ⟨rfl, hbw2.setCell (by simp) _⟩

def fillL (m k : Nat) : List Int := (List.range m).map fun i => if i < k then -1 else 0
theorem fillL_zero (m : Nat) : fillL m 0 = List.replicate m 0 := by
  apply List.ext_getElem <;> simp [fillL]
theorem fillL_whole (m : Nat) : fillL m m = List.replicate m (-1) := by
  apply List.ext_getElem
  · simp [fillL]
  · intro i h1 h2
    simp [fillL] at h1 ⊢
    omega
theorem fillL_set (m k : Nat) : (fillL m k).set k (-1) = fillL m (k + 1) := by
  apply List.ext_getElem
  · simp [fillL]
  · intro i h1 h2
    rw [List.getElem_set]
    simp only [fillL, List.getElem_map, List.getElem_range]
    split
    · next h => subst h; rw [if_pos (by omega)]
    · next h =>
      by_cases hik : i < k
      · rw [if_pos hik, if_pos (by omega)]
      · rw [if_neg hik, if_neg (by omega)]

set_option maxHeartbeats 4000000 in
theorem build_ok (n : Nat) (EA : Option Addr) (EC : Nat) (es : List Nat) (w : World)
   (hE : SlN .u32 w.heap.size w EA es) (hu : JT.U32 es) (hk : JT.hgCheckF n es = 0) (hm : 0 < es.length) (hz : ((JT.reduceF n es).rest.all fun z => z == 0) = true) :
    Calls Tryz.prog 35 #[.agg #[.int .i64 n, .slice EA es.length EC]] w fun r w' => ∃ A c, r = .returned (.tuple #[.agg #[.slice A es.length c], .int .i64 0]) ∧ SlI .i64 w'.heap.size w' A (JT.buildPar es.length (JT.reduceF n es).steps) ∧ Below w.heap.size w w' := by
  obtain ⟨n', hn0, hn32, hm64, -⟩ := JT.hgCheckF_zero hk
  have hn : n ≤ 32 := by omega
  have hel : es.length ≤ 1000000 := by omega
  have HE : Hid (∀ o1 o2, SlN .u32 ((w.alloc o1).alloc o2).heap.size ((w.alloc o1).alloc o2) EA es) := fun o1 o2 => ((hE.alloc (Nat.le_refl _) o1).alloc (by simp) o2).more (by simp; omega)
  have HU := Lib.hid hu
  have HK := Lib.hid hk
  have HZ := Lib.hid hz
  have hs0 : ((es.length : Int) == 0) = false := beq_eq_false_iff_ne.2 (by omega)
  have hmk := makeInts es.length hel
  clear hE hu hk hz hn0
  go_enter Tryz.func35, Tryz.ntmps35
  go_wp2_with fail
  refine (hgCheck_any n EA EC es _ (HE.out _ _) HU.out hel).mono ?_
  rw [HK.out]
  rintro e w1 ⟨rfl, hb1⟩
  have hc0 : w1.cell? ⟨w.heap.size, 0, none⟩ = some (.int .i64 n) := (hb1.cell (p := ⟨w.heap.size, 0, none⟩) (by simp; omega)).trans (by go_simp)
  have hc1 : w1.cell? ⟨w.heap.size, 1, none⟩ = some (.slice EA es.length EC) := (hb1.cell (p := ⟨w.heap.size, 1, none⟩) (by simp; omega)).trans (by go_simp)
  have hc2 : w1.cell? ⟨w.heap.size + 1, 0, none⟩ = some (.slice none 0 0) := (hb1.cell (p := ⟨w.heap.size + 1, 0, none⟩) (by simp)).trans (by go_simp)
  have hf2 : w1.frozen? ⟨w.heap.size + 1, 0, none⟩ = false := (hb1.frozen (p := ⟨w.heap.size + 1, 0, none⟩) (by simp)).trans (by go_simp)
  have hbw := Below.box2 hb1 (by simp; omega)
  have hsz1 : w.heap.size + 2 ≤ w1.heap.size := by have := hb1.size; simp at this; omega
  have HE1 := Lib.hid (((HE.out _ _).below hb1 (Nat.le_refl _)).more (show _ ≤ w1.heap.size by simp; omega))
  clear hb1 HE
  go_wp2_with fail
  refine (acyclic_any n EA EC es _ HE1.out HU.out HK.out hm).mono ?_
  rw [HZ.out]
  rintro e w2 ⟨rfl, hb2⟩
  have hd0 := (hb2.cell (p := ⟨w.heap.size, 0, none⟩) (by show w.heap.size < _; omega)).trans hc0
  have hd1 := (hb2.cell (p := ⟨w.heap.size, 1, none⟩) (by show w.heap.size < _; omega)).trans hc1
  have hd2 := (hb2.cell (p := ⟨w.heap.size + 1, 0, none⟩) (by show w.heap.size + 1 < _; omega)).trans hc2
  have hdf2 := (hb2.frozen (p := ⟨w.heap.size + 1, 0, none⟩) (by show w.heap.size + 1 < _; omega)).trans hf2
  have hbw2 := Below.then hbw hb2 hbw.size
  have hsz2 := hb2.size
  have HE2 := Lib.hid ((HE1.out.below hb2 (Nat.le_refl _)).more hsz2)
  clear hb2 hbw hc0 hc1 hc2 hf2 HE1
  go_wp2
  go_loopw [32] (fun i wr => ∃ k : Nat, k ≤ es.length ∧ i = .int .i64 k ∧ Row wr w2.heap.size 3 ((fillL es.length k).map (Value.int .i64)) ∧ Below w2.heap.size w2 wr) (fun i _ => es.length - (intOf i).toNat)
  case atStart =>
    refine ⟨0, Nat.zero_le _, rfl, ?_, (Below.refl _ _).alloc (Nat.le_refl _) _⟩
    have := Row.zeros w2 3 (.int .i64 0) es.length
    rw [fillL_zero, List.map_replicate]
    exact this
  case round =>
    obtain ⟨k, hk, rfl, hrow, hb⟩ := hrel
    have HR := Lib.hid hrow
    have HB := Lib.hid hb
    clear hrow hb
    by_cases hlt : k < es.length
    · have hfl : k < (fillL es.length k).length := by simp [fillL]; exact hlt
      have hck := HR.out.cell_ (i := k) (by simpa using hfl)
      have hfk := HR.out.frozen k
      rw [List.getElem_map] at hck
      generalize (fillL es.length k)[k] = fk at hck
      go_wp2
      go_roundw
      case rel =>
        refine ⟨k + 1, by omega, by go_num, ?_, HB.out.setCell (by show w2.heap.size ≤ w2.heap.size; omega) _⟩
        rw [← fillL_set, List.map_set]
        exact HR.out.set k _
      case measure => simp [intOf]; omega
    · obtain rfl : k = es.length := by omega
      have hrow := HR.out
      rw [fillL_whole] at hrow
      have HR2 := Lib.hid hrow
      clear hrow HR
      have hb := HB.out
      have he0 := (hb.cell (p := ⟨w.heap.size, 0, none⟩) (by show w.heap.size < _; omega)).trans hd0
      have he1 := (hb.cell (p := ⟨w.heap.size, 1, none⟩) (by show w.heap.size < _; omega)).trans hd1
      have he2 := (hb.cell (p := ⟨w.heap.size + 1, 0, none⟩) (by show w.heap.size + 1 < _; omega)).trans hd2
      have hef2 := (hb.frozen (p := ⟨w.heap.size + 1, 0, none⟩) (by show w.heap.size + 1 < _; omega)).trans hdf2
      have hbw3 := Below.then hbw2 hb hbw2.size
      have hsz3 : w2.heap.size < wr.heap.size := HR2.out.lt
      have HE3 := Lib.hid ((HE2.out.below hb (Nat.le_refl _)).more (show w2.heap.size ≤ wr.heap.size by omega))
      clear hb HB hd0 hd1 hd2 hdf2 hbw2 HE2
      go_wp2_with fail
      refine (reduce_walk n EA EC es _ HE3.out HU.out HK.out hm).mono ?_
      rintro e w4 ⟨sv, g, cap, rfl, hst, -, hb4⟩
      have hf0 := (hb4.cell (p := ⟨w.heap.size, 0, none⟩) (by show w.heap.size < _; omega)).trans he0
      have hf2 := (hb4.cell (p := ⟨w.heap.size + 1, 0, none⟩) (by show w.heap.size + 1 < _; omega)).trans he2
      have hff2 := (hb4.frozen (p := ⟨w.heap.size + 1, 0, none⟩) (by show w.heap.size + 1 < _; omega)).trans hef2
      have hbw4 := Below.then hbw3 hb4 hbw3.size
      have hsz4 := hb4.size
      have HR4 := Lib.hid (HR2.out.below hb4 hsz3)
      obtain ⟨SA, SC, hsv, -, -⟩ := Sl.of_own_n hst
      subst hsv
      have hslen := JT.reduceF_steps HU.out hn
      have HSH := Lib.hid (JT.reduce_snd HU.out hn hm).shape
      generalize hSS : (JT.reduceF n es).steps = S at *
      have HSS := Lib.hid hSS
      clear hSS
      have HST := Lib.hid hst
      clear hb4 he0 he1 he2 hef2 hbw3 HE3 hst HR2
      go_wp2
      obtain ⟨w3, rfl⟩ : ∃ w3 : World, w3 = wr := ⟨_, rfl⟩
      go_loopw [46] (fun i wr => ∃ k : Nat, k ≤ S.length ∧ i = .int .i64 k ∧ Row wr w2.heap.size 3 ((JT.buildPar es.length (S.take k)).map (Value.int .i64)) ∧ (JT.buildPar es.length (S.take k)).length = es.length ∧ wr.ownsRow w3.heap.size 121 3 (.slice SA S.length SC) S.length (stepCells S) ∧ Below w.heap.size w wr ∧ wr.cell? ⟨w.heap.size + 1, 0, none⟩ = some (.slice none 0 0) ∧ wr.frozen? ⟨w.heap.size + 1, 0, none⟩ = false) (fun i _ => S.length - (intOf i).toNat)
      case atStart => exact ⟨0, Nat.zero_le _, rfl, HR4.out, by simp [JT.buildPar], HST.out, hbw4, hf2, hff2⟩
      case round =>
        clear HR4 HST hbw4 hf2 hff2 hf0
        obtain ⟨k, hk, rfl, hrow, hpl, hst, hb, hc2, hf2⟩ := hrel
        have HR := Lib.hid hrow
        have HPL := Lib.hid hpl
        have HST := Lib.hid hst
        have hszr : w2.heap.size < wr.heap.size := hrow.lt
        clear hrow hpl hst hlt
        by_cases hlt : k < S.length
        · have hsk := HSH.out S[k] (List.getElem_mem hlt)
          obtain ⟨_, _, e0, -, hsl⟩ := Sl.of_own_n HST.out
          injection e0 with e1 e2 e3
          subst e1 e3
          clear e2
          obtain ⟨b, o, rfl, hbb, hcells⟩ := hsl (by intro h; have := stepCells_length S; rw [h] at this; simp at this; omega)
          obtain ⟨q1, q2, q3⟩ := stepCells_at S hlt
          have hs1 := hcells _ _ q1
          have hs2 := hcells _ _ q2
          have hs3 := hcells _ _ q3
          have htk : JT.buildPar es.length (S.take (k + 1)) = JT.putPar (JT.buildPar es.length (S.take k)) S[k] := by
            rw [List.take_succ_eq_append_getElem hlt, JT.buildPar_snoc]
          have HTK := Lib.hid htk
          have hbb3 : w3.heap.size ≤ b := by
            have := own_base HST.out (k := b) rfl
            exact this
          clear hcells q1 q2 q3 htk
          generalize S[k] = t at *
          obtain ⟨te, ti, tv⟩ := t
          simp only at hsk hs1 hs2 hs3
          rw [← Nat.add_assoc] at hs2 hs3
          have hsp : w.heap.size + 1 < wr.heap.size := by omega
          by_cases hti : ti < 0
          · go_wp2
            go_roundw
            case rel =>
              refine ⟨k + 1, by omega, by go_num, ?_, ?_, HST.out.alloc _, hb.alloc hb.size _, old_cell _ _ hsp hc2, old_frozen _ _ hsp hf2⟩
              · rw [HTK.out, JT.putPar, if_neg (by simp only; omega)]; exact HR.out.alloc _
              · rw [HTK.out, JT.putPar, if_neg (by simp only; omega)]; exact HPL.out
            case measure => simp [intOf]; omega
          · obtain ⟨ii, rfl⟩ := Int.eq_ofNat_of_zero_le (show 0 ≤ ti by omega)
            have htl : te < (JT.buildPar es.length (S.take k)).length := by rw [HPL.out]; omega
            have hct := HR.out.cell_ (i := te) (by simpa using htl)
            have hft := HR.out.frozen te
            rw [List.getElem_map] at hct
            generalize (JT.buildPar es.length (S.take k))[te] = pt at hct
            go_wp2
            go_roundw
            case rel =>
              refine ⟨k + 1, by omega, by go_num, ?_, ?_, ?_, ?_, ?_, ?_⟩
              · rw [HTK.out, JT.putPar, if_pos (by simp only; omega), List.map_set]; exact (HR.out.set te _).alloc _
              · rw [HTK.out, JT.putPar, if_pos (by simp only; omega), List.length_set]; exact HPL.out
              · exact (own_far HST.out (p := ⟨w2.heap.size, te, none⟩) (by simp [Value.ownBlock]; omega) _).alloc _
              · exact (hb.setCell (p := ⟨w2.heap.size, te, none⟩) (by show w.heap.size ≤ w2.heap.size; omega) _).alloc (by simp; exact hb.size) _
              · exact old_cell _ _ (by simp; exact hsp) (far_cell (by show w2.heap.size ≠ w.heap.size + 1; omega) hc2)
              · refine old_frozen _ _ (by simp; exact hsp) ?_
                rw [World.frozen?_setCell]; exact hf2
            case measure => simp [intOf]; omega
        · obtain rfl : k = S.length := by omega
          have hrow := HR.out
          have hpl := HPL.out
          rw [List.take_length] at hrow hpl
          have HR2 := Lib.hid hrow
          have HPL2 := Lib.hid hpl
          clear hrow HR hpl HPL
          go_wp2
          refine bodyPost_ret (v := .tuple #[.agg #[.slice (some ⟨w2.heap.size, 0, none⟩) es.length es.length], .int .i64 0]) (by simp [results, Tryz.results35, go_sem, World.cell?_setCell_same _ _ _ hc2]) rfl ⟨_, _, rfl, ?_, hb.setCell (by simp) _⟩
          rw [HSS.out]
          exact (HR2.out.far (p := ⟨w.heap.size + 1, 0, none⟩) (by show w2.heap.size ≠ w.heap.size + 1; omega) _).sl
end
end Go.Proofs.YthgaflmldbgbnaaGreatDoor
section
namespace Go.Proofs.YthgaflmldbgbnaaGreatDoor.JT

def Path (ps : List Int) : Int → List Nat → Prop
  | a, [] => a < 0
  | a, v :: P => a = (v : Int) ∧ v < ps.length ∧ Path ps (par ps v) P

theorem Path.unique {ps : List Int} : ∀ {P Q : List Nat} {a : Int}, Path ps a P → Path ps a Q → P = Q
  | [], [], _, _, _ => rfl
  | [], v :: Q, a, h, k => by have := k.1; have h' : a < 0 := h; omega
  | v :: P, [], a, h, k => by have := h.1; have k' : a < 0 := k; omega
  | v :: P, u :: Q, a, h, k => by
    have : v = u := by have := h.1; have := k.1; omega
    subst this
    rw [Path.unique h.2.2 k.2.2]

theorem Path.tail {ps : List Int} : ∀ {A B : List Nat} {v : Nat} {a : Int}, Path ps a (A ++ v :: B) → Path ps (v : Int) (v :: B)
  | [], B, v, a, h => ⟨rfl, h.2.1, h.2.2⟩
  | u :: A, B, v, a, h => Path.tail (A := A) h.2.2

theorem Path.nodup {ps : List Int} : ∀ {P : List Nat} {a : Int}, Path ps a P → P.Nodup
  | [], _, _ => List.nodup_nil
  | v :: P, a, h => by
    rw [List.nodup_cons]
    refine ⟨fun hm => ?_, Path.nodup h.2.2⟩
    obtain ⟨A, B, rfl⟩ := List.append_of_mem hm
    have h1 : Path ps (v : Int) (v :: (A ++ v :: B)) := ⟨rfl, h.2.1, h.2.2⟩
    have h2 : Path ps (v : Int) (v :: B) := Path.tail (A := v :: A) h1
    have := congrArg List.length (Path.unique h1 h2)
    simp at this
    omega

theorem Path.lt {ps : List Int} : ∀ {P : List Nat} {a : Int}, Path ps a P → ∀ x ∈ P, x < ps.length
  | [], _, _, x, hx => by simp at hx
  | v :: P, a, h, x, hx => by
    simp at hx
    rcases hx with rfl | hx
    · exact h.2.1
    · exact Path.lt h.2.2 x hx

theorem path_of_up {ps : List Int} (hv : ∀ p ∈ ps, -1 ≤ p ∧ p < ps.length) : ∀ (k : Nat) (a : Int), a < ps.length → up ps k a < 0 → ∃ P, Path ps a P ∧ P.length ≤ k
  | 0, a, _, h => ⟨[], h, by simp⟩
  | k + 1, a, ha, h => by
    by_cases hneg : a < 0
    · exact ⟨[], hneg, by simp⟩
    · obtain ⟨v, rfl⟩ := Int.eq_ofNat_of_zero_le (show 0 ≤ a by omega)
      have hvl : v < ps.length := by omega
      rw [up_succ hvl] at h
      have hb := hv ps[v] (List.getElem_mem hvl)
      have hpar : par ps v = ps[v] := by simp [par, hvl]
      obtain ⟨P, h1, h2⟩ := path_of_up hv k (par ps v) (by omega) h
      exact ⟨v :: P, ⟨rfl, hvl, h1⟩, by simp; omega⟩

def setPath (out : List Int) (ab : Int) : List Nat → List Int
  | [] => out
  | v :: P => setPath (out.set v ab) (v : Int) P

theorem rerootGo_path {ps : List Int} : ∀ (f : Nat) {P : List Nat} {a ab : Int} {out : List Int}, Path ps a P → P.length ≤ f → rerootGo ps f a ab out = setPath out ab P
  | 0, [], a, ab, out, h, _ => rfl
  | 0, v :: P, a, ab, out, h, hl => by simp at hl
  | f + 1, [], a, ab, out, h, _ => by
    have h' : a < 0 := h
    rw [rerootGo, if_pos h']; rfl
  | f + 1, v :: P, a, ab, out, h, hl => by
    have ha := h.1
    subst ha
    rw [rerootGo_step h.2.1]
    have hpar : par ps v = ps[v]'h.2.1 := by simp [par, h.2.1]
    have h3 := h.2.2
    rw [hpar] at h3
    exact rerootGo_path f h3 (by simp at hl; omega)

theorem setPath_length : ∀ (P : List Nat) (out : List Int) (ab : Int), (setPath out ab P).length = out.length
  | [], _, _ => rfl
  | v :: P, out, ab => by rw [setPath, setPath_length P]; simp

theorem setPath_out {x : Nat} : ∀ (P : List Nat) (out : List Int) (ab : Int), x ∉ P → (setPath out ab P)[x]? = out[x]?
  | [], _, _, _ => rfl
  | v :: P, out, ab, h => by
    simp at h
    rw [setPath, setPath_out P _ _ h.2, List.getElem?_set_ne (fun e => h.1 e.symm)]

def Back (q : List Int) (ab : Int) : List Nat → Prop
  | [] => True
  | v :: P => q[v]? = some ab ∧ Back q (v : Int) P

theorem setPath_back : ∀ (P : List Nat) (out : List Int) (ab : Int), P.Nodup → (∀ x ∈ P, x < out.length) → Back (setPath out ab P) ab P
  | [], _, _, _, _ => trivial
  | v :: P, out, ab, hn, hl => by
    rw [List.nodup_cons] at hn
    refine ⟨?_, setPath_back P _ _ hn.2 fun x hx => by simp; exact hl x (by simp [hx])⟩
    rw [setPath, setPath_out P _ _ hn.1, List.getElem?_set_self (hl v (by simp))]

theorem par_get {ps : List Int} {v : Nat} {a : Int} (h : ps[v]? = some a) : par ps v = a := by simp [par, h]

def lastOr (a : Int) : List Nat → Int
  | [] => a
  | v :: P => lastOr (v : Int) P

theorem back_path {q : List Int} : ∀ (P : List Nat) {ab : Int} {acc : List Nat}, Back q ab P → Path q ab acc → Path q (lastOr ab P) (P.reverse ++ acc)
  | [], _, _, _, h => h
  | v :: P, ab, acc, hb, h => by
    have hvl : v < q.length := (List.getElem?_eq_some_iff.1 hb.1).1
    have h1 : Path q (v : Int) (v :: acc) := ⟨rfl, hvl, by rw [par_get hb.1]; exact h⟩
    have := back_path P hb.2 h1
    rw [List.reverse_cons, List.append_assoc]
    exact this

theorem Back.snoc {q : List Int} : ∀ {A : List Nat} {ab : Int} {v : Nat}, Back q ab (A ++ [v]) → Back q ab A ∧ q[v]? = some (lastOr ab A)
  | [], ab, v, h => ⟨trivial, h.1⟩
  | u :: A, ab, v, h => by
    have := Back.snoc (A := A) h.2
    exact ⟨⟨h.1, this.1⟩, this.2⟩

theorem lastOr_snoc (a : Int) : ∀ (A : List Nat) (v : Nat), lastOr a (A ++ [v]) = (v : Int)
  | [], v => rfl
  | u :: A, v => by
    show lastOr (u : Int) (A ++ [v]) = _
    exact lastOr_snoc (u : Int) A v

theorem back_again {ps q : List Int} (hv : ∀ p ∈ ps, -1 ≤ p ∧ p < ps.length) : ∀ {P : List Nat} {a : Int}, Path ps a P → Back q (-1) P.reverse → ∀ x ∈ P, q[x]? = ps[x]?
  | [], _, _, _, x, hx => by simp at hx
  | v :: P, a, h, hb, x, hx => by
    rw [List.reverse_cons] at hb
    obtain ⟨h1, h2⟩ := Back.snoc hb
    have hvl := h.2.1
    have hpar : par ps v = ps[v] := by simp [par, hvl]
    simp at hx
    rcases hx with rfl | hx
    · rw [h2, List.getElem?_eq_getElem hvl]
      congr 1
      cases P with
      | nil =>
        have h3 : par ps x < 0 := h.2.2
        have := hv ps[x] (List.getElem_mem hvl)
        show (-1 : Int) = _
        omega
      | cons u P' =>
        have h3 := h.2.2.1
        rw [List.reverse_cons, lastOr_snoc]
        omega
    · exact back_again hv h.2.2 h1 x hx

theorem whole_of_ex {ps : List Int} (hv : ∀ p ∈ ps, -1 ≤ p ∧ p < ps.length) (h : ∀ i, i < ps.length → ∃ k, up ps k (i : Int) < 0) : ∀ i, i < ps.length → up ps ps.length (i : Int) < 0 := by
  have hK : ∀ m, m ≤ ps.length → ∃ K, ∀ i, i < m → up ps K (i : Int) < 0 := by
    intro m
    induction m with
    | zero => intro _; exact ⟨0, fun i hi => by omega⟩
    | succ m ih =>
      intro hm
      obtain ⟨K, hK⟩ := ih (by omega)
      obtain ⟨k, hk⟩ := h m (by omega)
      refine ⟨max K k, fun i hi => ?_⟩
      by_cases him : i < m
      · exact up_stop (hK i him) (by omega)
      · obtain rfl : i = m := by omega
        exact up_stop hk (by omega)
  obtain ⟨K, hK⟩ := hK ps.length (Nat.le_refl _)
  refine (order_whole hv).1 ?_
  have hO := orderF_is ps
  generalize orderF ps = D at *
  have hle := hO.1.length
  refine Classical.byContradiction fun hne => ?_
  have hex : ∃ u, u < ps.length ∧ u ∉ D := by
    refine Classical.byContradiction fun hn => ?_
    have h2 := nodup_le (l := List.range ps.length) (m := D) List.nodup_range fun x hx => by
      refine Classical.byContradiction fun hx2 => hn ⟨x, List.mem_range.1 hx, hx2⟩
    simp at h2; omega
  obtain ⟨u, hu, hun⟩ := hex
  have hch : ∀ k, ∃ x, x < ps.length ∧ x ∉ D ∧ up ps k (x : Int) = (u : Int) := by
    intro k
    induction k with
    | zero => exact ⟨u, hu, hun, rfl⟩
    | succ k ih =>
      obtain ⟨x, hx, hxn, hxu⟩ := ih
      have hnr := hO.2 x
      have : ∃ y, y < ps.length ∧ par ps y = (x : Int) ∧ y ∉ D := by
        refine Classical.byContradiction fun hn => hnr ⟨hx, hxn, fun y hy hyp => ?_⟩
        refine Classical.byContradiction fun hyn => hn ⟨y, hy, hyp, hyn⟩
      obtain ⟨y, hy, hyp, hyn⟩ := this
      exact ⟨y, hy, hyn, by rw [up_succ hy, hyp, hxu]⟩
  obtain ⟨x, hx, _, hxu⟩ := hch K
  have := hK x hx
  omega

theorem back_up {q : List Int} : ∀ (P : List Nat) {ab : Int} (k : Nat), Back q ab P → up q k ab < 0 → ∀ x ∈ P, ∃ k', up q k' (x : Int) < 0
  | [], _, _, _, _, x, hx => by simp at hx
  | v :: P, ab, k, hb, hk, x, hx => by
    have hvl : v < q.length := (List.getElem?_eq_some_iff.1 hb.1).1
    have h1 : up q (k + 1) (v : Int) < 0 := by rw [up_succ hvl, par_get hb.1]; exact hk
    simp at hx
    rcases hx with rfl | hx
    · exact ⟨k + 1, h1⟩
    · exact back_up P (k + 1) hb.2 h1 x hx

theorem back_vals {q : List Int} : ∀ (P : List Nat) {ab : Int}, Back q ab P → ∀ x ∈ P, ∃ y : Int, q[x]? = some y ∧ (y = ab ∨ ∃ u ∈ P, y = (u : Int))
  | [], _, _, x, hx => by simp at hx
  | v :: P, ab, hb, x, hx => by
    simp at hx
    rcases hx with rfl | hx
    · exact ⟨ab, hb.1, .inl rfl⟩
    · obtain ⟨y, h1, h2⟩ := back_vals P hb.2 x hx
      refine ⟨y, h1, ?_⟩
      rcases h2 with rfl | ⟨u, hu, rfl⟩
      · exact .inr ⟨v, by simp, rfl⟩
      · exact .inr ⟨u, by simp [hu], rfl⟩

theorem root_in_path {ps : List Int} (hv : ∀ p ∈ ps, -1 ≤ p ∧ p < ps.length) (hroots : rootsF ps = 1) : ∀ {P : List Nat} {a : Int}, Path ps a P → P ≠ [] → ∃ A r, P = A ++ [r] ∧ par ps r = -1
  | [], _, _, h => absurd rfl h
  | v :: P, a, h, _ => by
    cases P with
    | nil =>
      have h3 : par ps v < 0 := h.2.2
      have hvl := h.2.1
      have hpar : par ps v = ps[v] := by simp [par, hvl]
      have := hv ps[v] (List.getElem_mem hvl)
      exact ⟨[], v, rfl, by omega⟩
    | cons u P' =>
      obtain ⟨A, r, h1, h2⟩ := root_in_path hv hroots h.2.2 (by simp)
      exact ⟨v :: A, r, by rw [h1]; rfl, h2⟩

theorem one_root {ps : List Int} (hroots : rootsF ps = 1) {x y : Nat} (hx : x < ps.length) (hy : y < ps.length) (h1 : par ps x < 0) (h2 : par ps y < 0) : x = y := by
  have hc : ∀ l : List Int, l.countP (fun p => decide (p < 0)) = (List.range l.length).countP fun i => decide (l[i]?.getD (-1) < 0) := by
    intro l
    have h : l = (List.range l.length).map fun i => l[i]?.getD (-1) := by
      apply List.ext_getElem
      · simp
      · intro i h1 h2; simp [h1]
    conv => lhs; rw [h]
    rw [List.countP_map]
    rfl
  have hle := (countP_le_one (fun i => decide (ps[i]?.getD (-1) < 0)) ps.length).1 (by
    have := hroots
    unfold rootsF at this
    rw [hc] at this
    omega)
  unfold par at h1 h2
  rcases Nat.lt_trichotomy x y with hlt | heq | hgt
  · exact absurd ⟨by simpa using h1, by simpa using h2⟩ (hle x y hlt hy)
  · exact heq
  · exact absurd ⟨by simpa using h2, by simpa using h1⟩ (hle y x hgt hx)

theorem roots_one {ps : List Int} {r : Nat} (hr : r < ps.length) (h1 : par ps r < 0) (h2 : ∀ x, x < ps.length → par ps x < 0 → x = r) : rootsF ps = 1 := by
  have hc : ps.countP (fun p => decide (p < 0)) = (List.range ps.length).countP fun i => decide (ps[i]?.getD (-1) < 0) := by
    have h : ps = (List.range ps.length).map fun i => ps[i]?.getD (-1) := by
      apply List.ext_getElem
      · simp
      · intro i h1 h2; simp [h1]
    conv => lhs; rw [h]
    rw [List.countP_map]
    rfl
  unfold rootsF
  rw [hc]
  have hle := (countP_le_one (fun i => decide (ps[i]?.getD (-1) < 0)) ps.length).2 (by
    rintro i j hij hj ⟨a, b⟩
    have e1 := h2 i (by omega) (by unfold par; simpa using a)
    have e2 := h2 j hj (by unfold par; simpa using b)
    omega)
  have hge : 0 < (List.range ps.length).countP (fun i => decide (ps[i]?.getD (-1) < 0)) := by
    rw [List.countP_pos_iff]
    exact ⟨r, List.mem_range.2 hr, by unfold par at h1; simpa using h1⟩
  omega

theorem reroot_is {ps : List Int} {root : Nat} (hr : rootedB ps = true) (hroot : root < ps.length) :
    ∃ A r, Path ps (root : Int) (A ++ [r]) ∧ par ps r = -1 ∧ r < ps.length ∧ rerootF ps root = setPath ps (-1) (A ++ [r]) := by
  obtain ⟨hv, hroots, hup⟩ := rooted_parts hr
  obtain ⟨P, hP, hl⟩ := path_of_up hv ps.length root (by omega) (hup root hroot)
  have hne : P ≠ [] := by
    intro h
    subst h
    have h' : (root : Int) < 0 := hP
    omega
  obtain ⟨A, r, rfl, hpr⟩ := root_in_path hv hroots hP hne
  exact ⟨A, r, hP, hpr, hP.lt r (by simp), rerootGo_path _ hP hl⟩

theorem reroot_rooted {ps : List Int} {root : Nat} (hr : rootedB ps = true) (hroot : root < ps.length) :
    (rerootF ps root).length = ps.length ∧ rootedB (rerootF ps root) = true ∧ ∃ r : Nat, r < ps.length ∧ par ps r = -1 ∧ rerootF (rerootF ps root) r = ps := by
  obtain ⟨hv, hroots, hup⟩ := rooted_parts hr
  obtain ⟨A, r, hP, hpr, hrl, hre⟩ := reroot_is hr hroot
  have hnd := hP.nodup
  have hlt := hP.lt
  have hback := setPath_back (A ++ [r]) ps (-1) hnd hlt
  have hlen := setPath_length (A ++ [r]) ps (-1)
  have hout := fun x h => setPath_out (x := x) (A ++ [r]) ps (-1) h
  rw [← hre] at hback hlen hout
  generalize hq : rerootF ps root = q at *
  have hroot_in : root ∈ A ++ [r] := by
    cases A with
    | nil => have := hP.1; simp; omega
    | cons u A' => have := hP.1; simp; omega
  have hval : ∀ x, x < ps.length → (x ∈ A ++ [r] ∧ ∃ y : Int, q[x]? = some y ∧ (y = -1 ∨ ∃ u ∈ A ++ [r], y = (u : Int))) ∨ (x ∉ A ++ [r] ∧ q[x]? = some (par ps x) ∧ 0 ≤ par ps x) := by
    intro x hx
    by_cases hm : x ∈ A ++ [r]
    · exact .inl ⟨hm, back_vals _ hback x hm⟩
    · refine .inr ⟨hm, ?_, ?_⟩
      · rw [hout x hm]; simp [par, hx]
      · refine Classical.byContradiction fun hneg => ?_
        have := one_root hroots hx hrl (by omega) (by omega)
        subst this
        exact hm (by simp)
  have hvq : ∀ p ∈ q, -1 ≤ p ∧ p < q.length := by
    intro p hp
    obtain ⟨x, hx, rfl⟩ := List.getElem_of_mem hp
    rcases hval x (by omega) with ⟨_, y, h1, h2⟩ | ⟨_, h1, h2⟩
    · rw [List.getElem?_eq_getElem hx] at h1
      injection h1 with h1
      rcases h2 with h2 | ⟨u, hu, h2⟩
      · omega
      · have := hlt u hu; omega
    · rw [List.getElem?_eq_getElem hx] at h1
      injection h1 with h1
      have := hv (ps[x]'(by omega)) (List.getElem_mem (by omega))
      have hpar : par ps x = ps[x]'(by omega) := by simp [par, show x < ps.length by omega]
      omega
  have hreach : ∀ x, x < q.length → ∃ k, up q k (x : Int) < 0 := by
    have hon : ∀ x ∈ A ++ [r], ∃ k, up q k (x : Int) < 0 := back_up _ 0 hback (by simp [up])
    have key : ∀ (k : Nat) (x : Nat), x < ps.length → up ps k (x : Int) < 0 → ∃ k', up q k' (x : Int) < 0 := by
      intro k
      induction k with
      | zero => intro x _ h; simp [up] at h; omega
      | succ k ih =>
        intro x hx h
        rcases hval x hx with ⟨hm, _⟩ | ⟨_, h1, h2⟩
        · exact hon x hm
        · rw [up_succ hx] at h
          obtain ⟨p, hp⟩ := Int.eq_ofNat_of_zero_le h2
          have hpar : par ps x = ps[x] := by simp [par, hx]
          have := hv ps[x] (List.getElem_mem hx)
          rw [hp] at h
          obtain ⟨k', hk'⟩ := ih p (by omega) h
          refine ⟨k' + 1, ?_⟩
          rw [up_succ (by omega), par_get h1, hp]
          exact hk'
    intro x hx
    exact key ps.length x (by omega) (hup x (by omega))
  have hrootq : par q root = -1 := by
    cases A with
    | nil =>
      have h1 := hP.1
      have : root = r := by omega
      subst this
      exact par_get hback.1
    | cons u A' =>
      have h1 := hP.1
      have : root = u := by omega
      subst this
      exact par_get hback.1
  have honly : ∀ x, x < q.length → par q x < 0 → x = root := by
    have hgen : ∀ (P : List Nat) (ab : Int), Back q ab P → ∀ x ∈ P, par q x < 0 → P.head? = some x := by
      intro P
      induction P with
      | nil => intro _ _ x hx; simp at hx
      | cons v P ih =>
        intro ab hb x hx hneg
        simp at hx
        rcases hx with rfl | hx
        · rfl
        · exfalso
          cases P with
          | nil => simp at hx
          | cons u P' =>
            have h1 := ih (v : Int) hb.2 x hx hneg
            simp at h1
            subst h1
            have h2 := par_get hb.2.1
            omega
    intro x hx hneg
    rcases hval x (by omega) with ⟨hm, _⟩ | ⟨_, h1, h2⟩
    · have h1 := hgen _ _ hback x hm hneg
      cases A with
      | nil => have := hP.1; simp at h1; omega
      | cons u A' => have := hP.1; simp at h1; omega
    · rw [par_get h1] at hneg; omega
  have hrq : rootedB q = true := rootedB_true hvq (roots_one (r := root) (by omega) (by omega) honly) (whole_of_ex hvq hreach)
  refine ⟨hlen, hrq, r, hrl, hpr, ?_⟩
  have hpathq : Path q (r : Int) ((A ++ [r]).reverse) := by
    have h1 := back_path (A ++ [r]) hback (acc := []) (show (-1 : Int) < 0 by omega)
    rw [lastOr_snoc, List.append_nil] at h1
    exact h1
  have hre2 : rerootF q (r : Int) = setPath q (-1) (A ++ [r]).reverse := by
    refine rerootGo_path _ hpathq ?_
    have := nodup_le (m := List.range q.length) hpathq.nodup fun x hx => List.mem_range.2 (hpathq.lt x hx)
    simpa using this
  rw [hre2]
  have hb2 := setPath_back (A ++ [r]).reverse q (-1) hpathq.nodup hpathq.lt
  have hagain := back_again hv hP hb2
  apply List.ext_getElem?
  intro x
  by_cases hm : x ∈ A ++ [r]
  · exact hagain x hm
  · rw [setPath_out _ _ _ (by rw [List.mem_reverse]; exact hm), hout x hm]

end Go.Proofs.YthgaflmldbgbnaaGreatDoor.JT
end
namespace Go.Proofs.YthgaflmldbgbnaaGreatDoor
end Go.Proofs.YthgaflmldbgbnaaGreatDoor
section
namespace Go.Proofs.YthgaflmldbgbnaaGreatDoor.JT

def sepsOf (es : List Nat) (ps : List Int) (I : List Nat) : List Nat := (I.filter fun i => decide (0 ≤ par ps i)).map fun (i : Nat) => sepF es ps (i : Int)
def sepsF (es : List Nat) (ps : List Int) : List Nat := sepsOf es ps (List.range ps.length)

theorem sepsOf_cons (es : List Nat) (ps : List Int) (v : Nat) (I : List Nat) : sepsOf es ps (v :: I) = (if 0 ≤ par ps v then [sepF es ps (v : Int)] else []) ++ sepsOf es ps I := by
  by_cases h : 0 ≤ par ps v <;> simp [sepsOf, h]

theorem sepF_link {es : List Nat} {ps : List Int} {v u : Nat} (hl : ps.length = es.length) (hv : v < ps.length) (hu : u < ps.length) (h : par ps v = (u : Int)) : sepF es ps (v : Int) = es[v]?.getD 0 &&& es[u]?.getD 0 := by
  have h' : ps[v]?.getD 0 = (u : Int) := by simp [par, hv] at h; simp [hv, h]
  unfold sepF
  rw [if_pos (by omega)]
  simp only [Int.toNat_natCast]
  rw [h', if_pos (by omega)]
  simp only [Int.toNat_natCast]

theorem seps_path {es : List Nat} {ps q : List Int} (hl : ps.length = es.length) (hq : q.length = es.length) : ∀ (P : List Nat) (v : Nat), Path ps (v : Int) (v :: P) → Back q (v : Int) P → sepsOf es ps (v :: P) = sepsOf es q P
  | [], v, hp, _ => by
    have h : par ps v < 0 := hp.2.2
    rw [sepsOf_cons, if_neg (by omega)]; rfl
  | u :: P, v, hp, hb => by
    obtain ⟨_, hv, h1⟩ := hp
    have h1' : par ps v = (u : Int) := h1.1
    have hu := h1.2.1
    have ih := seps_path hl hq P u ⟨rfl, h1.2.1, h1.2.2⟩ hb.2
    have hqu : par q u = (v : Int) := par_get hb.1
    rw [sepsOf_cons es ps v, sepsOf_cons es q u, if_pos (by omega), if_pos (by omega), ih, sepF_link hl hv hu h1', sepF_link hq (by omega) (by omega) hqu, Nat.and_comm]

theorem sepsOf_same {es : List Nat} {ps q : List Int} (hlen : q.length = ps.length) : ∀ (I : List Nat), (∀ x ∈ I, q[x]? = ps[x]?) → sepsOf es ps I = sepsOf es q I
  | [], _ => rfl
  | v :: I, h => by
    have hv := h v (by simp)
    have hp : par q v = par ps v := by simp only [par, hv]
    have hs : sepF es q (v : Int) = sepF es ps (v : Int) := by
      unfold sepF
      simp only [Int.toNat_natCast, hv, hlen]
    rw [sepsOf_cons, sepsOf_cons, hp, hs, sepsOf_same hlen I fun x hx => h x (by simp [hx])]

theorem sepsOf_perm {es : List Nat} {ps : List Int} {I J : List Nat} (h : I.Perm J) : (sepsOf es ps I).Perm (sepsOf es ps J) := (h.filter _).map _
theorem sepsOf_append (es : List Nat) (ps : List Int) (I J : List Nat) : sepsOf es ps (I ++ J) = sepsOf es ps I ++ sepsOf es ps J := by simp [sepsOf]

theorem nodup_count {l : List Nat} (h : l.Nodup) (a : Nat) : l.count a = if a ∈ l then 1 else 0 := by
  induction l with
  | nil => simp
  | cons b l ih =>
    rw [List.nodup_cons] at h
    rw [List.count_cons, ih h.2]
    by_cases hb : b = a
    · subst hb; simp [h.1]
    · have hb' : ¬ a = b := fun e => hb e.symm
      simp [hb, hb']

theorem range_split {n : Nat} {P : List Nat} (hn : P.Nodup) (hl : ∀ x ∈ P, x < n) : (List.range n).Perm (P ++ (List.range n).filter fun x => !(P.contains x)) := by
  rw [List.perm_iff_count]
  intro a
  rw [List.count_append, nodup_count List.nodup_range, nodup_count hn, nodup_count (List.nodup_range.filter _)]
  by_cases h1 : a ∈ P
  · have := hl a h1; simp [h1, this]
  · simp [h1]

theorem seps_perm {es : List Nat} {ps : List Int} {root : Nat} (hl : ps.length = es.length) (hr : rootedB ps = true) (hroot : root < ps.length) : (sepsF es ps).Perm (sepsF es (rerootF ps root)) := by
  obtain ⟨A, r, hP, hpr, hrl, hre⟩ := reroot_is hr hroot
  have hnd := hP.nodup
  have hlt := hP.lt
  have hback := setPath_back (A ++ [r]) ps (-1) hnd hlt
  have hlen := setPath_length (A ++ [r]) ps (-1)
  have hout := fun x h => setPath_out (x := x) (A ++ [r]) ps (-1) h
  rw [← hre] at hback hlen hout
  generalize rerootF ps root = q at *
  obtain ⟨P, hAr⟩ : ∃ P, A ++ [r] = root :: P := by
    cases A with
    | nil => have := hP.1; exact ⟨[], by simp; omega⟩
    | cons u A' => have := hP.1; exact ⟨A' ++ [r], by simp; omega⟩
  rw [hAr] at hP hback hnd hlt hout
  have h1 := seps_path (es := es) hl (by omega) P root hP hback.2
  have h0 : sepsOf es q (root :: P) = sepsOf es q P := by
    rw [sepsOf_cons, if_neg (by rw [par_get hback.1]; omega)]; rfl
  have hs := range_split hnd hlt
  have h2 : sepsOf es ps ((List.range ps.length).filter fun x => !((root :: P).contains x)) = sepsOf es q ((List.range ps.length).filter fun x => !((root :: P).contains x)) := by
    refine sepsOf_same hlen _ fun x hx => hout x ?_
    rw [List.mem_filter] at hx
    simpa using hx.2
  have e1 := sepsOf_perm (es := es) (ps := ps) hs
  have e2 := sepsOf_perm (es := es) (ps := q) hs
  rw [sepsOf_append] at e1 e2
  rw [h1, ← h0, h2] at e1
  unfold sepsF
  rw [hlen]
  exact e1.trans e2.symm

theorem links_seps {es : List Nat} {ps : List Int} (hl : ps.length = es.length) (hv : ∀ p ∈ ps, -1 ≤ p ∧ p < ps.length) (v : Nat) : linksF es ps v = (sepsF es ps).countP fun s => has s v := by
  unfold linksF sepsF sepsOf
  rw [List.countP_map, List.countP_filter, hl]
  refine List.countP_congr fun i hi => ?_
  have hi' : i < ps.length := by rw [hl]; exact List.mem_range.1 hi
  have hpar : par ps i = ps[i] := by simp [par, hi']
  have hb := hv ps[i] (List.getElem_mem hi')
  have hg : ps[i]?.getD 0 = ps[i] := by simp [hi']
  unfold linkB
  rw [hg, hpar]
  by_cases h0 : 0 ≤ ps[i]
  · obtain ⟨u, hu⟩ := Int.eq_ofNat_of_zero_le h0
    have hlk := sepF_link (es := es) hl hi' (show u < ps.length by omega) (by rw [hpar, hu])
    simp only [Function.comp_apply, hlk, hu, Int.toNat_natCast, has_eq, Nat.testBit_and]
    simp
  · simp [h0]

theorem reroot_chk {n : Nat} {es : List Nat} {ps : List Int} {root : Nat} (h : chkF n es ps = 0) (hroot : root < ps.length) : chkF n es (rerootF ps root) = 0 := by
  have hg : hgCheckF n es = 0 := by
    refine Classical.byContradiction fun h2 => ?_
    rw [chkF_hg h2] at h; exact h2 h
  have hl : ps.length = es.length := by
    refine Classical.byContradiction fun h2 => ?_
    rw [chkF_len hg h2] at h; omega
  have hr : rootedB ps = true := by
    cases h2 : rootedB ps with
    | true => rfl
    | false => rw [chkF_root hg hl h2] at h; omega
  have ht : TopsOk es ps := by
    refine Classical.byContradiction fun h2 => ?_
    rw [chkF_tops hg hl hr h2] at h; omega
  obtain ⟨n', hn', hn, _, hN⟩ := hgCheckF_zero hg
  obtain rfl : n = n' := by omega
  obtain ⟨hlen, hrq, -⟩ := reroot_rooted hr hroot
  have hlq : (rerootF ps root).length = es.length := by omega
  refine chkF_ok hg hlq hrq ((joinB_iff hN hn hlq hrq).1 ?_)
  have hj := (joinB_iff hN hn hl hr).2 ht
  have hlinks : ∀ v, linksF es (rerootF ps root) v = linksF es ps v := fun v => by
    rw [links_seps hl (rooted_parts hr).1, links_seps hlq (rooted_parts hrq).1]
    exact ((seps_perm hl hr hroot).countP_eq _).symm
  unfold joinB at hj ⊢
  simp only [hlinks]
  exact hj

end Go.Proofs.YthgaflmldbgbnaaGreatDoor.JT
end
namespace Go.Proofs.YthgaflmldbgbnaaGreatDoor
section
open Go.RowKit Go.Sort

set_option maxHeartbeats 4000000 in
theorem l36is_any (va vw : Value) (a : At) (w : World) (ha : AtV w va a) (hw : RefV w vw (a.vs.map Int.ofNat) a.P) (ga : Gd a) :
    Calls Tryz.prog 13 #[va, vw] w fun e w' => e = .returned (.bool true) ∧ Below w.heap.size w w' := by
  have ha0 := ha
  have hw0 := hw
  obtain ⟨VA, VC, PA, PC, rfl, -, -, -, -, -, -⟩ := ha
  obtain ⟨UA, UC, QA, QC, rfl, -, -, -, -, -, -⟩ := hw
  rw [List.length_map] at hw0 ⊢
  obtain ⟨W0, hW0⟩ : ∃ W0, W0 = (w.alloc (.cells #[.slice VA a.vs.length VC, .int .i64 (a.vs.length : Nat), .slice PA a.P.length PC] 36)).alloc (.cells #[.slice UA a.vs.length UC, .slice QA a.P.length QC] 45) := ⟨_, rfl⟩
  have hx0 : Ext w W0 := by rw [hW0]; exact ((Ext.refl w).alloc _).alloc _
  have HRA : Hid (Row W0 w.heap.size 36 [.slice VA a.vs.length VC, .int .i64 (a.vs.length : Nat), .slice PA a.P.length PC]) := by show Row _ _ _ _; rw [hW0]; exact (Row.new w 36 _).alloc _
  have HRB : Hid (Row W0 (w.heap.size + 1) 45 [.slice UA a.vs.length UC, .slice QA a.P.length QC]) := by
    show Row _ _ _ _
    have h := Row.new (w.alloc (.cells #[.slice VA a.vs.length VC, .int .i64 (a.vs.length : Nat), .slice PA a.P.length PC] 36)) 45 [.slice UA a.vs.length UC, .slice QA a.P.length QC]
    rw [World.size_alloc] at h
    rw [hW0]; exact h
  have HX0 := Lib.hid hx0
  have HA := Lib.hid (fun W (h : Below w.heap.size w W) => ha0.up h)
  have HW := Lib.hid (fun W (h : Below w.heap.size w W) => hw0.up h)
  have HG := Lib.hid ga
  have HUP : Hid (∀ W, Below W0.heap.size W0 W → (W.cell? ⟨w.heap.size, 0, none⟩ = some (.slice VA a.vs.length VC) ∧ W.cell? ⟨w.heap.size, 1, none⟩ = some (.int .i64 (a.vs.length : Nat)) ∧ W.cell? ⟨w.heap.size, 2, none⟩ = some (.slice PA a.P.length PC)) ∧ W.cell? ⟨w.heap.size + 1, 0, none⟩ = some (.slice UA a.vs.length UC) ∧ W.cell? ⟨w.heap.size + 1, 1, none⟩ = some (.slice QA a.P.length QC)) := fun W h => ⟨⟨(HRA.out.up h).cell 0, (HRA.out.up h).cell 1, (HRA.out.up h).cell 2⟩, (HRB.out.up h).cell 0, (HRB.out.up h).cell 1⟩
  have HWU : Hid (∀ W, Below W0.heap.size W0 W → Below w.heap.size w W) := fun W h => Below.then HX0.out.below h HX0.out.size
  have e0 := HRA.out.lt
  have e1 := HRB.out.lt
  have HW0E := Lib.hid hW0
  clear ha0 hw0 ga hx0 hW0
  go_enter Tryz.func13, Tryz.ntmps13
  go_upto_region 1 with (fail)
  rw [← HW0E.out]
  clear HW0E
  refine wp_region_held_drew (S := (fun w' => (w'.cell? ⟨w.heap.size, 0, none⟩ = some (.slice VA a.vs.length VC) ∧ w'.cell? ⟨w.heap.size, 1, none⟩ = some (.int .i64 (a.vs.length : Nat)) ∧ w'.cell? ⟨w.heap.size, 2, none⟩ = some (.slice PA a.P.length PC)) ∧ w'.cell? ⟨w.heap.size + 1, 0, none⟩ = some (.slice UA a.vs.length UC) ∧ w'.cell? ⟨w.heap.size + 1, 1, none⟩ = some (.slice QA a.P.length QC))) (by kernel_rfl) (HUP.out W0.drew (Below.refl _ _).drew) (fun hHeld => ?_)
  refine takeOp (i := 0) (v := ?_) (some 5) rfl rfl (by kernel_rfl) (by kernel_rfl) (by kernel_rfl) (fun _ _ _ h => h) (Or.inl ⟨by rfl, ?_⟩) (by assumption) ?_
  rotate_left 1
  · (intro w0 hSw; (try dsimp only at hSw); go_simp; try (with_reducible rfl))
  try simp only [Act.put, List.setIfInBounds_toArray, List.set_cons_succ, List.set_cons_zero]
  refine takeOp (i := 1) (v := ?_) (some 6) rfl rfl (by kernel_rfl) (by kernel_rfl) (by kernel_rfl) (fun _ _ _ h => h) (Or.inl ⟨by rfl, ?_⟩) (by assumption) ?_
  rotate_left 1
  · (intro w0 hSw; (try dsimp only at hSw); go_simp; try (with_reducible rfl))
  try simp only [Act.put, List.setIfInBounds_toArray, List.set_cons_succ, List.set_cons_zero]
  refine takeOp (i := 3) (v := ?_) (some 8) rfl rfl (by kernel_rfl) (by kernel_rfl) (by kernel_rfl) (fun _ _ _ h => h) (Or.inl ⟨by rfl, ?_⟩) (by assumption) ?_
  rotate_left 1
  · (intro w0 hSw; (try dsimp only at hSw); go_simp; try (with_reducible rfl))
  try simp only [Act.put, List.setIfInBounds_toArray, List.set_cons_succ, List.set_cons_zero]
  refine takeOp (i := 4) (v := ?_) (some 9) rfl rfl (by kernel_rfl) (by kernel_rfl) (by kernel_rfl) (fun _ _ _ h => h) (Or.inl ⟨by rfl, ?_⟩) (by assumption) ?_
  rotate_left 1
  · (intro w0 hSw; (try dsimp only at hSw); go_simp; try (with_reducible rfl))
  try simp only [Act.put, List.setIfInBounds_toArray, List.set_cons_succ, List.set_cons_zero]
  refine takeOp (i := 5) (v := ?_) (some 10) rfl rfl (by kernel_rfl) (by kernel_rfl) (by kernel_rfl) (fun _ _ _ h => h) (Or.inl ⟨by rfl, ?_⟩) (by assumption) ?_
  rotate_left 1
  · (intro w0 hSw; (try dsimp only at hSw); go_simp; try (with_reducible rfl))
  try simp only [Act.put, List.setIfInBounds_toArray, List.set_cons_succ, List.set_cons_zero]
  refine wpAnyH_ready (rs := [2]) (by kernel_rfl) (by simp) ?_
  refine AllReadyH.cons rfl (fun K hK => ?_) AllReadyH.nil
  go_simp
  refine (rlArity_any (a.vs.length : Nat) PA a.P.length PC W0.drew).mono ?_
  rintro e V1 ⟨rfl, hx⟩
  have HV1 : Hid (Below W0.heap.size W0 V1) := Below.undrew hx.below
  clear hx
  go_wp2_with fail
  refine hK.out _ _ (HUP.out V1 HV1.out) (fun hHeld => ?_)
  clear hK K
  try simp only [Act.put, List.setIfInBounds_toArray, List.set_cons_succ, List.set_cons_zero]
  refine takeOp (i := 6) (v := ?_) (some 11) rfl rfl (by kernel_rfl) (by kernel_rfl) (by kernel_rfl) (fun _ _ _ h => h) (Or.inl ⟨by rfl, ?_⟩) (by assumption) ?_
  rotate_left 1
  · (intro w0 hSw; (try dsimp only at hSw); go_simp; try (with_reducible rfl))
  try simp only [Act.put, List.setIfInBounds_toArray, List.set_cons_succ, List.set_cons_zero]
  refine takeOp (i := 7) (v := ?_) (some 12) rfl rfl (by kernel_rfl) (by kernel_rfl) (by kernel_rfl) (fun _ _ _ h => h) (Or.inl ⟨by rfl, ?_⟩) (by assumption) ?_
  rotate_left 1
  · (intro w0 hSw; (try dsimp only at hSw); go_simp; try (with_reducible rfl))
  try simp only [Act.put, List.setIfInBounds_toArray, List.set_cons_succ, List.set_cons_zero]
  refine takeOp (i := 8) (v := ?_) (some 13) rfl rfl (by kernel_rfl) (by kernel_rfl) (by kernel_rfl) (fun _ _ _ h => h) (Or.inl ⟨by rfl, ?_⟩) (by assumption) ?_
  rotate_left 1
  · (intro w0 hSw; (try dsimp only at hSw); go_simp; try (with_reducible rfl))
  try simp only [Act.put, List.setIfInBounds_toArray, List.set_cons_succ, List.set_cons_zero]
  refine takeOp (i := 10) (v := ?_) (some 15) rfl rfl (by kernel_rfl) (by kernel_rfl) (by kernel_rfl) (fun _ _ _ h => h) (Or.inl ⟨by rfl, ?_⟩) (by assumption) ?_
  rotate_left 1
  · (intro w0 hSw; (try dsimp only at hSw); go_simp; try (with_reducible rfl))
  try simp only [Act.put, List.setIfInBounds_toArray, List.set_cons_succ, List.set_cons_zero]
  refine wpAnyH_ready (rs := [9]) (by kernel_rfl) (by simp) ?_
  refine AllReadyH.cons rfl (fun K hK => ?_) AllReadyH.nil
  go_simp
  refine (l36Of_any _ a V1 (HA.out V1 (HWU.out V1 HV1.out)) HG.out).mono ?_
  rintro e V2 ⟨v1, rfl, hv, hb⟩
  have HV2 : Hid (Below W0.heap.size W0 V2) := Below.then HV1.out hb HV1.out.size
  have HSM := Lib.hid (same36 HG.out hv (HW.out V2 (HWU.out V2 HV2.out)))
  clear hv hb
  go_wp2_with fail
  refine hK.out _ _ (HUP.out V2 HV2.out) (fun hHeld => ?_)
  clear hK K
  try simp only [Act.put, List.setIfInBounds_toArray, List.set_cons_succ, List.set_cons_zero]
  refine wpAnyH_ready (rs := [11]) (by kernel_rfl) (by simp) ?_
  refine AllReadyH.cons rfl (fun K hK => ?_) AllReadyH.nil
  go_simp
  refine HSM.out.mono ?_
  rintro e V3 ⟨rfl, hb⟩
  have HV3 : Hid (Below W0.heap.size W0 V3) := Below.then HV2.out hb HV2.out.size
  clear hb HSM
  go_wp2_with fail
  refine hK.out _ _ (HUP.out V3 HV3.out) (fun hHeld => ?_)
  clear hK K
  try simp only [Act.put, List.setIfInBounds_toArray, List.set_cons_succ, List.set_cons_zero]
  refine takeOp (i := 12) (v := ?_) (some 17) rfl rfl (by kernel_rfl) (by kernel_rfl) (by kernel_rfl) (fun _ _ _ h => h) (Or.inl ⟨by rfl, ?_⟩) (by assumption) ?_
  rotate_left 1
  · (intro w0 hSw; (try dsimp only at hSw); go_simp; try (with_reducible rfl))
  try simp only [Act.put, List.setIfInBounds_toArray, List.set_cons_succ, List.set_cons_zero]
  refine takeOp (i := 13) (v := ?_) (some 4) rfl rfl (by kernel_rfl) (by kernel_rfl) (by kernel_rfl) (fun _ _ _ h => h) (Or.inl ⟨by rfl, ?_⟩) (by assumption) ?_
  rotate_left 1
  · (intro w0 hSw; (try dsimp only at hSw); go_simp; try (with_reducible rfl))
  try simp only [Act.put, List.setIfInBounds_toArray, List.set_cons_succ, List.set_cons_zero]
  refine wpAnyH_done (by kernel_rfl) ?_ _
  clear hHeld
  go_wp2_with fail
  go_ret
  exact ⟨rfl, HWU.out V3 HV3.out⟩
end
section
open Go.RowKit

theorem slI_fresh_set {k : IntKind} {B : Nat} {w : World} {A : Option Addr} {zs : List Int} {p : Addr} (h : SlI k B w A zs) (hf : ∀ ad : Addr, A = some ad → p.block < ad.block) (u : Value) : SlI k B (w.setCell p u) A zs := fun hn => by
  obtain ⟨b, o, e, hb, hc⟩ := h hn
  have := hf _ e
  exact ⟨b, o, e, hb, fun i u hu => far_cell (by show p.block ≠ b; simp only at this; omega) (hc i u hu)⟩
end
section
open Go.RowKit Go.Sort

def BuildP (n : Nat) (es : List Nat) (w : World) (e : Ending) (w' : World) : Prop :=
  ∃ A tl c code, e = .returned (.tuple #[.agg #[.slice A tl c], .int .i64 code]) ∧ (code = 0 → ∃ ps : List Int, tl = ps.length ∧ ps.length = es.length ∧ 0 < es.length ∧ SlI .i64 w'.heap.size w' A ps ∧ JT.chkF n es ps = 0) ∧ Below w.heap.size w w'
theorem jtBuild_sum (n : Nat) (EA : Option Addr) (EC : Nat) (es : List Nat) (w : World) (hE : SlN .u32 w.heap.size w EA es) (hu : JT.U32 es) (hel : es.length ≤ 1000000) :
    Calls Tryz.prog 35 #[.agg #[.int .i64 (n : Nat), .slice EA es.length EC]] w (BuildP n es w) := by
  by_cases hk : JT.hgCheckF n es = 0
  rotate_left
  · exact (build_err n EA EC es w hE hu hel hk).mono fun e w' ⟨h1, h2⟩ => ⟨_, _, _, _, h1, fun h => absurd h hk, h2⟩
  by_cases hm : 0 < es.length
  rotate_left
  · obtain rfl : es = [] := List.eq_nil_of_length_eq_zero (by omega)
    exact (build_empty n EA EC w hk).mono fun e w' ⟨h1, h2⟩ => ⟨_, _, _, _, h1, fun h => absurd h (by decide), h2⟩
  cases hz : (JT.reduceF n es).rest.all fun z => z == 0
  · exact (build_cyc n EA EC es w hE hu hk hm hz).mono fun e w' ⟨h1, h2⟩ => ⟨_, _, _, _, h1, fun h => absurd h (by decide), h2⟩
  · obtain ⟨h3, h4⟩ := JT.gyo_sound hk hm hz
    refine (build_ok n EA EC es w hE hu hk hm hz).mono fun e w' ⟨A, c, h1, h2, hb⟩ => ⟨A, _, c, _, h1, fun _ => ⟨_, h3.symm, h3, hm, h2, h4⟩, hb⟩
theorem chk_root {N : Int} {es : List Nat} {ps : List Int} (h : JT.chkF N es ps = 0) (hl : ps.length = es.length) : JT.rootedB ps = true := by
  cases hr : JT.rootedB ps with
  | true => rfl
  | false =>
    by_cases hk : JT.hgCheckF N es = 0
    · rw [JT.chkF_root hk hl hr] at h; cases h
    · rw [JT.chkF_hg hk] at h; exact absurd h hk

def TreeP (al : List At) (w : World) (e : Ending) (w' : World) : Prop :=
  ∃ TA tl TC b, e = .returned (.tuple #[.agg #[.slice TA tl TC], .bool b]) ∧ (b = true → ∃ qs : List Int, tl = qs.length ∧ qs.length = al.length ∧ SlI .i64 w'.heap.size w' TA qs ∧ errT (al.map At.ra) qs = 0) ∧ Below w.heap.size w w'

set_option maxHeartbeats 8000000 in
theorem l36tree_any (AA : Option Addr) (AC : Nat) (al : List At) (root : Nat) (hroot : root < 256) (w : World) (hA : AtsR w.heap.size w AA (al.map At.ra)) (hl : al.length ≤ 32) (hg : ∀ a ∈ al, Gd a) :
    Calls Tryz.prog 17 #[.slice AA al.length AC, .int .u8 (root : Nat)] w (TreeP al w) := by
  obtain ⟨W0, hW0⟩ : ∃ W0, W0 = w.alloc (.cells #[.slice none 0 0] 51) := ⟨_, rfl⟩
  have hx0 : Ext w W0 := by rw [hW0]; exact (Ext.refl w).alloc _
  have HR4 : Hid (Row W0 w.heap.size 51 [.slice none 0 0]) := by show Row _ _ _ _; rw [hW0]; exact Row.new w 51 _
  have HGR := Lib.hid (l36Graph_any AA AC al W0 (hA.upB hx0.below) (by omega) hg)
  have hu : JT.U32 (graphE al) := fun z hz => by
    unfold graphE at hz
    obtain ⟨b, hb, rfl⟩ := List.mem_map.1 hz
    have := setN_lt (hg b hb).lt
    omega
  have hel : (graphE al).length = al.length := by unfold graphE; rw [List.length_map]
  have HU := Lib.hid hu
  have HEL := Lib.hid hel
  have HG := Lib.hid hg
  have HET : Hid (∀ qs, JT.chkF (graphN al : Nat) (graphE al) qs = 0 → errT (al.map At.ra) qs = 0) := fun qs h => by
    have hat : (al.map At.ra).map RA.at = al := by
      rw [List.map_map]
      conv => rhs; rw [← List.map_id al]
      exact List.map_congr_left fun a _ => At.ra_at a
    unfold errT
    rw [if_neg (by rw [errC_gd hg hl]; simp), hat]
    exact h
  have HX0 := Lib.hid hx0
  have HW0E := Lib.hid hW0
  unfold GraphPost at HGR
  clear hA hg hx0 hW0 hu hel
  go_enter Tryz.func17, Tryz.ntmps17
  go_upto_region 1 with (fail)
  rw [← HW0E.out]
  clear HW0E
  generalize graphE al = es at *
  generalize graphN al = N at *
  go_wp2_with fail
  refine HGR.out.mono ?_
  rintro e w1 ⟨QA, QC, rfl, hs, hb1⟩
  have HB1 := Lib.hid (Below.then HX0.out.below hb1 HX0.out.size)
  have HBU := Lib.hid (jtBuild_sum N QA QC es w1 hs HU.out (by have := HEL.out; omega))
  have HR41 := Lib.hid (HR4.out.up hb1)
  clear hs hb1 HGR HR4
  go_wp2_with fail
  refine HBU.out.mono ?_
  rintro e w2 ⟨TA, tl, TC, code, rfl, hok, hb2⟩
  have HB2 := Lib.hid (Below.then HB1.out hb2 HB1.out.size)
  have HR42 := Lib.hid (HR41.out.up hb2)
  have HOK := Lib.hid hok
  obtain ⟨W3, hW3⟩ : ∃ W3, W3 = w2.alloc (.cells #[.slice TA tl TC] 51) := ⟨_, rfl⟩
  obtain ⟨g6, hg6⟩ : ∃ g6, g6 = w2.heap.size := ⟨_, rfl⟩
  have hx3 : Ext w2 W3 := by rw [hW3]; exact (Ext.refl w2).alloc _
  have HR6 : Hid (Row W3 g6 51 [.slice TA tl TC]) := by show Row _ _ _ _; rw [hW3, hg6]; exact Row.new w2 51 _
  have HR43 := Lib.hid (HR42.out.up hx3.below)
  have HB3 := Lib.hid (Below.then HB2.out hx3.below HB2.out.size)
  have HX3 := Lib.hid hx3
  have HW3E := Lib.hid hW3
  have HG6E := Lib.hid hg6
  have HZ6 : Hid (w.heap.size < g6 ∧ g6 < W3.heap.size) := ⟨by rw [hg6]; exact HR42.out.lt, HR6.out.lt⟩
  clear hok hb2 hW3 hg6 hx3 HBU HR41 HR42
  go_upto_region 2 with (fail)
  rw [← HW3E.out, ← HG6E.out]
  clear HW3E
  by_cases hc : code = 0
  rotate_left
  · have hne : (code != 0) = true := by simpa using hc
    have k0 : W3.cell? ⟨g6, 0, none⟩ = some (.slice TA tl TC) := HR6.out.cell 0
    have k1 := HR6.out.lt
    have m0 : W3.cell? ⟨w.heap.size, 0, none⟩ = some (.slice none 0 0) := HR43.out.cell 0
    have m1 := HR43.out.frozen 0
    have m2 := HR43.out.lt
    clear hc
    go_wp2_with fail
    have f0 := (HR43.out.set 0 (.slice TA tl TC)).cell 0
    refine bodyPost_ret (v := .tuple #[.agg #[.slice TA tl TC], .bool false]) (by simp [results, Tryz.results17, go_sem, f0]) rfl ?_
    exact ⟨TA, tl, TC, false, rfl, fun h => (by cases h), HB3.out.setCell (p := ⟨w.heap.size, 0, none⟩) (Nat.le_refl _) _⟩
  obtain ⟨ps, htl, hpl, hpos, hsp, hchk⟩ := HOK.out hc
  subst hc htl
  have hpl2 : ps.length = al.length := by rw [hpl]; exact HEL.out
  have hap : 0 < al.length := by rw [← hpl2, hpl]; exact hpos
  have hz : ¬ (al.length : Int) = 0 := by omega
  have hrl : root % al.length < ps.length := by rw [hpl2]; exact Nat.mod_lt _ hap
  have hrt := chk_root hchk hpl
  have HRR := Lib.hid (jtReroot_ok TA TC ps (root % al.length) W3.drew (Sl.drew ((Sl.below hsp HX3.out.below (Nat.le_refl _)).more HX3.out.size)) (by omega) hrt hrl)
  have HCK := Lib.hid (JT.reroot_chk hchk hrl)
  have HPL := Lib.hid hpl2
  have hane : ¬ al = [] := fun e => by rw [e] at hap; simp at hap
  have hwr : IntKind.i64.wrap (root : Int) = (root : Int) := IntWalk.i64_in _ (by omega)
  have htm : ((root : Nat) : Int).tmod (al.length : Int) = ((root % al.length : Nat) : Int) := rfl
  have k0 : W3.cell? ⟨g6, 0, none⟩ = some (.slice TA ps.length TC) := HR6.out.cell 0
  have k1 := HR6.out.lt
  clear hsp hchk hpl hpos hrt hap HOK hpl2
  generalize root % al.length = rt at *
  go_upto_region 4 with (fail)
  refine regionS (S := (fun w' => w'.cell? ⟨g6, 0, none⟩ = some (.slice TA ps.length TC))) [10, 11] (by kernel_rfl) ((HR6.out.drew).cell 0) (fun hHeld => ?_)
  refine takeS (i := 0) (v := ?_) (some 18) rfl rfl (by kernel_rfl) (by decide) (by kernel_rfl) (by kernel_rfl) (by kernel_rfl) (by kernel_rfl) (fun _ _ _ h => h) (Or.inl ⟨by rfl, ?_⟩) (by assumption) ?_
  rotate_left 1
  · (intro w0 hSw; (try dsimp only at hSw); go_simp; try (with_reducible rfl))
  try simp only [Act.put, List.setIfInBounds_toArray, List.set_cons_succ, List.set_cons_zero]
  refine takeS (i := 1) (v := ?_) (some 19) rfl rfl (by kernel_rfl) (by decide) (by kernel_rfl) (by kernel_rfl) (by kernel_rfl) (by kernel_rfl) (fun _ _ _ h => h) (Or.inl ⟨by rfl, ?_⟩) (by assumption) ?_
  rotate_left 1
  · (intro w0 hSw; (try dsimp only at hSw); go_simp; try (with_reducible rfl))
  try simp only [Act.put, List.setIfInBounds_toArray, List.set_cons_succ, List.set_cons_zero]
  refine takeS (i := 2) (v := ?_) (some 20) rfl rfl (by kernel_rfl) (by decide) (by kernel_rfl) (by kernel_rfl) (by kernel_rfl) (by kernel_rfl) (fun _ _ _ h => h) (Or.inl ⟨by rfl, ?_⟩) (by assumption) ?_
  rotate_left 1
  · (intro w0 hSw; (try dsimp only at hSw); go_simp; try (with_reducible rfl))
  try simp only [Act.put, List.setIfInBounds_toArray, List.set_cons_succ, List.set_cons_zero]
  refine takeS (i := 3) (v := ?_) (some 21) rfl rfl (by kernel_rfl) (by decide) (by kernel_rfl) (by kernel_rfl) (by kernel_rfl) (by kernel_rfl) (fun _ _ _ h => h) (Or.inl ⟨by rfl, ?_⟩) (by assumption) ?_
  rotate_left 1
  · (intro w0 hSw; (try dsimp only at hSw); go_simp; try (with_reducible rfl))
  try simp only [Act.put, List.setIfInBounds_toArray, List.set_cons_succ, List.set_cons_zero]
  refine takeS (i := 4) (v := ?_) (some 22) rfl rfl (by kernel_rfl) (by decide) (by kernel_rfl) (by kernel_rfl) (by kernel_rfl) (by kernel_rfl) (fun _ _ _ h => h) (Or.inl ⟨by rfl, ?_⟩) (by assumption) ?_
  rotate_left 1
  · (intro w0 hSw; (try dsimp only at hSw); go_simp; try (with_reducible rfl))
  try simp only [Act.put, List.setIfInBounds_toArray, List.set_cons_succ, List.set_cons_zero]
  refine takeS (i := 5) (v := ?_) (some 23) rfl rfl (by kernel_rfl) (by decide) (by kernel_rfl) (by kernel_rfl) (by kernel_rfl) (by kernel_rfl) (fun _ _ _ h => h) (Or.inl ⟨by rfl, ?_⟩) (by assumption) ?_
  rotate_left 1
  · (intro w0 hSw; (try dsimp only at hSw); go_simp; try (with_reducible rfl))
  try simp only [Act.put, List.setIfInBounds_toArray, List.set_cons_succ, List.set_cons_zero]
  refine oneS (i := 6) (by kernel_rfl) rfl (fun K hK => ?_)
  go_simp
  refine HRR.out.mono ?_
  rintro e V1 ⟨UA, UC, rfl, hul, hus, hfr, hb⟩
  have HV1 : Hid (Below W3.heap.size W3 V1) := Below.undrew hb
  have HR61 := Lib.hid (HR6.out.up HV1.out)
  have HUS := Lib.hid hus
  have HFR : Hid (∀ ad : Addr, UA = some ad → W3.heap.size ≤ ad.block) := fun ad e => hfr ad e
  have HUL := Lib.hid hul
  have KEEP : V1.cell? ⟨g6, 0, none⟩ = some (.slice TA ps.length TC) := HR61.out.cell 0
  have KEEPf := HR61.out.frozen 0
  have KEEPl := HR61.out.lt
  clear hb hus hfr hul
  go_wp2_with fail
  refine hK.out _ _ KEEP (fun hHeld => ?_)
  clear hK K
  try simp only [Act.put, List.setIfInBounds_toArray, List.set_cons_succ, List.set_cons_zero]
  refine takeFree (i := 7) (v := ?_) (some 17) rfl rfl (by kernel_rfl) (by kernel_rfl) (by kernel_rfl) (fun _ _ _ h => h) (Or.inl ⟨by rfl, ?_⟩) ?_
  rotate_left 1
  · (intro w0 hSw; (try dsimp only at hSw); go_simp; try (with_reducible rfl))
  try simp only [Act.put, List.setIfInBounds_toArray, List.set_cons_succ, List.set_cons_zero]
  refine takeFree (i := 8) (v := ?_) (some 25) rfl rfl (by kernel_rfl) (by kernel_rfl) (by kernel_rfl) (fun _ _ _ h => h) (Or.inl ⟨by rfl, ?_⟩) ?_
  rotate_left 1
  · (intro w0 hSw; (try dsimp only at hSw); go_simp; try (with_reducible rfl))
  try simp only [Act.put, List.setIfInBounds_toArray, List.set_cons_succ, List.set_cons_zero]
  refine takeFree (i := 9) (v := ?_) (some 26) rfl rfl (by kernel_rfl) (by kernel_rfl) (by kernel_rfl) (fun _ _ _ h => h) (Or.inl ⟨by rfl, ?_⟩) ?_
  rotate_left 1
  · (intro w0 hSw; (try dsimp only at hSw); go_simp; try (with_reducible rfl))
  try simp only [Act.put, List.setIfInBounds_toArray, List.set_cons_succ, List.set_cons_zero]
  refine oneL (i := 10) (by kernel_rfl) rfl (by decide) (fun K hK => ?_)
  go_simp
  go_wp2_with fail
  refine hK.out _ _ ?_
  clear hK K
  try simp only [Act.put, List.setIfInBounds_toArray, List.set_cons_succ, List.set_cons_zero]
  refine oneL (i := 11) (by kernel_rfl) rfl (by decide) (fun K hK => ?_)
  go_simp
  go_wp2_with fail
  refine hK.out _ _ ?_
  clear hK K
  try simp only [Act.put, List.setIfInBounds_toArray, List.set_cons_succ, List.set_cons_zero]
  refine doneS (by kernel_rfl) ?_ _
  obtain ⟨V2, hV2⟩ : ∃ V2, V2 = V1.setCell ⟨g6, 0, none⟩ (.slice UA ps.length UC) := ⟨_, rfl⟩
  rw [← hV2]
  have HR62 : Hid (Row V2 g6 51 [.slice UA ps.length UC]) := by show Row _ _ _ _; rw [hV2]; exact HR61.out.set 0 _
  have HR44 : Hid (Row V2 w.heap.size 51 [.slice none 0 0]) := by show Row _ _ _ _; rw [hV2]; exact (HR43.out.up HV1.out).far (p := ⟨g6, 0, none⟩) (by show w.heap.size ≠ g6; have := HZ6.out.1; omega) _
  have HB4 : Hid (Below w.heap.size w V2) := by show Below _ _ _; rw [hV2]; exact (Below.then HB3.out HV1.out HB3.out.size).setCell (p := ⟨g6, 0, none⟩) (by show w.heap.size ≤ g6; have := HZ6.out.1; omega) _
  have HS2 : Hid (SlI .i64 V2.heap.size V2 UA (JT.rerootF ps rt)) := by
    have h := slI_fresh_set HUS.out (p := ⟨g6, 0, none⟩) (fun ad e => by have := HFR.out ad e; have := HZ6.out.2; show g6 < ad.block; omega) (.slice UA ps.length UC)
    show SlI _ _ _ _ _
    rw [hV2]
    simpa using h
  have q0 : V2.cell? ⟨g6, 0, none⟩ = some (.slice UA ps.length UC) := HR62.out.cell 0
  have q1 := HR62.out.lt
  have m0 : V2.cell? ⟨w.heap.size, 0, none⟩ = some (.slice none 0 0) := HR44.out.cell 0
  have m1 := HR44.out.frozen 0
  have m2 := HR44.out.lt
  clear hV2 KEEP KEEPf KEEPl
  go_wp2_with fail
  have f0 := (HR44.out.set 0 (.slice UA ps.length UC)).cell 0
  refine bodyPost_ret (v := .tuple #[.agg #[.slice UA ps.length UC], .bool true]) (by simp [results, Tryz.results17, go_sem, f0]) rfl ?_
  refine ⟨UA, _, UC, true, rfl, fun _ => ⟨JT.rerootF ps rt, HUL.out.symm, by rw [HUL.out, HPL.out], ?_, HET.out _ HCK.out⟩, HB4.out.setCell (p := ⟨w.heap.size, 0, none⟩) (Nat.le_refl _) _⟩
  have h := slI_fresh_set HS2.out (p := ⟨w.heap.size, 0, none⟩) (fun ad e => by have := HFR.out ad e; have := HZ6.out; show w.heap.size < ad.block; omega) (.slice UA ps.length UC)
  simpa using h
end
section
open Go.RowKit Go.Sort

theorem at_map (al : List At) : (al.map At.ra).map RA.at = al := by
  rw [List.map_map]
  conv => rhs; rw [← List.map_id al]
  exact List.map_congr_left fun a _ => At.ra_at a
structure GoodL (al : List At) : Prop where
  gd : ∀ a ∈ al, Gd a
  len : al.length ≤ 6
  few : Few (fun i => al.getD i ⟨[], []⟩) al.length
  v8 : (unionV al).length ≤ 8
theorem good_all {l : List LA} (hok : ∀ a ∈ l, a.Ok) (hl : l.length ≤ 6) (he : errC (l.map LA.ra) = 0) : ∃ al : List At, l.map LA.ra = al.map At.ra ∧ al.length = l.length ∧ GoodL al := by
  have hz := (errC_zero he).2
  have hs := LA.smalls hok
  have hgd := gds hs he
  refine ⟨(l.map LA.ra).map RA.at, (ra_map he).symm, by rw [List.length_map, List.length_map], hgd, by rw [List.length_map, List.length_map]; exact hl, ?_, ?_⟩
  · have h := few_made hok hl he (fun i => ((l.map LA.ra).map RA.at).getD i ⟨[], []⟩) rfl
    rw [List.length_map]
    exact h
  · have h : ∀ v ∈ unionV ((l.map LA.ra).map RA.at), v ∈ List.range 8 := fun v hv => by
      obtain ⟨c, hc, hvc⟩ := (mem_unionV hgd v).1 hv
      obtain ⟨r, hr, rfl⟩ := List.mem_map.1 hc
      obtain ⟨a, ha, rfl⟩ := List.mem_map.1 hr
      rw [List.mem_range]
      exact (made_thin (hok a ha) (hz _ hr)).2 v hvc
    have := nodupN_le (unionV_nodup _) h
    simpa using this
theorem GoodL.tree {al : List At} (_h : GoodL al) {ps : List Int} (ht : errT (al.map At.ra) ps = 0) : TreeOk al ps fun i => al.getD i ⟨[], []⟩ := by
  have h1 := (errT_zero ht).2
  rw [at_map] at h1
  exact TreeOk.of rfl h1
section
variable {al : List At} (h : GoodL al)
include h
theorem GoodL.join : Gd (joinR al) := joinR_gd h.gd (Nat.le_trans h.len (by omega)) rfl h.few
theorem GoodL.small : ∀ a ∈ al.map At.ra, Small a := fun a ha => by
  obtain ⟨b, hb, rfl⟩ := List.mem_map.1 ha
  exact (h.gd b hb).small
theorem GoodL.plen {ps : List Int} (ht : errT (al.map At.ra) ps = 0) : ps.length ≤ 6 := by
  have := (h.tree ht).len
  have := h.len
  omega
end
noncomputable def redA (al : List At) (ps : List Int) : List At := mkL al.length (fun i => al.getD i ⟨[], []⟩) (redF ps fun i => al.getD i ⟨[], []⟩)
theorem redA_len (al : List At) (ps : List Int) : (redA al ps).length = al.length := mkL_len _ _ _
theorem redA_eq (al : List At) (ps : List Int) : redL (al.map At.ra) ps = redA al ps := by
  unfold redL redA atF
  rw [at_map, List.length_map]
theorem redA_good {al : List At} (h : GoodL al) {ps : List Int} (_ht : errT (al.map At.ra) ps = 0) : ∀ a ∈ redA al ps, Gd a := mkL_gd rfl h.gd
theorem redA_at {al : List At} (h : GoodL al) {ps : List Int} (ht : errT (al.map At.ra) ps = 0) {i : Nat} (hi : i < al.length) : (redA al ps)[i]? = some (projA (joinR al) fun v => decide (v ∈ al[i].vs)) := by
  unfold redA
  rw [mkL_get hi, red_ref rfl h.gd (Nat.le_trans h.len (by omega)) (h.tree ht) hi]
  simp [hi]
theorem redA_vs (al : List At) (ps : List Int) : (redA al ps).map At.vs = al.map At.vs := by
  unfold redA mkL
  rw [List.map_map]
  refine List.ext_getElem (by simp) fun i h1 h2 => ?_
  simp at h1
  simp [h1]
theorem graphN_vs {al bl : List At} (h : al.map At.vs = bl.map At.vs) : graphN al = graphN bl := by
  have hh : ∀ l : List At, graphN l = (l.map At.vs).foldl (fun n vs => max n (topV vs)) 0 := fun l => by unfold graphN; rw [List.foldl_map]
  rw [hh, hh, h]
theorem graphE_vs {al bl : List At} (h : al.map At.vs = bl.map At.vs) : graphE al = graphE bl := by
  have hh : ∀ l : List At, graphE l = (l.map At.vs).map setN := fun l => by unfold graphE; rw [List.map_map]; rfl
  rw [hh, hh, h]
theorem redA_err {al : List At} (h : GoodL al) {ps : List Int} (ht : errT (al.map At.ra) ps = 0) : errT ((redA al ps).map At.ra) ps = 0 := by
  have h1 := (errT_zero ht).2
  unfold errT
  rw [if_neg (by rw [errC_gd (redA_good h ht) (by rw [redA_len]; exact Nat.le_trans h.len (by omega))]; simp), at_map, graphN_vs (redA_vs al ps), graphE_vs (redA_vs al ps)]
  rw [at_map] at h1
  exact h1
theorem redA_twice {al : List At} (h : GoodL al) {ps : List Int} (ht : errT (al.map At.ra) ps = 0) : redA (redA al ps) ps = redA al ps := by
  refine List.ext_getElem? fun i => ?_
  by_cases hi : i < al.length
  · have h2 : i < (redA al ps).length := by rw [redA_len]; exact hi
    have e1 : (redA (redA al ps) ps)[i]? = some ⟨((redA al ps).getD i ⟨[], []⟩).vs, redF ps (fun i => (redA al ps).getD i ⟨[], []⟩) i⟩ := mkL_get h2
    have e2 : (redA al ps)[i]? = some ⟨(al.getD i ⟨[], []⟩).vs, redF ps (fun i => al.getD i ⟨[], []⟩) i⟩ := mkL_get hi
    have h3 : redF ps (fun i => (redA al ps).getD i ⟨[], []⟩) i = redF ps (fun i => al.getD i ⟨[], []⟩) i := red_twice (X := fun i => al.getD i ⟨[], []⟩) rfl h.gd (h.tree ht) hi
    have h4 : ((redA al ps).getD i ⟨[], []⟩).vs = (al.getD i ⟨[], []⟩).vs := mkL_fn (al := al) (X := fun i => al.getD i ⟨[], []⟩) rfl (redF ps fun i => al.getD i ⟨[], []⟩) i
    rw [e1, e2, h3, h4]
  · rw [List.getElem?_eq_none (by rw [redA_len, redA_len]; omega), List.getElem?_eq_none (by rw [redA_len]; omega)]
theorem redA_trees {al : List At} (h : GoodL al) {ps qs : List Int} (ht : errT (al.map At.ra) ps = 0) (ht' : errT (al.map At.ra) qs = 0) : redA al ps = redA al qs := red_trees rfl h.gd (h.tree ht) (h.tree ht')
def RedAP (bl : List At) (w : World) (e : Ending) (w' : World) : Prop := ∃ R RC, e = .returned (.tuple #[.slice (some ⟨R, 0, none⟩) bl.length RC, .int .i64 0]) ∧ BlkA (fun c => c ≠ R) R w' bl ∧ Below w.heap.size w w'
theorem reduceL_any {al : List At} (hg : ∀ a ∈ al, Gd a) (hl : al.length ≤ 6) (PA AA : Option Addr) (PC AC : Nat) (ps : List Int) (w : World) (hA : AtsM w.heap.size w AA (al.map At.ra)) (hp : SlI .i64 w.heap.size w PA ps) (hpl : ps.length ≤ 6) (ht : errT (al.map At.ra) ps = 0) :
    Calls Tryz.prog 18 #[.agg #[.slice PA ps.length PC], .slice AA al.length AC] w (RedAP (redA al ps) w) := by
  have h1 := sjReduceX_any PA AA PC AC ps (al.map At.ra) w hA (by rw [List.length_map]; omega) (fun a ha => by
    obtain ⟨b, hb, rfl⟩ := List.mem_map.1 ha
    exact (hg b hb).small) hp (by omega)
  rw [List.length_map] at h1
  refine h1.mono fun e w' h => ?_
  obtain ⟨R, RC, e1, -, hb, hbw⟩ := h.2 ht
  rw [redA_eq] at hb
  rw [List.length_map] at e1
  exact ⟨R, RC, by rw [redA_len]; exact e1, hb, hbw⟩
theorem nonemptyL_any {al : List At} (h : GoodL al) (PA AA : Option Addr) (PC AC : Nat) (ps : List Int) (w : World) (hA : AtsM w.heap.size w AA (al.map At.ra)) (hp : SlI .i64 w.heap.size w PA ps) (ht : errT (al.map At.ra) ps = 0) :
    Calls Tryz.prog 23 #[.agg #[.slice PA ps.length PC], .slice AA al.length AC] w fun e w' => e = .returned (.tuple #[.bool (decide (0 < (joinR al).P.length)), .int .i64 0]) ∧ Below w.heap.size w w' := by
  have hl := h.len
  have h1 := sjNonempty_any PA AA PC AC ps (al.map At.ra) w hA (by rw [List.length_map]; omega) h.small hp (by have := h.plen ht; omega)
  rw [List.length_map] at h1
  refine h1.mono fun e w' ⟨e1, hb⟩ => ⟨?_, hb⟩
  rw [e1, ht, if_pos rfl]
  have : fullB (al.map At.ra) ps = decide (0 < (joinR al).P.length) := by
    unfold fullB
    rw [redA_eq]
    refine decide_eq_decide.2 ?_
    rw [List.length_pos_iff]
    exact red_full rfl h.gd (Nat.le_trans hl (by omega)) (h.tree ht)
  rw [this]
def evA (al : List At) (K : Nat) : At := if JT.dif K (orF al) = 0 then projA (joinR al) (keepB K) else ⟨[], []⟩
def evC (al : List At) (K : Nat) : Int := if JT.dif K (orF al) = 0 then 0 else 22
theorem evA_gd {al : List At} (h : GoodL al) (K : Nat) : Gd (evA al K) := by
  unfold evA
  split
  · exact h.join.proj _
  · exact ⟨List.Pairwise.nil, fun _ h => by simp at h, fun _ h => by simp at h, List.Pairwise.nil, fun _ h => by simp at h, by simp⟩
theorem evaluateL_any {al : List At} (h : GoodL al) (PA AA : Option Addr) (PC AC : Nat) (ps : List Int) (K : Nat) (hK : K < 4294967296) (w : World) (hA : AtsM w.heap.size w AA (al.map At.ra)) (hp : SlI .i64 w.heap.size w PA ps) (ht : errT (al.map At.ra) ps = 0) :
    Calls Tryz.prog 22 #[.agg #[.slice PA ps.length PC], .int .u32 (K : Nat), .slice AA al.length AC] w fun e w' => ∃ VA VC QA QC, e = .returned (.tuple #[.agg #[.slice VA (evA al K).vs.length VC, .int .i64 ((evA al K).vs.length : Nat), .slice QA (evA al K).P.length QC], .int .i64 (evC al K)]) ∧
      AtV w' (.agg #[.slice VA (evA al K).vs.length VC, .int .i64 ((evA al K).vs.length : Nat), .slice QA (evA al K).P.length QC]) (evA al K) ∧ Below w.heap.size w w' := by
  have hl := h.len
  have h1 := sjEvaluate_any PA AA PC AC ps (al.map At.ra) K w hA (by rw [List.length_map]; omega) h.small hp (by have := h.plen ht; omega) hK (fun _ => by
    have h2 := h.few
    unfold atF
    rw [at_map, List.length_map]
    exact h2)
  rw [List.length_map] at h1
  refine h1.mono fun e w' ⟨_, g2, g3, hb⟩ => ?_
  rw [at_map] at g2 g3
  by_cases hd : JT.dif K (orF al) = 0
  · obtain ⟨v, a, e1, hat, hev⟩ := g3 ht hd
    have he : a = evA al K := by
      unfold evA
      rw [if_pos hd]
      unfold atF at hev
      rw [at_map, List.length_map] at hev
      exact ev_ref rfl h.gd (Nat.le_trans hl (by omega)) hev
    subst he
    have hat0 := hat
    obtain ⟨VA, VC, QA, QC, rfl, -⟩ := hat
    exact ⟨VA, VC, QA, QC, by rw [e1]; unfold evC; rw [if_pos hd], hat0, hb⟩
  · have e0 : evA al K = ⟨[], []⟩ := by unfold evA; rw [if_neg hd]
    rw [e0]
    exact ⟨none, 0, none, 0, by rw [g2 ht hd]; unfold evC; rw [if_neg hd]; rfl, AtP.v (AtP.zero (fun _ => True) w'.heap.size w'), hb⟩
end
section
open Go.ChangeShapes Go.WideShapes Go.ChangeAt Go.RowKit Go.Joins Go.Deep

theorem cell_addr' {w : World} {a : Addr} {v : Value} (h : w.cell? a = some v) : a = ⟨a.block, a.off, none⟩ ∧ a.block < w.heap.size := by
  obtain ⟨b, o, s⟩ := a
  unfold World.cell? at h
  simp only at h
  cases hh : w.heap[b]? with
  | none => rw [hh] at h; cases h
  | some ob =>
    have hlt : b < w.heap.size := by
      rcases Nat.lt_or_ge b w.heap.size with h1 | h1
      · exact h1
      · rw [Array.getElem?_eq_none h1] at hh; cases hh
    refine ⟨?_, hlt⟩
    rw [hh] at h
    cases ob with
    | cells c _ _ =>
      cases s with
      | none => rfl
      | some s => simp at h
    | _ => simp at h

theorem add_addr' (b o i : Nat) : (Addr.add ⟨b, o, none⟩ i) = ⟨b, o + i, none⟩ := by
  unfold Addr.add
  split
  · next h => subst h; rfl
  · rfl

section
variable {H : Type} {enc : TypeId × Value → H} {W : World} {n : Nat} {x : DataW H × List MemPlace}

theorem cells_Tu8 : Tryz.prog.cellsOf 5 = 1 := by kernel_rfl

end
end
end Go.Proofs.YthgaflmldbgbnaaGreatDoor

import Derived.Test.YtfiegiifoekfmaaW1
import Derived.Test.YtfiegiifoekfmaaW11
import Derived.Deep.CutRange
import Derived.Deep.DeepCutAuto
namespace Go.Proofs.Ytfiegiifoekfmaa
open Go.RowKit

/-- The cells of a list of steps. -/
def stepCells (S : List JT.Stp) : List Value := S.flatMap fun s => [.int .i64 (s.1 : Int), .int .i64 s.2.1, .int .i64 s.2.2]
theorem stepCells_length (S : List JT.Stp) : (stepCells S).length = S.length * 3 := by
  induction S with
  | nil => rfl
  | cons a S ih => simp only [stepCells, List.flatMap_cons, List.length_append, List.length_cons] at ih ⊢; simp [ih]; omega
theorem stepCells_snoc (S : List JT.Stp) (e : Nat) (i v : Int) : stepCells (S ++ [(e, i, v)]) = stepCells S ++ [.int .i64 (e : Int), .int .i64 i, .int .i64 v] := by
  simp [stepCells]

theorem stepInfo : (Try.prog.info? 62).map (fun i => (i.zero, i.size, i.bytes)) = some (some (stepV 0 0 0), 3, 24) := by kernel_rfl

/-- append of one step to a row of the call's own. -/
theorem app1Step {w : World} {ops : Array Oper} {rest : List Oper} {o : Oper} {a : Act} {Q : Exit → Act → World → Prop} (hgd : o.guard = none) (s x : Operand)
    (ho : o.op = .call { callee := .builtin .append, args := #[s, x], argTypes := #[58, 58] })
    (base : Nat) (v : Value) (n : Nat) (xs : List Value) (hs : a.eval s = v) (hown : w.ownsRow base 62 3 v n xs)
    (g : Nat) (z1 z2 z3 : Int) (hx : a.eval x = .slice (some ⟨g, 0, none⟩) 1 1) (hg1 : w.cell? ⟨g, 0, none⟩ = some (.int .i64 z1)) (hg2 : w.cell? ⟨g, 1, none⟩ = some (.int .i64 z2)) (hg3 : w.cell? ⟨g, 2, none⟩ = some (.int .i64 z3))
    (hn : n ≤ 100000000) (hbase : base ≤ w.heap.size)
    (h : ∀ v' w', w'.ownsRow base 62 3 v' (n + 1) (xs ++ [.int .i64 z1, .int .i64 z2, .int .i64 z3]) → w.grownBy w' v.ownBlock → wpList Try.prog ops Q rest (a.put o.dst v') w') : wpList Try.prog ops Q (o :: rest) a w := by
  obtain ⟨i0, hi0, hz0, hz1, hz2⟩ := info_parts stepInfo
  refine wpList_append_own w hgd s x 58 ho base 62 i0 _ 3 24 Try.underlying58 hi0 hz0 hz1 hz2 rfl (by decide) v n xs hs hown ⟨g, 0, none⟩ 1 1 [.int .i64 z1, .int .i64 z2, .int .i64 z3] hx rfl ?_ (by simp [Value.oneCell']) (by simp only [maxLen]; omega) (by omega) hbase fun v' w' h1 h2 _ => h v' w' h1 h2
  intro j u hu
  rw [add_pos]
  match j, hu with
  | 0, hu => simp at hu; subst hu; exact hg1
  | 1, hu => simp at hu; subst hu; exact hg2
  | 2, hu => simp at hu; subst hu; exact hg3
  | j + 3, hu => simp at hu

abbrev u32V (R : List Nat) : List Value := R.map fun z : Nat => Value.int .u32 (z : Int)

theorem cloneN_any (A : Option Addr) (c : Nat) (zs : List Nat) (w : World) (hx : SlN .u32 w.heap.size w A zs) (hl : zs.length ≤ 1000000) (hpos : 0 < zs.length) :
    Calls Try.prog 23 #[.slice A zs.length c] w fun e w' => ∃ g cap, e = .returned (.slice (some ⟨g, 0, none⟩) zs.length cap) ∧ w.heap.size ≤ g ∧ g < w'.heap.size ∧ w'.ownsRow w.heap.size 44 1 (.slice (some ⟨g, 0, none⟩) zs.length cap) zs.length (u32V zs) ∧ Below w.heap.size w w' := by
  have h := cloneU32_any A c (zs.map fun z : Nat => (z : Int)) w (by rw [SlI, List.map_map]; exact hx) (by simpa using hl)
  rw [List.length_map] at h
  refine h.mono fun e w' ⟨v, h1, h2, h3⟩ => ?_
  rw [List.map_map] at h2
  obtain ⟨g, cap, rfl, h4, h5, _, h6⟩ := own_form h2 hpos
  exact ⟨g, cap, h1, h4, h5, h6, h3⟩

theorem wrap2v (v : Nat) (hv : v < 32) : IntKind.u32.wrap (2 ^ v) = ((2 ^ v : Nat) : Int) := by
  have h : ∀ v : Nat, v < 32 → IntKind.u32.wrap ((2 ^ v : Nat) : Int) = ((2 ^ v : Nat) : Int) := by decide
  simpa using h v hv

set_option maxHeartbeats 4000000 in
set_option maxRecDepth 100000 in
theorem reduce_walk (n : Nat) (EA : Option Addr) (EC : Nat) (es : List Nat) (w : World)
   (hE : SlN .u32 w.heap.size w EA es) (hu : JT.U32 es) (hk : JT.hgCheckF n es = 0) (hm : 0 < es.length) :
    Calls Try.prog 33 #[.agg #[.int .i64 n, .slice EA es.length EC]] w fun r w' => ∃ v g cap, r = .returned (.tuple #[v, .slice (some ⟨g, 0, none⟩) es.length cap]) ∧ w'.ownsRow w.heap.size 62 3 v (JT.reduceF n es).steps.length (stepCells (JT.reduceF n es).steps) ∧ w'.ownsRow w.heap.size 44 1 (.slice (some ⟨g, 0, none⟩) es.length cap) es.length ((JT.reduceF n es).rest.map fun z : Nat => Value.int .u32 (z : Int)) ∧ Below w.heap.size w w' := by
  obtain ⟨n', hn', hn32, hm64, -⟩ := JT.hgCheckF_zero hk
  have hn : n ≤ 32 := by omega
  have HU := Lib.hid hu
  have HK := Lib.hid hk
  have hel : es.length ≤ 1000000 := by omega
  have HE : Hid (∀ o1, SlN .u32 (w.alloc o1).heap.size (w.alloc o1) EA es) := fun o1 => (hE.alloc (Nat.le_refl _) o1).more (by simp)
  have hmk := makeBools es.length hel
  clear hE hu hk hn' hn32
  go_enter Try.func33, Try.ntmps33
  go_wp2_with fail
  refine (hgCheck_any n EA EC es _ (HE.out _) HU.out hel).mono ?_
  rw [HK.out]
  rintro e w1 ⟨rfl, hb1⟩
  have hc1 : w1.cell? ⟨w.heap.size, 0, none⟩ = some (.int .i64 n) := (hb1.cell (p := ⟨w.heap.size, 0, none⟩) (by simp)).trans (by go_simp)
  have hc2 : w1.cell? ⟨w.heap.size, 1, none⟩ = some (.slice EA es.length EC) := (hb1.cell (p := ⟨w.heap.size, 1, none⟩) (by simp)).trans (by go_simp)
  have hbw := Below.box hb1 (by simp)
  have hsz1 : w.heap.size + 1 ≤ w1.heap.size := by have := hb1.size; simpa using this
  have HE1 := Lib.hid (((HE.out _).below hb1 (Nat.le_refl _)).more (show _ ≤ w1.heap.size by simp; omega))
  clear hb1 HE
  go_wp2_with fail
  refine (cloneN_any EA EC es _ HE1.out hel hm).mono ?_
  rintro e w2 ⟨g, cap, rfl, hg1, hg2, hown, hb2⟩
  have hd1 := (hb2.cell (p := ⟨w.heap.size, 0, none⟩) (by show w.heap.size < _; omega)).trans hc1
  have hbw2 := Below.then hbw hb2 hbw.size
  have HO := Lib.hid (own_weaken hown (show w.heap.size + 1 ≤ _ by omega))
  clear hbw hb2 hc1 hc2 hown HE1
  go_wp2
  go_loopg [6] (JT.weight (JT.startF es)) (fun gk sv wr => ∃ s : JT.Red, JT.Reach n es s ∧ JT.RedOk es.length s ∧ JT.weight s = gk ∧ s.steps.length + gk ≤ 100000 ∧ wr.ownsRow (w.heap.size + 1) 44 1 (.slice (some ⟨g, 0, none⟩) es.length cap) es.length (u32V s.rest) ∧ Row wr w2.heap.size 4 (s.rem.map Value.bool) ∧ wr.ownsRow (w2.heap.size + 1) 62 3 sv s.steps.length (stepCells s.steps) ∧ Below w.heap.size w wr ∧ wr.cell? ⟨w.heap.size, 0, none⟩ = some (.int .i64 n))
  case atStart =>
    refine ⟨JT.startF es, JT.Reach.start n es, JT.RedOk.start HU.out, rfl, ?_, HO.out.alloc _, ?_, own_nil _ _ _ _, hbw2.alloc (by have := hbw2.size; omega) _, old_cell _ _ (by show w.heap.size < _; omega) hd1⟩
    · have := JT.weight_start es
      have h0 : (JT.startF es).steps.length = 0 := rfl
      omega
    · have := Row.zeros w2 4 (.bool false) es.length
      simpa [JT.startF] using this
  case round =>
    clear hd1 hbw2 HO
    obtain ⟨s, hre, hok, hwt, hsl, hown, hrow, hst, hb, hc1⟩ := hrel
    have hA := absorb_any (some ⟨g, 0, none⟩) (some ⟨w2.heap.size, 0, none⟩) cap es.length s.rest s.rem wr (own_sl hown) hok.u32 hrow.sl (by rw [hok.lrem, hok.lrest]) (by rw [hok.lrest]; omega)
    rw [hok.lrest, hok.lrem] at hA
    have HAB := Lib.hid hA
    have HRE := Lib.hid hre
    have HOK := Lib.hid hok
    have HO := Lib.hid hown
    have HR := Lib.hid hrow
    have HS := Lib.hid hst
    have HWT := Lib.hid hwt
    have hszr : w2.heap.size < wr.heap.size := hrow.lt
    clear hA hre hok hown hrow hst hwt
    go_wp2_with fail
    refine HAB.out.mono ?_
    rintro e w3 ⟨hcase, hb3⟩
    have HB3 := Lib.hid hb3
    have hszr3 : wr.heap.size ≤ w3.heap.size := hb3.size
    have HO3 := Lib.hid (own_keep HO.out hb3)
    have HR3 := Lib.hid (HR.out.below hb3 HR.out.lt)
    have HS3 := Lib.hid (own_keep HS.out hb3)
    have hc13 := (hb3.cell (p := ⟨w.heap.size, 0, none⟩) (by show w.heap.size < _; omega)).trans hc1
    have hbw3 : Below w.heap.size w w3 := Below.then hb hb3 hb.size
    clear hb3 HAB HO HR HS hc1 hb
    rcases hcase with ⟨x, i, hx, rfl⟩ | ⟨hno, rfl⟩
    · have HX := Lib.hid hx
      have hxl : x < es.length := by have := hx.1; rw [HOK.out.lrest] at this; exact this
      have hil : i < es.length := by have := hx.2.1; rw [HOK.out.lrest] at this; exact this
      have hxr := own_cell HO3.out (j := x) (by simp; rw [HOK.out.lrest]; exact hxl)
      have hxf := HO3.out.frozenAt x
      rw [List.getElem_map] at hxr
      have hbx := HR3.out.cell_ (i := x) (by simp; rw [HOK.out.lrem]; exact hxl)
      have hbf := HR3.out.frozen x
      rw [List.getElem_map] at hbx
      generalize (s.rest[x]'(by rw [HOK.out.lrest]; exact hxl)) = rx at hxr
      generalize (s.rem[x]'(by rw [HOK.out.lrem]; exact hxl)) = bx at hbx
      clear hx
      have hne1 : g < w3.heap.size := by omega
      have hne2 : w2.heap.size < w3.heap.size := by omega
      have hne3 : ¬ w2.heap.size = g := by omega
      have hne4 : ¬ g = w2.heap.size := by omega
      have hub : ∀ k, u6.ownBlock = some k → w2.heap.size + 1 ≤ k := fun k hk => own_base HS3.out hk
      have HUB := Lib.hid hub
      have HS4 : Hid (((w3.setCell ⟨g, x, none⟩ (.int .u32 0)).setCell ⟨w2.heap.size, x, none⟩ (.bool true)).ownsRow (w2.heap.size + 1) 62 3 u6 s.steps.length (stepCells s.steps)) :=
        own_far (own_far HS3.out (fun h => by have := hub _ h; simp only at this; omega) _) (fun h => by have := hub _ h; simp only at this; omega) _
      have HO4 := Lib.hid (own_far (HO3.out.stored x (.int .u32 0)).1 (p := ⟨w2.heap.size, x, none⟩) (by simp [Value.ownBlock]; omega) (.bool true))
      have HR4 := Lib.hid ((HR3.out.far (p := ⟨g, x, none⟩) hne3 (.int .u32 0)).set x (.bool true))
      have hb4 : Below w.heap.size w ((w3.setCell ⟨g, x, none⟩ (.int .u32 0)).setCell ⟨w2.heap.size, x, none⟩ (.bool true)) := (hbw3.setCell (p := ⟨g, x, none⟩) (by show w.heap.size ≤ g; omega) _).setCell (p := ⟨w2.heap.size, x, none⟩) (by show w.heap.size ≤ w2.heap.size; omega) _
      have hc14 : ((w3.setCell ⟨g, x, none⟩ (.int .u32 0)).setCell ⟨w2.heap.size, x, none⟩ (.bool true)).cell? ⟨w.heap.size, 0, none⟩ = some (.int .i64 n) := far_cell (by show w2.heap.size ≠ w.heap.size; omega) (far_cell (by show g ≠ w.heap.size; omega) hc13)
      have HB4 := Lib.hid hb4
      have HC4 := Lib.hid hc14
      clear hub hb4 hc14 hc13
      go_upto_region 14 with (fail)
      generalize hw4 : (w3.setCell ⟨g, x, none⟩ (.int .u32 0)).setCell ⟨w2.heap.size, x, none⟩ (.bool true) = w4 at *
      have hs4 : w4.heap.size = w3.heap.size := by rw [← hw4]; simp
      clear hw4 hxr hxf hbx hbf
      have hne5 : w3.heap.size = w4.heap.size := hs4.symm
      clear hs4
      go_wp2_with (at_builtin; refine app1Step rfl (.tmp 53) (.tmp 55) rfl (w2.heap.size + 1) u6 s.steps.length (stepCells s.steps) rfl (by exact (HS4.out.alloc _).alloc _) (w4.heap.size + 1) (x : Int) (i : Int) (-1) rfl (by go_simp) (by go_simp) (by go_simp) (by omega) (by simp; omega) ?_
                   intro v' w5 hown' hg'
                   have hkp : Below (w2.heap.size + 1) w4 w5 := app_kept2 HUB.out (by omega) hg'
                   have HKP := Lib.hid hkp
                   have HS5 := Lib.hid hown'
                   clear hkp hown' hg')
      have HST : Hid (JT.StepIs n s ⟨s.rest.set x 0, s.rem.set x true, s.steps ++ [(x, (i : Int), -1)]⟩) := JT.StepIs.absorb x i HX.out
      obtain ⟨hok', hwt'⟩ := HST.out.ok HOK.out hn
      rw [HWT.out] at hwt'
      go_roundg (JT.weight ⟨s.rest.set x 0, s.rem.set x true, s.steps ++ [(x, (i : Int), -1)]⟩)
      case measure => exact hwt'
      case rel =>
        refine ⟨⟨s.rest.set x 0, s.rem.set x true, s.steps ++ [(x, (i : Int), -1)]⟩, HRE.out.step hn HOK.out HST.out, hok', rfl, ?_, ?_, ?_, ?_, ?_, ?_⟩
        · simp; omega
        · have h1 := own_below HO4.out HKP.out (by simp [Value.ownBlock]; omega)
          simp only [u32V, List.map_set] at h1 ⊢
          exact h1
        · have h1 := HR4.out.below HKP.out (by omega)
          simp only [List.map_set]
          exact h1
        · have h1 := HS5.out
          simp only [stepCells_snoc, List.length_append, List.length_singleton]
          exact h1
        · exact Below.then HB4.out HKP.out (by omega)
        · exact (HKP.out.cell (p := ⟨w.heap.size, 0, none⟩) (by show w.heap.size < _; omega)).trans HC4.out
    · have HNO := Lib.hid hno
      clear hno
      have hne1 : g < w3.heap.size := by omega
      have hne2 : w2.heap.size < w3.heap.size := by omega
      have hne6 : w.heap.size < w3.heap.size := by omega
      have hI := fun o => isolate_any n (some ⟨g, 0, none⟩) cap s.rest (w3.alloc o) ((own_sl (HO3.out.alloc o))) HOK.out.u32 (by rw [HOK.out.lrest]; omega) hn
      rw [HOK.out.lrest] at hI
      have HI := Lib.hid hI
      clear hI
      go_wp2_with fail
      refine (HI.out _).mono ?_
      rintro e w4 ⟨hcase, hb4⟩
      rw [HOK.out.lrest] at hcase
      have hsz4 : w3.heap.size + 1 ≤ w4.heap.size := by have := hb4.size; simpa using this
      have HO5 := Lib.hid (own_keep (HO3.out.alloc _) hb4)
      have HR5 := Lib.hid ((HR3.out.alloc _).below hb4 (by simp; omega))
      have HS5 := Lib.hid (own_keep (HS3.out.alloc _) hb4)
      have hst0 : w4.cell? ⟨w3.heap.size, 0, none⟩ = some (.int .i64 0) := (hb4.cell (p := ⟨w3.heap.size, 0, none⟩) (by simp)).trans (by go_simp)
      have hst1 : w4.cell? ⟨w3.heap.size, 1, none⟩ = some (.int .i64 0) := (hb4.cell (p := ⟨w3.heap.size, 1, none⟩) (by simp)).trans (by go_simp)
      have hst2 : w4.cell? ⟨w3.heap.size, 2, none⟩ = some (.int .i64 0) := (hb4.cell (p := ⟨w3.heap.size, 2, none⟩) (by simp)).trans (by go_simp)
      have hsf0 : w4.frozen? ⟨w3.heap.size, 0, none⟩ = false := (hb4.frozen (p := ⟨w3.heap.size, 0, none⟩) (by simp)).trans (by go_simp)
      have hsf1 : w4.frozen? ⟨w3.heap.size, 1, none⟩ = false := (hb4.frozen (p := ⟨w3.heap.size, 1, none⟩) (by simp)).trans (by go_simp)
      have hsf2 : w4.frozen? ⟨w3.heap.size, 2, none⟩ = false := (hb4.frozen (p := ⟨w3.heap.size, 2, none⟩) (by simp)).trans (by go_simp)
      have hc14 := (hb4.cell (p := ⟨w.heap.size, 0, none⟩) (by simp; omega)).trans (old_cell _ _ hne6 hc13)
      have hbw4 : Below w.heap.size w w4 := Below.then (hbw3.alloc hbw3.size _) hb4 (by simp; omega)
      clear hb4 hc13 hbw3 HI
      rcases hcase with ⟨e, v, hv, h1, hu, he, rfl⟩ | ⟨hnone, rfl⟩
      · have HV1 := Lib.hid h1
        have HVU := Lib.hid hu
        have HVE := Lib.hid he
        have hle := JT.vlast_has (R := s.rest) (v := v) es.length (by omega)
        rw [← he] at hle
        obtain ⟨hel2, heh⟩ := hle
        have hxr := own_cell HO5.out (j := e) (by simp; rw [HOK.out.lrest]; exact hel2)
        have hxf := HO5.out.frozenAt e
        rw [List.getElem_map] at hxr
        have hgd : s.rest[e]?.getD 0 = (s.rest[e]'(by rw [HOK.out.lrest]; exact hel2)) := by simp [HOK.out.lrest, hel2]
        have hub32 := HOK.out.u32.get e
        rw [hgd] at hub32
        have hw2v := wrap2v v (by omega)
        have HGD := Lib.hid hgd
        generalize (s.rest[e]'(by rw [HOK.out.lrest]; exact hel2)) = re at *
        have HBA : Hid (bits .andNot .u32 (re : Int) (2 ^ v) = ((JT.dif re (2 ^ v) : Nat) : Int)) := by
          have h7 := u32_andNot_nat re (2 ^ v) (by omega) (by have : 2 ^ v < 2 ^ 32 := Nat.pow_lt_pow_right (by omega) (by omega); omega)
          show bits .andNot .u32 (re : Int) (2 ^ v) = _
          rw [show ((2 : Int) ^ v) = ((2 ^ v : Nat) : Int) by simp]
          exact h7
        clear h1 hu he heh hgd
        have hne7 : g ≠ w3.heap.size := by omega
        have hne8 : w3.heap.size ≠ g := by omega
        have hub : ∀ k, u6.ownBlock = some k → w2.heap.size + 1 ≤ k ∧ k < w3.heap.size := fun k hk => ⟨own_base HS5.out hk, own_lt HS3.out k hk⟩
        have HUB := Lib.hid hub
        clear hub
        have HST : Hid (JT.StepIs n s ⟨s.rest.set e (JT.dif re (2 ^ v)), s.rem, s.steps ++ [(e, -1, (v : Int))]⟩) := by
          have h8 := JT.StepIs.isolate (s := s) e v HNO.out hv (by rw [HOK.out.lrest]; exact HV1.out) (by rw [HOK.out.lrest]; exact HVU.out) (by rw [HOK.out.lrest]; exact HVE.out)
          rw [HGD.out] at h8
          exact h8
        have HF0 : Hid (((((w4.setCell ⟨w3.heap.size, 0, none⟩ (.int .i64 e)).setCell ⟨w3.heap.size, 1, none⟩ (.int .i64 (-1))).setCell ⟨w3.heap.size, 2, none⟩ (.int .i64 v)).setCell ⟨g, e, none⟩ (.int .u32 ((JT.dif re (2 ^ v) : Nat) : Int))).cell? ⟨w3.heap.size, 0, none⟩ = some (.int .i64 e)) := far_cell hne7 (by go_simp)
        have HF1 : Hid (((((w4.setCell ⟨w3.heap.size, 0, none⟩ (.int .i64 e)).setCell ⟨w3.heap.size, 1, none⟩ (.int .i64 (-1))).setCell ⟨w3.heap.size, 2, none⟩ (.int .i64 v)).setCell ⟨g, e, none⟩ (.int .u32 ((JT.dif re (2 ^ v) : Nat) : Int))).cell? ⟨w3.heap.size, 1, none⟩ = some (.int .i64 (-1))) := far_cell hne7 (by go_simp)
        have HF2 : Hid (((((w4.setCell ⟨w3.heap.size, 0, none⟩ (.int .i64 e)).setCell ⟨w3.heap.size, 1, none⟩ (.int .i64 (-1))).setCell ⟨w3.heap.size, 2, none⟩ (.int .i64 v)).setCell ⟨g, e, none⟩ (.int .u32 ((JT.dif re (2 ^ v) : Nat) : Int))).cell? ⟨w3.heap.size, 2, none⟩ = some (.int .i64 v)) := far_cell hne7 (by go_simp)
        have HO6 : Hid (((((w4.setCell ⟨w3.heap.size, 0, none⟩ (.int .i64 e)).setCell ⟨w3.heap.size, 1, none⟩ (.int .i64 (-1))).setCell ⟨w3.heap.size, 2, none⟩ (.int .i64 v)).setCell ⟨g, e, none⟩ (.int .u32 ((JT.dif re (2 ^ v) : Nat) : Int))).ownsRow (w.heap.size + 1) 44 1 (.slice (some ⟨g, 0, none⟩) es.length cap) es.length (u32V (s.rest.set e (JT.dif re (2 ^ v))))) := by
          have h9 := own_far (own_far (own_far HO5.out (p := ⟨w3.heap.size, 0, none⟩) (by simpa [Value.ownBlock] using hne7) (.int .i64 e)) (p := ⟨w3.heap.size, 1, none⟩) (by simpa [Value.ownBlock] using hne7) (.int .i64 (-1))) (p := ⟨w3.heap.size, 2, none⟩) (by simpa [Value.ownBlock] using hne7) (.int .i64 v)
          have h10 := (h9.stored e (.int .u32 ((JT.dif re (2 ^ v) : Nat) : Int))).1
          simp only [u32V, List.map_set] at h10 ⊢
          exact h10
        have HR6 : Hid (Row ((((w4.setCell ⟨w3.heap.size, 0, none⟩ (.int .i64 e)).setCell ⟨w3.heap.size, 1, none⟩ (.int .i64 (-1))).setCell ⟨w3.heap.size, 2, none⟩ (.int .i64 v)).setCell ⟨g, e, none⟩ (.int .u32 ((JT.dif re (2 ^ v) : Nat) : Int))) w2.heap.size 4 (s.rem.map Value.bool)) := (((HR5.out.far (p := ⟨w3.heap.size, 0, none⟩) (by show w2.heap.size ≠ w3.heap.size; omega) _).far (p := ⟨w3.heap.size, 1, none⟩) (by show w2.heap.size ≠ w3.heap.size; omega) _).far (p := ⟨w3.heap.size, 2, none⟩) (by show w2.heap.size ≠ w3.heap.size; omega) _).far (p := ⟨g, e, none⟩) (by show w2.heap.size ≠ g; omega) _
        have HS6 : Hid (((((w4.setCell ⟨w3.heap.size, 0, none⟩ (.int .i64 e)).setCell ⟨w3.heap.size, 1, none⟩ (.int .i64 (-1))).setCell ⟨w3.heap.size, 2, none⟩ (.int .i64 v)).setCell ⟨g, e, none⟩ (.int .u32 ((JT.dif re (2 ^ v) : Nat) : Int))).ownsRow (w2.heap.size + 1) 62 3 u6 s.steps.length (stepCells s.steps)) :=
          own_far (own_far (own_far (own_far HS5.out (fun h => by have := HUB.out _ h; simp only at this; omega) _) (fun h => by have := HUB.out _ h; simp only at this; omega) _) (fun h => by have := HUB.out _ h; simp only at this; omega) _) (fun h => by have := HUB.out _ h; simp only at this; omega) _
        have HB6 : Hid (Below w.heap.size w (((((w4.setCell ⟨w3.heap.size, 0, none⟩ (.int .i64 e)).setCell ⟨w3.heap.size, 1, none⟩ (.int .i64 (-1))).setCell ⟨w3.heap.size, 2, none⟩ (.int .i64 v)).setCell ⟨g, e, none⟩ (.int .u32 ((JT.dif re (2 ^ v) : Nat) : Int))))) := (((hbw4.setCell (p := ⟨w3.heap.size, 0, none⟩) (by show w.heap.size ≤ w3.heap.size; omega) _).setCell (p := ⟨w3.heap.size, 1, none⟩) (by show w.heap.size ≤ w3.heap.size; omega) _).setCell (p := ⟨w3.heap.size, 2, none⟩) (by show w.heap.size ≤ w3.heap.size; omega) _).setCell (p := ⟨g, e, none⟩) (by show w.heap.size ≤ g; omega) _
        have HC6 : Hid (((((w4.setCell ⟨w3.heap.size, 0, none⟩ (.int .i64 e)).setCell ⟨w3.heap.size, 1, none⟩ (.int .i64 (-1))).setCell ⟨w3.heap.size, 2, none⟩ (.int .i64 v)).setCell ⟨g, e, none⟩ (.int .u32 ((JT.dif re (2 ^ v) : Nat) : Int))).cell? ⟨w.heap.size, 0, none⟩ = some (.int .i64 n)) := far_cell (by show g ≠ w.heap.size; omega) (far_cell (by show w3.heap.size ≠ w.heap.size; omega) (far_cell (by show w3.heap.size ≠ w.heap.size; omega) (far_cell (by show w3.heap.size ≠ w.heap.size; omega) hc14)))
        have HZ6 : Hid (w4.heap.size = (((((w4.setCell ⟨w3.heap.size, 0, none⟩ (.int .i64 e)).setCell ⟨w3.heap.size, 1, none⟩ (.int .i64 (-1))).setCell ⟨w3.heap.size, 2, none⟩ (.int .i64 v)).setCell ⟨g, e, none⟩ (.int .u32 ((JT.dif re (2 ^ v) : Nat) : Int)))).heap.size) := by show _ = _; simp
        obtain ⟨hok', hwt'⟩ := HST.out.ok HOK.out hn
        rw [HWT.out] at hwt'
        have HOK' := Lib.hid hok'
        clear hok'
        go_upto_region 12 with (fail)
        go_region
        all_goals
          rw [HBA.out]
          generalize ((((w4.setCell ⟨w3.heap.size, 0, none⟩ (.int .i64 e)).setCell ⟨w3.heap.size, 1, none⟩ (.int .i64 (-1))).setCell ⟨w3.heap.size, 2, none⟩ (.int .i64 v)).setCell ⟨g, e, none⟩ (.int .u32 ((JT.dif re (2 ^ v) : Nat) : Int))) = w5 at *
          clear hst0 hst1 hst2 hsf0 hsf1 hsf2 hxr hxf HO5 HR5 HS5 hc14 hbw4
          replace HS6 := Lib.hid HS6.out.drew
          replace HO6 := Lib.hid HO6.out.drew
          replace HR6 := Lib.hid HR6.out.drew
          replace HB6 := Lib.hid HB6.out.drew
          replace HC6 : Hid (w5.drew.cell? ⟨w.heap.size, 0, none⟩ = some (.int .i64 n)) := HC6.out
          have hf0 : w5.drew.cell? ⟨w3.heap.size, 0, none⟩ = some (.int .i64 e) := HF0.out
          have hf1 : w5.drew.cell? ⟨w3.heap.size, 1, none⟩ = some (.int .i64 (-1)) := HF1.out
          have hf2 : w5.drew.cell? ⟨w3.heap.size, 2, none⟩ = some (.int .i64 v) := HF2.out
          have hz5 : w3.heap.size < w5.drew.heap.size := by have := HZ6.out; show _ < w5.heap.size; omega
          clear HF0 HF1 HF2 HZ6
          generalize w5.drew = w5 at *
          go_wp2_with (at_builtin; refine app1Step rfl (.tmp 53) (.tmp 55) rfl (w2.heap.size + 1) u6 s.steps.length (stepCells s.steps) rfl (by exact (HS6.out.alloc _)) w5.heap.size (e : Int) (-1) (v : Int) rfl (by go_simp) (by go_simp) (by go_simp) (by omega) (by simp; omega) ?_
                       intro v' w6 hown' hg'
                       have hkp : Below (w2.heap.size + 1) w5 w6 := app_kept (fun k hk => (HUB.out k hk).1) (by omega) hg'
                       have HKP := Lib.hid hkp
                       have HS7 := Lib.hid hown'
                       clear hkp hown' hg')
          go_roundg (JT.weight ⟨s.rest.set e (JT.dif re (2 ^ v)), s.rem, s.steps ++ [(e, -1, (v : Int))]⟩)
          case measure => exact hwt'
          case rel =>
            refine ⟨⟨s.rest.set e (JT.dif re (2 ^ v)), s.rem, s.steps ++ [(e, -1, (v : Int))]⟩, HRE.out.step hn HOK.out HST.out, HOK'.out, rfl, ?_, ?_, ?_, ?_, ?_, ?_⟩
            · simp; omega
            · exact own_below HO6.out HKP.out (by simp [Value.ownBlock]; omega)
            · exact HR6.out.below HKP.out (by omega)
            · have h1 := HS7.out
              simp only [stepCells_snoc, List.length_append, List.length_singleton]
              exact h1
            · exact Below.then HB6.out HKP.out (by omega)
            · exact (HKP.out.cell (p := ⟨w.heap.size, 0, none⟩) (by show w.heap.size < _; omega)).trans HC6.out
      · have hfin : s = JT.reduceF n es := HRE.out.done (JT.stepF_none HNO.out (by rw [HOK.out.lrest]; exact hnone))
        have HFIN := Lib.hid hfin
        clear hfin hnone
        go_wp2
        go_ret2
        have hub : ∀ k, u6.ownBlock = some k → w2.heap.size + 1 ≤ k ∧ k < w3.heap.size := fun k hk => ⟨own_base HS5.out hk, own_lt HS3.out k hk⟩
        refine ⟨u6, g, cap, rfl, ?_, ?_, ?_⟩
        · rw [← HFIN.out]
          exact own_weaken (own_far (own_far (own_far HS5.out (fun h => by have := hub _ h; simp only at this; omega) _) (fun h => by have := hub _ h; simp only at this; omega) _) (fun h => by have := hub _ h; simp only at this; omega) _) (by omega)
        · rw [← HFIN.out]
          exact own_weaken (own_far (own_far (own_far HO5.out (p := ⟨w3.heap.size, 0, none⟩) (by simp [Value.ownBlock]; omega) _) (p := ⟨w3.heap.size, 1, none⟩) (by simp [Value.ownBlock]; omega) _) (p := ⟨w3.heap.size, 2, none⟩) (by simp [Value.ownBlock]; omega) _) (by omega)
        · exact ((hbw4.setCell (p := ⟨w3.heap.size, 0, none⟩) (by show w.heap.size ≤ w3.heap.size; omega) _).setCell (p := ⟨w3.heap.size, 1, none⟩) (by show w.heap.size ≤ w3.heap.size; omega) _).setCell (p := ⟨w3.heap.size, 2, none⟩) (by show w.heap.size ≤ w3.heap.size; omega) _

end Go.Proofs.Ytfiegiifoekfmaa
